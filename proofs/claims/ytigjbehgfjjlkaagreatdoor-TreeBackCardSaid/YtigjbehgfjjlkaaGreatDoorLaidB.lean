/- Package variables that the rows lay, and one that they name; laws over them. No conditions. -/
import Derived.Test.YtigjbehgfjjlkaaGreatDoorXmGB
import Derived.Test.YtigjbehgfjjlkaaGreatDoorAbsL
import Derived.Test.YtigjbehgfjjlkaaGreatDoorTie
import Derived.Test.YtigjbehgfjjlkaaGreatDoorCards
import Derived.Lay
import Derived.Lib.LaidU8T
import Derived.Shelf.Vars
set_option linter.unusedVariables false
set_option linter.unusedSimpArgs false
set_option maxRecDepth 100000
namespace Go.Proofs.YtigjbehgfjjlkaaGreatDoor
open Go Go.Abs Go.RowKit Go.ChangeShapes Go.Xml
theorem oG {H : Type} {enc : TypeId × Value → H} {a : Assume} {C : Checked} {os : Os} {f : FuncId} {fn : Func} {s : ChangeSpec} {conds : List PathCond} {apart fresh handsOn again : Bool} {X : World → Array Value → Prop}
    (hX : ∀ (w w' : World) (args : Array Value), w.heap = w'.heap → X w args → X w' args)
    (own : ownKnob C.prog.godebug = none) (started : os.Started) (noInit : C.prog.inits.idxOf? f = none) (hfn : C.prog.funcs[f]? = some fn)
    (witness : ∃ (w : World) (tape : Tape) (i : Input), w.os = os ∧ (w.forCall tape i).Shaped C.prog ∧ i.vars = [] ∧ Input.okWide C.prog (w.forCall tape i) .any w.heap.size f i ∧
      ((s.pre enc C.prog fn conds apart (w.forCall tape i).memory i.args ∧ X (w.forCall tape i).memory i.args) ∧ sizedMet enc C.prog fn (OpenSpec.ofChange s) apart (w.forCall tape i).memory i.args) ∧ a.holds C.prog (lone (Frame.enter C.prog f i.args .normal) [] (w.forCall tape i)))
    (contract : ∀ (W : World) (base : Nat) (args : Array Value) (ds gs : List (DataW H)) (before : List MemPlace),
      (∀ (j : Nat) t v, fn.params[j]? = some t → args[j]? = some v → Value.okWide C.prog W .any base t v) →
      DataW.Whole enc C.prog fn.params.toList s.vars apart W args.toList ds gs before →
      conds.all (PathCond.test C.prog ⟨fn.params.toList, ds, s.plain.varTypes C.prog, gs⟩) = true →
      (DataW.weightsEach C.prog (fn.params.toList ++ s.plain.varTypes C.prog) (ds ++ gs)).all (· ≤ reachBytes) = true → X W args → W.ShapedOpen C.prog →
      a.holds C.prog (lone (Frame.enter C.prog f args .normal) [] W) →
      Calls C.prog f args W fun e W' => ∃ v, e = .returned v ∧ s.post enc C.prog fn apart fresh handsOn again W args v W') :
    ReturnsInHanded a C os f .any (fun w args => (s.pre enc C.prog fn conds apart w args ∧ X w args) ∧ sizedMet enc C.prog fn (OpenSpec.ofChange s) apart w args) (s.post enc C.prog fn apart fresh handsOn again) := by
  refine returnsInHanded_of_calls own started noInit witness ?_
  intro w tape i _ hsh _ hok hpre hholds
  obtain ⟨_, _, _, fn', hfn', _, _, _, _, hval⟩ := hok
  have e : fn' = fn := Option.some.inj (hfn'.symm.trans hfn)
  subst e
  obtain ⟨⟨⟨ds, gs, before, hw, hc⟩, hx⟩, hz⟩ := hpre
  have hw' := DataW.Whole.of_heap (w' := w.forCall tape i) (by rfl) hw
  refine (contract (w.forCall tape i) w.heap.size i.args ds gs before hval hw' hc (hz.weights hw) (hX _ _ _ (by rfl) hx) hsh hholds).mono fun e W' ⟨v, he, hp⟩ => ?_
  subst he
  exact ChangeSpec.post_blind hp
theorem sD {H : Type} {enc : TypeId × Value → H} {C : Checked} {os : Os} {f : FuncId} {fn : Func} {s : ChangeSpec} {conds : List PathCond} {G : Nat} {ex : TypeId → Bool} {tb : TypeId} {laid : List (String × DataW Unit)}
    (own : ownKnob C.prog.godebug = none) (started : os.Started) (noInit : C.prog.inits.idxOf? f = none) (hfn : C.prog.funcs[f]? = some fn) (hl : laidOutB C.prog = true)
    (hp : fn.params.toList.all (fun t => C.prog.readableRec t && decide (t < C.prog.types.size)) = true) (hr : fn.resultTypes = #[tb]) (htb : C.prog.underlying tb = some .bool) (hv : s.vars = [])
    (hs : ∀ ds : List (DataW H), ds.length = fn.params.toList.length → s.fn H ds = { results := [.lit (.bool true)], args := ds })
    (witness : ∃ (w : World) (tape : Tape) (i : Input), w.os = os ∧ (w.forCall tape i).Shaped C.prog ∧ i.vars = [] ∧ Input.okWide C.prog (w.forCall tape i) .any w.heap.size f i ∧
      ((s.pre enc C.prog fn conds false (w.forCall tape i).memory i.args ∧ laidMetH C.prog laid (w.forCall tape i).memory) ∧ sizedMet enc C.prog fn (OpenSpec.ofChange s) false (w.forCall tape i).memory i.args) ∧
      Assume.holds {} C.prog (lone (Frame.enter C.prog f i.args .normal) [] (w.forCall tape i)))
    (law : ∀ (W : World) (args : Array Value), args.size = fn.params.size → (∀ (j : Nat) t v, fn.params[j]? = some t → args[j]? = some v → zK C.prog (st0 W) t (lowA W.heap.size v)) → laidMetH C.prog laid W → W.ShapedOpen C.prog →
      G ≤ W.heap.size ∧ ay ⟨C.prog, W.heap.size, W, G, ex, fun _ => false⟩ f (args.toList.map (lowA W.heap.size)) (st0 W) (fun V _ => V = .bool true) (fun _ _ => False)) :
    ReturnsInHanded {} C os f .any (fun w args => (s.pre enc C.prog fn conds false w args ∧ laidMetH C.prog laid w) ∧ sizedMet enc C.prog fn (OpenSpec.ofChange s) false w args) (s.post enc C.prog fn false true false false) := by
  refine oG (X := fun w _ => laidMetH C.prog laid w) (fun _ _ _ hh h => h.of_heap hh) own started noInit hfn witness ?_
  intro W base args ds gs before hval hW _ _ hL hsh _
  have hW' := hW
  obtain ⟨p, q, hA, hV, rfl, hfz, hnd⟩ := hW
  rw [hv] at hV
  obtain ⟨rfl, rfl⟩ := trodVars_none hV
  obtain ⟨e1, e2, e3⟩ := rY (fun j t v a b => hval j t v (by simpa using a) (by simpa using b)) hA
  obtain ⟨hG, ha⟩ := law W args (by simpa using e1) (fun j t v a b => e3 j t v (by simpa using a) (by simpa using b)) hL hsh
  have hlt := DataW.TrodAll.lt hA
  refine (E8 hG ha).mono fun e W' ⟨he, bel⟩ => ?_
  subst he
  have hsp := hs ds e2
  refine ⟨_, rfl, ds, [], p ++ [], [], p, [], hW', ?_, ?_, ?_, bel.frame _, fun h => by cases h⟩
  · rw [List.append_nil, hsp, hr]
    exact trodAll_mk1 (shut_bool htb _)
  · rw [List.append_nil, hsp]
    exact nP hl bel hp hA hlt fun x hx => by simpa using hlt x hx
  · rw [hv, List.append_nil, hsp]
    rfl
theorem own : ownKnob Tryz.prog.godebug = none := by kernel_rfl
theorem laidOut : laidOutB Tryz.prog = true := by kernel_rfl
abbrev ER : List (String × DataW Unit) := [("unicode/utf8.acceptRanges", Rows.laid_unicode_utf8_acceptRanges), ("unicode/utf8.first", Rows.laid_unicode_utf8_first)]
theorem Ed : (Rows.laid_unicode_utf8_first : DataW Unit) = Lib.firstData := by kernel_rfl
theorem BR : (Rows.laid_unicode_utf8_acceptRanges : DataW Unit) = Lib.acceptData := by kernel_rfl
def renU : Go.Shelf.Ren := ⟨fun x => x, fun | 5 => 5 | 119 => 117 | 138 => 120 | 139 => 121 | n => n, fun | 3 => 0 | 4 => 1 | n => n⟩
theorem Gr {W : World} (h : laidMetH Tryz.prog ER W) : dw W := by
  rw [MakeChecks.laidMetH_plain _ _ _ (by kernel_rfl)] at h
  exact utf8Tabs_of_readsT (P := Tryz.prog) (ρ := renU) ⟨by kernel_rfl, by kernel_rfl, by kernel_rfl, by kernel_rfl⟩ ⟨by kernel_rfl, by kernel_rfl, by kernel_rfl, by kernel_rfl, by kernel_rfl, by kernel_rfl, by kernel_rfl⟩
    (by rw [← Ed]; exact Lib.laidMet.reads h (by simp)) (by rw [← BR]; exact Lib.laidMet.reads h (by simp))
theorem I6 {W : World} (h : W.ShapedOpen Tryz.prog) : eG W :=
  cell_of_shapedOpen_int (zero := #[.int .i64 0]) (t := 3) h (of_decide_eq_true (by kernel_rfl)) (by kernel_rfl) rfl (by kernel_rfl) (by kernel_rfl) Tryz.underlying3
theorem three {W : World} (h : W.ShapedOpen Tryz.prog) : 3 ≤ W.heap.size := by
  obtain ⟨m, hm⟩ := I6 h
  unfold World.cell? at hm
  split at hm
  · rename_i hb
    exact (Array.getElem?_eq_some_iff.1 hb).1
  · cases hm
theorem Lv (l : List Int) (h : ∀ x ∈ l, 0 ≤ x ∧ x ≤ 255) : ((nb8 (l.map fun z => UInt8.ofNat z.toNat)).map fun n : Nat => (n : Int)) = l := by
  unfold nb8
  rw [List.map_map, List.map_map]
  conv => rhs; rw [← List.map_id l]
  apply List.map_congr_left
  intro x hx
  obtain ⟨h1, h2⟩ := h x hx
  simp only [Function.comp, id]
  rw [UInt8.toNat_ofNat_of_lt' (by show x.toNat < 256; omega)]
  omega
theorem Lx {w : World} {v : Value} (h : zK Tryz.prog (st0 w) 31 v) : ∃ l : Tx, Nb (foreign w) v (nb8 l) ∧ Sl Tryz.prog (foreign w) v 1 := by
  have hex : ∀ a n c, v = .slice a n c → v = .slice none 0 0 ∨ ∃ B o, v = .slice (some ⟨B, o, none⟩) n c ∧ n ≤ c := by
    obtain ⟨n, h⟩ := h
    rw [Tryz.underlying31] at h
    cases n with
    | zero => exact h.elim
    | succ n =>
      simp only at h
      unfold Fit at h
      rw [Tryz.underlying31] at h
      simp only at h
      rintro a m c rfl
      rcases h with h | h | ⟨B, off, len, cap, h, hl, _⟩
      · cases h
      · exact .inl (by simpa using h)
      · simp at h
        obtain ⟨rfl, rfl, rfl⟩ := h
        exact .inr ⟨B, off, rfl, hl⟩
  obtain ⟨n, h⟩ := h
  rw [Tryz.underlying31] at h
  obtain ⟨v', l, e, hb, _, hr⟩ := Ec Tryz.underlying31 Tryz.underlying5 (by kernel_rfl) h
  injection e with e _
  subst e
  have hnb : Nb (foreign w) v (nb8 (l.map fun z => UInt8.ofNat z.toNat)) := ⟨by rw [Lv l hr]; exact hb, nU _⟩
  refine ⟨_, hnb, ?_⟩
  obtain ⟨a, c, hv⟩ := hnb.isSlice
  rcases hex _ _ _ hv with h1 | ⟨B, o, h1, h2⟩
  · exact .inl h1
  · exact .inr ⟨B, o, none, _, c, h1, h2, .inl rfl⟩
end Go.Proofs.YtigjbehgfjjlkaaGreatDoor
