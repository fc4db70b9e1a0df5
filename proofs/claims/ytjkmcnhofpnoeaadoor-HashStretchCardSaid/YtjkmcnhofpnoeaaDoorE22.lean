/- HashSums answers true for every input, and leaves what came in as it was. No conditions. -/
import Derived.Test.YtjkmcnhofpnoeaaDoorE21
import Derived.Test.YtjkmcnhofpnoeaaDoorAbsL
import Derived.Test.YtjkmcnhofpnoeaaDoorTie
import Derived.Test.YtjkmcnhofpnoeaaDoorCards
import Derived.Lay
set_option linter.unusedVariables false
set_option linter.unusedSimpArgs false
namespace Go.Proofs.YtjkmcnhofpnoeaaDoor
open Go Go.Abs Go.RowKit Go.ChangeShapes

theorem own : ownKnob Tryd.prog.godebug = none := by kernel_rfl
theorem laidOut : laidOutB Tryd.prog = true := by kernel_rfl
theorem fit_nb {w : World} {n : Nat} {cs : List Value} (h : Fit Tryd.prog (st0 w) n 23 cs) : ∃ v l, cs = [v] ∧ Nb (foreign w) v l := by
  obtain ⟨v, l, rfl, hb, _, hr⟩ := fit_bytes' Tryd.underlying23 Tryd.underlying5 (by kernel_rfl) h
  refine ⟨v, l.map Int.toNat, rfl, ?_, fun d hd => ?_⟩
  · have : (l.map Int.toNat).map (fun n : Nat => (n : Int)) = l := by
      rw [List.map_map]
      conv => rhs; rw [← List.map_id l]
      apply List.map_congr_left
      intro x hx
      have := hr x hx
      simp; omega
    rw [this]
    exact hb
  · obtain ⟨x, hx, rfl⟩ := List.mem_map.1 hd
    have := hr x hx
    omega
theorem fit_ps {w : World} {v : Value} (h : ArgFit Tryd.prog (st0 w) 22 v) : ∃ ps, Ps (foreign w) v ps := by
  obtain ⟨n, h⟩ := h
  rw [Tryd.underlying22] at h
  obtain ⟨v', xs, e, hr, hlen, m, hf⟩ := fit_slice' (sz := 0) Tryd.underlying22 (by kernel_rfl) h
  injection e with e _
  subst e
  have : ∃ ps : List (Value × List Nat), xs = ps.map (fun p => [p.1]) ∧ ∀ p ∈ ps, Nb (foreign w) p.1 p.2 := by
    clear hr hlen
    induction xs with
    | nil => exact ⟨[], rfl, fun p hp => by simp at hp⟩
    | cons x xs ih =>
      obtain ⟨ps, e1, e2⟩ := ih fun y hy => hf y (List.mem_cons_of_mem _ hy)
      obtain ⟨u, l, rfl, hb⟩ := fit_nb (hf x (List.mem_cons_self ..))
      refine ⟨(u, l) :: ps, by rw [e1]; rfl, fun p hp => ?_⟩
      rcases List.mem_cons.1 hp with rfl | hp
      · exact hb
      · exact e2 p hp
  obtain ⟨ps, rfl, hp⟩ := this
  exact ⟨ps, hr, hp⟩
abbrev laidK : List (String × DataW Unit) := [("lanyard/hash.k", Rows.laid_lanyard_hash_k)]
theorem laid_agg : (Rows.laid_lanyard_hash_k : DataW Unit) = .agg (ks0.map fun n : Nat => .lit (.int .u32 (n : Int))) := by kernel_rfl
theorem k_cell {W : World} (h : laidMetH Tryd.prog laidK W) : ∃ kt, (0, Ob.cells (wl ks0) kt false) ∈ foreign W := by
  rw [MakeChecks.laidMetH_plain _ _ _ (by kernel_rfl)] at h
  obtain ⟨ps, ⟨g, t, cs, fuel, p, q, hg, ht, hv, hd, _, _⟩, _, _⟩ := h
  obtain rfl := Option.some.inj ((show Tryd.prog.globalNamed "lanyard/hash.k" = some 0 by kernel_rfl).symm.trans hg)
  obtain rfl := Option.some.inj ((show (Tryd.prog.globals[0]?).map (·.type) = some 60 by kernel_rfl).symm.trans ht)
  rw [laid_agg] at hd
  obtain ⟨xs, m, _, ex, hcl, hl, hel⟩ := DataW.trod_array Tryd.underlying60 hd
  have c5 : Tryd.prog.cellsOf 47 = 1 := by kernel_rfl
  have c60 : Tryd.prog.cellsOf 60 = 64 := by kernel_rfl
  rw [c60] at hcl
  have e3 : (xs.map (·.1)) = ks0.map fun n : Nat => .lit (.int .u32 (n : Int)) := (DataW.agg.inj (Prod.mk.inj ex).1).symm
  have hcs : cs.toList = wl ks0 := by
    apply List.ext_getElem?
    intro r
    by_cases hr : r < 64
    · have hE := hel r hr
      rw [c5, Nat.mul_one, List.getElem?_eq_getElem (by omega)] at hE
      obtain ⟨z, e1, e2, _⟩ := DataW.trod_int Tryd.underlying47 hE
      have e4 : (xs.map (·.1))[r]? = (ks0.map fun n : Nat => (DataW.lit (.int .u32 (n : Int)) : DataW Unit))[r]? := by rw [e3]
      have hkl : ks0.length = 64 := rfl
      rw [List.getElem?_map, List.getElem?_map, List.getElem?_eq_getElem (by omega : r < xs.length), List.getElem?_eq_getElem (by omega : r < ks0.length), e2] at e4
      simp only [Option.map_some, Option.some.injEq, DataW.lit.injEq, Lit.int.injEq, true_and] at e4
      have h0 : ((cs.toList.drop r).take 1)[0]? = some (.int .u32 z) := by rw [e1]; rfl
      have h1 : cs.toList[r]? = some (.int .u32 z) := by simpa using h0
      rw [h1, e4, wl, List.getElem?_map, List.getElem?_eq_getElem (by omega : r < ks0.length)]
      rfl
    · rw [List.getElem?_eq_none (by omega), List.getElem?_eq_none (by rw [wl_length]; exact Nat.le_of_not_lt hr)]
  unfold World.var? at hv
  rw [show Tryd.prog.globalNamed "lanyard/hash.k" = some 0 by kernel_rfl] at hv
  simp only [Option.bind_some] at hv
  split at hv
  · rename_i c kt fz hb
    injection hv with hv
    subst hv
    refine ⟨kt, mem_foreign ?_⟩
    rw [st0_H hb, hcs]
    rfl
  · cases hv
theorem foreign_pos {W : World} {kt : TypeId} {l : List Value} (h : (0, Ob.cells l kt false) ∈ foreign W) : 1 ≤ W.heap.size := by
  have h1 := (own_foreign W).get h
  simp only [st0] at h1
  split at h1
  · rename_i hb
    exact (Array.getElem?_eq_some_iff.1 hb).1
  · cases h1
set_option maxRecDepth 100000 in
theorem sums_lifted (os : Os) (started : os.Started) (H : Type) (enc : TypeId × Value → H) :
    ReturnsInHanded {} Tryd.checked os 3 .any (fun w args => (Rows.hashSumsSpec.pre enc Tryd.prog Tryd.f3 Rows.hashSumsRow.domain false w args ∧ laidMetH Tryd.prog laidK w) ∧ sizedMet enc Tryd.prog Tryd.f3 (OpenSpec.ofChange Rows.hashSumsSpec) false w args)
      (Rows.hashSumsSpec.post enc Tryd.prog Tryd.f3 false true false false) := by
  refine law_lift_laid (C := Tryd.checked) (G := 1) (ex := fun t => t == 22) (tb := 4) own started (by kernel_rfl) Tryd.func3 laidOut (by kernel_rfl) (by kernel_rfl) Tryd.underlying4 rfl (fun ds hd => ?_)
    (ChangeSpec.witness_shaped (enc := enc) (C := Tryd.checked) (os := os) (X := fun w _ => laidMetH Tryd.prog laidK w) false (World.laidAll Tryd.prog os laidK) #[.slice none 0 0] 8 (World.laidAll_os _ _ _)
      (World.shaped_of_ZipB (by kernel_rfl) (by kernel_rfl)) (by kernel_rfl) (by kernel_rfl) (by kernel_rfl)
      (by rw [MakeChecks.laidMetH_plain _ _ _ (by kernel_rfl)]; exact laidMet_laidAll _ (by kernel_rfl) (by kernel_rfl))) (fun W args hn hf hL => ?_)
  · rw [Tryd.params3] at hd
    obtain ⟨a, rfl⟩ : ∃ a, ds = [a] := by
      match ds, hd with
      | [a], _ => exact ⟨a, rfl⟩
    rfl
  · rw [Tryd.params3] at hn hf
    obtain ⟨a, rfl⟩ : ∃ a, args = #[a] := by
      obtain ⟨l⟩ := args
      match l, hn with
      | [a], _ => exact ⟨a, rfl⟩
    obtain ⟨ps, hps⟩ := fit_ps (hf 0 22 a rfl rfl)
    obtain ⟨kt, hK⟩ := k_cell hL
    refine ⟨foreign_pos hK, ?_⟩
    simp only [List.map_cons, List.map_nil]
    exact sums_spec _ _ _ ps false hps hK (own_foreign W) _ _ fun _ => rfl
theorem hashSums_row_holds : Rows.HashSumsSaid :=
  OpenClaim.holds_of_wide 3 Tryd.f3 rfl rfl rfl rfl rfl rfl rfl ⟨rfl, rfl, rfl, rfl, rfl⟩ rfl rfl rfl rfl rfl (by kernel_rfl) Tryd.func3 (by kernel_rfl)
    (of_decide_eq_true (by kernel_rfl)) (by unfold Func.isWrapper; first | (rw [if_pos (by decide +kernel)]; kernel_rfl) | (rw [if_neg (by decide +kernel)]; exact ⟨rfl, rfl⟩))
    (fun os started H enc _ => sums_lifted os started H enc)
theorem hashSums_holds : Rows.HashSumsCardSaid :=
  Claim7.holds_tied_plain_at .later [] [.data] true (true, "ca2d1331903dfda42b821b7ff8d7e1d028d85c9a3d5ab409d25f7bde08abb9ac") false
    hashSums_row_holds (fun _ h => by cases h) (by kernel_rfl) (fun _ h => by cases h) hashSums_row_tie rfl ⟨rfl, rfl⟩ (by kernel_rfl) rfl
    (fun f fn hf hfn => by
      obtain rfl : f = 3 := Option.some.inj ((show Tryd.prog.funcNamed "lanyard/lanyardlaw05.HashSums" = some 3 by kernel_rfl).symm.trans hf) |>.symm
      obtain rfl : fn = Tryd.f3 := (Option.some.inj (Tryd.func3.symm.trans hfn)).symm
      exact ⟨by kernel_rfl, fun j t ht => by
        rw [Tryd.params3] at ht
        have hm : t ∈ [22] := by simpa using Array.mem_of_getElem? ht
        have hall : ([22].all fun u => !Tryd.prog.wantsStandIn u) = true := by kernel_rfl
        exact (show Tryd.prog.wantsStandIn t = false by simpa using List.all_eq_true.1 hall t hm)⟩)
    (by kernel_rfl)
#print axioms hashSums_holds
end Go.Proofs.YtjkmcnhofpnoeaaDoor
