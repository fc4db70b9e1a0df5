/- Trees as they are written (plain Lean; no program in sight). -/
import Derived.Test.YtigjbehgfjjlkaaGreatDoorTreeP
import Derived.Test.YtigjbehgfjjlkaaGreatDoorBuil
import Derived.Test.YtigjbehgfjjlkaaGreatDoorAbs8
import Derived.Test.YtigjbehgfjjlkaaGreatDoorAbsT
import Derived.Test.YtigjbehgfjjlkaaGreatDoorTrGA
set_option linter.unusedVariables false
set_option linter.unusedSimpArgs false
namespace Go.Xml
open Go Go.Abs
def comE (c : UInt8) : Tx := if c = 38 then [38, 97, 109, 112, 59] else if c = 60 then [38, 108, 116, 59] else []
def attE (c : UInt8) : Tx := if c = 34 then [38, 113, 117, 111, 116, 59] else if c = 9 then [38, 35, 120, 57, 59] else if c = 10 then [38, 35, 120, 65, 59] else if c = 13 then [38, 35, 120, 68, 59] else comE c
def texE (c : UInt8) : Tx := if c = 62 then [38, 103, 116, 59] else if c = 13 then [38, 35, 120, 68, 59] else comE c
def aN (f : UInt8 → Tx) (s : Tx) : Tx := s.flatMap fun c => if f c = [] then [c] else f c
def bV (p l : Tx) : Tx := if p = [] then l else p ++ 58 :: l
def qb : Tx := [120, 109, 108, 110, 115]
def dclE (x : Dcl) : Tx := 32 :: ((if x.pre = [] then qb else qb ++ 58 :: x.pre) ++ 61 :: 34 :: (aN attE x.uri ++ [34]))
def atE (a : Att) : Tx := 32 :: (bV a.pre a.loc ++ 61 :: 34 :: (aN attE a.val ++ [34]))
def dP (n : Nx) : Tx := 60 :: (bV n.pre n.loc ++ (n.dcls.flatMap dclE ++ (n.atts.flatMap atE ++ [62])))
def dZ (n : Nx) : Tx := if n.kind = 2 then aN texE n.val else if n.kind = 3 then [60, 33, 45, 45] ++ (n.val ++ [45, 45, 62]) else [60, 63] ++ (n.loc ++ ((if n.val = [] then [] else 32 :: n.val) ++ [63, 62]))
def endE (n : Nx) : Tx := 60 :: 47 :: (bV n.pre n.loc ++ [62])
def bg (ns : List Nx) : Nat → Int → Tx
  | 0, _ => []
  | f + 1, i => match nodeAt ns i with
    | none => []
    | some n => if n.kind = 2 ∨ n.kind = 3 ∨ n.kind = 4 then dZ n else dP n ++ (n.kids.flatMap (bg ns f) ++ endE n)
theorem kN (c : UInt8) : (attE c).length ≤ 6 := by
  unfold attE comE
  repeat' split
  all_goals decide
theorem qc (c : UInt8) : (texE c).length ≤ 6 := by
  unfold texE comE
  repeat' split
  all_goals decide
theorem dQ {f : UInt8 → Tx} (hf : ∀ c, (f c).length ≤ 6) : ∀ s : Tx, (aN f s).length ≤ 6 * s.length
  | [] => Nat.zero_le _
  | c :: s => by
    have ih := dQ hf s
    unfold aN at *
    rw [List.flatMap_cons, List.length_append, List.length_cons]
    have : (if f c = [] then [c] else f c).length ≤ 6 := by
      split
      · exact (show 1 ≤ 6 by decide)
      · exact hf c
    omega
theorem kP (p l : Tx) : (bV p l).length ≤ p.length + l.length + 1 := by
  unfold bV
  split
  · omega
  · rw [List.length_append, List.length_cons]; omega
theorem mM {α : Type} {f : α → Tx} {m : Nat} : ∀ {l : List α}, (∀ a ∈ l, (f a).length ≤ m) → (l.flatMap f).length ≤ l.length * m
  | [], _ => Nat.zero_le _
  | a :: l, h => by
    have ih := mM fun b hb => h b (List.mem_cons_of_mem _ hb)
    have := h a (List.mem_cons_self ..)
    rw [List.flatMap_cons, List.length_append, List.length_cons, Nat.succ_mul]
    omega
def ownE (n : Nx) : Nat := if n.kind = 2 ∨ n.kind = 3 ∨ n.kind = 4 then (dZ n).length else (dP n).length + (endE n).length
def sm (f : Nat → Nat) : Nat → Nat
  | 0 => 0
  | m + 1 => sm f m + f m
theorem DK (f g : Nat → Nat) : ∀ m, sm (fun j => f j + g j) m = sm f m + sm g m
  | 0 => rfl
  | m + 1 => by unfold sm; rw [DK f g m]; omega
theorem IE {f g : Nat → Nat} : ∀ {m}, (∀ j, j < m → f j ≤ g j) → sm f m ≤ sm g m
  | 0, _ => Nat.le_refl _
  | m + 1, h => Nat.add_le_add (IE fun j hj => h j (by omega)) (h m (by omega))
theorem KA {f g : Nat → Nat} : ∀ {m}, (∀ j, j < m → f j = g j) → sm f m = sm g m
  | 0, _ => rfl
  | m + 1, h => by unfold sm; rw [KA fun j hj => h j (by omega), h m (by omega)]
theorem DL (k w : Nat) : ∀ m, sm (fun j => if j = k then w else 0) m = if k < m then w else 0
  | 0 => rfl
  | m + 1 => by
    unfold sm
    rw [DL k w m]
    by_cases h1 : k < m
    · rw [if_pos h1, if_neg (show ¬ m = k by omega), if_pos (show k < m + 1 by omega)]; omega
    · by_cases h2 : m = k
      · rw [if_neg h1, if_pos h2, if_pos (show k < m + 1 by omega)]; omega
      · rw [if_neg h1, if_neg h2, if_neg (show ¬ k < m + 1 by omega)]
structure RtX (ns : List Nx) : Prop where
  top : ∃ n, ns[0]? = some n ∧ n.kind = 1 ∧ n.par = -1
  par : ∀ (i : Nat) (n : Nx), ns[i]? = some n → 0 < i → 0 ≤ n.par ∧ n.par < i ∧ gI ns n.par = true
  knd : ∀ (i : Nat) (n : Nx), ns[i]? = some n → 1 ≤ n.kind ∧ n.kind ≤ 4 ∧ (n.kind = 1 ∨ n.atts.length + n.dcls.length = 0)
  kid : ∀ (i : Nat) (n : Nx), ns[i]? = some n → n.kids = u7 ns i
theorem RtX.of {ns : List Nx} (h : bP ns = true) : RtX ns := by
  unfold bP at h
  simp only [Bool.and_eq_true] at h
  obtain ⟨⟨h1, h2⟩, h3, h4⟩ := h
  have hlt : ∀ {i : Nat} {n : Nx}, ns[i]? = some n → i < ns.length := fun {i n} hn => by
    rcases Nat.lt_or_ge i ns.length with h | h
    · exact h
    · rw [List.getElem?_eq_none h] at hn; cases hn
  refine ⟨?_, fun i n hn hi => ?_, fun i n hn => ?_, fun i n hn => of_decide_eq_true (eB.1 h4 i n (hlt hn) hn)⟩
  · cases hn : ns[0]? with
    | none => rw [hn] at h2; cases h2
    | some n =>
      rw [hn] at h2
      refine ⟨n, rfl, ?_, of_decide_eq_true h2⟩
      unfold gI at h1
      rw [show (0 : Int).toNat = 0 from rfl, hn] at h1
      simpa using h1
  · have := eB.1 h3 i n (hlt hn) hn
    unfold ig at this
    simp only [Bool.and_eq_true, Bool.or_eq_true, decide_eq_true_eq] at this
    have he := this.1.1.resolve_left (by omega)
    refine ⟨?_, he.1, he.2⟩
    have h := he.2
    unfold gI at h
    rw [Bool.and_eq_true] at h
    exact of_decide_eq_true h.1
  · have := eB.1 h3 i n (hlt hn) hn
    unfold ig at this
    simp only [Bool.and_eq_true, Bool.or_eq_true, decide_eq_true_eq] at this
    exact ⟨this.1.2.1, this.1.2.2, this.2⟩
theorem xE (ns : List Nx) (g : Int → Tx) (p : Int) : ∀ m, m ≤ ns.length → ((bF ns m p).flatMap g).length = sm (fun j => if 0 < j ∧ (ns[j]?.map (·.par)) = some p then (g j).length else 0) m
  | 0, _ => rfl
  | m + 1, hm => by
    rw [dG]
    unfold sm
    rw [← xE ns g p m (by omega), List.getElem?_eq_getElem (show m < ns.length by omega), Option.map_some]
    dsimp only
    by_cases h : 0 < m ∧ (ns[m]'(by omega)).par = p
    · rw [if_pos h, if_pos ⟨h.1, by rw [h.2]⟩]
      simp
    · rw [if_neg h, if_neg (fun hh => h ⟨hh.1, by simpa using hh.2⟩)]
      rfl
theorem fu (ns : List Nx) (f : Nat) (i : Int) : bg ns (f + 1) i = match nodeAt ns i with
    | none => []
    | some n => if n.kind = 2 ∨ n.kind = 3 ∨ n.kind = 4 then dZ n else dP n ++ (n.kids.flatMap (bg ns f) ++ endE n) := rfl
theorem iG (ns : List Nx) (i : Nat) : nodeAt ns (i : Int) = ns[i]? := by
  unfold nodeAt
  rw [if_pos (by omega), Int.toNat_natCast]
theorem jK {α : Type} {f g : α → Tx} : ∀ {l : List α}, (∀ a ∈ l, f a = g a) → l.flatMap f = l.flatMap g
  | [], _ => rfl
  | a :: l, h => by rw [List.flatMap_cons, List.flatMap_cons, h a (List.mem_cons_self ..), jK fun b hb => h b (List.mem_cons_of_mem _ hb)]
theorem RtX.DN {ns : List Nx} (h : RtX ns) {i : Nat} {n : Nx} (hn : ns[i]? = some n) {k : Int} (hk : k ∈ n.kids) : ∃ (j : Nat) (m : Nx), k = j ∧ i < j ∧ j < ns.length ∧ ns[j]? = some m ∧ m.par = i := by
  rw [h.kid i n hn] at hk
  obtain ⟨j, m, h1, h2, h3, h4, h5⟩ := lM.1 hk
  have := h.par j m h4 h2
  exact ⟨j, m, h1, by omega, h3, h4, h5⟩
theorem jU {ns : List Nx} (h : RtX ns) : ∀ (f g : Nat) (i : Nat), ns.length - i ≤ f → ns.length - i ≤ g → bg ns f i = bg ns g i
  | 0, g, i, hf, hg => by
    have hn : nodeAt ns (i : Int) = none := by rw [iG]; exact List.getElem?_eq_none (by omega)
    cases g with
    | zero => rfl
    | succ g => rw [fu, hn]; rfl
  | f + 1, 0, i, hf, hg => by
    have hn : nodeAt ns (i : Int) = none := by rw [iG]; exact List.getElem?_eq_none (by omega)
    rw [fu, hn]; rfl
  | f + 1, g + 1, i, hf, hg => by
    rw [fu, fu]
    cases hn : nodeAt ns (i : Int) with
    | none => rfl
    | some n =>
      dsimp only
      split
      · rfl
      · rw [jK fun k hk => ?_]
        rw [iG] at hn
        obtain ⟨j, m, rfl, h1, h2, _⟩ := h.DN hn hk
        exact jU h f g j (by omega) (by omega)
theorem Gc {ns : List Nx} (h : RtX ns) {b : Nat} (hb : ∀ n ∈ ns, ownE n ≤ b) : (bg ns ns.length 0).length ≤ ns.length * b := by
  have key : ∀ d k, ns.length - k = d → sm (fun j => if k ≤ j ∧ ∃ n, ns[j]? = some n ∧ n.par < k then (bg ns (ns.length + 1) (j : Nat)).length else 0) ns.length ≤ d * b := by
    intro d
    induction d with
    | zero =>
      intro k hk
      refine Nat.le_trans (IE (g := fun _ => 0) fun j hj => ?_) ?_
      · show (if _ then _ else 0) ≤ 0
        rw [if_neg (by omega)]; exact Nat.le_refl _
      · have : ∀ m, sm (fun _ => 0) m = 0 := fun m => by induction m with | zero => rfl | succ m ih => unfold sm; rw [ih]
        rw [this]; exact Nat.zero_le _
    | succ d ih =>
      intro k hk
      have hi := ih (k + 1) (by omega)
      obtain ⟨n, hn⟩ : ∃ n, ns[k]? = some n := ⟨ns[k]'(by omega), List.getElem?_eq_getElem (by omega)⟩
      have hkids := xE ns (fun j => bg ns (ns.length + 1) j) (k : Int) ns.length (Nat.le_refl _)
      have hW : (bg ns (ns.length + 1) (k : Nat)).length ≤ b + ((bF ns ns.length (k : Int)).flatMap fun j => bg ns (ns.length + 1) j).length := by
        have ho := hb n (List.mem_of_getElem? hn)
        unfold ownE at ho
        rw [fu, iG, hn]
        dsimp only
        split
        · rename_i hkd
          rw [if_pos hkd] at ho
          omega
        · rename_i hkd
          rw [if_neg hkd] at ho
          rw [List.length_append, List.length_append, jK (g := fun j => bg ns (ns.length + 1) j) fun x hx => ?_, h.kid k n hn]
          · unfold u7; omega
          · obtain ⟨j, m, rfl, h1, h2, _⟩ := h.DN hn hx
            exact jU h _ _ j (by omega) (by omega)
      have hone := DL k (bg ns (ns.length + 1) (k : Nat)).length ns.length
      rw [if_pos (show k < ns.length by omega)] at hone
      have hsum : sm (fun j => if k ≤ j ∧ ∃ n, ns[j]? = some n ∧ n.par < k then (bg ns (ns.length + 1) (j : Nat)).length else 0) ns.length + sm (fun j => if 0 < j ∧ (ns[j]?.map (·.par)) = some (k : Int) then (bg ns (ns.length + 1) (j : Nat)).length else 0) ns.length = sm (fun j => if j = k then (bg ns (ns.length + 1) (k : Nat)).length else 0) ns.length + sm (fun j => if k + 1 ≤ j ∧ ∃ n, ns[j]? = some n ∧ n.par < (k + 1 : Nat) then (bg ns (ns.length + 1) (j : Nat)).length else 0) ns.length := by
        rw [← DK, ← DK]
        refine KA fun j hj => ?_
        obtain ⟨m, hm⟩ : ∃ m, ns[j]? = some m := ⟨ns[j]'(by omega), List.getElem?_eq_getElem (by omega)⟩
        have hp : m.par < j ∧ (0 < j → 0 ≤ m.par) := by
          by_cases hj0 : 0 < j
          · exact ⟨(h.par j m hm hj0).2.1, fun _ => (h.par j m hm hj0).1⟩
          · obtain rfl : j = 0 := by omega
            obtain ⟨t, ht, _, hp⟩ := h.top
            rw [hm] at ht
            injection ht with ht
            subst ht
            exact ⟨by omega, fun h => absurd h (by omega)⟩
        have e1 : (∃ n, ns[j]? = some n ∧ n.par < (k : Int)) ↔ m.par < k := ⟨fun ⟨n, a, b⟩ => by rw [hm] at a; injection a with a; rw [a]; exact b, fun h => ⟨m, hm, h⟩⟩
        have e2 : (∃ n, ns[j]? = some n ∧ n.par < ((k + 1 : Nat) : Int)) ↔ m.par < (k + 1 : Nat) := ⟨fun ⟨n, a, b⟩ => by rw [hm] at a; injection a with a; rw [a]; exact b, fun h => ⟨m, hm, h⟩⟩
        have e3 : (ns[j]?.map (·.par)) = some (k : Int) ↔ m.par = k := by rw [hm]; simp
        simp only [e1, e2, e3]
        by_cases hjk : j = k
        · subst hjk
          rw [if_pos ⟨Nat.le_refl _, hp.1⟩, if_neg (by omega), if_pos rfl, if_neg (by omega)]
        · rw [if_neg hjk]
          by_cases hlt : j < k
          · rw [if_neg (by omega), if_neg (by omega), if_neg (by omega)]
          · by_cases hpk : m.par = k
            · rw [if_neg (by omega), if_pos (by omega), if_pos (by omega)]
            · by_cases hpl : m.par < k
              · rw [if_pos (by omega), if_neg (by omega), if_pos (by omega)]; omega
              · rw [if_neg (by omega), if_neg (by omega), if_neg (by omega)]
      rw [Nat.succ_mul]
      omega
  have h0 := key ns.length 0 (by omega)
  obtain ⟨t, ht, _, hp⟩ := h.top
  have hlen : 0 < ns.length := by
    rcases Nat.lt_or_ge 0 ns.length with h | h
    · exact h
    · rw [List.getElem?_eq_none h] at ht; cases ht
  refine Nat.le_trans ?_ h0
  have hone := DL 0 (bg ns (ns.length + 1) (0 : Nat)).length ns.length
  rw [if_pos hlen] at hone
  rw [show (0 : Int) = ((0 : Nat) : Int) from rfl, jU h ns.length (ns.length + 1) 0 (by omega) (by omega), ← hone]
  refine IE fun j hj => ?_
  by_cases hj0 : j = 0
  · subst hj0
    rw [if_pos rfl, if_pos ⟨Nat.le_refl _, t, ht, by omega⟩]; exact Nat.le_refl _
  · rw [if_neg hj0]; exact Nat.zero_le _
end Go.Xml
set_option linter.unusedVariables false
set_option linter.unusedSimpArgs false
namespace Go.Proofs.YtigjbehgfjjlkaaGreatDoor
open Go Go.Abs Go.RowKit Go.Xml
variable {base : Nat} {w0 : World} {G : Nat}
theorem dI (st : St) (r h : Hp) (b : Nat) (l m : Tx) (hb : Bld b (nb8 l) h) (hl : l.length + m.length ≤ 100000000000000) (hO : Own st (h ++ r)) (k q : Value → St → Prop)
    (hk : ∀ h' st', Bld b (nb8 (l ++ m)) h' → Own st' (h' ++ r) → k (.tuple #[.int .i64 (m.length : Nat), .nilIface]) st') :
    ay (C base w0 G) 48 [.pointer (some ⟨b, 0, none⟩), .string (tx m)] st k q := by
  rw [jc]
  refine kI st r h b (nb8 l) (nb8 m) hb (nU m) (by rw [aF, aF]; exact hl) hO k q fun h' st' h1 h2 => ?_
  rw [aF]
  exact hk h' st' (by rw [sJ]; exact h1) h2
theorem BA (st : St) (r h : Hp) (b : Nat) (l : Tx) (c : UInt8) (hb : Bld b (nb8 l) h) (hl : l.length ≤ 100000000000000) (hO : Own st (h ++ r)) (k q : Value → St → Prop)
    (hk : ∀ h' st', Bld b (nb8 (l ++ [c])) h' → Own st' (h' ++ r) → k .nilIface st') :
    ay (C base w0 G) 87 [.pointer (some ⟨b, 0, none⟩), .int .u8 (c.toNat : Nat)] st k q :=
  uK st r h b c.toNat (nb8 l) hb c.toNat_lt (by rw [aF]; exact hl) hO k q fun h' st' h1 h2 => hk h' st' (by rw [sJ]; exact h1) h2
theorem qg (st : St) (r h : Hp) (b : Nat) (l : Tx) (hb : Bld b (nb8 l) h) (hl : l.length ≤ 100000000000000) (hO : Own st (h ++ r)) (k q : Value → St → Prop)
    (hk : ∀ st', Own st' r → k (.string (tx l)) st') : ay (C base w0 G) 31 [.pointer (some ⟨b, 0, none⟩)] st k q :=
  rQ st r h b (nb8 l) hb (by rw [aF]; exact hl) hO k q fun st' h1 => by rw [← jc]; exact hk st' h1
theorem mO (c : UInt8) (n : Nat) (hn : n < 256) : ((c.toNat : Int) == (n : Int)) = decide (c = UInt8.ofNat n) := by
  have h : (c = UInt8.ofNat n) ↔ c.toNat = n := ⟨fun h => by rw [h]; simp; omega, fun h => by apply UInt8.toNat_inj.1; rw [h]; simp; omega⟩
  rw [Bool.eq_iff_iff, beq_iff_eq, decide_eq_true_iff, h]
  omega
set_option maxRecDepth 10000 in
theorem qh (st : St) (c : UInt8) (k q : Value → St → Prop) (hk : k (.string (tx (comE c))) st) : ay (C base w0 G) 88 [.int .u8 (c.toNat : Nat)] st k q := by
  refine ay.of (cx := C base w0 G) mixed Tryz.func88 rfl (by kernel_rfl) (by simp [Tryz.ntmps88]) ?_
  simp only [Tryz.results88]
  have e1 := mO c 38 (by decide)
  have e2 := mO c 60 (by decide)
  rw [show ((38 : Nat) : Int) = 38 from rfl, show UInt8.ofNat 38 = 38 from rfl] at e1
  rw [show ((60 : Nat) : Int) = 60 from rfl, show UInt8.ofNat 60 = 60 from rfl] at e2
  unfold comE at hk
  by_cases h1 : c = 38
  · rw [decide_eq_true h1] at e1
    rw [if_pos h1] at hk
    simp -implicitDefEqProofs only [go_sem, ↓aj, ↓ah, ak, Nat.reduceBEq, ↓reduceIte, reduceCtorEq, Nat.reduceEqDiff, Nat.reduceAdd, Nat.reduceLeDiff, Int.reduceEq, Int.reduceLT, Int.reduceLE, Int.reduceAdd, Int.reduceToNat, Int.reduceNeg, Nat.reduceMul, Nat.reduceSub, Int.reduceBNe, Int.reduceBEq, e1]
    exact hk
  rw [decide_eq_false h1] at e1
  by_cases h2 : c = 60
  · rw [decide_eq_true h2] at e2
    rw [if_neg h1, if_pos h2] at hk
    simp -implicitDefEqProofs only [go_sem, ↓aj, ↓ah, ak, Nat.reduceBEq, ↓reduceIte, reduceCtorEq, Nat.reduceEqDiff, Nat.reduceAdd, Nat.reduceLeDiff, Int.reduceEq, Int.reduceLT, Int.reduceLE, Int.reduceAdd, Int.reduceToNat, Int.reduceNeg, Nat.reduceMul, Nat.reduceSub, Int.reduceBNe, Int.reduceBEq, e1, e2]
    exact hk
  rw [decide_eq_false h2] at e2
  rw [if_neg h1, if_neg h2] at hk
  simp -implicitDefEqProofs only [go_sem, ↓aj, ↓ah, ak, Nat.reduceBEq, ↓reduceIte, reduceCtorEq, Nat.reduceEqDiff, Nat.reduceAdd, Nat.reduceLeDiff, Int.reduceEq, Int.reduceLT, Int.reduceLE, Int.reduceAdd, Int.reduceToNat, Int.reduceNeg, Nat.reduceMul, Nat.reduceSub, Int.reduceBNe, Int.reduceBEq, e1, e2]
  exact hk
set_option maxRecDepth 10000 in
theorem zB (st : St) (c : UInt8) (k q : Value → St → Prop) (hk : k (.string (tx (attE c))) st) : ay (C base w0 G) 89 [.int .u8 (c.toNat : Nat)] st k q := by
  refine ay.of (cx := C base w0 G) mixed Tryz.func89 rfl (by kernel_rfl) (by simp [Tryz.ntmps89]) ?_
  simp only [Tryz.results89]
  have e1 := mO c 34 (by decide)
  have e2 := mO c 9 (by decide)
  have e3 := mO c 10 (by decide)
  have e4 := mO c 13 (by decide)
  rw [show ((34 : Nat) : Int) = 34 from rfl, show UInt8.ofNat 34 = 34 from rfl] at e1
  rw [show ((9 : Nat) : Int) = 9 from rfl, show UInt8.ofNat 9 = 9 from rfl] at e2
  rw [show ((10 : Nat) : Int) = 10 from rfl, show UInt8.ofNat 10 = 10 from rfl] at e3
  rw [show ((13 : Nat) : Int) = 13 from rfl, show UInt8.ofNat 13 = 13 from rfl] at e4
  unfold attE at hk
  by_cases h1 : c = 34
  · rw [decide_eq_true h1] at e1
    rw [if_pos h1] at hk
    simp -implicitDefEqProofs only [go_sem, ↓aj, ↓ah, ak, Nat.reduceBEq, ↓reduceIte, reduceCtorEq, Nat.reduceEqDiff, Nat.reduceAdd, Nat.reduceLeDiff, Int.reduceEq, Int.reduceLT, Int.reduceLE, Int.reduceAdd, Int.reduceToNat, Int.reduceNeg, Nat.reduceMul, Nat.reduceSub, Int.reduceBNe, Int.reduceBEq, e1]
    exact hk
  rw [if_neg h1] at hk
  rw [decide_eq_false h1] at e1
  by_cases h2 : c = 9
  · rw [decide_eq_true h2] at e2
    rw [if_pos h2] at hk
    simp -implicitDefEqProofs only [go_sem, ↓aj, ↓ah, ak, Nat.reduceBEq, ↓reduceIte, reduceCtorEq, Nat.reduceEqDiff, Nat.reduceAdd, Nat.reduceLeDiff, Int.reduceEq, Int.reduceLT, Int.reduceLE, Int.reduceAdd, Int.reduceToNat, Int.reduceNeg, Nat.reduceMul, Nat.reduceSub, Int.reduceBNe, Int.reduceBEq, e1, e2]
    exact hk
  rw [if_neg h2] at hk
  rw [decide_eq_false h2] at e2
  by_cases h3 : c = 10
  · rw [decide_eq_true h3] at e3
    rw [if_pos h3] at hk
    simp -implicitDefEqProofs only [go_sem, ↓aj, ↓ah, ak, Nat.reduceBEq, ↓reduceIte, reduceCtorEq, Nat.reduceEqDiff, Nat.reduceAdd, Nat.reduceLeDiff, Int.reduceEq, Int.reduceLT, Int.reduceLE, Int.reduceAdd, Int.reduceToNat, Int.reduceNeg, Nat.reduceMul, Nat.reduceSub, Int.reduceBNe, Int.reduceBEq, e1, e2, e3]
    exact hk
  rw [if_neg h3] at hk
  rw [decide_eq_false h3] at e3
  by_cases h4 : c = 13
  · rw [decide_eq_true h4] at e4
    rw [if_pos h4] at hk
    simp -implicitDefEqProofs only [go_sem, ↓aj, ↓ah, ak, Nat.reduceBEq, ↓reduceIte, reduceCtorEq, Nat.reduceEqDiff, Nat.reduceAdd, Nat.reduceLeDiff, Int.reduceEq, Int.reduceLT, Int.reduceLE, Int.reduceAdd, Int.reduceToNat, Int.reduceNeg, Nat.reduceMul, Nat.reduceSub, Int.reduceBNe, Int.reduceBEq, e1, e2, e3, e4]
    exact hk
  rw [if_neg h4] at hk
  rw [decide_eq_false h4] at e4
  simp -implicitDefEqProofs only [go_sem, ↓aj, ↓ah, ak, Nat.reduceBEq, ↓reduceIte, reduceCtorEq, Nat.reduceEqDiff, Nat.reduceAdd, Nat.reduceLeDiff, Int.reduceEq, Int.reduceLT, Int.reduceLE, Int.reduceAdd, Int.reduceToNat, Int.reduceNeg, Nat.reduceMul, Nat.reduceSub, Int.reduceBNe, Int.reduceBEq, e1, e2, e3, e4]
  refine au.enter Tryz.func88 rfl (by kernel_rfl) (qh st c _ _ ?_)
  simp -implicitDefEqProofs only [go_sem, ↓aj, ↓ah, ak, Nat.reduceBEq, ↓reduceIte, reduceCtorEq, Nat.reduceEqDiff, Nat.reduceAdd, Nat.reduceLeDiff, Int.reduceEq, Int.reduceLT, Int.reduceLE, Int.reduceAdd, Int.reduceToNat, Int.reduceNeg, Nat.reduceMul, Nat.reduceSub, Int.reduceBNe, Int.reduceBEq]
  exact hk
set_option maxRecDepth 10000 in
theorem zC (st : St) (c : UInt8) (k q : Value → St → Prop) (hk : k (.string (tx (texE c))) st) : ay (C base w0 G) 66 [.int .u8 (c.toNat : Nat)] st k q := by
  refine ay.of (cx := C base w0 G) mixed Tryz.func66 rfl (by kernel_rfl) (by simp [Tryz.ntmps66]) ?_
  simp only [Tryz.results66]
  have e1 := mO c 62 (by decide)
  have e4 := mO c 13 (by decide)
  rw [show ((62 : Nat) : Int) = 62 from rfl, show UInt8.ofNat 62 = 62 from rfl] at e1
  rw [show ((13 : Nat) : Int) = 13 from rfl, show UInt8.ofNat 13 = 13 from rfl] at e4
  unfold texE at hk
  by_cases h1 : c = 62
  · rw [decide_eq_true h1] at e1
    rw [if_pos h1] at hk
    simp -implicitDefEqProofs only [go_sem, ↓aj, ↓ah, ak, Nat.reduceBEq, ↓reduceIte, reduceCtorEq, Nat.reduceEqDiff, Nat.reduceAdd, Nat.reduceLeDiff, Int.reduceEq, Int.reduceLT, Int.reduceLE, Int.reduceAdd, Int.reduceToNat, Int.reduceNeg, Nat.reduceMul, Nat.reduceSub, Int.reduceBNe, Int.reduceBEq, e1]
    exact hk
  rw [if_neg h1] at hk
  rw [decide_eq_false h1] at e1
  by_cases h4 : c = 13
  · rw [decide_eq_true h4] at e4
    rw [if_pos h4] at hk
    simp -implicitDefEqProofs only [go_sem, ↓aj, ↓ah, ak, Nat.reduceBEq, ↓reduceIte, reduceCtorEq, Nat.reduceEqDiff, Nat.reduceAdd, Nat.reduceLeDiff, Int.reduceEq, Int.reduceLT, Int.reduceLE, Int.reduceAdd, Int.reduceToNat, Int.reduceNeg, Nat.reduceMul, Nat.reduceSub, Int.reduceBNe, Int.reduceBEq, e1, e4]
    exact hk
  rw [if_neg h4] at hk
  rw [decide_eq_false h4] at e4
  simp -implicitDefEqProofs only [go_sem, ↓aj, ↓ah, ak, Nat.reduceBEq, ↓reduceIte, reduceCtorEq, Nat.reduceEqDiff, Nat.reduceAdd, Nat.reduceLeDiff, Int.reduceEq, Int.reduceLT, Int.reduceLE, Int.reduceAdd, Int.reduceToNat, Int.reduceNeg, Nat.reduceMul, Nat.reduceSub, Int.reduceBNe, Int.reduceBEq, e1, e4]
  refine au.enter Tryz.func88 rfl (by kernel_rfl) (qh st c _ _ ?_)
  simp -implicitDefEqProofs only [go_sem, ↓aj, ↓ah, ak, Nat.reduceBEq, ↓reduceIte, reduceCtorEq, Nat.reduceEqDiff, Nat.reduceAdd, Nat.reduceLeDiff, Int.reduceEq, Int.reduceLT, Int.reduceLE, Int.reduceAdd, Int.reduceToNat, Int.reduceNeg, Nat.reduceMul, Nat.reduceSub, Int.reduceBNe, Int.reduceBEq]
  exact hk
theorem Gd (f : UInt8 → Tx) (a b : Tx) : aN f (a ++ b) = aN f a ++ aN f b := List.flatMap_append
theorem Gf (f : UInt8 → Tx) (c : UInt8) : aN f [c] = if f c = [] then [c] else f c := by simp [aN]
set_option maxRecDepth 10000 in
theorem qj (st : St) (r : Hp) (s : Tx) (n : Nat) (f : UInt8 → Tx) (hf : ∀ (c : UInt8) (st : St) (k q : Value → St → Prop), k (.string (tx (f c))) st → au (C base w0 G) n [.int .u8 (c.toNat : Nat)] st k q) (h6 : ∀ c, (f c).length ≤ 6) (hl : s.length ≤ 1000000000) (hO : Own st r) (k q : Value → St → Prop) (hk : ∀ st', Own st' r → k (.string (tx (aN f s))) st') : ay (C base w0 G) 65 [.string (tx s), .func (.func n) #[] #[]] st k q := by
  refine ay.of (cx := C base w0 G) mixed Tryz.func65 rfl (by kernel_rfl) (by simp [Tryz.ntmps65]) ?_
  simp only [Tryz.results65]
  have hob := hO.new (.cells [.pointer none, .slice none 0 0] 64 true)
  simp -implicitDefEqProofs only [go_sem, ↓aj, ↓ah, ak, Nat.reduceBEq, ↓reduceIte, reduceCtorEq, Nat.reduceEqDiff, Nat.reduceAdd, Nat.reduceLeDiff, Int.reduceEq, Int.reduceLT, Int.reduceLE, Int.reduceAdd, Int.reduceToNat, Int.reduceNeg, Nat.reduceMul, Nat.reduceSub, Int.reduceBNe, Int.reduceBEq, bB, Ey, jy Tryz.underlying9 Tryz.underlying31 Tryz.underlying5 asz5, Tryz.underlying31]
  have hO1 := hob.new (.cells (nl (nb8 s)) 5 true)
  rw [Eo] at hO1
  generalize hs2 : (St.new (St.new st _) _) = s2 at *
  generalize hb : st.n = b at *
  generalize hx : b + 1 = x at *
  refine ⟨fun m ρ s' => ∃ (i : Nat) (h : Hp), m = s.length - i ∧ i ≤ s.length ∧ ρ 1 = .func (.func n) #[] #[] ∧ ρ 5 = .pointer (some ⟨b, 0, none⟩) ∧ ρ 10 = .slice (some ⟨x, 0, some 0⟩) s.length s.length ∧ ρ 11 = .int .i64 s.length ∧ ρ 12 = .int .i64 i ∧ Bld b (nb8 (aN f (s.take i))) h ∧ Own s' (h ++ ((x, .cells (nl (nb8 s)) 5 true) :: r)),
    ⟨_, 0, [(b, .cells [.pointer none, .slice none 0 0] 64 true)], rfl, Nat.zero_le _, rfl, rfl, rfl, rfl, rfl, Bld.new b, hO1.perm (List.Perm.swap _ _ _)⟩, ?_⟩
  rintro _ ρ s' ⟨i, h, rfl, hi, h1, h5, h10, h11, h12, hB, hs⟩
  by_cases him : i < s.length
  case neg =>
    obtain rfl : i = s.length := by omega
    rw [List.take_length] at hB
    have hlen := dQ h6 s
    simp -implicitDefEqProofs only [go_sem, ↓aj, ↓ah, ak, Nat.reduceBEq, ↓reduceIte, reduceCtorEq, Nat.reduceEqDiff, Nat.reduceAdd, Nat.reduceLeDiff, Int.reduceEq, Int.reduceLT, Int.reduceLE, Int.reduceAdd, Int.reduceToNat, Int.reduceNeg, Nat.reduceMul, Nat.reduceSub, Int.reduceBNe, Int.reduceBEq, h1, h5, h10, h11, h12, Int.ofNat_lt, Nat.lt_irrefl, decide_false]
    refine au.enter Tryz.func31 rfl (by kernel_rfl) (qg s' _ h b _ hB (by omega) hs _ _ fun s3 hs3 => ?_)
    simp -implicitDefEqProofs only [go_sem, ↓aj, ↓ah, ak, Nat.reduceBEq, ↓reduceIte, reduceCtorEq, Nat.reduceEqDiff, Nat.reduceAdd, Nat.reduceLeDiff, Int.reduceEq, Int.reduceLT, Int.reduceLE, Int.reduceAdd, Int.reduceToNat, Int.reduceNeg, Nat.reduceMul, Nat.reduceSub, Int.reduceBNe, Int.reduceBEq]
    exact hk _ hs3.tail
  have hcx := hs.get (List.mem_append_right h (List.mem_cons_self ..))
  have hat : (nl (nb8 s))[i]? = some (.int .u8 ((s[i]).toNat : Nat)) := by simp [nl, bl, nb8, him]
  have hli : ((i : Int) < (s.length : Int)) = True := eq_true (by omega)
  have hge : ((0 : Int) ≤ (i : Int)) = True := eq_true (by omega)
  simp -implicitDefEqProofs only [go_sem, ↓aj, ↓ah, ak, Nat.reduceBEq, ↓reduceIte, reduceCtorEq, Nat.reduceEqDiff, Nat.reduceAdd, Nat.reduceLeDiff, Int.reduceEq, Int.reduceLT, Int.reduceLE, Int.reduceAdd, Int.reduceToNat, Int.reduceNeg, Nat.reduceMul, Nat.reduceSub, Int.reduceBNe, Int.reduceBEq, h1, h5, h10, h11, h12, hli, hge, hcx, hat, decide_true, and_self, true_and, Int.toNat_natCast, asz5, Tryz.underlying5, Tryz.underlying31]
  refine hf s[i] s' _ _ ?_
  have hen : astr .neq (tx (f s[i])) ⟨#[]⟩ = some (.bool (!decide (f s[i] = []))) := dx (f s[i]) []
  have hlen := dQ h6 (s.take i)
  have hlt : (s.take i).length = i := by rw [List.length_take]; omega
  have h6i := h6 s[i]
  have hnx : aN f (s.take (i + 1)) = aN f (s.take i) ++ (if f s[i] = [] then [s[i]] else f s[i]) := by
    rw [List.take_add_one, List.getElem?_eq_getElem him, Gd]
    rw [show (some s[i]).toList = [s[i]] from rfl, Gf]
  have w1 : IntKind.i64.wrap ((i : Int) + 1) = ((i + 1 : Nat) : Int) := by rw [cO (by omega)]; rfl
  by_cases he : f s[i] = []
  · rw [he] at hen
    rw [if_pos he] at hnx
    rw [decide_eq_true rfl] at hen
    simp -implicitDefEqProofs only [go_sem, ↓aj, ↓ah, ak, Nat.reduceBEq, ↓reduceIte, reduceCtorEq, Nat.reduceEqDiff, Nat.reduceAdd, Nat.reduceLeDiff, Int.reduceEq, Int.reduceLT, Int.reduceLE, Int.reduceAdd, Int.reduceToNat, Int.reduceNeg, Nat.reduceMul, Nat.reduceSub, Int.reduceBNe, Int.reduceBEq, he, hen, h1, h5, h10, h11, h12]
    refine au.enter Tryz.func87 rfl (by kernel_rfl) (BA s' _ h b _ _ hB (by omega) hs _ _ fun h' s3 hB3 hs3 => ?_)
    simp -implicitDefEqProofs only [go_sem, ↓aj, ↓ah, ak, Nat.reduceBEq, ↓reduceIte, reduceCtorEq, Nat.reduceEqDiff, Nat.reduceAdd, Nat.reduceLeDiff, Int.reduceEq, Int.reduceLT, Int.reduceLE, Int.reduceAdd, Int.reduceToNat, Int.reduceNeg, Nat.reduceMul, Nat.reduceSub, Int.reduceBNe, Int.reduceBEq, h1, h5, h10, h11, h12, w1]
    refine ⟨s.length - (i + 1), by omega, i + 1, h', rfl, by omega, rfl, by rw [hnx]; exact hB3, hs3⟩
  · rw [decide_eq_false he] at hen
    rw [if_neg he] at hnx
    simp -implicitDefEqProofs only [go_sem, ↓aj, ↓ah, ak, Nat.reduceBEq, ↓reduceIte, reduceCtorEq, Nat.reduceEqDiff, Nat.reduceAdd, Nat.reduceLeDiff, Int.reduceEq, Int.reduceLT, Int.reduceLE, Int.reduceAdd, Int.reduceToNat, Int.reduceNeg, Nat.reduceMul, Nat.reduceSub, Int.reduceBNe, Int.reduceBEq, hen, h1, h5, h10, h11, h12]
    refine au.enter Tryz.func48 rfl (by kernel_rfl) (dI s' _ h b _ _ hB (by omega) hs _ _ fun h' s3 hB3 hs3 => ?_)
    simp -implicitDefEqProofs only [go_sem, ↓aj, ↓ah, ak, Nat.reduceBEq, ↓reduceIte, reduceCtorEq, Nat.reduceEqDiff, Nat.reduceAdd, Nat.reduceLeDiff, Int.reduceEq, Int.reduceLT, Int.reduceLE, Int.reduceAdd, Int.reduceToNat, Int.reduceNeg, Nat.reduceMul, Nat.reduceSub, Int.reduceBNe, Int.reduceBEq, h1, h5, h10, h11, h12, w1]
    refine ⟨s.length - (i + 1), by omega, i + 1, h', rfl, by omega, rfl, by rw [hnx]; exact hB3, hs3⟩
set_option maxRecDepth 10000 in
theorem oq (st : St) (r : Hp) (s : Tx) (hl : s.length ≤ 1000000000) (hO : Own st r) (k q : Value → St → Prop) (hk : ∀ st', Own st' r → k (.string (tx (aN attE s))) st') : ay (C base w0 G) 67 [.string (tx s)] st k q := by
  refine ay.of (cx := C base w0 G) mixed Tryz.func67 rfl (by kernel_rfl) (by simp [Tryz.ntmps67]) ?_
  simp only [Tryz.results67]
  simp -implicitDefEqProofs only [go_sem, ↓aj, ↓ah, ak, Nat.reduceBEq, ↓reduceIte, reduceCtorEq, Nat.reduceEqDiff, Nat.reduceAdd, Nat.reduceLeDiff, Int.reduceEq, Int.reduceLT, Int.reduceLE, Int.reduceAdd, Int.reduceToNat, Int.reduceNeg, Nat.reduceMul, Nat.reduceSub, Int.reduceBNe, Int.reduceBEq]
  refine au.enter Tryz.func65 rfl (by kernel_rfl) (qj st r s 89 attE (fun c st k q h => au.enter Tryz.func89 rfl (by kernel_rfl) (zB st c k q h)) kN hl hO _ _ fun s1 hs1 => ?_)
  simp -implicitDefEqProofs only [go_sem, ↓aj, ↓ah, ak, Nat.reduceBEq, ↓reduceIte, reduceCtorEq, Nat.reduceEqDiff, Nat.reduceAdd, Nat.reduceLeDiff, Int.reduceEq, Int.reduceLT, Int.reduceLE, Int.reduceAdd, Int.reduceToNat, Int.reduceNeg, Nat.reduceMul, Nat.reduceSub, Int.reduceBNe, Int.reduceBEq]
  exact hk _ hs1
set_option maxRecDepth 10000 in
theorem DR (st : St) (r : Hp) (s : Tx) (hl : s.length ≤ 1000000000) (hO : Own st r) (k q : Value → St → Prop) (hk : ∀ st', Own st' r → k (.string (tx (aN texE s))) st') : ay (C base w0 G) 49 [.string (tx s)] st k q := by
  refine ay.of (cx := C base w0 G) mixed Tryz.func49 rfl (by kernel_rfl) (by simp [Tryz.ntmps49]) ?_
  simp only [Tryz.results49]
  simp -implicitDefEqProofs only [go_sem, ↓aj, ↓ah, ak, Nat.reduceBEq, ↓reduceIte, reduceCtorEq, Nat.reduceEqDiff, Nat.reduceAdd, Nat.reduceLeDiff, Int.reduceEq, Int.reduceLT, Int.reduceLE, Int.reduceAdd, Int.reduceToNat, Int.reduceNeg, Nat.reduceMul, Nat.reduceSub, Int.reduceBNe, Int.reduceBEq]
  refine au.enter Tryz.func65 rfl (by kernel_rfl) (qj st r s 66 texE (fun c st k q h => au.enter Tryz.func66 rfl (by kernel_rfl) (zC st c k q h)) qc hl hO _ _ fun s1 hs1 => ?_)
  simp -implicitDefEqProofs only [go_sem, ↓aj, ↓ah, ak, Nat.reduceBEq, ↓reduceIte, reduceCtorEq, Nat.reduceEqDiff, Nat.reduceAdd, Nat.reduceLeDiff, Int.reduceEq, Int.reduceLT, Int.reduceLE, Int.reduceAdd, Int.reduceToNat, Int.reduceNeg, Nat.reduceMul, Nat.reduceSub, Int.reduceBNe, Int.reduceBEq]
  exact hk _ hs1
set_option maxRecDepth 10000 in
theorem ou (st : St) (p l : Tx) (hl : p.length + l.length ≤ 1000000000) (k q : Value → St → Prop) (hk : k (.string (tx (bV p l))) st) : ay (C base w0 G) 51 [.string (tx p), .string (tx l)] st k q := by
  refine ay.of (cx := C base w0 G) mixed Tryz.func51 rfl (by kernel_rfl) (by simp [Tryz.ntmps51]) ?_
  simp only [Tryz.results51]
  have hen : astr .eql (tx p) ⟨#[]⟩ = some (.bool (decide (p = []))) := aA p []
  have a1 : astr .add (tx p) ⟨#[58]⟩ = some (.string (tx (p ++ [58]))) := kG (a := p) (b := [58]) (by simp; omega)
  have a2 : astr .add (tx (p ++ [58])) (tx l) = some (.string (tx (p ++ [58] ++ l))) := kG (by simp; omega)
  unfold bV at hk
  by_cases he : p = []
  · rw [if_pos he] at hk
    rw [decide_eq_true he] at hen
    simp -implicitDefEqProofs only [go_sem, ↓aj, ↓ah, ak, Nat.reduceBEq, ↓reduceIte, reduceCtorEq, Nat.reduceEqDiff, Nat.reduceAdd, Nat.reduceLeDiff, Int.reduceEq, Int.reduceLT, Int.reduceLE, Int.reduceAdd, Int.reduceToNat, Int.reduceNeg, Nat.reduceMul, Nat.reduceSub, Int.reduceBNe, Int.reduceBEq, hen]
    exact hk
  rw [if_neg he] at hk
  rw [decide_eq_false he] at hen
  simp -implicitDefEqProofs only [go_sem, ↓aj, ↓ah, ak, Nat.reduceBEq, ↓reduceIte, reduceCtorEq, Nat.reduceEqDiff, Nat.reduceAdd, Nat.reduceLeDiff, Int.reduceEq, Int.reduceLT, Int.reduceLE, Int.reduceAdd, Int.reduceToNat, Int.reduceNeg, Nat.reduceMul, Nat.reduceSub, Int.reduceBNe, Int.reduceBEq, hen, a1, a2]
  rw [List.append_assoc]
  exact hk
end Go.Proofs.YtigjbehgfjjlkaaGreatDoor
set_option linter.unusedVariables false
set_option linter.unusedSimpArgs false
namespace Go.Proofs.YtigjbehgfjjlkaaGreatDoor
open Go Go.Abs Go.RowKit Go.Xml
variable {base : Nat} {w0 : World} {G : Nat}
structure SzX (n : Nx) : Prop where
  pre : n.pre.length ≤ 1000000
  loc : n.loc.length ≤ 1000000
  val : n.val.length ≤ 1000000
  atts : n.atts.length ≤ 1000000
  dcls : n.dcls.length ≤ 1000000
  att : ∀ a ∈ n.atts, a.pre.length ≤ 1000000 ∧ a.loc.length ≤ 1000000 ∧ a.val.length ≤ 1000000
  dcl : ∀ d ∈ n.dcls, d.pre.length ≤ 1000000 ∧ d.uri.length ≤ 1000000
theorem addX {a b u : Tx} (h : a ++ b = u) (hl : u.length ≤ 100000000000000) : astr .add (tx a) (tx b) = some (.string (tx u)) := by
  subst h
  exact kG (by rw [List.length_append] at hl; omega)
theorem BD {x : Dcl} (h : x.pre.length ≤ 1000000 ∧ x.uri.length ≤ 1000000) : (dclE x).length ≤ 8000000 := by
  have := dQ kN x.uri
  unfold dclE qb
  split <;> simp <;> omega
theorem EJ {a : Att} (h : a.pre.length ≤ 1000000 ∧ a.loc.length ≤ 1000000 ∧ a.val.length ≤ 1000000) : (atE a).length ≤ 9000000 := by
  have := dQ kN a.val
  have := kP a.pre a.loc
  unfold atE
  simp; omega
theorem vv {n : Nx} (h : SzX n) : (dP n).length ≤ 18000000000000 := by
  have h1 := mM (f := dclE) (l := n.dcls) fun d hd => BD (h.dcl d hd)
  have h2 := mM (f := atE) (l := n.atts) fun d hd => EJ (h.att d hd)
  have h3 := kP n.pre n.loc
  have := h.pre; have := h.loc; have := h.atts; have := h.dcls
  have m1 := Nat.mul_le_mul_right 8000000 h.dcls
  have m2 := Nat.mul_le_mul_right 9000000 h.atts
  unfold dP
  simp only [List.length_cons, List.length_append, List.length_nil]
  omega
theorem qY {α : Type} {f : α → Tx} {l : List α} {i : Nat} {a : α} (h : l[i]? = some a) : (l.take (i + 1)).flatMap f = (l.take i).flatMap f ++ f a := by
  rw [List.take_add_one, h, List.flatMap_append]
  simp
theorem lQ {α : Type} {f : α → Tx} {l : List α} (i : Nat) : ((l.take i).flatMap f).length ≤ (l.flatMap f).length := by
  conv => rhs; rw [← List.take_append_drop i l]
  rw [List.flatMap_append, List.length_append]
  omega
set_option maxRecDepth 10000 in
theorem BF (st : St) (r : Hp) (n : Nx) (kv av dv : Value) (hN : NdX r n kv av dv) (hz : SzX n) (hO : Own st r) (k q : Value → St → Prop) (hk : ∀ st', Own st' r → k (.string (tx (dP n))) st') : ay (C base w0 G) 50 [.agg (ndX n kv av dv).toArray] st k q := by
  obtain ⟨ka, kc, hkv1, _⟩ := hN.kid.isSlice
  obtain ⟨aa, ac, hav1, _⟩ := hN.att.isSlice
  obtain ⟨da, dc, hdv1, _⟩ := hN.dcl.isSlice
  have hA := hN.att
  have hD := hN.dcl
  subst hkv1 hav1 hdv1
  refine ay.of (cx := C base w0 G) mixed Tryz.func50 rfl (by kernel_rfl) (by simp [Tryz.ntmps50]) ?_
  simp only [Tryz.results50]
  have ho1 := hO.new (.cells (ndX n (.slice ka (n.kids.map fun k => [Value.int .i64 k]).length kc) (.slice aa (n.atts.map attC).length ac) (.slice da (n.dcls.map dclC).length dc)) 55 true)
  simp only [List.length_map] at ho1 hA hD ⊢
  have f3 : (ndX n (.slice ka n.kids.length kc) (.slice aa n.atts.length ac) (.slice da n.dcls.length dc))[3]? = some (.string (tx n.pre)) := rfl
  have f4 : (ndX n (.slice ka n.kids.length kc) (.slice aa n.atts.length ac) (.slice da n.dcls.length dc))[4]? = some (.string (tx n.loc)) := rfl
  have f6 : (ndX n (.slice ka n.kids.length kc) (.slice aa n.atts.length ac) (.slice da n.dcls.length dc))[6]? = some (.slice aa n.atts.length ac) := rfl
  have f7 : (ndX n (.slice ka n.kids.length kc) (.slice aa n.atts.length ac) (.slice da n.dcls.length dc))[7]? = some (.slice da n.dcls.length dc) := rfl
  have hsl := vv hz
  have hnl := kP n.pre n.loc
  have z1 := hz.pre
  have z2 := hz.loc
  have hda := hz.dcls
  have haa := hz.atts
  unfold dP at hsl hk
  simp only [List.length_cons, List.length_append, List.length_nil] at hsl
  generalize hnd : ndX n (.slice ka n.kids.length kc) (.slice aa n.atts.length ac) (.slice da n.dcls.length dc) = nd at *
  simp -implicitDefEqProofs only [go_sem, ↓aj, ↓ah, ak, Nat.reduceBEq, ↓reduceIte, reduceCtorEq, Nat.reduceEqDiff, Nat.reduceAdd, Nat.reduceLeDiff, Int.reduceEq, Int.reduceLT, Int.reduceLE, Int.reduceAdd, Int.reduceToNat, Int.reduceNeg, Nat.reduceMul, Nat.reduceSub, Int.reduceBNe, Int.reduceBEq, abox, f3, f4, aU, asz9, o9, pq, Tryz.underlying55, Tryz.underlying9]
  refine au.enter Tryz.func51 rfl (by kernel_rfl) (ou _ n.pre n.loc (by omega) _ _ ?_)
  have a0 : astr .add ⟨#[60]⟩ (tx (bV n.pre n.loc)) = some (.string (tx (60 :: bV n.pre n.loc))) := addX (a := [60]) rfl (by simp; omega)
  generalize hnm : bV n.pre n.loc = nm at *
  have hc0 := ho1.head
  simp -implicitDefEqProofs only [go_sem, ↓aj, ↓ah, ak, Nat.reduceBEq, ↓reduceIte, reduceCtorEq, Nat.reduceEqDiff, Nat.reduceAdd, Nat.reduceLeDiff, Int.reduceEq, Int.reduceLT, Int.reduceLE, Int.reduceAdd, Int.reduceToNat, Int.reduceNeg, Nat.reduceMul, Nat.reduceSub, Int.reduceBNe, Int.reduceBEq, a0, hc0, f7, aU, fI, bT, Tryz.underlying55, Tryz.underlying53]
  generalize hb1 : st.n = b1 at *
  generalize hs1 : (St.new st _) = s1 at *
  refine ⟨fun m ρ s => ∃ i : Nat, m = n.dcls.length - i ∧ i ≤ n.dcls.length ∧ ρ 1 = .pointer (some ⟨b1, 0, none⟩) ∧ ρ 3 = .string (tx (60 :: (nm ++ (n.dcls.take i).flatMap dclE))) ∧ ρ 16 = .slice da n.dcls.length dc ∧ ρ 17 = .int .i64 (n.dcls.length : Nat) ∧ ρ 18 = .int .i64 (i : Nat) ∧ Own s ((b1, .cells nd 55 true) :: r),
    ⟨_, 0, rfl, Nat.zero_le _, rfl, by rw [List.take_zero, List.flatMap_nil, List.append_nil]; rfl, rfl, rfl, rfl, ho1⟩, ?_⟩
  clear hc0 ho1
  rintro _ ρ s ⟨i, rfl, hi, h1, h3, h16, h17, h18, ho⟩
  by_cases hil : i < n.dcls.length
  · obtain ⟨d, hd⟩ : ∃ d, n.dcls[i]? = some d := ⟨n.dcls[i], List.getElem?_eq_getElem hil⟩
    obtain ⟨x, o, sp, c, ccs, ty, own, hvx, hmem, hcut⟩ := hD.mem (i := i) (l := dclC d) (by simp [hd])
    rw [List.length_map] at hvx
    injection hvx with hvx _ hvc
    subst hvx hvc
    have hcx := ho.get (List.mem_cons_of_mem _ hmem)
    have hnx : ¬ x = s.n := ho.fresh (List.mem_cons_of_mem _ hmem)
    have hli : ((i : Int) < (n.dcls.length : Int)) = True := eq_true (by omega)
    have hge : ((0 : Int) ≤ (i : Int)) = True := eq_true (by omega)
    have hon := (ho.new (.cells [.string ⟨#[]⟩, .string ⟨#[]⟩] 61 true)).set rfl (.cells (dclC d) 61 true) rfl
    have hsetD : setL [.string ⟨#[]⟩, .string ⟨#[]⟩] 0 (dclC d) = dclC d := rfl
    have g0 : (dclC d)[0]? = some (.string (tx d.pre)) := rfl
    have g1 : (dclC d)[1]? = some (.string (tx d.uri)) := rfl
    have hdz := hz.dcl d (List.mem_of_getElem? hd)
    have hle := BD hdz
    have htu := dQ kN d.uri
    have htk := qY (f := dclE) hd
    have htl := lQ (f := dclE) (l := n.dcls) (i + 1)
    rw [htk, List.length_append] at htl
    obtain ⟨dn, hdn⟩ : ∃ dn, dn = if d.pre = [] then qb else qb ++ 58 :: d.pre := ⟨_, rfl⟩
    have hdnl : dn.length ≤ d.pre.length + 6 := by rw [hdn]; unfold qb; split <;> simp <;> omega
    obtain ⟨u, hu⟩ : ∃ u, u = aN attE d.uri := ⟨_, rfl⟩
    have hdE : dclE d = 32 :: (dn ++ 61 :: 34 :: (u ++ [34])) := by unfold dclE; rw [← hdn, ← hu]
    obtain ⟨d2, hd2⟩ : ∃ d2, d2 = 32 :: (dn ++ [61, 34]) := ⟨_, rfl⟩
    obtain ⟨d3, hd3⟩ : ∃ d3, d3 = d2 ++ u := ⟨_, rfl⟩
    have hd4 : d3 ++ [34] = dclE d := by rw [hd3, hd2, hdE]; simp
    have l3 : d3.length ≤ 8000000 := by have := congrArg List.length hd4; rw [List.length_append] at this; omega
    have l2 : d2.length ≤ 8000000 := by rw [hd3, List.length_append] at l3; omega
    have c32 : astr .add ⟨#[32]⟩ (tx dn) = some (.string (tx (32 :: dn))) := addX (a := [32]) rfl (by simp; omega)
    have c33 : astr .add (tx (32 :: dn)) ⟨#[61, 34]⟩ = some (.string (tx d2)) := addX (b := [61, 34]) (by rw [hd2]; rfl) (by omega)
    have c37 : astr .add (tx d2) (tx u) = some (.string (tx d3)) := addX hd3.symm (by omega)
    have c38 : astr .add (tx d3) ⟨#[34]⟩ = some (.string (tx (dclE d))) := addX (b := [34]) hd4 (by omega)
    obtain ⟨sx, hsx⟩ : ∃ sx, sx = 60 :: (nm ++ (n.dcls.take i).flatMap dclE) := ⟨_, rfl⟩
    have hsn : 60 :: (nm ++ (n.dcls.take (i + 1)).flatMap dclE) = sx ++ dclE d := by rw [hsx, htk]; simp
    have c39 : astr .add (tx sx) (tx (dclE d)) = some (.string (tx (sx ++ dclE d))) := addX rfl (by rw [hsx]; simp only [List.length_cons, List.length_append]; omega)
    rw [← hsx] at h3
    have w1 : IntKind.i64.wrap ((i : Int) + 1) = ((i + 1 : Nat) : Int) := by rw [cO (by omega)]; omega
    have hen : astr .neq (tx d.pre) ⟨#[]⟩ = some (.bool (!decide (d.pre = []))) := dx d.pre []
    have hil' : i + 1 ≤ n.dcls.length := hil
    by_cases hpe : d.pre = []
    · rw [if_pos hpe] at hdn
      rw [decide_eq_true hpe] at hen
      have exm : (⟨#[120, 109, 108, 110, 115]⟩ : ByteArray) = tx dn := by rw [hdn]; rfl
      simp -implicitDefEqProofs only [go_sem, ↓aj, ↓ah, ak, Nat.reduceBEq, ↓reduceIte, reduceCtorEq, Nat.reduceEqDiff, Nat.reduceAdd, Nat.reduceLeDiff, Int.reduceEq, Int.reduceLT, Int.reduceLE, Int.reduceAdd, Int.reduceToNat, Int.reduceNeg, Nat.reduceMul, Nat.reduceSub, Int.reduceBNe, Int.reduceBEq, h1, h3, h16, h17, h18, hli, hge, hcx, hcut, hnx, and_self, true_and, decide_true, Int.toNat_natCast, fI, jA, nI, bB, hsetD, Tryz.underlying53, Tryz.underlying61]
      generalize hb5 : s.n = b5 at *
      refine ⟨⟨rfl, rfl⟩, ?_⟩
      generalize hs5 : (s.new _).set _ _ = s5 at *
      have hc5 := hon.head
      simp -implicitDefEqProofs only [go_sem, ↓aj, ↓ah, ak, Nat.reduceBEq, ↓reduceIte, reduceCtorEq, Nat.reduceEqDiff, Nat.reduceAdd, Nat.reduceLeDiff, Int.reduceEq, Int.reduceLT, Int.reduceLE, Int.reduceAdd, Int.reduceToNat, Int.reduceNeg, Nat.reduceMul, Nat.reduceSub, Int.reduceBNe, Int.reduceBEq, h1, h3, h16, h17, h18, hc5, g0, g1, hen, exm, c32, c33, pE, pF, jA, asz9, Tryz.underlying61, Tryz.underlying9]
      refine au.enter Tryz.func67 rfl (by kernel_rfl) (oq s5 _ d.uri (by omega) hon _ _ fun s6 ho6 => ?_)
      rw [← hu]
      simp -implicitDefEqProofs only [go_sem, ↓aj, ↓ah, ak, Nat.reduceBEq, ↓reduceIte, reduceCtorEq, Nat.reduceEqDiff, Nat.reduceAdd, Nat.reduceLeDiff, Int.reduceEq, Int.reduceLT, Int.reduceLE, Int.reduceAdd, Int.reduceToNat, Int.reduceNeg, Nat.reduceMul, Nat.reduceSub, Int.reduceBNe, Int.reduceBEq, h1, h3, h16, h17, h18, c37, c38, c39, w1]
      have ho7 := ho6.tail
      refine ⟨n.dcls.length - (i + 1), by omega, i + 1, rfl, by omega, by rw [hsn], rfl, ho7⟩
    · rw [if_neg hpe] at hdn
      rw [decide_eq_false hpe] at hen
      have c28 : astr .add ⟨#[58]⟩ (tx d.pre) = some (.string (tx (58 :: d.pre))) := addX (a := [58]) rfl (by simp; omega)
      have c29 : astr .add ⟨#[120, 109, 108, 110, 115]⟩ (tx (58 :: d.pre)) = some (.string (tx dn)) := addX (a := qb) hdn.symm (by omega)
      simp -implicitDefEqProofs only [go_sem, ↓aj, ↓ah, ak, Nat.reduceBEq, ↓reduceIte, reduceCtorEq, Nat.reduceEqDiff, Nat.reduceAdd, Nat.reduceLeDiff, Int.reduceEq, Int.reduceLT, Int.reduceLE, Int.reduceAdd, Int.reduceToNat, Int.reduceNeg, Nat.reduceMul, Nat.reduceSub, Int.reduceBNe, Int.reduceBEq, h1, h3, h16, h17, h18, hli, hge, hcx, hcut, hnx, and_self, true_and, decide_true, Int.toNat_natCast, fI, jA, nI, bB, hsetD, Tryz.underlying53, Tryz.underlying61]
      generalize hb5 : s.n = b5 at *
      refine ⟨⟨rfl, rfl⟩, ?_⟩
      generalize hs5 : (s.new _).set _ _ = s5 at *
      have hc5 := hon.head
      simp -implicitDefEqProofs only [go_sem, ↓aj, ↓ah, ak, Nat.reduceBEq, ↓reduceIte, reduceCtorEq, Nat.reduceEqDiff, Nat.reduceAdd, Nat.reduceLeDiff, Int.reduceEq, Int.reduceLT, Int.reduceLE, Int.reduceAdd, Int.reduceToNat, Int.reduceNeg, Nat.reduceMul, Nat.reduceSub, Int.reduceBNe, Int.reduceBEq, h1, h3, h16, h17, h18, hc5, g0, g1, hen, c28, c29, c32, c33, pE, pF, jA, asz9, Tryz.underlying61, Tryz.underlying9]
      refine au.enter Tryz.func67 rfl (by kernel_rfl) (oq s5 _ d.uri (by omega) hon _ _ fun s6 ho6 => ?_)
      rw [← hu]
      simp -implicitDefEqProofs only [go_sem, ↓aj, ↓ah, ak, Nat.reduceBEq, ↓reduceIte, reduceCtorEq, Nat.reduceEqDiff, Nat.reduceAdd, Nat.reduceLeDiff, Int.reduceEq, Int.reduceLT, Int.reduceLE, Int.reduceAdd, Int.reduceToNat, Int.reduceNeg, Nat.reduceMul, Nat.reduceSub, Int.reduceBNe, Int.reduceBEq, h1, h3, h16, h17, h18, c37, c38, c39, w1]
      have ho7 := ho6.tail
      refine ⟨n.dcls.length - (i + 1), by omega, i + 1, rfl, by omega, by rw [hsn], rfl, ho7⟩
  obtain rfl : i = n.dcls.length := by omega
  rw [List.take_length] at h3
  have hc1 := ho.head
  simp -implicitDefEqProofs only [go_sem, ↓aj, ↓ah, ak, Nat.reduceBEq, ↓reduceIte, reduceCtorEq, Nat.reduceEqDiff, Nat.reduceAdd, Nat.reduceLeDiff, Int.reduceEq, Int.reduceLT, Int.reduceLE, Int.reduceAdd, Int.reduceToNat, Int.reduceNeg, Nat.reduceMul, Nat.reduceSub, Int.reduceBNe, Int.reduceBEq, h1, h3, h16, h17, h18, hc1, f6, Int.ofNat_lt, Nat.lt_irrefl, decide_false, aU, iO, dB, Tryz.underlying55, Tryz.underlying52]
  obtain ⟨ds, hds⟩ : ∃ ds, ds = n.dcls.flatMap dclE := ⟨_, rfl⟩
  rw [← hds] at h3 hsl hk
  refine ⟨fun m ρ s => ∃ i : Nat, m = n.atts.length - i ∧ i ≤ n.atts.length ∧ ρ 1 = .pointer (some ⟨b1, 0, none⟩) ∧ ρ 3 = .string (tx (60 :: (nm ++ (ds ++ (n.atts.take i).flatMap atE)))) ∧ ρ 42 = .slice aa n.atts.length ac ∧ ρ 43 = .int .i64 (n.atts.length : Nat) ∧ ρ 44 = .int .i64 (i : Nat) ∧ Own s ((b1, .cells nd 55 true) :: r),
    ⟨_, 0, rfl, Nat.zero_le _, h1, by rw [List.take_zero, List.flatMap_nil, List.append_nil]; exact h3, rfl, rfl, rfl, ho⟩, ?_⟩
  clear hc1 ho h1 h3 h16 h17 h18
  rintro _ ρ s ⟨i, rfl, hi, h1, h3, h42, h43, h44, ho⟩
  by_cases hil : i < n.atts.length
  case neg =>
    obtain rfl : i = n.atts.length := by omega
    rw [List.take_length] at h3
    obtain ⟨sx, hsx⟩ : ∃ sx, sx = 60 :: (nm ++ (ds ++ n.atts.flatMap atE)) := ⟨_, rfl⟩
    rw [← hsx] at h3
    have hse : 60 :: (nm ++ (ds ++ (n.atts.flatMap atE ++ [62]))) = sx ++ [62] := by rw [hsx]; simp
    rw [hse] at hk
    have c62 : astr .add (tx sx) ⟨#[62]⟩ = some (.string (tx (sx ++ [62]))) := addX (b := [62]) rfl (by rw [hsx]; simp only [List.length_cons, List.length_append, List.length_nil]; omega)
    simp -implicitDefEqProofs only [go_sem, ↓aj, ↓ah, ak, Nat.reduceBEq, ↓reduceIte, reduceCtorEq, Nat.reduceEqDiff, Nat.reduceAdd, Nat.reduceLeDiff, Int.reduceEq, Int.reduceLT, Int.reduceLE, Int.reduceAdd, Int.reduceToNat, Int.reduceNeg, Nat.reduceMul, Nat.reduceSub, Int.reduceBNe, Int.reduceBEq, h1, h3, h42, h43, h44, c62, Int.ofNat_lt, Nat.lt_irrefl, decide_false]
    exact hk _ ho.tail
  obtain ⟨a, ha⟩ : ∃ a, n.atts[i]? = some a := ⟨n.atts[i], List.getElem?_eq_getElem hil⟩
  obtain ⟨x, o, sp, c, ccs, ty, own, hvx, hmem, hcut⟩ := hA.mem (i := i) (l := attC a) (by simp [ha])
  rw [List.length_map] at hvx
  injection hvx with hvx _ hvc
  subst hvx hvc
  have hcx := ho.get (List.mem_cons_of_mem _ hmem)
  have hnx : ¬ x = s.n := ho.fresh (List.mem_cons_of_mem _ hmem)
  have hli : ((i : Int) < (n.atts.length : Int)) = True := eq_true (by omega)
  have hge : ((0 : Int) ≤ (i : Int)) = True := eq_true (by omega)
  have hon := (ho.new (.cells [.string ⟨#[]⟩, .string ⟨#[]⟩, .string ⟨#[]⟩, .string ⟨#[]⟩] 59 true)).set rfl (.cells (attC a) 59 true) rfl
  have hsetA : setL [.string ⟨#[]⟩, .string ⟨#[]⟩, .string ⟨#[]⟩, .string ⟨#[]⟩] 0 (attC a) = attC a := rfl
  have g0 : (attC a)[0]? = some (.string (tx a.pre)) := rfl
  have g1 : (attC a)[1]? = some (.string (tx a.loc)) := rfl
  have g3 : (attC a)[3]? = some (.string (tx a.val)) := rfl
  have haz := hz.att a (List.mem_of_getElem? ha)
  have hle := EJ haz
  have htu := dQ kN a.val
  have hnl' := kP a.pre a.loc
  have htk := qY (f := atE) ha
  have htl := lQ (f := atE) (l := n.atts) (i + 1)
  rw [htk, List.length_append] at htl
  obtain ⟨dn, hdn⟩ : ∃ dn, dn = bV a.pre a.loc := ⟨_, rfl⟩
  obtain ⟨u, hu⟩ : ∃ u, u = aN attE a.val := ⟨_, rfl⟩
  have hdE : atE a = 32 :: (dn ++ 61 :: 34 :: (u ++ [34])) := by unfold atE; rw [← hdn, ← hu]
  obtain ⟨d2, hd2⟩ : ∃ d2, d2 = 32 :: (dn ++ [61, 34]) := ⟨_, rfl⟩
  obtain ⟨d3, hd3⟩ : ∃ d3, d3 = d2 ++ u := ⟨_, rfl⟩
  have hd4 : d3 ++ [34] = atE a := by rw [hd3, hd2, hdE]; simp
  rw [← hdn] at hnl'
  have l3 : d3.length ≤ 9000000 := by have := congrArg List.length hd4; rw [List.length_append] at this; omega
  have l2 : d2.length ≤ 9000000 := by rw [hd3, List.length_append] at l3; omega
  have c32 : astr .add ⟨#[32]⟩ (tx dn) = some (.string (tx (32 :: dn))) := addX (a := [32]) rfl (by simp; omega)
  have c33 : astr .add (tx (32 :: dn)) ⟨#[61, 34]⟩ = some (.string (tx d2)) := addX (b := [61, 34]) (by rw [hd2]; rfl) (by omega)
  have c37 : astr .add (tx d2) (tx u) = some (.string (tx d3)) := addX hd3.symm (by omega)
  have c38 : astr .add (tx d3) ⟨#[34]⟩ = some (.string (tx (atE a))) := addX (b := [34]) hd4 (by omega)
  obtain ⟨sx, hsx⟩ : ∃ sx, sx = 60 :: (nm ++ (ds ++ (n.atts.take i).flatMap atE)) := ⟨_, rfl⟩
  have hsn : 60 :: (nm ++ (ds ++ (n.atts.take (i + 1)).flatMap atE)) = sx ++ atE a := by rw [hsx, htk]; simp
  have c39 : astr .add (tx sx) (tx (atE a)) = some (.string (tx (sx ++ atE a))) := addX rfl (by rw [hsx]; simp only [List.length_cons, List.length_append]; omega)
  rw [← hsx] at h3
  have w1 : IntKind.i64.wrap ((i : Int) + 1) = ((i + 1 : Nat) : Int) := by rw [cO (by omega)]; omega
  have hil' : i + 1 ≤ n.atts.length := hil
  simp -implicitDefEqProofs only [go_sem, ↓aj, ↓ah, ak, Nat.reduceBEq, ↓reduceIte, reduceCtorEq, Nat.reduceEqDiff, Nat.reduceAdd, Nat.reduceLeDiff, Int.reduceEq, Int.reduceLT, Int.reduceLE, Int.reduceAdd, Int.reduceToNat, Int.reduceNeg, Nat.reduceMul, Nat.reduceSub, Int.reduceBNe, Int.reduceBEq, h1, h3, h42, h43, h44, hli, hge, hcx, hcut, hnx, and_self, true_and, decide_true, Int.toNat_natCast, iO, iP, pz, bB, hsetA, Tryz.underlying52, Tryz.underlying59]
  generalize hb5 : s.n = b5 at *
  refine ⟨⟨rfl, rfl⟩, ?_⟩
  generalize hs5 : (s.new _).set _ _ = s5 at *
  have hc5 := hon.head
  refine bG.of [(0, false, []), (1, false, []), (2, false, []), (3, false, []), (4, false, []), (8, false, []), (9, true, []), (5, false, [9]), (6, false, []), (7, false, []), (10, false, []), (11, false, []), (12, false, []), (13, false, []), (14, false, [])] [9] [(9, 5)] (by kernel_rfl) ?_
  simp -implicitDefEqProofs only [go_sem, ↓aj, ↓ah, ak, Nat.reduceBEq, ↓reduceIte, reduceCtorEq, Nat.reduceEqDiff, Nat.reduceAdd, Nat.reduceLeDiff, Int.reduceEq, Int.reduceLT, Int.reduceLE, Int.reduceAdd, Int.reduceToNat, Int.reduceNeg, Nat.reduceMul, Nat.reduceSub, Int.reduceBNe, Int.reduceBEq, h1, h3, h42, h43, h44, hc5, g0, g1, g3, mX, yP, Ew, iP, asz9, Tryz.underlying59, Tryz.underlying9]
  refine au.enter Tryz.func51 rfl (by kernel_rfl) (ou s5 a.pre a.loc (by omega) _ _ ?_)
  rw [← hdn]
  simp -implicitDefEqProofs only [go_sem, ↓aj, ↓ah, ak, Nat.reduceBEq, ↓reduceIte, reduceCtorEq, Nat.reduceEqDiff, Nat.reduceAdd, Nat.reduceLeDiff, Int.reduceEq, Int.reduceLT, Int.reduceLE, Int.reduceAdd, Int.reduceToNat, Int.reduceNeg, Nat.reduceMul, Nat.reduceSub, Int.reduceBNe, Int.reduceBEq, h1, h3, h42, h43, h44, hc5, g0, g1, g3, c32, c33, mX, yP, Ew, iP, asz9, Tryz.underlying59, Tryz.underlying9]
  refine au.enter Tryz.func67 rfl (by kernel_rfl) (oq s5 _ a.val (by omega) hon _ _ fun s6 ho6 => ?_)
  rw [← hu]
  simp -implicitDefEqProofs only [go_sem, ↓aj, ↓ah, ak, Nat.reduceBEq, ↓reduceIte, reduceCtorEq, Nat.reduceEqDiff, Nat.reduceAdd, Nat.reduceLeDiff, Int.reduceEq, Int.reduceLT, Int.reduceLE, Int.reduceAdd, Int.reduceToNat, Int.reduceNeg, Nat.reduceMul, Nat.reduceSub, Int.reduceBNe, Int.reduceBEq, h1, h3, h42, h43, h44, c37, c38, c39, w1]
  have ho7 := ho6.tail
  refine ⟨n.atts.length - (i + 1), by omega, i + 1, rfl, by omega, by rw [hsn], rfl, ho7⟩
end Go.Proofs.YtigjbehgfjjlkaaGreatDoor
set_option linter.unusedVariables false
set_option linter.unusedSimpArgs false
namespace Go.Proofs.YtigjbehgfjjlkaaGreatDoor
open Go Go.Abs Go.RowKit Go.Xml
variable {base : Nat} {w0 : World} {G : Nat}
set_option maxRecDepth 10000 in
theorem BG {ns : List Nx} (hR : RtX ns) (hz : ∀ n ∈ ns, SzX n) (hbn : BndX ns) : ∀ (f i : Nat) (st : St) (r h : Hp) (b : Nat) (l : Tx) (v : Value), ns.length ≤ f + i → i < ns.length → Bld b (nb8 l) h → l.length + (bg ns f (i : Int)).length ≤ 100000000000000 → DocX r v ns → Own st (h ++ r) → ∀ (k q : Value → St → Prop),
    (∀ h' st', Bld b (nb8 (l ++ bg ns f (i : Int))) h' → Own st' (h' ++ r) → k (.tuple #[]) st') → ay (C base w0 G) 30 [.pointer (some ⟨b, 0, none⟩), .agg #[v], .int .i64 (i : Nat)] st k q := by
  intro f
  induction f with
  | zero => intro i st r h b l v h1 h2; omega
  | succ f ih =>
  intro i st r h b l v hfi hil hB hlim hD hO k q hk
  obtain ⟨n, hn⟩ : ∃ n, ns[i]? = some n := ⟨ns[i], List.getElem?_eq_getElem hil⟩
  obtain ⟨x, o, sp, c, ccs, ty, own, kv, av, dv, hvx, hmem, hcut, hget, hnr⟩ := hD.at hn
  subst hvx
  have hwx : bg ns (f + 1) (i : Int) = if n.kind = 2 ∨ n.kind = 3 ∨ n.kind = 4 then dZ n else dP n ++ (n.kids.flatMap (bg ns f) ++ endE n) := by rw [fu, iG, hn]
  rw [hwx] at hk hlim
  refine ay.of (cx := C base w0 G) mixed Tryz.func30 rfl (by kernel_rfl) (by simp [Tryz.ntmps30]) ?_
  simp only [Tryz.results30]
  have ho1 := hO.new (.cells [.slice (some ⟨x, o, sp⟩) ns.length c] 24 true)
  have hcx := hO.get (List.mem_append_right h hmem)
  have hnx : ¬ x = st.n := hO.fresh (List.mem_append_right h hmem)
  have hcx1 := ho1.get (List.mem_cons_of_mem _ (List.mem_append_right h hmem))
  have hnx1 : ¬ x = st.n + 1 := by have := ho1.fresh (List.mem_cons_of_mem _ (List.mem_append_right h hmem)); rwa [Eo] at this
  have hli : ((i : Int) < (ns.length : Int)) = True := eq_true (by omega)
  have hge : ((0 : Int) ≤ (i : Int)) = True := eq_true (by omega)
  have hon := (ho1.new (.cells [.int .i64 0, .int .i64 0, .slice none 0 0, .string ⟨#[]⟩, .string ⟨#[]⟩, .string ⟨#[]⟩, .slice none 0 0, .slice none 0 0, .string ⟨#[]⟩] 55 true)).set rfl (.cells (ndX n kv av dv) 55 true) rfl
  rw [Eo] at hon
  have hsetN : setL [.int .i64 0, .int .i64 0, .slice none 0 0, .string ⟨#[]⟩, .string ⟨#[]⟩, .string ⟨#[]⟩, .slice none 0 0, .slice none 0 0, .string ⟨#[]⟩] 0 (ndX n kv av dv) = ndX n kv av dv := rfl
  have hcl : cut [Value.slice (some ⟨x, o, sp⟩) ns.length c] 0 1 = some [Value.slice (some ⟨x, o, sp⟩) ns.length c] := rfl
  simp -implicitDefEqProofs only [go_sem, ↓aj, ↓ah, ak, Nat.reduceBEq, ↓reduceIte, reduceCtorEq, Nat.reduceEqDiff, Nat.reduceAdd, Nat.reduceLeDiff, Int.reduceEq, Int.reduceLT, Int.reduceLE, Int.reduceAdd, Int.reduceToNat, Int.reduceNeg, Nat.reduceMul, Nat.reduceSub, Int.reduceBNe, Int.reduceBEq, abox, hcl, hcx, hnx, hcut, hnx1, hli, hge, and_self, true_and, decide_true, Int.toNat_natCast, gT, eT, aU, nH, bB, hsetN, jg, Tryz.underlying24, Tryz.underlying22, Tryz.underlying55, Option.map_some]
  generalize hs2 : (St.set _ _ _) = s2 at *
  generalize hbn' : st.n + 1 = bn at *
  generalize hbd : st.n = bd at *
  obtain ⟨ka, kc, hkv1, _⟩ := hnr.kid.isSlice
  obtain ⟨aa, ac, hav1, _⟩ := hnr.att.isSlice
  obtain ⟨da, dc, hdv1, _⟩ := hnr.dcl.isSlice
  refine ⟨⟨rfl, by rw [hkv1, hav1, hdv1]; rfl⟩, ?_⟩
  clear ho1 hcx hnx hcx1 hnx1 hli hge hsetN hget hcut hs2
  have ho2 := (hon.perm ((List.Perm.cons _ (aJ h _ r).symm).trans (aJ h _ _).symm))
  clear hon
  have hcn := ho2.get (b := bn) (o := .cells (ndX n kv av dv) 55 true) (by simp)
  have f0 : (ndX n kv av dv)[0]? = some (.int .i64 n.kind) := rfl
  have f3 : (ndX n kv av dv)[3]? = some (.string (tx n.pre)) := rfl
  have f4 : (ndX n kv av dv)[4]? = some (.string (tx n.loc)) := rfl
  have f8 : (ndX n kv av dv)[8]? = some (.string (tx n.val)) := rfl
  have f2 : (ndX n kv av dv)[2]? = some kv := rfl
  have hzn := hz n (List.mem_of_getElem? hn)
  have z1 := hzn.pre
  have z2 := hzn.loc
  have z3 := hzn.val
  have htl := dQ qc n.val
  have hnl := kP n.pre n.loc
  by_cases hk2 : n.kind = 2
  · have t2 : (n.kind == 2) = true := by rw [hk2]; rfl
    have hl : dZ n = aN texE n.val := by unfold dZ; rw [if_pos hk2]
    rw [if_pos (.inl hk2), hl] at hk hlim
    simp -implicitDefEqProofs only [go_sem, ↓aj, ↓ah, ak, Nat.reduceBEq, ↓reduceIte, reduceCtorEq, Nat.reduceEqDiff, Nat.reduceAdd, Nat.reduceLeDiff, Int.reduceEq, Int.reduceLT, Int.reduceLE, Int.reduceAdd, Int.reduceToNat, Int.reduceNeg, Nat.reduceMul, Nat.reduceSub, Int.reduceBNe, Int.reduceBEq, f0, fD, asz3, Tryz.underlying3, t2, hcn, f8, aU, asz9, mW, Tryz.underlying55, Tryz.underlying9]
    refine au.enter Tryz.func49 rfl (by kernel_rfl) (DR s2 _ n.val (by omega) ho2 _ _ fun s3 ho3 => ?_)
    simp -implicitDefEqProofs only [go_sem, ↓aj, ↓ah, ak, Nat.reduceBEq, ↓reduceIte, reduceCtorEq, Nat.reduceEqDiff, Nat.reduceAdd, Nat.reduceLeDiff, Int.reduceEq, Int.reduceLT, Int.reduceLE, Int.reduceAdd, Int.reduceToNat, Int.reduceNeg, Nat.reduceMul, Nat.reduceSub, Int.reduceBNe, Int.reduceBEq]
    refine au.enter Tryz.func48 rfl (by kernel_rfl) (dI s3 _ h b l _ hB (by omega) ho3 _ _ fun h' s4 hB4 ho4 => ?_)
    simp -implicitDefEqProofs only [go_sem, ↓aj, ↓ah, ak, Nat.reduceBEq, ↓reduceIte, reduceCtorEq, Nat.reduceEqDiff, Nat.reduceAdd, Nat.reduceLeDiff, Int.reduceEq, Int.reduceLT, Int.reduceLE, Int.reduceAdd, Int.reduceToNat, Int.reduceNeg, Nat.reduceMul, Nat.reduceSub, Int.reduceBNe, Int.reduceBEq]
    exact hk h' _ hB4 (ho4.perm ((aJ h' _ _).trans (List.Perm.cons _ (aJ h' _ r)))).tail.tail
  have t2 : (n.kind == 2) = false := beq_eq_false_iff_ne.2 hk2
  by_cases hk3 : n.kind = 3
  · have t3 : (n.kind == 3) = true := by rw [hk3]; rfl
    have hl : dZ n = [60, 33, 45, 45] ++ (n.val ++ [45, 45, 62]) := by unfold dZ; rw [if_neg hk2, if_pos hk3]
    obtain ⟨u, hu⟩ : ∃ u, u = [60, 33, 45, 45] ++ n.val := ⟨_, rfl⟩
    rw [if_pos (.inr (.inl hk3)), hl, show [60, 33, 45, 45] ++ (n.val ++ [45, 45, 62]) = u ++ [45, 45, 62] by rw [hu, List.append_assoc]] at hk hlim
    rw [List.length_append] at hlim
    have a1 : astr .add ⟨#[60, 33, 45, 45]⟩ (tx n.val) = some (.string (tx u)) := addX (a := [60, 33, 45, 45]) hu.symm (by omega)
    have a2 : astr .add (tx u) ⟨#[45, 45, 62]⟩ = some (.string (tx (u ++ [45, 45, 62]))) := addX (b := [45, 45, 62]) rfl (by rw [List.length_append]; omega)
    simp -implicitDefEqProofs only [go_sem, ↓aj, ↓ah, ak, Nat.reduceBEq, ↓reduceIte, reduceCtorEq, Nat.reduceEqDiff, Nat.reduceAdd, Nat.reduceLeDiff, Int.reduceEq, Int.reduceLT, Int.reduceLE, Int.reduceAdd, Int.reduceToNat, Int.reduceNeg, Nat.reduceMul, Nat.reduceSub, Int.reduceBNe, Int.reduceBEq, f0, fD, asz3, Tryz.underlying3, t2, t3, a1, a2, hcn, f8, aU, asz9, mW, Tryz.underlying55, Tryz.underlying9]
    refine au.enter Tryz.func48 rfl (by kernel_rfl) (dI s2 _ h b l _ hB (by rw [List.length_append]; omega) ho2 _ _ fun h' s4 hB4 ho4 => ?_)
    simp -implicitDefEqProofs only [go_sem, ↓aj, ↓ah, ak, Nat.reduceBEq, ↓reduceIte, reduceCtorEq, Nat.reduceEqDiff, Nat.reduceAdd, Nat.reduceLeDiff, Int.reduceEq, Int.reduceLT, Int.reduceLE, Int.reduceAdd, Int.reduceToNat, Int.reduceNeg, Nat.reduceMul, Nat.reduceSub, Int.reduceBNe, Int.reduceBEq]
    exact hk h' _ hB4 (ho4.perm ((aJ h' _ _).trans (List.Perm.cons _ (aJ h' _ r)))).tail.tail
  have t3 : (n.kind == 3) = false := beq_eq_false_iff_ne.2 hk3
  by_cases hk4 : n.kind = 4
  · have t4 : (n.kind == 4) = true := by rw [hk4]; rfl
    have hl : dZ n = [60, 63] ++ (n.loc ++ ((if n.val = [] then [] else 32 :: n.val) ++ [63, 62])) := by unfold dZ; rw [if_neg hk2, if_neg hk3]
    rw [if_pos (.inr (.inr hk4)), hl] at hk hlim
    simp only [List.length_append] at hlim
    obtain ⟨u, hu⟩ : ∃ u, u = [60, 63] ++ n.loc := ⟨_, rfl⟩
    have hul : u.length = 2 + n.loc.length := by rw [hu]; simp; omega
    have e2 : ([60, 63] : Tx).length = 2 := rfl
    have e2' : ([63, 62] : Tx).length = 2 := rfl
    have a1 : astr .add ⟨#[60, 63]⟩ (tx n.loc) = some (.string (tx u)) := addX (a := [60, 63]) hu.symm (by omega)
    have hen : astr .neq (tx n.val) ⟨#[]⟩ = some (.bool (!decide (n.val = []))) := dx n.val []
    have e63 : (⟨#[63, 62]⟩ : ByteArray) = tx [63, 62] := rfl
    simp -implicitDefEqProofs only [go_sem, ↓aj, ↓ah, ak, Nat.reduceBEq, ↓reduceIte, reduceCtorEq, Nat.reduceEqDiff, Nat.reduceAdd, Nat.reduceLeDiff, Int.reduceEq, Int.reduceLT, Int.reduceLE, Int.reduceAdd, Int.reduceToNat, Int.reduceNeg, Nat.reduceMul, Nat.reduceSub, Int.reduceBNe, Int.reduceBEq, f0, fD, asz3, Tryz.underlying3, t2, t3, t4, a1, hcn, f4, aU, asz9, pq, Tryz.underlying55, Tryz.underlying9]
    refine au.enter Tryz.func48 rfl (by kernel_rfl) (dI s2 _ h b l u hB (by omega) ho2 _ _ fun h' s4 hB4 ho4 => ?_)
    have hcn4 := ho4.get (b := bn) (o := .cells (ndX n kv av dv) 55 true) (by simp)
    by_cases hve : n.val = []
    · rw [decide_eq_true hve] at hen
      rw [if_pos hve] at hk hlim
      simp -implicitDefEqProofs only [go_sem, ↓aj, ↓ah, ak, Nat.reduceBEq, ↓reduceIte, reduceCtorEq, Nat.reduceEqDiff, Nat.reduceAdd, Nat.reduceLeDiff, Int.reduceEq, Int.reduceLT, Int.reduceLE, Int.reduceAdd, Int.reduceToNat, Int.reduceNeg, Nat.reduceMul, Nat.reduceSub, Int.reduceBNe, Int.reduceBEq, hen, hcn4, f8, e63, aU, asz9, mW, Tryz.underlying55, Tryz.underlying9]
      refine au.enter Tryz.func48 rfl (by kernel_rfl) (dI s4 _ h' b (l ++ u) [63, 62] hB4 (by rw [List.length_append]; omega) ho4 _ _ fun h5 s5 hB5 ho5 => ?_)
      simp -implicitDefEqProofs only [go_sem, ↓aj, ↓ah, ak, Nat.reduceBEq, ↓reduceIte, reduceCtorEq, Nat.reduceEqDiff, Nat.reduceAdd, Nat.reduceLeDiff, Int.reduceEq, Int.reduceLT, Int.reduceLE, Int.reduceAdd, Int.reduceToNat, Int.reduceNeg, Nat.reduceMul, Nat.reduceSub, Int.reduceBNe, Int.reduceBEq]
      exact hk h5 _ (by rw [hu] at hB5; simpa using hB5) (ho5.perm ((aJ h5 _ _).trans (List.Perm.cons _ (aJ h5 _ r)))).tail.tail
    · rw [decide_eq_false hve] at hen
      rw [if_neg hve] at hk hlim
      simp only [List.length_cons] at hlim
      have a3 : astr .add ⟨#[32]⟩ (tx n.val) = some (.string (tx (32 :: n.val))) := addX (a := [32]) rfl (by simp; omega)
      simp -implicitDefEqProofs only [go_sem, ↓aj, ↓ah, ak, Nat.reduceBEq, ↓reduceIte, reduceCtorEq, Nat.reduceEqDiff, Nat.reduceAdd, Nat.reduceLeDiff, Int.reduceEq, Int.reduceLT, Int.reduceLE, Int.reduceAdd, Int.reduceToNat, Int.reduceNeg, Nat.reduceMul, Nat.reduceSub, Int.reduceBNe, Int.reduceBEq, hen, a3, hcn4, f8, e63, aU, asz9, mW, Tryz.underlying55, Tryz.underlying9]
      refine au.enter Tryz.func48 rfl (by kernel_rfl) (dI s4 _ h' b (l ++ u) (32 :: n.val) hB4 (by simp only [List.length_append, List.length_cons]; omega) ho4 _ _ fun h6 s6 hB6 ho6 => ?_)
      simp -implicitDefEqProofs only [go_sem, ↓aj, ↓ah, ak, Nat.reduceBEq, ↓reduceIte, reduceCtorEq, Nat.reduceEqDiff, Nat.reduceAdd, Nat.reduceLeDiff, Int.reduceEq, Int.reduceLT, Int.reduceLE, Int.reduceAdd, Int.reduceToNat, Int.reduceNeg, Nat.reduceMul, Nat.reduceSub, Int.reduceBNe, Int.reduceBEq, e63]
      refine au.enter Tryz.func48 rfl (by kernel_rfl) (dI s6 _ h6 b (l ++ u ++ (32 :: n.val)) [63, 62] hB6 (by simp only [List.length_append, List.length_cons]; omega) ho6 _ _ fun h5 s5 hB5 ho5 => ?_)
      simp -implicitDefEqProofs only [go_sem, ↓aj, ↓ah, ak, Nat.reduceBEq, ↓reduceIte, reduceCtorEq, Nat.reduceEqDiff, Nat.reduceAdd, Nat.reduceLeDiff, Int.reduceEq, Int.reduceLT, Int.reduceLE, Int.reduceAdd, Int.reduceToNat, Int.reduceNeg, Nat.reduceMul, Nat.reduceSub, Int.reduceBNe, Int.reduceBEq]
      exact hk h5 _ (by rw [hu] at hB5; simpa using hB5) (ho5.perm ((aJ h5 _ _).trans (List.Perm.cons _ (aJ h5 _ r)))).tail.tail
  have t4 : (n.kind == 4) = false := beq_eq_false_iff_ne.2 hk4
  rw [if_neg (by omega)] at hk hlim
  simp only [List.length_append] at hlim
  have hsn := vv hzn
  have hcut9 := iI (ndX n kv av dv)
  rw [show (ndX n kv av dv).length = 9 from rfl] at hcut9
  have hN2 : NdX (h ++ ((bn, Ob.cells (ndX n kv av dv) 55 true) :: (bd, .cells [.slice (some ⟨x, o, sp⟩) ns.length c] 24 true) :: r)) n kv av dv := hnr.sub fun e he => List.mem_append_right _ (List.mem_cons_of_mem _ (List.mem_cons_of_mem _ he))
  simp -implicitDefEqProofs only [go_sem, ↓aj, ↓ah, ak, Nat.reduceBEq, ↓reduceIte, reduceCtorEq, Nat.reduceEqDiff, Nat.reduceAdd, Nat.reduceLeDiff, Int.reduceEq, Int.reduceLT, Int.reduceLE, Int.reduceAdd, Int.reduceToNat, Int.reduceNeg, Nat.reduceMul, Nat.reduceSub, Int.reduceBNe, Int.reduceBEq, f0, fD, asz3, Tryz.underlying3, t2, t3, t4, hcn, hcut9, aU, Tryz.underlying55, Option.map_some]
  refine au.enter Tryz.func50 rfl (by kernel_rfl) (BF s2 _ n kv av dv hN2 hzn ho2 _ _ fun s3 ho3 => ?_)
  simp -implicitDefEqProofs only [go_sem, ↓aj, ↓ah, ak, Nat.reduceBEq, ↓reduceIte, reduceCtorEq, Nat.reduceEqDiff, Nat.reduceAdd, Nat.reduceLeDiff, Int.reduceEq, Int.reduceLT, Int.reduceLE, Int.reduceAdd, Int.reduceToNat, Int.reduceNeg, Nat.reduceMul, Nat.reduceSub, Int.reduceBNe, Int.reduceBEq]
  refine au.enter Tryz.func48 rfl (by kernel_rfl) (dI s3 _ h b l _ hB (by omega) ho3 _ _ fun h4 s4 hB4 ho4 => ?_)
  have hcn4 := ho4.get (b := bn) (o := .cells (ndX n kv av dv) 55 true) (by simp)
  subst hkv1
  simp only [List.length_map] at *
  simp -implicitDefEqProofs only [go_sem, ↓aj, ↓ah, ak, Nat.reduceBEq, ↓reduceIte, reduceCtorEq, Nat.reduceEqDiff, Nat.reduceAdd, Nat.reduceLeDiff, Int.reduceEq, Int.reduceLT, Int.reduceLE, Int.reduceAdd, Int.reduceToNat, Int.reduceNeg, Nat.reduceMul, Nat.reduceSub, Int.reduceBNe, Int.reduceBEq, hcn4, f2, aU, iM, kZ, Tryz.underlying55, Tryz.underlying47]
  have hkb : n.kids.length ≤ 1000000 := (hbn.2 n (List.mem_of_getElem? hn)).2.2
  have hKR : Rws r (.slice ka n.kids.length kc) 1 (n.kids.map fun k => [Value.int .i64 k]) := hnr.kid
  generalize hnd : ndX n (.slice ka n.kids.length kc) av dv = nd at *
  obtain ⟨sx, hsx⟩ : ∃ sx, sx = l ++ dP n := ⟨_, rfl⟩
  refine ⟨fun m ρ s => ∃ (j : Nat) (h' : Hp), m = n.kids.length - j ∧ j ≤ n.kids.length ∧ ρ 0 = .pointer (some ⟨b, 0, none⟩) ∧ ρ 4 = .pointer (some ⟨bd, 0, none⟩) ∧ ρ 6 = .pointer (some ⟨bn, 0, none⟩) ∧ ρ 21 = .slice ka n.kids.length kc ∧ ρ 22 = .int .i64 (n.kids.length : Nat) ∧ ρ 23 = .int .i64 (j : Nat) ∧ Bld b (nb8 (sx ++ (n.kids.take j).flatMap (bg ns f))) h' ∧ Own s (h' ++ ((bn, .cells nd 55 true) :: (bd, .cells [.slice (some ⟨x, o, sp⟩) ns.length c] 24 true) :: r)),
    ⟨_, 0, h4, rfl, Nat.zero_le _, rfl, rfl, rfl, rfl, rfl, rfl, by rw [List.take_zero, List.flatMap_nil, List.append_nil, hsx]; exact hB4, ho4⟩, ?_⟩
  clear hcn4 ho4 hB4 hB ho2 ho3 hN2
  rintro _ ρ s ⟨j, h', rfl, hj, h0, h4', h6, h21, h22, h23, hB, ho⟩
  have hcn := ho.get (b := bn) (o := .cells nd 55 true) (by simp)
  have hcd := ho.get (b := bd) (o := .cells [.slice (some ⟨x, o, sp⟩) ns.length c] 24 true) (by simp)
  have hle : endE n = 60 :: 47 :: (bV n.pre n.loc ++ [62]) := rfl
  have hle' : (endE n).length = (bV n.pre n.loc).length + 3 := by rw [hle]; simp
  by_cases hjl : j < n.kids.length
  case neg =>
    obtain rfl : j = n.kids.length := by omega
    rw [List.take_length] at hB
    obtain ⟨nm, hnm⟩ : ∃ nm, nm = bV n.pre n.loc := ⟨_, rfl⟩
    rw [← hnm] at hle' hnl
    have c1 : astr .add ⟨#[60, 47]⟩ (tx nm) = some (.string (tx (60 :: 47 :: nm))) := addX (a := [60, 47]) rfl (by simp; omega)
    have c2 : astr .add (tx (60 :: 47 :: nm)) ⟨#[62]⟩ = some (.string (tx (endE n))) := addX (b := [62]) (by rw [hle, ← hnm]; rfl) (by omega)
    simp -implicitDefEqProofs only [go_sem, ↓aj, ↓ah, ak, Nat.reduceBEq, ↓reduceIte, reduceCtorEq, Nat.reduceEqDiff, Nat.reduceAdd, Nat.reduceLeDiff, Int.reduceEq, Int.reduceLT, Int.reduceLE, Int.reduceAdd, Int.reduceToNat, Int.reduceNeg, Nat.reduceMul, Nat.reduceSub, Int.reduceBNe, Int.reduceBEq, h0, h4', h6, h21, h22, h23, hcn, f3, f4, Int.ofNat_lt, Nat.lt_irrefl, decide_false, aU, asz9, o9, pq, Tryz.underlying55, Tryz.underlying9]
    refine au.enter Tryz.func51 rfl (by kernel_rfl) (ou s n.pre n.loc (by omega) _ _ ?_)
    rw [← hnm]
    simp -implicitDefEqProofs only [go_sem, ↓aj, ↓ah, ak, Nat.reduceBEq, ↓reduceIte, reduceCtorEq, Nat.reduceEqDiff, Nat.reduceAdd, Nat.reduceLeDiff, Int.reduceEq, Int.reduceLT, Int.reduceLE, Int.reduceAdd, Int.reduceToNat, Int.reduceNeg, Nat.reduceMul, Nat.reduceSub, Int.reduceBNe, Int.reduceBEq, c1, c2]
    refine au.enter Tryz.func48 rfl (by kernel_rfl) (dI s _ h' b _ (endE n) hB (by rw [hsx]; simp only [List.length_append]; omega) ho _ _ fun h5 s5 hB5 ho5 => ?_)
    simp -implicitDefEqProofs only [go_sem, ↓aj, ↓ah, ak, Nat.reduceBEq, ↓reduceIte, reduceCtorEq, Nat.reduceEqDiff, Nat.reduceAdd, Nat.reduceLeDiff, Int.reduceEq, Int.reduceLT, Int.reduceLE, Int.reduceAdd, Int.reduceToNat, Int.reduceNeg, Nat.reduceMul, Nat.reduceSub, Int.reduceBNe, Int.reduceBEq]
    exact hk h5 _ (by rw [hsx] at hB5; simpa using hB5) (ho5.perm ((aJ h5 _ _).trans (List.Perm.cons _ (aJ h5 _ r)))).tail.tail
  obtain ⟨kk, hkk⟩ : ∃ kk, n.kids[j]? = some kk := ⟨n.kids[j], List.getElem?_eq_getElem hjl⟩
  obtain ⟨kj, m, rfl, hij, hkl, hm, hmp⟩ := hR.DN hn (List.mem_of_getElem? hkk)
  obtain ⟨x', o', sp', c', ccs', ty', own', hvx', hmem', hcut'⟩ := hKR.mem (i := j) (l := [.int .i64 (kj : Nat)]) (by simp [hkk])
  rw [List.length_map] at hvx'
  injection hvx' with hvx' _ hvc'
  subst hvx' hvc'
  have hcx := ho.get (List.mem_append_right h' (List.mem_cons_of_mem _ (List.mem_cons_of_mem _ hmem')))
  have q0 := eF hcut' (show 0 < 1 by decide)
  simp only [Nat.mul_one, Nat.add_zero, List.getElem?_cons_zero] at q0
  have hli : ((j : Int) < (n.kids.length : Int)) = True := eq_true (by omega)
  have hge : ((0 : Int) ≤ (j : Int)) = True := eq_true (by omega)
  have htk := qY (f := bg ns f) hkk
  have htl := lQ (f := bg ns f) (l := n.kids) (j + 1)
  rw [htk, List.length_append] at htl
  have w1 : IntKind.i64.wrap ((j : Int) + 1) = ((j + 1 : Nat) : Int) := by rw [cO (by omega)]; omega
  have hcl' : cut [Value.slice (some ⟨x, o, sp⟩) ns.length c] 0 1 = some [Value.slice (some ⟨x, o, sp⟩) ns.length c] := rfl
  simp -implicitDefEqProofs only [go_sem, ↓aj, ↓ah, ak, Nat.reduceBEq, ↓reduceIte, reduceCtorEq, Nat.reduceEqDiff, Nat.reduceAdd, Nat.reduceLeDiff, Int.reduceEq, Int.reduceLT, Int.reduceLE, Int.reduceAdd, Int.reduceToNat, Int.reduceNeg, Nat.reduceMul, Nat.reduceSub, Int.reduceBNe, Int.reduceBEq, h0, h4', h6, h21, h22, h23, hli, hge, hcx, hcd, hcl', q0, and_self, true_and, decide_true, Int.toNat_natCast, Nat.mul_one, iM, asz3, gT, Tryz.underlying47, Tryz.underlying3, Tryz.underlying24, Option.map_some]
  have hD' : DocX ((bn, Ob.cells nd 55 true) :: (bd, .cells [.slice (some ⟨x, o, sp⟩) ns.length c] 24 true) :: r) (.slice (some ⟨x, o, sp⟩) ns.length c) ns := hD.sub fun e he => List.mem_cons_of_mem _ (List.mem_cons_of_mem _ he)
  refine au.enter Tryz.func30 rfl (by kernel_rfl) (ih kj s _ h' b _ _ (by omega) hkl hB (by rw [hsx]; simp only [List.length_append]; omega) hD' ho _ _ fun h5 s5 hB5 ho5 => ?_)
  simp -implicitDefEqProofs only [go_sem, ↓aj, ↓ah, ak, Nat.reduceBEq, ↓reduceIte, reduceCtorEq, Nat.reduceEqDiff, Nat.reduceAdd, Nat.reduceLeDiff, Int.reduceEq, Int.reduceLT, Int.reduceLE, Int.reduceAdd, Int.reduceToNat, Int.reduceNeg, Nat.reduceMul, Nat.reduceSub, Int.reduceBNe, Int.reduceBEq, h0, h4', h6, h21, h22, h23, w1]
  rw [List.append_assoc, ← htk] at hB5
  refine ⟨n.kids.length - (j + 1), by omega, j + 1, h5, rfl, by omega, rfl, hB5, ho5⟩
set_option maxRecDepth 10000 in
theorem jV (st : St) (r : Hp) (v : Value) (ns : List Nx) (hD : DocX r v ns) (hb : BndX ns) (hz : ∀ n ∈ ns, SzX n) (hlim : ∀ n ∈ ns, ns.length * ownE n ≤ 100000000000000) (hO : Own st r) (k q : Value → St → Prop)
    (hk : ∀ st', Own st' r → k (.tuple (if bP ns then #[.string (tx (bg ns ns.length 0)), .int .i64 0] else #[.string ⟨#[]⟩, .int .i64 2])) st') : ay (C base w0 G) 9 [.agg #[v]] st k q := by
  obtain ⟨va, vc, hva⟩ := hD.isSlice
  subst hva
  refine ay.of (cx := C base w0 G) mixed Tryz.func9 rfl (by kernel_rfl) (by simp [Tryz.ntmps9]) ?_
  simp only [Tryz.results9]
  have ho1 := hO.new (.cells [.slice va ns.length vc] 24 true)
  have hD1 := hD.sub (H' := (st.n, Ob.cells [.slice va ns.length vc] 24 true) :: r) fun e he => List.mem_cons_of_mem _ he
  have hcl : cut [Value.slice va ns.length vc] 0 1 = some [Value.slice va ns.length vc] := rfl
  simp -implicitDefEqProofs only [go_sem, ↓aj, ↓ah, ak, Nat.reduceBEq, ↓reduceIte, reduceCtorEq, Nat.reduceEqDiff, Nat.reduceAdd, Nat.reduceLeDiff, Int.reduceEq, Int.reduceLT, Int.reduceLE, Int.reduceAdd, Int.reduceToNat, Int.reduceNeg, Nat.reduceMul, Nat.reduceSub, Int.reduceBNe, Int.reduceBEq, abox, hcl, gT, Tryz.underlying24, Option.map_some]
  refine au.enter Tryz.func13 rfl (by kernel_rfl) (vo _ _ _ ns hD1 hb ho1 _ _ fun s1 ho1' => ?_)
  have hc1 := ho1'.head
  cases he : bP ns with
  | false =>
    rw [he] at hk
    simp -implicitDefEqProofs only [go_sem, ↓aj, ↓ah, ak, Nat.reduceBEq, ↓reduceIte, reduceCtorEq, Nat.reduceEqDiff, Nat.reduceAdd, Nat.reduceLeDiff, Int.reduceEq, Int.reduceLT, Int.reduceLE, Int.reduceAdd, Int.reduceToNat, Int.reduceNeg, Nat.reduceMul, Nat.reduceSub, Int.reduceBNe, Int.reduceBEq, hc1]
    exact hk _ ho1'.tail
  | true =>
    rw [he, if_pos rfl] at hk
    have hR := RtX.of he
    have hw : (bg ns ns.length 0).length ≤ 100000000000000 := by
      obtain ⟨t, ht, _⟩ := hR.top
      have hlen : 0 < ns.length := by
        rcases Nat.lt_or_ge 0 ns.length with h | h
        · exact h
        · rw [List.getElem?_eq_none h] at ht; cases ht
      refine Nat.le_trans (Gc hR (b := 100000000000000 / ns.length) fun n hn => ?_) (Nat.mul_div_le _ _)
      rw [Nat.le_div_iff_mul_le hlen, Nat.mul_comm]
      exact hlim n hn
    have hlen : 0 < ns.length := by
      obtain ⟨t, ht, _⟩ := hR.top
      rcases Nat.lt_or_ge 0 ns.length with h | h
      · exact h
      · rw [List.getElem?_eq_none h] at ht; cases ht
    have hob := ho1'.new (.cells [.pointer none, .slice none 0 0] 64 true)
    have hnb : ¬ st.n = s1.n := ho1'.iE
    simp -implicitDefEqProofs only [go_sem, ↓aj, ↓ah, ak, Nat.reduceBEq, ↓reduceIte, reduceCtorEq, Nat.reduceEqDiff, Nat.reduceAdd, Nat.reduceLeDiff, Int.reduceEq, Int.reduceLT, Int.reduceLE, Int.reduceAdd, Int.reduceToNat, Int.reduceNeg, Nat.reduceMul, Nat.reduceSub, Int.reduceBNe, Int.reduceBEq, hc1, hnb, hcl, bB, Ey, gT, Tryz.underlying24, Option.map_some]
    generalize hs2 : (St.new s1 _) = s2 at *
    generalize hb' : s1.n = b at *
    refine au.enter Tryz.func30 rfl (by kernel_rfl) (BG hR hz hb ns.length 0 s2 _ [(b, .cells [.pointer none, .slice none 0 0] 64 true)] b [] _ (by omega) hlen (Bld.new b) (by simpa using hw) hD1 hob _ _ fun h3 s3 hB3 ho3 => ?_)
    rw [List.nil_append] at hB3
    simp -implicitDefEqProofs only [go_sem, ↓aj, ↓ah, ak, Nat.reduceBEq, ↓reduceIte, reduceCtorEq, Nat.reduceEqDiff, Nat.reduceAdd, Nat.reduceLeDiff, Int.reduceEq, Int.reduceLT, Int.reduceLE, Int.reduceAdd, Int.reduceToNat, Int.reduceNeg, Nat.reduceMul, Nat.reduceSub, Int.reduceBNe, Int.reduceBEq]
    refine au.enter Tryz.func31 rfl (by kernel_rfl) (qg s3 _ h3 b _ hB3 hw ho3 _ _ fun s4 ho4 => ?_)
    simp -implicitDefEqProofs only [go_sem, ↓aj, ↓ah, ak, Nat.reduceBEq, ↓reduceIte, reduceCtorEq, Nat.reduceEqDiff, Nat.reduceAdd, Nat.reduceLeDiff, Int.reduceEq, Int.reduceLT, Int.reduceLE, Int.reduceAdd, Int.reduceToNat, Int.reduceNeg, Nat.reduceMul, Nat.reduceSub, Int.reduceBNe, Int.reduceBEq]
    exact hk _ ho4.tail
end Go.Proofs.YtigjbehgfjjlkaaGreatDoor
