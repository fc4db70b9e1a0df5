/- Texts of good characters, cut and turned (plain). -/
import Derived.Test.YtigjbehgfjjlkaaGreatDoorXmGG
import Derived.Test.YtigjbehgfjjlkaaGreatDoorTrGB
set_option linter.unusedVariables false
set_option linter.unusedSimpArgs false
namespace Go.Proofs.YtigjbehgfjjlkaaGreatDoor
open Go Go.Abs Go.Xml
theorem nA {c : Nat} (h : c < 128) : utf8 c = [UInt8.ofNat c] := by unfold utf8; rw [if_pos h]
theorem sM {c : Nat} (h : 128 ≤ c) (hc : dJ c = true) : ∀ x ∈ utf8 c, 128 ≤ x.toNat := by
  have := xu hc
  unfold utf8
  rw [if_neg (by omega)]
  intro x hx
  split at hx
  · simp only [List.mem_cons, List.not_mem_nil, or_false] at hx
    rcases hx with rfl | rfl <;> rw [UInt8.toNat_ofNat'] <;> omega
  split at hx
  · simp only [List.mem_cons, List.not_mem_nil, or_false] at hx
    rcases hx with rfl | rfl | rfl <;> rw [UInt8.toNat_ofNat'] <;> omega
  · simp only [List.mem_cons, List.not_mem_nil, or_false] at hx
    rcases hx with rfl | rfl | rfl | rfl <;> rw [UInt8.toNat_ofNat'] <;> omega
theorem Good.cut {l : Tx} (h : Good l) : ∀ {a b : Tx} {x : UInt8}, l = a ++ x :: b → x.toNat < 128 → Good a ∧ Good b ∧ dJ x.toNat = true := by
  induction h with
  | nil => intro a b x e; simp at e
  | @cons c l hc hl ih =>
    intro a b x e hx
    by_cases h8 : c < 128
    · rw [nA h8, List.cons_append, List.nil_append] at e
      cases a with
      | nil =>
        rw [List.nil_append] at e
        injection e with e1 e2
        subst e1 e2
        refine ⟨.nil, hl, ?_⟩
        rw [UInt8.toNat_ofNat', Nat.mod_eq_of_lt (by omega)]
        exact hc
      | cons y a =>
        rw [List.cons_append] at e
        injection e with e1 e2
        obtain ⟨h1, h2, h3⟩ := ih e2 hx
        refine ⟨?_, h2, h3⟩
        have := Good.cons hc h1
        rw [nA h8, e1] at this
        exact this
    · have hh := sM (Nat.le_of_not_lt h8) hc
      rcases List.append_eq_append_iff.1 e with ⟨a', h1, h2⟩ | ⟨c', h1, h2⟩
      · obtain ⟨g1, g2, g3⟩ := ih h2 hx
        exact ⟨by rw [h1]; exact .cons hc g1, g2, g3⟩
      · cases c' with
        | nil =>
          rw [List.nil_append] at h2
          obtain ⟨g1, g2, g3⟩ := ih (a := []) h2.symm hx
          rw [List.append_nil] at h1
          refine ⟨?_, g2, g3⟩
          have := Good.cons hc Good.nil
          rw [List.append_nil, h1] at this
          exact this
        | cons y c' =>
          rw [List.cons_append] at h2
          injection h2 with e1 e2
          have := hh x (by rw [h1, e1]; simp)
          omega
theorem Good.KC {x : UInt8} {b : Tx} (h : Good (x :: b)) (hx : x.toNat < 128) : Good b := (h.cut (a := []) rfl hx).2.1
def Sfx (s s' : Tx) : Prop := ∃ a, s = a ++ s' ∧ ∀ x ∈ a, x.toNat < 128
theorem Good.sfx {s s' : Tx} (h : Good s) (hs : Sfx s s') : Good s' := by
  obtain ⟨a, rfl, ha⟩ := hs
  induction a with
  | nil => exact h
  | cons x a ih => exact ih (fun y hy => ha y (List.mem_cons_of_mem _ hy)) (Good.KC h (ha x (List.mem_cons_self ..)))
theorem Good.two {a w b : Tx} (h : Good (a ++ (w ++ b))) (hw : w ≠ []) (h8 : ∀ x ∈ w, x.toNat < 128) : Good a ∧ Good b := by
  cases w with
  | nil => exact absurd rfl hw
  | cons x w =>
    obtain ⟨h1, h2, _⟩ := h.cut (a := a) (x := x) (b := w ++ b) rfl (h8 x (List.mem_cons_self ..))
    exact ⟨h1, h2.sfx ⟨w, rfl, fun y hy => h8 y (List.mem_cons_of_mem _ hy)⟩⟩
theorem Good.piece {a b : Tx} (h : Good (a ++ b)) (hb : b = [] ∨ ∃ x t, b = x :: t ∧ x.toNat < 128) : Good a ∧ Good b := by
  rcases hb with rfl | ⟨x, t, rfl, hx⟩
  · rw [List.append_nil] at h; exact ⟨h, .nil⟩
  · obtain ⟨h1, h2, h3⟩ := h.cut rfl hx
    refine ⟨h1, ?_⟩
    have := Good.cons h3 h2
    rw [nA hx, kL rfl] at this
    exact this
theorem jL (f : UInt8 → Tx) (c : UInt8) (s : Tx) : aN f (c :: s) = (if f c = [] then [c] else f c) ++ aN f s := rfl
theorem DT (f : UInt8 → Tx) (a b : Tx) : aN f (a ++ b) = aN f a ++ aN f b := List.flatMap_append
theorem EK {x : UInt8} (h : 128 ≤ x.toNat) : attE x = [] := by
  have hne : ∀ n : UInt8, n.toNat < 128 → x ≠ n := fun n hn e => by rw [e] at h; omega
  unfold attE comE
  rw [if_neg (hne 34 (by decide)), if_neg (hne 9 (by decide)), if_neg (hne 10 (by decide)), if_neg (hne 13 (by decide)), if_neg (hne 38 (by decide)), if_neg (hne 60 (by decide))]
theorem EL {x : UInt8} (h : 128 ≤ x.toNat) : texE x = [] := by
  have hne : ∀ n : UInt8, n.toNat < 128 → x ≠ n := fun n hn e => by rw [e] at h; omega
  unfold texE comE
  rw [if_neg (hne 62 (by decide)), if_neg (hne 13 (by decide)), if_neg (hne 38 (by decide)), if_neg (hne 60 (by decide))]
theorem vw {f : UInt8 → Tx} : ∀ {s : Tx}, (∀ x ∈ s, f x = []) → aN f s = s
  | [], _ => rfl
  | x :: s, h => by
    rw [jL, if_pos (h x (List.mem_cons_self ..)), vw fun y hy => h y (List.mem_cons_of_mem _ hy)]
    rfl
theorem lows : ∀ c : UInt8, c.toNat < 128 → ∀ x ∈ (if attE c = [] then [c] else attE c) ++ (if texE c = [] then [c] else texE c), x.toNat < 128 ∧ (dJ c.toNat = true → dJ x.toNat = true) ∧ x ≠ 13 := by
  intro c hc
  have : ∀ n : Fin 128, ∀ x ∈ (if attE (UInt8.ofNat n.val) = [] then [UInt8.ofNat n.val] else attE (UInt8.ofNat n.val)) ++ (if texE (UInt8.ofNat n.val) = [] then [UInt8.ofNat n.val] else texE (UInt8.ofNat n.val)), x.toNat < 128 ∧ (dJ (UInt8.ofNat n.val).toNat = true → dJ x.toNat = true) ∧ x ≠ 13 := by decide +kernel
  have h := this ⟨c.toNat, hc⟩
  simp only [kL (x := c) rfl] at h
  exact h
theorem ow {f : UInt8 → Tx} (hf : f = attE ∨ f = texE) {s : Tx} (h : Good s) : Good (aN f s) := by
  induction h with
  | nil => exact .nil
  | @cons c l hc hl ih =>
    rw [DT]
    refine Good.append ?_ ih
    by_cases h8 : c < 128
    · rw [nA h8]
      have hn : (UInt8.ofNat c).toNat = c := by rw [UInt8.toNat_ofNat']; omega
      have hl := lows (UInt8.ofNat c) (by omega)
      rw [jL]
      show Good (_ ++ [])
      rw [List.append_nil]
      refine Good.ascii fun x hx => ?_
      have := hl x (by rcases hf with rfl | rfl <;> simp only [List.mem_append] <;> first | exact .inl hx | exact .inr hx)
      exact ⟨this.1, this.2.1 (by rw [hn]; exact hc)⟩
    · have hh := sM (Nat.le_of_not_lt h8) hc
      rw [vw fun x hx => by rcases hf with rfl | rfl <;> first | exact EK (hh x hx) | exact EL (hh x hx)]
      have := Good.cons hc Good.nil
      rwa [List.append_nil] at this
theorem oz {f : UInt8 → Tx} (hf : f = attE ∨ f = texE) (s : Tx) : ∀ x ∈ aN f s, x ≠ 13 := by
  intro x hx
  unfold aN at hx
  obtain ⟨c, hc, hx⟩ := List.mem_flatMap.1 hx
  by_cases h8 : c.toNat < 128
  · exact (lows c h8 x (by rcases hf with rfl | rfl <;> simp only [List.mem_append] <;> first | exact .inl hx | exact .inr hx)).2.2
  · have : f c = [] := by rcases hf with rfl | rfl <;> first | exact EK (by omega) | exact EL (by omega)
    rw [if_pos this, List.mem_singleton] at hx
    intro e
    rw [← hx, e] at h8
    exact h8 (by decide)
theorem vB {s : Tx} (h : Good s) : Good (iQ s) := by
  induction h with
  | nil => exact .nil
  | @cons c l hc hl ih =>
    have : iQ (utf8 c ++ l) = iQ (utf8 c) ++ iQ l := List.map_append
    rw [this]
    refine Good.append ?_ ih
    by_cases h8 : c < 128
    · rw [nA h8]
      have hn : (UInt8.ofNat c).toNat = c := by rw [UInt8.toNat_ofNat']; omega
      refine Good.ascii fun x hx => ?_
      unfold iQ at hx
      simp only [List.map_cons, List.map_nil, List.mem_singleton] at hx
      subst hx
      unfold gF
      split
      · exact ⟨by decide, by decide⟩
      · rw [hn]; exact ⟨h8, hc⟩
    · have hh := sM (Nat.le_of_not_lt h8) hc
      have : iQ (utf8 c) = utf8 c := by
        unfold iQ
        rw [List.map_congr_left (g := id), List.map_id]
        intro x hx
        have := hh x hx
        unfold gF
        rw [if_neg]
        · rfl
        · intro e
          rcases e with rfl | rfl | rfl | rfl <;> exact absurd this (by decide)
      rw [this]
      have := Good.cons hc Good.nil
      rwa [List.append_nil] at this
end Go.Proofs.YtigjbehgfjjlkaaGreatDoor
set_option linter.unusedVariables false
set_option linter.unusedSimpArgs false
namespace Go.Proofs.YtigjbehgfjjlkaaGreatDoor
open Go Go.Abs Go.Xml
theorem DU {p : UInt8 → Bool} : ∀ {l : Tx}, ∀ x ∈ l.takeWhile p, p x = true
  | [], x, h => by cases h
  | c :: l, x, h => by
    rw [List.takeWhile_cons] at h
    split at h
    · rename_i hc
      rcases List.mem_cons.1 h with rfl | h
      · exact hc
      · exact DU x h
    · cases h
theorem EM {p : UInt8 → Bool} : ∀ l : Tx, l.take (l.takeWhile p).length = l.takeWhile p
  | [] => rfl
  | c :: l => by
    rw [List.takeWhile_cons]
    split
    · rw [List.length_cons, List.take_succ_cons, EM l]
    · rfl
theorem dw_head {p : UInt8 → Bool} : ∀ {l : Tx} {x : UInt8} {t : Tx}, l.dropWhile p = x :: t → p x = false
  | [], x, t, h => by cases h
  | c :: l, x, t, h => by
    rw [List.dropWhile_cons] at h
    split at h
    · exact dw_head h
    · rename_i hc
      injection h with h1 _
      rw [← h1]
      simpa using hc
def Just (w v : Tx) : Prop := ∀ t, aZ w (v ++ (w ++ t)) = .ok (v, t)
theorem jW {w s v s' : Tx} (hw : w ≠ []) (h : aZ w s = .ok (v, s')) : s = v ++ (w ++ s') ∧ Just w v := by
  unfold aZ Lib.cut at h
  by_cases hi : 0 ≤ Lib.index s w
  · rw [if_pos hi] at h
    simp only [if_true] at h
    injection h with h
    injection h with h1 h2
    rcases Lib.index_spec s w with ⟨hn, _⟩ | ⟨i, hx, hil, hocc, hno⟩
    · omega
    rw [hx, Int.toNat_natCast] at h1 h2
    have hd : s.drop i = w ++ s' := by
      obtain ⟨t, ht⟩ := List.isPrefixOf_iff_prefix.1 (show w.isPrefixOf (s.drop i) = true from hocc)
      rw [← ht, ← h2, ← List.drop_drop, ← ht, List.drop_left]
    have hs : s = v ++ (w ++ s') := by rw [← hd, ← h1, List.take_append_drop]
    refine ⟨hs, fun t => ?_⟩
    have hvl : v.length = i := by rw [← h1, List.length_take]; omega
    have hidx : Lib.index (v ++ (w ++ t)) w = v.length := by
      refine Lib.index_first (by rw [List.length_append]; exact Nat.le_add_right _ _) ?_ fun j hj => ?_
      · show w.isPrefixOf ((v ++ (w ++ t)).drop v.length) = true
        rw [List.drop_left]
        exact List.isPrefixOf_iff_prefix.2 ⟨t, rfl⟩
      · have := hno j (by omega)
        have e : ∀ x : Tx, Lib.occAt (v ++ (w ++ x)) w j = w.isPrefixOf ((v ++ w).drop j) := fun x => by
          show w.isPrefixOf ((v ++ (w ++ x)).drop j) = _
          rw [← List.append_assoc, List.drop_append_of_le_length (by rw [List.length_append]; omega), Iw (by rw [List.length_drop, List.length_append]; omega)]
        rw [hs, e] at this
        rw [e]; exact this
    unfold aZ Lib.cut
    rw [hidx, if_pos (show (0 : Int) ≤ (v.length : Int) from Int.natCast_nonneg _), Int.toNat_natCast, List.take_left, ← List.append_assoc, ← List.length_append, List.drop_left]
    simp
  · rw [if_neg hi] at h
    simp at h
theorem Gg (s : Tx) : ∃ a, s = a ++ (aD s).2 ∧ (∀ x ∈ a, blanks.contains x = true) ∧ (aD s).1 = decide (a ≠ []) := by
  refine ⟨s.takeWhile (blanks.contains ·), ?_, fun x hx => ?_, ?_⟩
  · show s = _ ++ s.dropWhile _
    exact (List.takeWhile_append_dropWhile).symm
  · exact DU x hx
  · show decide ((s.dropWhile _).length < s.length) = _
    have := congrArg List.length (List.takeWhile_append_dropWhile (p := (blanks.contains ·)) (l := s))
    rw [List.length_append] at this
    cases h : s.takeWhile (blanks.contains ·) with
    | nil => rw [h] at this; simp at this ⊢; omega
    | cons x l => rw [h] at this; simp at this ⊢; omega
theorem IG {x : UInt8} (h : blanks.contains x = true) : x.toNat < 128 := by
  have : x = 32 ∨ x = 9 ∨ x = 10 := by simpa [blanks] using h
  rcases this with rfl | rfl | rfl <;> decide
theorem eD (s : Tx) : Sfx s (aD s).2 := by
  obtain ⟨a, h1, h2, _⟩ := Gg s
  exact ⟨a, h1, fun x hx => IG (h2 x hx)⟩
theorem bZ {w s : Tx} (hw : ∀ x ∈ w, x.toNat < 128) : Sfx s (hasF w s).2 := by
  cases h : (hasF w s).1 with
  | true => exact ⟨w, ji h, hw⟩
  | false =>
    refine ⟨[], ?_, fun x hx => by cases hx⟩
    unfold hasF at h ⊢
    split at h
    · cases h
    · rename_i hp; rw [if_neg hp]; rfl
theorem Sfx.trans {a b c : Tx} (h : Sfx a b) (h2 : Sfx b c) : Sfx a c := by
  obtain ⟨x, rfl, hx⟩ := h
  obtain ⟨y, rfl, hy⟩ := h2
  exact ⟨x ++ y, by rw [List.append_assoc], fun z hz => by rcases List.mem_append.1 hz with h | h; exact hx z h; exact hy z h⟩
theorem Sfx.sub {a b : Tx} (h : Sfx a b) : ∀ x ∈ b, x ∈ a := by
  obtain ⟨x, rfl, _⟩ := h
  exact fun y hy => List.mem_append_right _ hy
theorem EN {s s' : Tx} (h : eqF s = .ok s') : Sfx s s' := by
  unfold eqF at h
  split at h
  · injection h with h
    rw [← h]
    exact (eD s).trans ((bZ (by decide)).trans (eD _))
  · cases h
theorem vC (s sg : Tx) : s = s.take (upTo s sg) ++ s.drop (upTo s sg) ∧ (∀ x ∈ s.take (upTo s sg), sg.contains x = false) ∧ (s.drop (upTo s sg) = [] ∨ ∃ x t, s.drop (upTo s sg) = x :: t ∧ sg.contains x = true) := by
  have ht : s.take (upTo s sg) = s.takeWhile fun c => !sg.contains c := by
    exact EM s
  have hd : s.drop (upTo s sg) = s.dropWhile fun c => !sg.contains c := by
    have h1 := List.take_append_drop (upTo s sg) s
    rw [ht] at h1
    have h2 := List.takeWhile_append_dropWhile (p := fun c => !sg.contains c) (l := s)
    exact List.append_cancel_left (h1.trans h2.symm)
  refine ⟨(List.take_append_drop _ _).symm, fun x hx => ?_, ?_⟩
  · rw [ht] at hx
    have := DU x hx
    simpa using this
  · rw [hd]
    cases hw : s.dropWhile (fun c => !sg.contains c) with
    | nil => exact .inl rfl
    | cons x t =>
      refine .inr ⟨x, t, rfl, ?_⟩
      have := dw_head hw
      simpa using this
theorem jm {s nm s1 : Tx} (h : dF s = .ok (nm, s1)) : s = nm ++ s1 ∧ eU nm = true ∧ (∀ x ∈ nm, aH.contains x = false) ∧ (s1 = [] ∨ ∃ x t, s1 = x :: t ∧ aH.contains x = true) := by
  unfold dF at h
  split at h
  · rename_i hk
    injection h with h
    injection h with h1 h2
    obtain ⟨g1, g2, g3⟩ := vC s aH
    rw [h1, h2] at g1
    rw [h1] at g2 hk
    rw [h2] at g3
    exact ⟨g1, hk, g2, g3⟩
  · cases h
theorem mP {x : UInt8} (h : aH.contains x = true) : x.toNat < 128 := by
  have : x = 32 ∨ x = 9 ∨ x = 10 ∨ x = 61 ∨ x = 47 ∨ x = 62 ∨ x = 60 ∨ x = 34 ∨ x = 39 ∨ x = 38 ∨ x = 63 ∨ x = 33 := by simpa [aH] using h
  rcases this with rfl | rfl | rfl | rfl | rfl | rfl | rfl | rfl | rfl | rfl | rfl | rfl <;> decide
theorem kQ {nm s1 : Tx} (hk : eU nm = true) (hn : ∀ x ∈ nm, aH.contains x = false) (h1 : ∃ x t, s1 = x :: t ∧ aH.contains x = true) : dF (nm ++ s1) = .ok (nm, s1) := by
  obtain ⟨x, t, rfl, hx⟩ := h1
  have : upTo (nm ++ x :: t) aH = nm.length := by
    unfold upTo
    rw [List.takeWhile_append_of_pos (fun y hy => by rw [hn y hy]; rfl), List.takeWhile_cons, if_neg (by rw [hx]; decide), List.append_nil]
  unfold dF
  rw [this, List.take_left, List.drop_left, if_pos hk]
theorem Gh {x t : Tx} (h : refX x = .ok t) : Good t := by
  have hcode : ∀ d b, codeF d b = .ok t → Good t := fun d b h => by
    unfold codeF at h
    split at h
    · split at h
      · rename_i hc
        injection h with h
        rw [Bool.and_eq_true] at hc
        rw [← h]
        refine (u6 _).1 ?_
        simpa using hc.1
      · cases h
    · cases h
  unfold refX at h
  split at h
  · injection h with h; rw [← h]; exact Good.ascii (by decide)
  split at h
  · injection h with h; rw [← h]; exact Good.ascii (by decide)
  split at h
  · injection h with h; rw [← h]; exact Good.ascii (by decide)
  split at h
  · injection h with h; rw [← h]; exact Good.ascii (by decide)
  split at h
  · injection h with h; rw [← h]; exact Good.ascii (by decide)
  split at h
  · split at h
    · exact hcode _ _ h
    · exact hcode _ _ h
  · cases h
theorem nO {s : Tx} {c : UInt8} (h : 0 ≤ Lib.indexByte s c) : s = s.take (Lib.indexByte s c).toNat ++ c :: s.drop ((Lib.indexByte s c).toNat + 1) := by
  induction s with
  | nil => exact absurd h (by unfold Lib.indexByte; decide)
  | cons b s ih =>
    unfold Lib.indexByte at h ⊢
    split
    · rename_i hb
      have : b = c := by simpa using hb
      subst this
      rfl
    · rename_i hb
      rw [if_neg hb] at h
      split
      · rename_i hn
        rw [if_pos hn] at h
        exact absurd h (by decide)
      · rename_i hn
        have hg := Lib.indexByte_ge s c
        have hne : Lib.indexByte s c ≠ -1 := fun e => hn (by rw [e]; rfl)
        have := ih (by omega)
        obtain ⟨n, hn'⟩ : ∃ n : Nat, Lib.indexByte s c = n := ⟨(Lib.indexByte s c).toNat, by omega⟩
        rw [hn'] at this ⊢
        rw [show ((n : Int) + 1).toNat = n + 1 by omega, List.take_succ_cons, List.drop_succ_cons, List.cons_append]
        rw [Int.toNat_natCast] at this
        rw [← this]
theorem xG {s t s' : Tx} (hs : Good s) (h : refF s = .ok (t, s')) : Good t ∧ Good s' ∧ (∀ x ∈ s', x ∈ s) ∧ t.length ≤ 4 ∧ s'.length + 1 ≤ s.length := by
  have hl4 := (mD h).1
  unfold refF at h
  split at h
  · cases h
  rename_i hi
  split at h
  · rename_i t' ht
    injection h with h
    injection h with h1 h2
    have hc := nO (s := s) (c := 59) (by omega)
    refine ⟨by rw [← h1]; exact Gh ht, ?_, fun x hx => ?_, hl4, ?_⟩
    · have := (hs.cut hc (by decide)).2.1
      rwa [h2] at this
    · rw [← h2] at hx
      exact List.mem_of_mem_drop hx
    · have := congrArg List.length hc
      rw [List.length_append, List.length_cons, h2] at this
      omega
  · cases h
theorem oC {q : Tx} : ∀ (f : Nat) {o s v s' : Tx}, (∀ x ∈ q, x.toNat < 128) → Good o → Good s → gU q f o s = .ok (v, s') → Good v ∧ Good s' ∧ (∀ x ∈ s', x ∈ s) ∧ v.length + 4 * s'.length + 4 ≤ o.length + 4 * s.length
  | 0, o, s, v, s', hq, ho, hs, h => by cases h
  | f + 1, o, s, v, s', hq, ho, hs, h => by
    unfold gU at h
    obtain ⟨g1, g2, g3⟩ := vC s (q ++ [60, 38])
    split at h
    · rename_i hlt
      have hd : s.drop (upTo s (q ++ [60, 38])) = s.getD (upTo s (q ++ [60, 38])) 0 :: s.drop (upTo s (q ++ [60, 38]) + 1) := by
        have hl := hlt.1
        rw [List.drop_eq_getElem_cons hl]
        congr 1
        simp [List.getD_eq_getElem?_getD, hl]
      have hx : (s.getD (upTo s (q ++ [60, 38])) 0).toNat < 128 := by
        rcases g3 with g3 | ⟨x, t, g3, hx⟩
        · rw [hd] at g3; cases g3
        · rw [hd] at g3
          injection g3 with g3 _
          rw [g3]
          have : x ∈ q ++ [60, 38] := by simpa using hx
          rcases List.mem_append.1 this with h | h
          · exact hq x h
          · simp only [List.mem_cons, List.not_mem_nil, or_false] at h
            rcases h with rfl | rfl <;> decide
      have hcut := hs.cut (g1.trans (by rw [hd])) hx
      have hlen := congrArg List.length (g1.trans (by rw [hd]))
      rw [List.length_append, List.length_cons] at hlen
      split at h
      · split at h
        · rename_i t s2 hr
          obtain ⟨r1, r2, r3, r4, r5⟩ := xG hcut.2.1 hr
          obtain ⟨a1, a2, a3, a4⟩ := oC f hq ((ho.append (vB hcut.1)).append r1) r2 h
          refine ⟨a1, a2, fun x hx => List.mem_of_mem_drop (r3 x (a3 x hx)), ?_⟩
          rw [List.length_append, List.length_append, qR] at a4
          omega
        · cases h
      · injection h with h
        injection h with h1 h2
        rw [← h1, ← h2]
        refine ⟨ho.append (vB hcut.1), hcut.2.1, fun x hx => List.mem_of_mem_drop hx, ?_⟩
        rw [List.length_append, qR]
        omega
    · cases h
theorem Sfx.len {a b : Tx} (h : Sfx a b) : b.length ≤ a.length := by
  obtain ⟨x, rfl, _⟩ := h
  rw [List.length_append]; omega
theorem II {s s' : Tx} (h : eqF s = .ok s') : s'.length + 1 ≤ s.length := by
  unfold eqF at h
  split at h
  · rename_i hc
    injection h with h
    have h1 := (eD s).len
    have h2 := congrArg List.length (ji hc)
    have h3 := (eD (hasF [61] (aD s).2).2).len
    rw [h] at h3
    rw [List.length_append, List.length_singleton] at h2
    omega
  · cases h
theorem DV {s v s' : Tx} (hs : Good s) (h : jC s = .ok (v, s')) : Good v ∧ Good s' ∧ (∀ x ∈ s', x ∈ s) ∧ v.length + 4 * s'.length + 8 ≤ 4 * s.length := by
  unfold jC at h
  split at h
  · rename_i hq
    have h1 := bZ (w := [34]) (s := s) (by decide)
    obtain ⟨a, b, c, d⟩ := oC _ (by decide) .nil (hs.sfx h1) h
    refine ⟨a, b, fun x hx => h1.sub x (c x hx), ?_⟩
    have h2 := congrArg List.length (ji hq)
    rw [List.length_append, List.length_singleton] at h2
    rw [List.length_nil] at d
    omega
  split at h
  · rename_i hq
    have h1 := bZ (w := [39]) (s := s) (by decide)
    obtain ⟨a, b, c, d⟩ := oC _ (by decide) .nil (hs.sfx h1) h
    refine ⟨a, b, fun x hx => h1.sub x (c x hx), ?_⟩
    have h2 := congrArg List.length (ji hq)
    rw [List.length_append, List.length_singleton] at h2
    rw [List.length_nil] at d
    omega
  · cases h
end Go.Proofs.YtigjbehgfjjlkaaGreatDoor
set_option linter.unusedVariables false
set_option linter.unusedSimpArgs false
namespace Go.Proofs.YtigjbehgfjjlkaaGreatDoor
open Go Go.Abs Go.Xml
theorem J2 (s : Tx) : refF ([97, 109, 112, 59] ++ s) = .ok ([38], s) := by kernel_rfl
theorem Lm (s : Tx) : refF ([108, 116, 59] ++ s) = .ok ([60], s) := by kernel_rfl
theorem Lp (s : Tx) : refF ([103, 116, 59] ++ s) = .ok ([62], s) := by kernel_rfl
theorem IJ (s : Tx) : refF ([113, 117, 111, 116, 59] ++ s) = .ok ([34], s) := by kernel_rfl
theorem Mg (s : Tx) : refF ([35, 120, 57, 59] ++ s) = .ok ([9], s) := by kernel_rfl
theorem Mh (s : Tx) : refF ([35, 120, 65, 59] ++ s) = .ok ([10], s) := by kernel_rfl
theorem KD (s : Tx) : refF ([35, 120, 68, 59] ++ s) = .ok ([13], s) := by kernel_rfl
theorem BH {c : UInt8} (h : comE c ≠ []) : ∃ b, comE c = 38 :: b ∧ ∀ s, refF (b ++ s) = .ok ([c], s) := by
  unfold comE at h ⊢
  split
  · rename_i hc; subst hc; exact ⟨_, rfl, J2⟩
  split
  · rename_i hc; subst hc; exact ⟨_, rfl, Lm⟩
  · rename_i h1 h2; rw [if_neg h1, if_neg h2] at h; exact absurd rfl h
theorem IK {c : UInt8} (h : attE c ≠ []) : ∃ b, attE c = 38 :: b ∧ ∀ s, refF (b ++ s) = .ok ([c], s) := by
  unfold attE at h ⊢
  split
  · rename_i hc; subst hc; exact ⟨_, rfl, IJ⟩
  split
  · rename_i hc; subst hc; exact ⟨_, rfl, Mg⟩
  split
  · rename_i hc; subst hc; exact ⟨_, rfl, Mh⟩
  split
  · rename_i hc; subst hc; exact ⟨_, rfl, KD⟩
  · rename_i h1 h2 h3 h4; rw [if_neg h1, if_neg h2, if_neg h3, if_neg h4] at h; exact BH h
theorem IL {c : UInt8} (h : texE c ≠ []) : ∃ b, texE c = 38 :: b ∧ ∀ s, refF (b ++ s) = .ok ([c], s) := by
  unfold texE at h ⊢
  split
  · rename_i hc; subst hc; exact ⟨_, rfl, Lp⟩
  split
  · rename_i hc; subst hc; exact ⟨_, rfl, KD⟩
  · rename_i h1 h2; rw [if_neg h1, if_neg h2] at h; exact BH h
theorem vE {c : UInt8} (h : attE c = []) : ([34] ++ [60, 38] : Tx).contains c = false ∧ gF c = c := by
  have hne : ∀ n : UInt8, attE n ≠ [] → c ≠ n := fun n hn e => hn (by rw [← e]; exact h)
  have h34 := hne 34 (by decide)
  have h9 := hne 9 (by decide)
  have h10 := hne 10 (by decide)
  have h13 := hne 13 (by decide)
  have h38 := hne 38 (by decide)
  have h60 := hne 60 (by decide)
  refine ⟨by simp [h34, h38, h60], ?_⟩
  unfold gF
  split
  · rename_i g
    rcases g with g | g | g | g
    · exact g.symm
    · exact absurd g h9
    · exact absurd g h10
    · exact absurd g h13
  · rfl
theorem vF {c : UInt8} (h : texE c = []) : ([60, 38] : Tx).contains c = false ∧ c ≠ 62 ∧ c ≠ 60 ∧ c ≠ 38 := by
  have hne : ∀ n : UInt8, texE n ≠ [] → c ≠ n := fun n hn e => hn (by rw [← e]; exact h)
  have h62 := hne 62 (by decide)
  have h38 := hne 38 (by decide)
  have h60 := hne 60 (by decide)
  exact ⟨by simp [h38, h60], h62, h60, h38⟩
theorem zD {p t q : Tx} {c : UInt8} (hp : ∀ x ∈ p, q.contains x = false) (hc : q.contains c = true) : upTo (p ++ c :: t) q = p.length := by
  unfold upTo
  rw [List.takeWhile_append_of_pos (fun x hx => by rw [hp x hx]; rfl), List.takeWhile_cons, if_neg (by rw [hc]; decide), List.append_nil]
theorem getD_at (p t : Tx) (c : UInt8) : (p ++ c :: t).getD p.length 0 = c := by
  rw [List.getD_eq_getElem?_getD, List.getElem?_append_right (Nat.le_refl _)]; simp
theorem drop_at (p t : Tx) (c : UInt8) : (p ++ c :: t).drop (p.length + 1) = t := by rw [List.drop_length_add_append]; rfl
theorem xH {p : Tx} (h : ∀ x ∈ p, attE x = []) : iQ p = p := by
  unfold iQ
  conv => rhs; rw [← List.map_id p]
  exact List.map_congr_left fun x hx => (vE (h x hx)).2
theorem oD : ∀ (v p out R : Tx) (f : Nat), (∀ x ∈ p, attE x = []) → v.length < f → gU [34] f out (p ++ (aN attE v ++ 34 :: R)) = .ok (out ++ (p ++ v), R)
  | [], p, out, R, f, hp, hf => by
    obtain ⟨f, rfl⟩ : ∃ f', f = f' + 1 := ⟨f - 1, by simp at hf; omega⟩
    show gU [34] (f + 1) out (p ++ 34 :: R) = _
    unfold gU
    rw [zD (q := [34] ++ [60, 38]) (fun x hx => (vE (hp x hx)).1) (by decide), getD_at, if_pos ⟨by simp, by decide⟩, if_neg (by decide), List.take_left, xH hp, drop_at, List.append_nil]
  | c :: v, p, out, R, f, hp, hf => by
    rw [jL]
    by_cases hc : attE c = []
    · rw [if_pos hc]
      have := oD v (p ++ [c]) out R f (fun x hx => by
        rcases List.mem_append.1 hx with h | h
        · exact hp x h
        · rw [List.mem_singleton.1 h]; exact hc) (by rw [List.length_cons] at hf; omega)
      simpa using this
    · rw [if_neg hc]
      obtain ⟨b, hb, href⟩ := IK hc
      obtain ⟨f, rfl⟩ : ∃ f', f = f' + 1 := ⟨f - 1, by simp at hf; omega⟩
      have e : p ++ (attE c ++ aN attE v ++ 34 :: R) = p ++ 38 :: (b ++ (aN attE v ++ 34 :: R)) := by rw [hb]; simp
      rw [e]
      unfold gU
      rw [zD (q := [34] ++ [60, 38]) (fun x hx => (vE (hp x hx)).1) (by decide), getD_at, if_pos ⟨by simp, by decide⟩, if_pos rfl, drop_at, href, List.take_left, xH hp]
      have := oD v [] (out ++ p ++ [c]) R f (fun x hx => by cases hx) (by rw [List.length_cons] at hf; omega)
      rw [List.nil_append, List.nil_append] at this
      show gU [34] f (out ++ p ++ [c]) (aN attE v ++ 34 :: R) = _
      rw [this]
      simp
theorem ql {f : UInt8 → Tx} : ∀ s : Tx, s.length ≤ (aN f s).length
  | [] => Nat.zero_le _
  | c :: s => by
    have ih := ql (f := f) s
    rw [jL, List.length_append, List.length_cons]
    have : 1 ≤ (if f c = [] then [c] else f c).length := by
      split
      · exact Nat.le_refl _
      · rename_i h; exact List.length_pos_iff.2 h
    omega
theorem DW (v R : Tx) : jC (34 :: (aN attE v ++ 34 :: R)) = .ok (v, R) := by
  have h := oD v [] [] R ((34 :: (aN attE v ++ 34 :: R)).length + 1) (fun x hx => by cases hx) (by have := ql (f := attE) v; simp; omega)
  rw [List.nil_append] at h
  unfold jC
  rw [show hasF [34] (34 :: (aN attE v ++ 34 :: R)) = (true, aN attE v ++ 34 :: R) from rfl, if_pos rfl]
  exact h
def PT (ns : List Nd) (p : Nat) (v : Tx) : List Nd := if v = [] then ns else aB ns p ns.length ++ [{ nd0 with kind := 2, val := v, par := (p : Int) }]
structure PTok (ns : List Nd) (stk : List (Nat × Tx)) (p : Nat) : Prop where
  last : ∃ nm, stk.getLast? = some (p, nm)
  lt : p < ns.length
  none : aR ns p = none
  room : ns.length ≠ 4096
theorem PT.text {ns : List Nd} {stk : List (Nat × Tx)} {p : Nat} (h : PTok ns stk p) (v t s : Tx) (d : Bool) (ht : t ≠ []) : aW t ⟨s, PT ns p v, stk, d⟩ = .ok ⟨s, PT ns p (v ++ t), stk, d⟩ := by
  obtain ⟨nm, hl⟩ := h.last
  have hvt : v ++ t ≠ [] := fun e => ht (List.append_eq_nil_iff.1 e).2
  unfold aW
  rw [if_neg ht]
  dsimp only
  rw [hl]
  dsimp only
  unfold PT
  rw [if_neg hvt]
  by_cases hv : v = []
  · rw [if_pos hv, h.none]
    dsimp only
    unfold addF
    rw [if_neg h.room]
    dsimp only
    rw [hl, hv, List.nil_append]
  · rw [if_neg hv]
    have hkl : (aB ns p ns.length).length = ns.length := aQ _ _ _
    have hlast : aR (aB ns p ns.length ++ [{ nd0 with kind := 2, val := v, par := (p : Int) }]) p = some ns.length := by
      unfold aR
      have h1 : (aB ns p ns.length ++ [{ nd0 with kind := 2, val := v, par := (p : Int) }])[p]? = some { (ns[p]'h.lt) with kids := (ns[p]'h.lt).kids ++ [ns.length] } := by
        rw [List.getElem?_append_left (by rw [hkl]; exact h.lt), gG, List.getElem?_eq_getElem h.lt]
        simp
      have h2 : (aB ns p ns.length ++ [{ nd0 with kind := 2, val := v, par := (p : Int) }])[ns.length]? = some { nd0 with kind := 2, val := v, par := (p : Int) } := by
        rw [List.getElem?_append_right (by rw [hkl]; exact Nat.le_refl _), hkl, Nat.sub_self]; rfl
      rw [h1, Option.bind_some, List.getLast?_append, List.getLast?_singleton]
      simp [h2]
    rw [hlast]
    dsimp only
    congr 1
    congr 1
    have hm := jJ (aB ns p ns.length) [{ nd0 with kind := 2, val := v, par := (p : Int) }] 0 (fun n => { n with val := n.val ++ t })
    rw [hkl, Nat.zero_add] at hm
    rw [hm]
    rfl
theorem IQ {p : Tx} (h : ∀ x ∈ p, x ≠ 62) : Lib.contains p [93, 93, 62] = false := by
  unfold Lib.contains
  rcases Lib.index_spec p [93, 93, 62] with ⟨h1, _⟩ | ⟨i, hx, hil, hocc, _⟩
  · rw [h1]; rfl
  · obtain ⟨t, ht⟩ := List.isPrefixOf_iff_prefix.1 (show ([93, 93, 62] : Tx).isPrefixOf (p.drop i) = true from hocc)
    exact absurd rfl (h 62 (List.mem_of_mem_drop (i := i) (by rw [← ht]; simp)))
theorem BI {ns : List Nd} {stk : List (Nat × Tx)} {p : Nat} (h : PTok ns stk p) {q R v : Tx} {d : Bool} (hq : ∀ x ∈ q, texE x = []) (hne : q ≠ []) (hR : R.head? = some 60 ∨ R.head? = some 38) :
    aX ⟨q ++ R, PT ns p v, stk, d⟩ = .ok ⟨R, PT ns p (v ++ q), stk, d⟩ := by
  obtain ⟨nm, hl⟩ := h.last
  have hs0 : stk ≠ [] := fun e => by rw [e] at hl; cases hl
  obtain ⟨c, q', rfl⟩ := List.exists_cons_of_ne_nil hne
  have hc := vF (hq c (List.mem_cons_self ..))
  have hu : upTo (c :: q' ++ R) [60, 38] = (c :: q').length := by
    cases R with
    | nil => rcases hR with h | h <;> cases h
    | cons x R =>
      refine zD (fun y hy => (vF (hq y hy)).1) ?_
      rcases hR with h | h <;> (simp at h; subst h; rfl)
  unfold aX
  rw [if_neg (by simp [hc.2.2.1]), if_neg (by simp [hasF, List.isPrefixOf, Ne.symm hc.2.2.2]), if_neg (by simp [hc.2.2.2])]
  unfold gu
  dsimp only
  rw [if_neg hs0, hu, List.take_left, List.drop_left, IQ (fun x hx => (vF (hq x hx)).2.1), if_neg (by decide), PT.text h v _ _ d hne]
theorem lS {ns : List Nd} {stk : List (Nat × Tx)} {p : Nat} (h : PTok ns stk p) {d : Bool} : ∀ (v q u R : Tx), (∀ x ∈ q, texE x = []) → R.head? = some 60 →
    Steps ⟨q ++ (aN texE v ++ R), PT ns p u, stk, d⟩ ⟨R, PT ns p (u ++ (q ++ v)), stk, d⟩
  | [], q, u, R, hq, hR => by
    show Steps ⟨q ++ R, _, _, _⟩ _
    rw [List.append_nil]
    by_cases hne : q = []
    · subst hne
      rw [List.append_nil]
      exact .refl _
    · exact .step (by simp [hne]) (BI h hq hne (.inl hR)) (.refl _)
  | c :: v, q, u, R, hq, hR => by
    rw [jL]
    by_cases hc : texE c = []
    · rw [if_pos hc]
      have := lS h (d := d) v (q ++ [c]) u R (fun x hx => by
        rcases List.mem_append.1 hx with g | g
        · exact hq x g
        · rw [List.mem_singleton.1 g]; exact hc) hR
      simpa using this
    · rw [if_neg hc]
      obtain ⟨b, hb, href⟩ := IL hc
      obtain ⟨nm, hl⟩ := h.last
      have hs0 : stk ≠ [] := fun e => by rw [e] at hl; cases hl
      have e : q ++ (texE c ++ aN texE v ++ R) = q ++ 38 :: (b ++ (aN texE v ++ R)) := by rw [hb]; simp
      rw [e]
      have hstep : ∀ u', aX ⟨38 :: (b ++ (aN texE v ++ R)), PT ns p u', stk, d⟩ = .ok ⟨aN texE v ++ R, PT ns p (u' ++ [c]), stk, d⟩ := fun u' => by
        unfold aX
        rw [if_neg (by simp)]
        dsimp only
        rw [show hasF [38] (38 :: (b ++ (aN texE v ++ R))) = (true, b ++ (aN texE v ++ R)) by simp [hasF, List.isPrefixOf], if_pos ⟨hs0, rfl⟩, href]
        exact PT.text h u' [c] _ d (by simp)
      have hrest := fun u' => lS h (d := d) v [] u' R (fun x hx => by cases hx) hR
      by_cases hne : q = []
      · subst hne
        refine .step (by simp) (hstep u) ?_
        have := hrest (u ++ [c])
        simpa using this
      · refine .step (by simp [hne]) (BI h hq hne (.inr rfl)) (.step (by simp) (hstep _) ?_)
        have := hrest (u ++ q ++ [c])
        simpa using this
end Go.Proofs.YtigjbehgfjjlkaaGreatDoor
set_option linter.unusedVariables false
set_option linter.unusedSimpArgs false
namespace Go.Proofs.YtigjbehgfjjlkaaGreatDoor
open Go Go.Abs Go.Xml
structure NmOk (nm : Tx) : Prop where
  halves : eU nm = true
  stop : ∀ x ∈ nm, aH.contains x = false
  good : Good nm
  no13 : ∀ x ∈ nm, x ≠ 13
theorem qZ {l : Tx} (h : bL l = true) : l ≠ [] := fun e => by subst e; cases h
theorem NmOk.ne {nm : Tx} (h : NmOk nm) : nm ≠ [] := fun e => by subst e; have := h.halves; revert this; decide +kernel
theorem EO {nm : Tx} (h : (Lib.cut nm [58]).2.2 = true) : nm = (Lib.cut nm [58]).1 ++ 58 :: (Lib.cut nm [58]).2.1 := by
  unfold Lib.cut at h ⊢
  split
  · rename_i hi
    rw [Lib.index_one] at hi ⊢
    exact nO hi
  · rename_i hi
    rw [if_neg hi] at h
    cases h
def dnm (pre : Tx) : Tx := if pre = [] then qb else qb ++ 58 :: pre
theorem Gi {nm : Tx} (h : eU nm = true) : (∃ pre, nm = dnm pre ∧ ∀ v n, bE nm v n = { n with dcls := n.dcls ++ [⟨pre, v⟩] }) ∨
    (∃ pre loc, nm = bV pre loc ∧ ∀ v n, bE nm v n = { n with atts := n.atts ++ [⟨pre, loc, [], v⟩] }) := by
  unfold eU at h
  rw [Bool.and_eq_true] at h
  by_cases hx : nm = [120, 109, 108, 110, 115]
  · refine .inl ⟨[], by rw [hx]; rfl, fun v n => ?_⟩
    unfold bE
    rw [if_pos hx]
  cases hc : (Lib.cut nm [58]).2.2 with
  | false =>
    refine .inr ⟨[], nm, rfl, fun v n => ?_⟩
    unfold bE
    rw [if_neg hx, hc]
    rfl
  | true =>
    have he := EO hc
    rw [hc] at h
    have h2 : bL (Lib.cut nm [58]).2.1 = true := by simpa using h.2
    by_cases hp : (Lib.cut nm [58]).1 = [120, 109, 108, 110, 115]
    · refine .inl ⟨(Lib.cut nm [58]).2.1, ?_, fun v n => ?_⟩
      · unfold dnm
        rw [if_neg (qZ h2)]
        conv => lhs; rw [he, hp]
        rfl
      · unfold bE
        rw [if_neg hx, hc, if_pos rfl, if_pos hp]
    · refine .inr ⟨(Lib.cut nm [58]).1, (Lib.cut nm [58]).2.1, ?_, fun v n => ?_⟩
      · unfold bV
        rw [if_neg (qZ h.1)]
        exact he
      · unfold bE
        rw [if_neg hx, hc, if_pos rfl, if_neg hp]
theorem Gj {nm : Tx} (h : eU nm = true) : bV (cZ nm).pre (cZ nm).loc = nm := by
  unfold eU at h
  rw [Bool.and_eq_true] at h
  unfold cZ
  cases hc : (Lib.cut nm [58]).2.2 with
  | false => rw [if_neg (by decide)]; rfl
  | true =>
    rw [if_pos rfl]
    unfold bV
    rw [if_neg (qZ h.1)]
    exact (EO hc).symm
def iX (a : Att) : Tx := bV a.pre a.loc
def erA (a : Att) : Att := { a with spc := [] }
structure AOk (a : Att) : Prop where
  nm : NmOk (iX a)
  put : ∀ v n, bE (iX a) v n = { n with atts := n.atts ++ [⟨a.pre, a.loc, [], v⟩] }
  val : Good a.val
structure DOk (d : Dcl) : Prop where
  nm : NmOk (dnm d.pre)
  put : ∀ v n, bE (dnm d.pre) v n = { n with dcls := n.dcls ++ [⟨d.pre, v⟩] }
  val : Good d.uri
theorem q8 : ∀ (f : Nat) {nms nms' : List Tx} {n n' : Nd} {s s' : Tx}, Good s → (∀ x ∈ s, x ≠ 13) → nms.Perm (n.dcls.map (fun d => dnm d.pre) ++ n.atts.map iX) → (∀ a ∈ n.atts, AOk a ∧ a.spc = []) → (∀ d ∈ n.dcls, DOk d) →
    bC f nms n s = .ok (nms', n', s') → nms'.Perm (n'.dcls.map (fun d => dnm d.pre) ++ n'.atts.map iX) ∧ (∀ a ∈ n'.atts, AOk a ∧ a.spc = []) ∧ (∀ d ∈ n'.dcls, DOk d) ∧ Good s' ∧ (∀ x ∈ s', x ∈ s) ∧ (∃ da aa, n' = { n with dcls := n.dcls ++ da, atts := n.atts ++ aa }) ∧ (n'.dcls.flatMap dclE).length + (n'.atts.flatMap atE).length + 24 * s'.length ≤ (n.dcls.flatMap dclE).length + (n.atts.flatMap atE).length + 24 * s.length
  | 0, nms, nms', n, n', s, s', hg, h13, hp, ha, hd, h => by cases h
  | f + 1, nms, nms', n, n', s, s', hg, h13, hp, ha, hd, h => by
    unfold bC at h
    have hsk := eD s
    split at h
    · split at h
      · cases h
      rename_i nm s1 h1
      split at h
      · cases h
      rename_i s2 h2
      split at h
      · cases h
      rename_i v s3 h3
      obtain ⟨c1, c2, c3, c4⟩ := jm h1
      have hg0 := hg.sfx hsk
      rw [c1] at hg0
      have hpc := hg0.piece (by
        rcases c4 with c4 | ⟨x, t, c4, hx⟩
        · exact .inl c4
        · exact .inr ⟨x, t, c4, mP hx⟩)
      have he := EN h2
      obtain ⟨q1, q2, q3, q4⟩ := DV (hpc.2.sfx he) h3
      have l1 := hsk.len
      have l2 := congrArg List.length c1
      rw [List.length_append] at l2
      have l3 := II h2
      have l4 := dQ kN v
      have hsub : ∀ x ∈ s3, x ∈ s := fun x hx => hsk.sub x (by rw [c1]; exact List.mem_append_right _ (he.sub x (q3 x hx)))
      have hnm : NmOk nm := ⟨c2, c3, hpc.1, fun x hx => h13 x (hsk.sub x (by rw [c1]; exact List.mem_append_left _ hx))⟩
      rcases Gi c2 with ⟨pre, e, hput⟩ | ⟨pre, loc, e, hput⟩
      · rw [hput] at h
        obtain ⟨r1, r2, r3, r4, r5, ⟨da, aa, r6⟩, r7⟩ := q8 f (nms := nms ++ [nm]) (n := { n with dcls := n.dcls ++ [⟨pre, v⟩] }) q2 (fun x hx => h13 x (hsub x hx)) (by
          show (nms ++ [nm]).Perm ((n.dcls ++ [(⟨pre, v⟩ : Dcl)]).map (fun d : Dcl => dnm d.pre) ++ n.atts.map iX)
          rw [List.map_append, List.append_assoc]
          refine (hp.append_right [nm]).trans ?_
          rw [List.append_assoc]
          refine List.Perm.append_left _ ?_
          rw [show List.map (fun d : Dcl => dnm d.pre) [(⟨pre, v⟩ : Dcl)] = [nm] by rw [e]; rfl]
          exact List.perm_append_comm) ha (fun d hd' => by
            rcases List.mem_append.1 hd' with g | g
            · exact hd d g
            · rw [List.mem_singleton.1 g]; exact ⟨by rw [← e]; exact hnm, by rw [← e]; exact hput, q1⟩) h
        exact ⟨r1, r2, r3, r4, fun x hx => hsub x (r5 x hx), ⟨⟨pre, v⟩ :: da, aa, by rw [r6]; simp⟩, by
          have e2 : (dclE ⟨pre, v⟩).length = nm.length + 4 + (aN attE v).length := by
            rw [e]; unfold dclE dnm; simp; omega
          simp only [List.flatMap_append, List.length_append, List.flatMap_cons, List.flatMap_nil, List.length_nil] at r7
          omega⟩
      · rw [hput] at h
        obtain ⟨r1, r2, r3, r4, r5, ⟨da, aa, r6⟩, r7⟩ := q8 f (nms := nms ++ [nm]) (n := { n with atts := n.atts ++ [⟨pre, loc, [], v⟩] }) q2 (fun x hx => h13 x (hsub x hx)) (by
          show (nms ++ [nm]).Perm (n.dcls.map (fun d => dnm d.pre) ++ (n.atts ++ [(⟨pre, loc, [], v⟩ : Att)]).map iX)
          rw [List.map_append, ← List.append_assoc]
          rw [show List.map iX [(⟨pre, loc, [], v⟩ : Att)] = [nm] by rw [e]; rfl]
          exact hp.append_right [nm]) (fun a ha' => by
            rcases List.mem_append.1 ha' with g | g
            · exact ha a g
            · rw [List.mem_singleton.1 g]; exact ⟨⟨by rw [show iX ⟨pre, loc, [], v⟩ = nm from e.symm]; exact hnm, by rw [show iX ⟨pre, loc, [], v⟩ = nm from e.symm]; exact hput, q1⟩, rfl⟩) hd h
        exact ⟨r1, r2, r3, r4, fun x hx => hsub x (r5 x hx), ⟨da, ⟨pre, loc, [], v⟩ :: aa, by rw [r6]; simp⟩, by
          have e2 : (atE ⟨pre, loc, [], v⟩).length = nm.length + 4 + (aN attE v).length := by
            rw [e]; unfold atE; simp; omega
          simp only [List.flatMap_append, List.length_append, List.flatMap_cons, List.flatMap_nil, List.length_nil] at r7
          omega⟩
    · injection h with h
      simp only [Prod.mk.injEq] at h
      obtain ⟨rfl, rfl, rfl⟩ := h
      have l1 := hsk.len
      exact ⟨hp, ha, hd, hg.sfx hsk, hsk.sub, ⟨[], [], by simp⟩, by omega⟩
theorem DX {nm t : Tx} (h : NmOk nm) : aD (32 :: (nm ++ t)) = (true, nm ++ t) ∧ ([47] : Tx).isPrefixOf (nm ++ t) = false ∧ ([62] : Tx).isPrefixOf (nm ++ t) = false := by
  obtain ⟨c, l, rfl⟩ := List.exists_cons_of_ne_nil h.ne
  have hc := h.stop c (List.mem_cons_self ..)
  have hn : ∀ n : UInt8, aH.contains n = true → c ≠ n := fun n hn e => by rw [e, hn] at hc; cases hc
  have h32 := hn 32 (by decide)
  have h9 := hn 9 (by decide)
  have h10 := hn 10 (by decide)
  have h47 := hn 47 (by decide)
  have h62 := hn 62 (by decide)
  refine ⟨?_, by simp [List.isPrefixOf, Ne.symm h47], by simp [List.isPrefixOf, Ne.symm h62]⟩
  have hb : blanks.contains c = false := by simp [blanks, h32, h9, h10]
  have ht : Lib.trimLeftS (32 :: (c :: l ++ t)) blanks = c :: l ++ t := by
    unfold Lib.trimLeftS
    rw [List.dropWhile_cons_of_pos (by decide), List.cons_append, List.dropWhile_cons_of_neg (by rw [hb]; decide)]
  unfold aD
  rw [ht]
  simp
theorem IU (s : Tx) : eqF (61 :: 34 :: s) = .ok (34 :: s) := by
  have h1 : aD (61 :: 34 :: s) = (false, 61 :: 34 :: s) := by
    unfold aD Lib.trimLeftS
    rw [List.dropWhile_cons_of_neg (by decide)]
    simp
  have h2 : aD (34 :: s) = (false, 34 :: s) := by
    unfold aD Lib.trimLeftS
    rw [List.dropWhile_cons_of_neg (by decide)]
    simp
  unfold eqF
  rw [h1, show hasF [61] (61 :: 34 :: s) = (true, 34 :: s) from rfl, if_pos rfl, h2]
theorem BJ {nm v rest : Tx} (h : NmOk nm) (f : Nat) (nms : List Tx) (n : Nd) : bC (f + 1) nms n (32 :: (nm ++ 61 :: 34 :: (aN attE v ++ 34 :: rest))) = bC f (nms ++ [nm]) (bE nm v n) rest := by
  obtain ⟨h1, h2, h3⟩ := DX (t := 61 :: 34 :: (aN attE v ++ 34 :: rest)) h
  conv => lhs; unfold bC
  rw [h1, h2, h3]
  simp only [Bool.not_false, Bool.and_self, if_true]
  rw [kQ h.halves h.stop ⟨61, _, rfl, by decide⟩]
  dsimp only
  rw [IU]
  dsimp only
  rw [DW]
theorem xI : ∀ (l : List Att) (f : Nat) (nms : List Tx) (n : Nd) (rest : Tx), (∀ a ∈ l, AOk a) → bC (f + l.length) nms n (l.flatMap atE ++ rest) = bC f (nms ++ l.map iX) { n with atts := n.atts ++ l.map erA } rest
  | [], f, nms, n, rest, h => by simp
  | a :: l, f, nms, n, rest, h => by
    have ha := h a (List.mem_cons_self ..)
    have e : (a :: l).flatMap atE ++ rest = 32 :: (iX a ++ 61 :: 34 :: (aN attE a.val ++ 34 :: (l.flatMap atE ++ rest))) := by
      rw [List.flatMap_cons]
      unfold atE iX
      simp
    rw [e, List.length_cons, ← Nat.add_assoc, BJ ha.nm, ha.put, xI l f _ _ rest fun b hb => h b (List.mem_cons_of_mem _ hb)]
    simp [erA]
theorem BK : ∀ (l : List Dcl) (f : Nat) (nms : List Tx) (n : Nd) (rest : Tx), (∀ d ∈ l, DOk d) → bC (f + l.length) nms n (l.flatMap dclE ++ rest) = bC f (nms ++ l.map (fun d => dnm d.pre)) { n with dcls := n.dcls ++ l } rest
  | [], f, nms, n, rest, h => by simp
  | a :: l, f, nms, n, rest, h => by
    have ha := h a (List.mem_cons_self ..)
    have e : (a :: l).flatMap dclE ++ rest = 32 :: (dnm a.pre ++ 61 :: 34 :: (aN attE a.uri ++ 34 :: (l.flatMap dclE ++ rest))) := by
      rw [List.flatMap_cons]
      unfold dclE dnm
      simp
    rw [e, List.length_cons, ← Nat.add_assoc, BJ ha.nm, ha.put, BK l f _ _ rest fun b hb => h b (List.mem_cons_of_mem _ hb)]
    simp
theorem Gl (f : Nat) (nms : List Tx) (n : Nd) (t : Tx) : bC (f + 1) nms n (62 :: t) = .ok (nms, n, 62 :: t) := by
  have h1 : aD (62 :: t) = (false, 62 :: t) := by
    unfold aD Lib.trimLeftS
    rw [List.dropWhile_cons_of_neg (by decide)]
    simp
  unfold bC
  rw [h1]
  rfl
end Go.Proofs.YtigjbehgfjjlkaaGreatDoor
set_option linter.unusedVariables false
set_option linter.unusedSimpArgs false
namespace Go.Proofs.YtigjbehgfjjlkaaGreatDoor
open Go Go.Abs Go.Xml
theorem jM {α : Type} {f : α → Tx} (h : ∀ a, 1 ≤ (f a).length) : ∀ l : List α, l.length ≤ (l.flatMap f).length
  | [] => Nat.zero_le _
  | a :: l => by
    have ih := jM h l
    have := h a
    rw [List.flatMap_cons, List.length_append, List.length_cons]
    omega
theorem Lr (a : Att) : atE (erA a) = atE a := rfl
theorem vG {r : RS} {ds : List Dcl} : ∀ (l acc : List Att) {l' : List Att}, fO r ds acc l = .ok l' → l'.map erA = acc.map erA ++ l.map erA
  | [], acc, l', h => by
    unfold fO at h
    injection h with h
    rw [h]; simp
  | a :: l, acc, l', h => by
    unfold fO at h
    split at h
    · rw [vG l _ h]; simp
    split at h
    · rw [vG l _ h]; simp [erA]
    · cases h
theorem DY {r : RS} {n n' : Nd} (h : bH r n = .ok n') : n'.atts.map erA = n.atts.map erA := by
  unfold bH at h
  split at h
  · cases h
  split at h
  · split at h
    · rename_i l hl
      injection h with h
      rw [← h]
      have := vG _ _ hl
      simpa using this
    · cases h
  · cases h
theorem Gm {n n' : Nd} (h : n'.atts.map erA = n.atts.map erA) : n'.atts.flatMap atE = n.atts.flatMap atE := by
  have e : ∀ l : List Att, l.flatMap atE = (l.map erA).flatMap atE := fun l => by
    induction l with
    | nil => rfl
    | cons a l ih => rw [List.map_cons, List.flatMap_cons, List.flatMap_cons, ih, Lr]
  rw [e, h, ← e]
def stT (n : Nd) : Tx := bV n.pre n.loc ++ (n.dcls.flatMap dclE ++ (n.atts.flatMap atE ++ [62]))
theorem jo (n : Nd) : dP n.up = 60 :: stT n := rfl
def qm (ns : List Nd) (stk : List (Nat × Tx)) (n : Nd) : List Nd := match stk.getLast? with
  | none => ns ++ [{ n with par := -1 }]
  | some (p, _) => aB ns p ns.length ++ [{ n with par := (p : Int) }]
theorem zF {n : Nd} {r r' : RS} {i : Nat} (h : addF n r = .ok (i, r')) : r.ns.length ≠ 4096 ∧ i = r.ns.length ∧ r' = { r with ns := qm r.ns r.stk n } := by
  unfold addF at h
  unfold qm
  split at h
  · cases h
  rename_i hne
  split at h
  · rename_i hl
    injection h with h
    injection h with h1 h2
    refine ⟨hne, h1.symm, ?_⟩
    rw [hl]
    exact h2.symm
  · rename_i p nm hl
    injection h with h
    injection h with h1 h2
    refine ⟨hne, h1.symm, ?_⟩
    rw [hl]
    exact h2.symm
theorem sN {n : Nd} {r : RS} (h : r.ns.length ≠ 4096) : addF n r = .ok (r.ns.length, { r with ns := qm r.ns r.stk n }) := by
  unfold addF qm
  rw [if_neg h]
  cases r.stk.getLast? with
  | none => rfl
  | some x => rfl
structure zG (r r' : RS) (nm : Tx) (n : Nd) (sc : Bool) : Prop where
  fresh : ¬ (r.stk = [] ∧ r.done = true)
  kind : n.kind = 1
  kids : n.kids = []
  name : nm = bV n.pre n.loc
  nmok : NmOk nm
  ns : r'.ns = qm r.ns r.stk n
  stk : r'.stk = if sc then r.stk else r.stk ++ [(r.ns.length, nm)]
  done : r'.done = true
  good : Good r'.s
  sub : ∀ x ∈ r'.s, x ∈ r.s
  goodT : Good (stT n)
  no13 : ∀ x ∈ stT n, x ≠ 13
  val0 : n.val = []
  len : (stT n).length + nm.length + 40 * r'.s.length + 20 ≤ 40 * r.s.length
  again : ∀ t, bI ⟨stT n ++ t, r.ns, r.stk, r.done⟩ = .ok ⟨t, r'.ns, r.stk ++ [(r.ns.length, nm)], true⟩
theorem IV {r r' : RS} (hg : Good r.s) (h13 : ∀ x ∈ r.s, x ≠ 13) (h : bI r = .ok r') : ∃ nm n sc, zG r r' nm n sc := by
  unfold bI at h
  split at h
  · cases h
  rename_i hd
  split at h
  · cases h
  rename_i nm s1 h1
  split at h
  · cases h
  rename_i nms n s2 h2
  split at h
  · cases h
  rename_i h62
  split at h
  · cases h
  rename_i h32
  split at h
  · cases h
  rename_i honce
  split at h
  · cases h
  rename_i n' h3
  split at h
  · cases h
  rename_i hdep
  split at h
  · cases h
  rename_i a r1 h4
  injection h with h
  obtain ⟨c1, c2, c3, c4⟩ := jm h1
  have hgc := hg
  rw [c1] at hgc
  have hpc := hgc.piece (by
    rcases c4 with c4 | ⟨x, t, c4, hx⟩
    · exact .inl c4
    · exact .inr ⟨x, t, c4, mP hx⟩)
  have hnm : NmOk nm := ⟨c2, c3, hpc.1, fun x hx => h13 x (by rw [c1]; exact List.mem_append_left _ hx)⟩
  have hs1 : ∀ x ∈ s1, x ∈ r.s := fun x hx => by rw [c1]; exact List.mem_append_right _ hx
  have hh := mI h1
  have hhd : (cZ nm).dcls = [] ∧ (cZ nm).atts = [] ∧ (cZ nm).kids = [] := by unfold cZ; split <;> exact ⟨rfl, rfl, rfl⟩
  obtain ⟨p1, p2, p3, p4, p5, ⟨da, aa, p6⟩, p7⟩ := q8 _ hpc.2 (fun x hx => h13 x (hs1 x hx)) (by rw [hhd.1, hhd.2.1]; exact List.Perm.refl _) (by rw [hhd.2.1]; exact fun a ha => by cases ha) (by rw [hhd.1]; exact fun a ha => by cases ha) h2
  rw [hhd.1, hhd.2.1, List.nil_append, List.nil_append] at p6
  obtain ⟨k1, k2, k3, k4, k5, k6⟩ := lJ h3
  have ker := DY h3
  have kat := Gm ker
  obtain ⟨m1, m2, m3⟩ := zF h4
  have hpl : n.pre = (cZ nm).pre ∧ n.loc = (cZ nm).loc := by rw [p6]; exact ⟨rfl, rfl⟩
  have hname : nm = bV n'.pre n'.loc := by rw [k3, k4, hpl.1, hpl.2]; exact (Gj c2).symm
  have hst : stT n' = nm ++ (n.dcls.flatMap dclE ++ (n.atts.flatMap atE ++ [62])) := by unfold stT; rw [← hname, k6, kat]
  have hGd : ∀ l : List Dcl, (∀ d ∈ l, DOk d) → Good (l.flatMap dclE) ∧ ∀ x ∈ l.flatMap dclE, x ≠ 13 := fun l hl => by
    induction l with
    | nil => exact ⟨.nil, fun x hx => by cases hx⟩
    | cons d l ih =>
      obtain ⟨i1, i2⟩ := ih fun b hb => hl b (List.mem_cons_of_mem _ hb)
      have hd := hl d (List.mem_cons_self ..)
      have e : dclE d = [32] ++ (dnm d.pre ++ ([61, 34] ++ (aN attE d.uri ++ [34]))) := by unfold dclE dnm; rfl
      rw [List.flatMap_cons, e]
      refine ⟨Good.append ((Good.ascii (by decide)).append (hd.nm.good.append ((Good.ascii (by decide)).append ((ow (.inl rfl) hd.val).append (Good.ascii (by decide)))))) i1, fun x hx => ?_⟩
      simp only [List.mem_append] at hx
      rcases hx with (hx | hx | hx | hx | hx) | hx
      · rw [List.mem_singleton.1 hx]; decide
      · exact hd.nm.no13 x hx
      · revert x hx; decide
      · exact oz (.inl rfl) _ x hx
      · rw [List.mem_singleton.1 hx]; decide
      · exact i2 x hx
  have hGa : ∀ l : List Att, (∀ d ∈ l, AOk d ∧ d.spc = []) → Good (l.flatMap atE) ∧ ∀ x ∈ l.flatMap atE, x ≠ 13 := fun l hl => by
    induction l with
    | nil => exact ⟨.nil, fun x hx => by cases hx⟩
    | cons d l ih =>
      obtain ⟨i1, i2⟩ := ih fun b hb => hl b (List.mem_cons_of_mem _ hb)
      have hd := (hl d (List.mem_cons_self ..)).1
      have e : atE d = [32] ++ (iX d ++ ([61, 34] ++ (aN attE d.val ++ [34]))) := by unfold atE iX; rfl
      rw [List.flatMap_cons, e]
      refine ⟨Good.append ((Good.ascii (by decide)).append (hd.nm.good.append ((Good.ascii (by decide)).append ((ow (.inl rfl) hd.val).append (Good.ascii (by decide)))))) i1, fun x hx => ?_⟩
      simp only [List.mem_append] at hx
      rcases hx with (hx | hx | hx | hx | hx) | hx
      · rw [List.mem_singleton.1 hx]; decide
      · exact hd.nm.no13 x hx
      · revert x hx; decide
      · exact oz (.inl rfl) _ x hx
      · rw [List.mem_singleton.1 hx]; decide
      · exact i2 x hx
  have hs47 : Sfx s2 (hasF [47] s2).2 := bZ (by decide)
  have hs62 : Sfx (hasF [47] s2).2 (hasF [62] (hasF [47] s2).2).2 := bZ (by decide)
  have hr1 : r1.s = (hasF [62] (hasF [47] s2).2).2 := by rw [m3]
  refine ⟨nm, n', (hasF [47] s2).1, ⟨hd, by rw [k2, p6]; exact hh.1, by rw [k5, p6]; exact hhd.2.2, hname, hnm, by rw [← h, m3], ?_, by rw [← h], ?_, ?_, ?_, ?_, (rU h3).trans (by rw [p6]; exact (wZ nm).2.1), ?_, ?_⟩⟩
  · rw [← h, m3, m2]
  · rw [← h]
    show Good r1.s
    rw [hr1]
    exact (p4.sfx hs47).sfx hs62
  · intro x hx
    rw [← h] at hx
    have hx' : x ∈ r1.s := hx
    rw [hr1] at hx'
    exact hs1 x (p5 x (hs47.sub x (hs62.sub x hx')))
  · rw [hst]
    exact hnm.good.append ((hGd _ p3).1.append ((hGa _ p2).1.append (Good.ascii (by decide))))
  · intro x hx
    rw [hst] at hx
    simp only [List.mem_append] at hx
    rcases hx with hx | hx | hx | hx
    · exact hnm.no13 x hx
    · exact (hGd _ p3).2 x hx
    · exact (hGa _ p2).2 x hx
    · rw [List.mem_singleton.1 hx]; decide
  · have g1 := congrArg List.length c1
    rw [List.length_append] at g1
    have g2 := hs47.len
    have g3 : (hasF [62] (hasF [47] s2).2).1 = true := by simpa using h62
    have g4 := congrArg List.length (ji g3)
    rw [List.length_append, List.length_singleton] at g4
    have g5 : r'.s = (hasF [62] (hasF [47] s2).2).2 := by rw [← h]; exact hr1
    rw [hhd.1, hhd.2.1, List.flatMap_nil, List.flatMap_nil, List.length_nil] at p7
    rw [hst, g5]
    simp only [List.length_append, List.length_singleton]
    omega
  · intro t
    have hst' : stT n' ++ t = nm ++ (n.dcls.flatMap dclE ++ (n.atts.flatMap atE ++ 62 :: t)) := by rw [hst]; simp
    rw [hst']
    generalize hX : n.dcls.flatMap dclE ++ (n.atts.flatMap atE ++ 62 :: t) = X
    have hXh : ∃ x t', X = x :: t' ∧ aH.contains x = true := by
      rw [← hX]
      cases n.dcls with
      | cons d l => exact ⟨32, _, by rw [List.flatMap_cons]; unfold dclE; rfl, by decide⟩
      | nil =>
        cases n.atts with
        | cons d l => exact ⟨32, _, by rw [List.flatMap_nil, List.nil_append, List.flatMap_cons]; unfold atE; rfl, by decide⟩
        | nil => exact ⟨62, t, rfl, by decide⟩
    have hXl : ∃ k, X.length + 1 = k + 1 + n.atts.length + n.dcls.length := by
      have g1 := jM (f := dclE) (fun d => by unfold dclE; simp) n.dcls
      have g2 := jM (f := atE) (fun d => by unfold atE; simp) n.atts
      refine ⟨X.length - n.atts.length - n.dcls.length, ?_⟩
      rw [← hX]
      simp only [List.length_append, List.length_cons]
      omega
    obtain ⟨k, hk⟩ := hXl
    have her : n.atts.map erA = n.atts := by
      conv => rhs; rw [← List.map_id n.atts]
      refine List.map_congr_left fun a ha => ?_
      have := (p2 a ha).2
      unfold erA
      rw [← this]
      rfl
    have hat : bC (X.length + 1) [] (cZ nm) X = .ok (n.dcls.map (fun d => dnm d.pre) ++ n.atts.map iX, n, 62 :: t) := by
      rw [hk, ← hX, BK _ _ _ _ _ p3, xI _ _ _ _ _ (fun a ha => (p2 a ha).1), Gl, hhd.1, hhd.2.1, her]
      simp only [List.nil_append]
      congr 2
      congr 1
      rw [p6]
    have hlen : ¬ (n.dcls.map (fun d => dnm d.pre) ++ n.atts.map iX).length > 32 := by rw [← p1.length_eq]; exact h32
    have hon : once (n.dcls.map (fun d => dnm d.pre) ++ n.atts.map iX) = true := by
      unfold once at honce ⊢
      rw [decide_eq_true_iff]
      refine p1.nodup_iff.1 ?_
      simpa using honce
    unfold bI
    dsimp only
    rw [if_neg hd, kQ c2 c3 hXh]
    dsimp only
    rw [hat]
    dsimp only
    rw [show hasF [47] (62 :: t) = (false, 62 :: t) from rfl]
    dsimp only
    rw [show hasF [62] (62 :: t) = (true, t) from rfl]
    dsimp only
    rw [if_neg (by decide), if_neg hlen, hon, if_neg (by decide), oh (r := r) (r2 := ⟨nm ++ X, r.ns, r.stk, r.done⟩) (fun p ds => rfl) n, h3]
    dsimp only
    rw [if_neg hdep, sN (r := ⟨t, r.ns, r.stk, r.done⟩) m1]
    dsimp only
    rw [if_neg (by decide), ← h, m3]
end Go.Proofs.YtigjbehgfjjlkaaGreatDoor
set_option linter.unusedVariables false
set_option linter.unusedSimpArgs false
namespace Go.Proofs.YtigjbehgfjjlkaaGreatDoor
open Go Go.Abs Go.Xml
theorem step_end (x : Tx) (ns : List Nd) (stk : List (Nat × Tx)) (d : Bool) : aX ⟨60 :: 47 :: x, ns, stk, d⟩ = endF ⟨x, ns, stk, d⟩ := by
  cases stk <;> rfl
theorem zH (x : Tx) (ns : List Nd) (stk : List (Nat × Tx)) (d : Bool) : aX ⟨60 :: 33 :: 45 :: 45 :: x, ns, stk, d⟩ = aS ⟨x, ns, stk, d⟩ := rfl
theorem xJ (x : Tx) (ns : List Nd) (stk : List (Nat × Tx)) (d : Bool) : aX ⟨60 :: 63 :: x, ns, stk, d⟩ = dS ⟨x, ns, stk, d⟩ := by
  cases stk <;> rfl
theorem DZ {nm x : Tx} (h : NmOk nm) (ns : List Nd) (stk : List (Nat × Tx)) (d : Bool) : aX ⟨60 :: (nm ++ x), ns, stk, d⟩ = bI ⟨nm ++ x, ns, stk, d⟩ := by
  obtain ⟨c, l, rfl⟩ := List.exists_cons_of_ne_nil h.ne
  have hc := h.stop c (List.mem_cons_self ..)
  have hn : ∀ n : UInt8, aH.contains n = true → c ≠ n := fun n hn e => by rw [e, hn] at hc; cases hc
  have h33 := hn 33 (by decide)
  have h47 := hn 47 (by decide)
  have h63 := hn 63 (by decide)
  have e1 : ∀ w : Tx, hasF (60 :: 33 :: w) (60 :: (c :: l ++ x)) = (false, 60 :: (c :: l ++ x)) := fun w => by
    unfold hasF
    rw [if_neg]
    simp [List.isPrefixOf, Ne.symm h33]
  have e2 : hasF [60, 63] (60 :: (c :: l ++ x)) = (false, 60 :: (c :: l ++ x)) := by
    unfold hasF
    rw [if_neg]
    simp [List.isPrefixOf, Ne.symm h63]
  have e3 : hasF [60, 47] (60 :: (c :: l ++ x)) = (false, 60 :: (c :: l ++ x)) := by
    unfold hasF
    rw [if_neg]
    simp [List.isPrefixOf, Ne.symm h47]
  have e4 : hasF [60] (60 :: (c :: l ++ x)) = (true, c :: l ++ x) := rfl
  have hm : aX ⟨60 :: (c :: l ++ x), ns, stk, d⟩ = iy ⟨60 :: (c :: l ++ x), ns, stk, d⟩ := by
    unfold aX
    exact if_pos rfl
  rw [hm]
  unfold iy wDoc iR
  dsimp only
  rw [e1, e1, e1, e2, e3, e4]
  simp
theorem J3 {nm : Tx} (h : NmOk nm) {ns : List Nd} {stk : List (Nat × Tx)} {p : Nat} (hl : stk.getLast? = some (p, nm)) (d : Bool) (t : Tx) : endF ⟨nm ++ 62 :: t, ns, stk, d⟩ = .ok ⟨t, ns, stk.dropLast, d⟩ := by
  have h1 : aD (62 :: t) = (false, 62 :: t) := by
    unfold aD Lib.trimLeftS
    rw [List.dropWhile_cons_of_neg (by decide)]
    simp
  unfold endF
  dsimp only
  rw [hl]
  dsimp only
  rw [kQ h.halves h.stop ⟨62, t, rfl, by decide⟩]
  dsimp only
  rw [h1]
  dsimp only
  rw [show hasF [62] (62 :: t) = (true, t) from rfl, if_pos ⟨rfl, rfl⟩]
theorem vH {s nm s1 : Tx} (hg : Good s) (h13 : ∀ x ∈ s, x ≠ 13) (h : dF s = .ok (nm, s1)) : NmOk nm ∧ Good s1 ∧ ∀ x ∈ s1, x ∈ s := by
  obtain ⟨c1, c2, c3, c4⟩ := jm h
  have hgc := hg
  rw [c1] at hgc
  have hpc := hgc.piece (by
    rcases c4 with c4 | ⟨x, t, c4, hx⟩
    · exact .inl c4
    · exact .inr ⟨x, t, c4, mP hx⟩)
  exact ⟨⟨c2, c3, hpc.1, fun x hx => h13 x (by rw [c1]; exact List.mem_append_left _ hx)⟩, hpc.2, fun x hx => by rw [c1]; exact List.mem_append_right _ hx⟩
structure KE (r r' : RS) : Prop where
  last : ∃ p nm, r.stk.getLast? = some (p, nm)
  ns : r'.ns = r.ns
  stk : r'.stk = r.stk.dropLast
  done : r'.done = r.done
  good : Good r'.s
  sub : ∀ x ∈ r'.s, x ∈ r.s
  len : ∀ p nm, r.stk.getLast? = some (p, nm) → nm.length + 1 + r'.s.length ≤ r.s.length
theorem Ls {r r' : RS} (hg : Good r.s) (h13 : ∀ x ∈ r.s, x ≠ 13) (h : endF r = .ok r') : KE r r' := by
  unfold endF at h
  split at h
  · cases h
  rename_i p nm hl
  split at h
  · cases h
  rename_i x s1 h1
  obtain ⟨_, g1, g2⟩ := vH hg h13 h1
  have hs : Sfx s1 (hasF [62] (aD s1).2).2 := (eD s1).trans (bZ (by decide))
  split at h
  · rename_i hx
    injection h with h
    rw [← h]
    refine ⟨⟨p, nm, hl⟩, rfl, rfl, rfl, g1.sfx hs, fun y hy => g2 y (hs.sub y hy), fun q nm' hq => ?_⟩
    rw [hl] at hq
    injection hq with hq
    injection hq with _ hq
    have c1 := congrArg List.length (jm h1).1
    rw [List.length_append] at c1
    have c2 := (eD s1).len
    have c3 := congrArg List.length (ji hx.2)
    rw [List.length_append, List.length_singleton] at c3
    rw [← hq, ← hx.1]
    show x.length + 1 + (hasF [62] (aD s1).2).2.length ≤ _
    omega
  · cases h
structure vI (r r' : RS) (n : Nd) : Prop where
  kind : n.kind = 3 ∨ n.kind = 4
  kids : n.kids = []
  stk : r'.stk = r.stk
  done : r'.done = r.done
  good : Good r'.s
  sub : ∀ x ∈ r'.s, x ∈ r.s
  goodT : Good (dZ n.up)
  no13 : ∀ x ∈ dZ n.up, x ≠ 13
  sz : SzX n.up
  len : (dZ n.up).length + r'.s.length ≤ r.s.length + 5
  ns : (r.stk = [] ∧ r'.ns = r.ns) ∨ (r.stk ≠ [] ∧ r'.ns = qm r.ns r.stk n ∧ ∀ t, aX ⟨dZ n.up ++ t, r.ns, r.stk, r.done⟩ = .ok ⟨t, r'.ns, r.stk, r.done⟩)
theorem D5 {r r' : RS} (hl6 : r.s.length ≤ 1000000) (hg : Good r.s) (h13 : ∀ x ∈ r.s, x ≠ 13) (h : aS r = .ok r') : ∃ n, vI r r' n := by
  unfold aS at h
  split at h
  · cases h
  rename_i v s1 h1
  obtain ⟨e1, hj⟩ := jW (by decide) h1
  have hgc := hg
  rw [e1] at hgc
  have hpc := hgc.two (by decide) (by decide)
  have hs : Sfx s1 (hasF [62] s1).2 := bZ (by decide)
  have hs1 : ∀ x ∈ s1, x ∈ r.s := fun x hx => by rw [e1]; exact List.mem_append_right _ (List.mem_append_right _ hx)
  have hv13 : ∀ x ∈ v, x ≠ 13 := fun x hx => h13 x (by rw [e1]; exact List.mem_append_left _ hx)
  have hle : dZ ({ nd0 with kind := 3, val := v } : Nd).up = [60, 33, 45, 45] ++ (v ++ [45, 45, 62]) := by unfold dZ Nd.up; simp
  have c1 := congrArg List.length e1
  simp only [List.length_append, List.length_cons, List.length_nil] at c1
  have hsz : SzX ({ nd0 with kind := 3, val := v } : Nd).up := ⟨Nat.zero_le _, Nat.zero_le _, (show v.length ≤ 1000000 by omega), Nat.zero_le _, Nat.zero_le _, fun a ha => (by cases ha), fun a ha => (by cases ha)⟩
  have hlen : (hasF [62] s1).1 = true → ([60, 33, 45, 45] ++ (v ++ [45, 45, 62])).length + (hasF [62] s1).2.length ≤ r.s.length + 5 := fun h62 => by
    have c2 := congrArg List.length (ji h62)
    rw [List.length_append, List.length_singleton] at c2
    simp only [List.length_append, List.length_cons, List.length_nil]
    omega
  have hGT : Good ([60, 33, 45, 45] ++ (v ++ [45, 45, 62])) := (Good.ascii (by decide)).append (hpc.1.append (Good.ascii (by decide)))
  have h13T : ∀ x ∈ [60, 33, 45, 45] ++ (v ++ [45, 45, 62]), x ≠ 13 := fun x hx => by
    rw [List.mem_append, List.mem_append] at hx
    rcases hx with hx | hx | hx
    · revert x hx; decide
    · exact hv13 x hx
    · revert x hx; decide
  split at h
  · rename_i h62
    split at h
    · rename_i hst
      injection h with h
      rw [← h]
      exact ⟨{ nd0 with kind := 3, val := v }, .inl rfl, rfl, rfl, rfl, hpc.2.sfx hs, fun x hx => hs1 x (hs.sub x hx), by rw [hle]; exact hGT, by rw [hle]; exact h13T, hsz, by rw [hle]; exact hlen h62, .inl ⟨hst, rfl⟩⟩
    · rename_i hst
      split at h
      · cases h
      · rename_i i r1 h2
        injection h with h
        obtain ⟨m1, m2, m3⟩ := zF h2
        rw [← h, m3]
        refine ⟨{ nd0 with kind := 3, val := v }, .inl rfl, rfl, rfl, rfl, hpc.2.sfx hs, fun x hx => hs1 x (hs.sub x hx), by rw [hle]; exact hGT, by rw [hle]; exact h13T, hsz, by rw [hle]; exact hlen h62, .inr ⟨hst, rfl, fun t => ?_⟩⟩
        rw [hle, show [60, 33, 45, 45] ++ (v ++ [45, 45, 62]) ++ t = 60 :: 33 :: 45 :: 45 :: (v ++ ([45, 45] ++ 62 :: t)) by simp, zH]
        unfold aS
        dsimp only
        rw [hj]
        dsimp only
        rw [show hasF [62] (62 :: t) = (true, t) from rfl, if_pos rfl, if_neg hst, sN (r := ⟨t, r.ns, r.stk, r.done⟩) m1]
  · cases h
theorem J4 {r r' : RS} (hl6 : r.s.length ≤ 1000000) (hg : Good r.s) (h13 : ∀ x ∈ r.s, x ≠ 13) (h : dS r = .ok r') : ∃ n, vI r r' n := by
  unfold dS at h
  split at h
  · cases h
  rename_i nm s1 h1
  obtain ⟨hnm, g1, g2⟩ := vH hg h13 h1
  split at h
  · cases h
  rename_i hx
  have hle : ∀ v : Tx, dZ ({ nd0 with kind := 4, loc := nm, val := v } : Nd).up = [60, 63] ++ (nm ++ ((if v = [] then [] else 32 :: v) ++ [63, 62])) := fun v => by unfold dZ Nd.up; simp
  have key : ∀ v s2 : Tx, Good v → (∀ x ∈ v, x ≠ 13) → Good s2 → (∀ x ∈ s2, x ∈ r.s) → (v = [] ∨ (Just [63, 62] v ∧ ∀ c l, v = c :: l → blanks.contains c = false)) → nm.length + v.length + s2.length ≤ r.s.length →
      (if r.stk = [] then (.ok { r with s := s2 } : Ex RS) else match addF { nd0 with kind := 4, loc := nm, val := v } { r with s := s2 } with
        | .error e => .error e
        | .ok (_, r') => .ok r') = .ok r' → ∃ n, vI r r' n := fun v s2 hv hv13 hs2 hsub hj hlen h => by
    have hsz : SzX ({ nd0 with kind := 4, loc := nm, val := v } : Nd).up := ⟨Nat.zero_le _, (show nm.length ≤ 1000000 by omega), (show v.length ≤ 1000000 by omega), Nat.zero_le _, Nat.zero_le _, fun a ha => (by cases ha), fun a ha => (by cases ha)⟩
    have hlen' : ([60, 63] ++ (nm ++ ((if v = [] then [] else 32 :: v) ++ [63, 62]))).length + s2.length ≤ r.s.length + 5 := by
      split <;> simp <;> omega
    have hGT : Good ([60, 63] ++ (nm ++ ((if v = [] then [] else 32 :: v) ++ [63, 62]))) := by
      refine (Good.ascii (by decide)).append (hnm.good.append (Good.append ?_ (Good.ascii (by decide))))
      split
      · exact .nil
      · exact (Good.ascii (a := [32]) (by decide)).append hv
    have h13T : ∀ x ∈ [60, 63] ++ (nm ++ ((if v = [] then [] else 32 :: v) ++ [63, 62])), x ≠ 13 := fun x hx => by
      rw [List.mem_append, List.mem_append, List.mem_append] at hx
      rcases hx with hx | hx | hx | hx
      · revert x hx; decide
      · exact hnm.no13 x hx
      · split at hx
        · cases hx
        · rcases List.mem_cons.1 hx with rfl | hx
          · decide
          · exact hv13 x hx
      · revert x hx; decide
    split at h
    · rename_i hst
      injection h with h
      rw [← h]
      exact ⟨{ nd0 with kind := 4, loc := nm, val := v }, .inr rfl, rfl, rfl, rfl, hs2, hsub, by rw [hle]; exact hGT, by rw [hle]; exact h13T, hsz, by rw [hle]; exact hlen', .inl ⟨hst, rfl⟩⟩
    · rename_i hst
      split at h
      · cases h
      · rename_i i r1 h2
        injection h with h
        obtain ⟨m1, m2, m3⟩ := zF h2
        rw [← h, m3]
        refine ⟨{ nd0 with kind := 4, loc := nm, val := v }, .inr rfl, rfl, rfl, rfl, hs2, hsub, by rw [hle]; exact hGT, by rw [hle]; exact h13T, hsz, by rw [hle]; exact hlen', .inr ⟨hst, rfl, fun t => ?_⟩⟩
        rw [hle]
        by_cases hv0 : v = []
        · rw [if_pos hv0, show [60, 63] ++ (nm ++ ([] ++ [63, 62])) ++ t = 60 :: 63 :: (nm ++ 63 :: 62 :: t) by simp, xJ]
          unfold dS
          dsimp only
          rw [kQ hnm.halves hnm.stop ⟨63, _, rfl, by decide⟩]
          dsimp only
          rw [if_neg hx, show hasF [63, 62] (63 :: 62 :: t) = (true, t) from rfl, if_pos rfl, if_neg hst, ← hv0, sN (r := ⟨t, r.ns, r.stk, r.done⟩) m1]
        · obtain ⟨hj, hb⟩ := hj.resolve_left hv0
          rw [if_neg hv0, show [60, 63] ++ (nm ++ (32 :: v ++ [63, 62])) ++ t = 60 :: 63 :: (nm ++ 32 :: (v ++ ([63, 62] ++ t))) by simp, xJ]
          obtain ⟨c, l, hcl⟩ := List.exists_cons_of_ne_nil hv0
          have hsk : aD (32 :: (v ++ ([63, 62] ++ t))) = (true, v ++ ([63, 62] ++ t)) := by
            have ht : Lib.trimLeftS (32 :: (v ++ ([63, 62] ++ t))) blanks = v ++ ([63, 62] ++ t) := by
              unfold Lib.trimLeftS
              rw [List.dropWhile_cons_of_pos (by decide), hcl, List.cons_append, List.dropWhile_cons_of_neg (by rw [hb c l hcl]; decide)]
            unfold aD
            rw [ht]
            simp
          unfold dS
          dsimp only
          rw [kQ hnm.halves hnm.stop ⟨32, _, rfl, by decide⟩]
          dsimp only
          rw [if_neg hx, show hasF [63, 62] (32 :: (v ++ ([63, 62] ++ t))) = (false, 32 :: (v ++ ([63, 62] ++ t))) by unfold hasF; rw [if_neg]; simp [List.isPrefixOf]]
          dsimp only
          rw [if_neg (by decide), hsk]
          dsimp only
          rw [if_pos rfl, hj]
          dsimp only
          rw [if_neg hst, sN (r := ⟨t, r.ns, r.stk, r.done⟩) m1]
  dsimp only at h
  split at h
  · have hs : Sfx s1 (hasF [63, 62] s1).2 := bZ (by decide)
    exact key [] _ .nil (fun x hx => by cases hx) (g1.sfx hs) (fun x hx => g2 x (hs.sub x hx)) (.inl rfl) (by have := hs.len; have c1 := congrArg List.length (jm h1).1; rw [List.length_append] at c1; rw [List.length_nil]; omega) h
  split at h
  · split at h
    · cases h
    · rename_i v s2 h2
      obtain ⟨e1, hj⟩ := jW (by decide) h2
      have hss := eD s1
      have hgc := g1.sfx hss
      rw [e1] at hgc
      have hpc := hgc.two (by decide) (by decide)
      have k1 := hss.len
      have k2 := congrArg List.length (jm h1).1
      have k3 := congrArg List.length e1
      simp only [List.length_append] at k2 k3
      refine key v s2 hpc.1 (fun x hx => h13 x (g2 x (hss.sub x (by rw [e1]; exact List.mem_append_left _ hx)))) hpc.2 (fun x hx => g2 x (hss.sub x (by rw [e1]; exact List.mem_append_right _ (List.mem_append_right _ hx)))) ?_ (by omega) h
      refine .inr ⟨hj, fun c l hcl => ?_⟩
      have : s1.dropWhile (blanks.contains ·) = c :: (l ++ ([63, 62] ++ s2)) := by
        have : (aD s1).2 = v ++ ([63, 62] ++ s2) := e1
        rw [hcl] at this
        exact this
      exact dw_head this
  · cases h
end Go.Proofs.YtigjbehgfjjlkaaGreatDoor
