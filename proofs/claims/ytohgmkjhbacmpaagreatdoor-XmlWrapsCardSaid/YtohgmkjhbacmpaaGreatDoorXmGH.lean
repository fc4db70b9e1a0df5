/- The start of an element, plainly (plain Lean; no conditions). -/
import Derived.Test.YtohgmkjhbacmpaaGreatDoorXmGD
import Derived.Lib.TrimAscii
import Derived.Test.YtohgmkjhbacmpaaGreatDoorXmGF
import Derived.Lib.ReplaceLaws
import Derived.Lib.DecodeN
set_option linter.unusedVariables false
set_option linter.unusedSimpArgs false
namespace Go.Proofs.YtohgmkjhbacmpaaGreatDoor
open Go Go.Abs Go.RowKit Go.Xml
theorem skip_none {c : UInt8} {t : Tx} (h : c ≠ 32 ∧ c ≠ 9 ∧ c ≠ 10) : aC (c :: t) = (false, c :: t) := by
  have e : Lib.trimLeftS (c :: t) blanks = c :: t := by
    unfold Lib.trimLeftS
    rw [List.dropWhile_cons_of_neg]
    obtain ⟨a, b, d⟩ := h
    simp [blanks, a, b, d]
  unfold aC
  rw [e, decide_eq_false (Nat.lt_irrefl _)]
theorem sD {f : Nat} {nms : List Tx} {n : Nd} {c : UInt8} {t : Tx} (h : c ≠ 32 ∧ c ≠ 9 ∧ c ≠ 10) : bg (f + 1) nms n (c :: t) = .ok (nms, n, c :: t) := by
  unfold bg
  rw [skip_none h]
  rfl
theorem uT {r : RS} {nm s1 s2 s3 s4 : Tx} {nms : List Tx} {n n' : Nd} {cl : Bool} (h0 : ¬(r.stk = [] ∧ r.done = true)) (h1 : bK r.s = .ok (nm, s1)) (h2 : bg (s1.length + 1) [] (dh nm) s1 = .ok (nms, n, s2)) (h3 : hasF [47] s2 = (cl, s3)) (h4 : hasF [62] s3 = (true, s4)) (h5 : nms.length ≤ 32) (h6 : once nms = true) (h7 : aU r n = .ok n') (h8 : r.stk.length ≠ 32) :
    aV r = match addF n' { r with s := s4 } with
      | .error e => .error e
      | .ok (a, r') => .ok { r' with done := true, stk := if cl then r'.stk else r'.stk ++ [(a, nm)] } := by
  unfold aV
  rw [if_neg h0, h1]
  dsimp only
  rw [h2]
  dsimp only
  rw [h3]
  dsimp only
  rw [h4]
  dsimp only
  rw [if_neg (by simp), if_neg (by omega), h6, if_neg (by simp), h7]
  dsimp only
  rw [if_neg h8]
  rfl
theorem tV (r : RS) (c : UInt8) : ∃ u, aU r { nd0 with kind := 1, loc := [c] } = .ok { nd0 with kind := 1, loc := [c], spc := u } := by
  refine ⟨(aI r [] []).1, ?_⟩
  have h2 : (aI r [] []).2 = true := by
    unfold aI
    rw [if_neg (by simp)]
    show (match outer r.ns [] r.stk.reverse with
      | some u => (u, true)
      | none => ([], decide (([] : Tx) = []))).2 = true
    cases outer r.ns [] r.stk.reverse <;> rfl
  unfold aU
  rw [if_neg (by simp [nd0])]
  exact (if_pos h2).trans rfl
end Go.Proofs.YtohgmkjhbacmpaaGreatDoor
set_option linter.unusedVariables false
set_option linter.unusedSimpArgs false
namespace Go.Proofs.YtohgmkjhbacmpaaGreatDoor
open Go Go.Abs Go.RowKit Go.Xml
def Stp (t : Tx) : Prop := t = [] ∨ t.head? = some 60
theorem Stp.JG {t : Tx} (h : Stp t) {p : UInt8 → Bool} (hp : p 60 = false) : t.takeWhile p = [] := by
  rcases h with rfl | h
  · rfl
  · cases t with
    | nil => rfl
    | cons c t => simp at h; subst h; simp [hp]
theorem Stp.JH {t : Tx} (h : Stp t) {p : UInt8 → Bool} (hp : p 60 = false) : t.dropWhile p = t := by
  rcases h with rfl | h
  · rfl
  · cases t with
    | nil => rfl
    | cons c t => simp at h; subst h; simp [hp]
theorem nQ {t : Tx} (ht : Stp t) (s : Tx) {sg : Tx} (h : sg.contains 60 = true) : upTo (s ++ t) sg = upTo s sg := by
  unfold upTo
  rw [List.takeWhile_append, ht.JG (p := fun c => !sg.contains c) (by rw [h]; rfl), List.append_nil]
  split
  · rename_i e
    rw [← e]
  · rfl
theorem lS {t : Tx} (ht : Stp t) (s : Tx) {sg : Tx} (h : sg.contains 60 = true) : (s ++ t).take (upTo (s ++ t) sg) = s.take (upTo s sg) := by
  rw [nQ ht s h, List.take_append_of_le_length (kW s sg)]
theorem lT {t : Tx} (ht : Stp t) (s : Tx) {sg : Tx} (h : sg.contains 60 = true) : (s ++ t).drop (upTo (s ++ t) sg) = s.drop (upTo s sg) ++ t := by
  rw [nQ ht s h, List.drop_append_of_le_length (kW s sg)]
theorem nR {t : Tx} (ht : Stp t) : ∀ {w s : Tx}, (∀ c ∈ w, c ≠ 60) → w.isPrefixOf (s ++ t) = w.isPrefixOf s
  | [], s, h => by simp
  | c :: w, [], h => by
    rcases ht with rfl | ht
    · rfl
    · cases t with
      | nil => rfl
      | cons d t =>
        simp at ht; subst ht
        have := h c (List.mem_cons_self ..)
        simp [List.isPrefixOf, this]
  | c :: w, d :: s, h => by
    rw [List.cons_append, List.isPrefixOf_cons_cons, List.isPrefixOf_cons_cons, nR ht fun c hc => h c (List.mem_cons_of_mem _ hc)]
theorem FE {t : Tx} (ht : Stp t) {w s : Tx} (h : ∀ c ∈ w.tail, c ≠ 60) (hs : s ≠ []) : w.isPrefixOf (s ++ t) = w.isPrefixOf s := by
  cases w with
  | nil => simp
  | cons c w =>
    cases s with
    | nil => exact absurd rfl hs
    | cons d s => rw [List.cons_append, List.isPrefixOf_cons_cons, List.isPrefixOf_cons_cons, nR ht (w := w) h]
theorem xw {w s : Tx} (h : w.isPrefixOf s = true) : w.length ≤ s.length := (List.isPrefixOf_iff_prefix.1 h).length_le
theorem Cg {w s t : Tx} (h : w.isPrefixOf (s ++ t) = w.isPrefixOf s) : hasF w (s ++ t) = ((hasF w s).1, (hasF w s).2 ++ t) := by
  unfold hasF
  rw [h]
  split
  · rename_i hp
    rw [List.drop_append_of_le_length (xw hp)]
  · rfl
theorem iC {t : Tx} (ht : Stp t) {w : Tx} (s : Tx) (h : ∀ c ∈ w, c ≠ 60) : hasF w (s ++ t) = ((hasF w s).1, (hasF w s).2 ++ t) := Cg (nR ht h)
theorem jD {t : Tx} (ht : Stp t) {w s : Tx} (h : ∀ c ∈ w.tail, c ≠ 60) (hs : s ≠ []) : hasF w (s ++ t) = ((hasF w s).1, (hasF w s).2 ++ t) := Cg (FE ht h hs)
theorem FH {t : Tx} (ht : Stp t) (s : Tx) : Lib.trimLeftS (s ++ t) blanks = Lib.trimLeftS s blanks ++ t := by
  unfold Lib.trimLeftS
  rw [List.dropWhile_append]
  split
  · rename_i e
    rw [List.isEmpty_iff.1 e, ht.JH (by decide)]; rfl
  · rfl
theorem kP {t : Tx} (ht : Stp t) (s : Tx) : aC (s ++ t) = ((aC s).1, (aC s).2 ++ t) := by
  unfold aC
  rw [FH ht, List.length_append, List.length_append]
  simp
theorem uU {s w : Tx} (h : 0 ≤ Lib.index s w) : (Lib.index s w).toNat + w.length ≤ s.length := by
  induction s with
  | nil =>
    unfold Lib.index at h ⊢
    cases w with
    | nil => simp
    | cons c w => simp at h
  | cons b s ih =>
    unfold Lib.index at h ⊢
    split at h
    · rename_i hp
      rw [if_pos hp]
      simpa using xw hp
    · rename_i hp
      rw [if_neg hp]
      split at h
      · omega
      · rename_i hn
        rw [if_neg hn]
        have hg := Lib.index_ge s w
        have hne : Lib.index s w ≠ -1 := fun e => hn (by rw [e]; rfl)
        have := ih (by omega)
        rw [List.length_cons]
        omega
theorem FI {w s t : Tx} (h : w.length ≤ s.length) : w.isPrefixOf (s ++ t) = w.isPrefixOf s := by
  rw [Bool.eq_iff_iff, List.isPrefixOf_iff_prefix, List.isPrefixOf_iff_prefix]
  exact ⟨fun hp => List.prefix_of_prefix_length_le hp (List.prefix_append s t) h, fun hp => hp.trans (List.prefix_append s t)⟩
theorem DL {s w : Tx} (t : Tx) (h : 0 ≤ Lib.index s w) : Lib.index (s ++ t) w = Lib.index s w := by
  induction s with
  | nil =>
    unfold Lib.index at h
    cases w with
    | nil => cases t <;> simp [Lib.index]
    | cons c w => simp at h
  | cons b s ih =>
    have hl := uU h
    unfold Lib.index at h
    rw [List.cons_append]
    unfold Lib.index
    rw [← List.cons_append, FI (by omega)]
    split at h
    · rename_i hp
      rw [if_pos hp, if_pos hp]
    · rename_i hp
      rw [if_neg hp, if_neg hp]
      split at h
      · omega
      · rename_i hn
        have hg := Lib.index_ge s w
        have hne : Lib.index s w ≠ -1 := fun e => hn (by rw [e]; rfl)
        rw [ih (by omega)]
theorem tX {s : Tx} {c : UInt8} (t : Tx) (h : 0 ≤ Lib.indexByte s c) : Lib.indexByte (s ++ t) c = Lib.indexByte s c ∧ (Lib.indexByte s c).toNat + 1 ≤ s.length := by
  induction s with
  | nil => exact absurd h (by unfold Lib.indexByte; decide)
  | cons b s ih =>
    rw [List.cons_append]
    unfold Lib.indexByte at h ⊢
    split at h
    · rename_i hp
      rw [if_pos hp, if_pos hp]
      exact ⟨rfl, by simp⟩
    · rename_i hp
      rw [if_neg hp, if_neg hp]
      split at h
      · omega
      · rename_i hn
        have hg := Lib.indexByte_ge s c
        have hne : Lib.indexByte s c ≠ -1 := fun e => hn (by rw [e]; rfl)
        obtain ⟨h1, h2⟩ := ih (by omega)
        rw [h1, if_neg hn]
        exact ⟨rfl, by rw [List.length_cons]; omega⟩
theorem mq {w s v s' : Tx} (t : Tx) (h : aO w s = .ok (v, s')) : aO w (s ++ t) = .ok (v, s' ++ t) := by
  unfold aO Lib.cut at h ⊢
  by_cases hi : 0 ≤ Lib.index s w
  · have hl := uU hi
    rw [if_pos hi] at h
    rw [DL t hi, if_pos hi]
    simp only [if_true] at h ⊢
    injection h with h
    injection h with h1 h2
    rw [← h1, ← h2, List.take_append_of_le_length (by omega), List.drop_append_of_le_length (by omega)]
  · rw [if_neg hi] at h
    simp at h
theorem lq {t : Tx} (ht : Stp t) {s nm s1 : Tx} (h : bK s = .ok (nm, s1)) : bK (s ++ t) = .ok (nm, s1 ++ t) := by
  unfold bK at h ⊢
  rw [lS ht s (by decide), lT ht s (by decide)]
  split at h
  · rename_i hh
    rw [if_pos hh]
    injection h with h
    injection h with h1 h2
    rw [h1, h2]
  · cases h
theorem zu {s v s' : Tx} (t : Tx) (h : refF s = .ok (v, s')) : refF (s ++ t) = .ok (v, s' ++ t) := by
  unfold refF at h ⊢
  by_cases hi : Lib.indexByte s 59 < 0
  · rw [if_pos hi] at h; cases h
  · obtain ⟨h1, h2⟩ := tX t (s := s) (c := 59) (by omega)
    rw [if_neg hi] at h
    rw [h1, if_neg hi, List.take_append_of_le_length (by omega), List.drop_append_of_le_length h2]
    cases hx : refX (s.take (Lib.indexByte s 59).toNat) with
    | error e => rw [hx] at h; cases h
    | ok y =>
      rw [hx] at h
      injection h with h
      injection h with h3 h4
      show Except.ok (y, _) = _
      rw [h3, h4]
theorem FJ {s t : Tx} {i : Nat} (h : i < s.length) (d : UInt8) : (s ++ t).getD i d = s.getD i d := by
  rw [List.getD_eq_getElem?_getD, List.getD_eq_getElem?_getD, List.getElem?_append_left h]
theorem oP {t : Tx} (ht : Stp t) (q : Tx) : ∀ (f f' : Nat) {out s v s' : Tx}, f ≤ f' → iP q f out s = .ok (v, s') → iP q f' out (s ++ t) = .ok (v, s' ++ t)
  | 0, _, out, s, v, s', _, h => by cases h
  | f + 1, 0, out, s, v, s', hf, h => by omega
  | f + 1, f' + 1, out, s, v, s', hf, h => by
    unfold iP at h ⊢
    have hc : (q ++ [60, 38]).contains 60 = true := by simp
    rw [nQ ht s hc]
    by_cases h1 : upTo s (q ++ [60, 38]) < s.length ∧ s.getD (upTo s (q ++ [60, 38])) 0 ≠ 60
    · rw [if_pos h1] at h
      rw [FJ h1.1, if_pos ⟨by rw [List.length_append]; omega, h1.2⟩, List.take_append_of_le_length (kW _ _), List.drop_append_of_le_length h1.1]
      by_cases h2 : s.getD (upTo s (q ++ [60, 38])) 0 = 38
      · rw [if_pos h2] at h
        rw [if_pos h2]
        cases hr : refF (s.drop (upTo s (q ++ [60, 38]) + 1)) with
        | error e => rw [hr] at h; cases h
        | ok y =>
          obtain ⟨y1, y2⟩ := y
          rw [hr] at h
          rw [zu t hr]
          exact oP ht q f f' (by omega) h
      · rw [if_neg h2] at h
        rw [if_neg h2]
        injection h with h
        injection h with h3 h4
        rw [h3, h4]
    · rw [if_neg h1] at h; cases h
theorem DN {t : Tx} (ht : Stp t) {s v s' : Tx} (h : iw s = .ok (v, s')) : iw (s ++ t) = .ok (v, s' ++ t) := by
  unfold iw at h ⊢
  rw [iC ht s (w := [34]) (by decide), iC ht s (w := [39]) (by decide), List.length_append]
  split at h
  · rename_i h1
    rw [if_pos h1]
    exact oP ht _ _ _ (by omega) h
  · rename_i h1
    rw [if_neg h1]
    split at h
    · rename_i h2
      rw [if_pos h2]
      exact oP ht _ _ _ (by omega) h
    · cases h
theorem G5 {t : Tx} (ht : Stp t) {s s' : Tx} (h : eqF s = .ok s') : eqF (s ++ t) = .ok (s' ++ t) := by
  unfold eqF at h ⊢
  rw [kP ht, iC ht _ (w := [61]) (by decide), kP ht]
  split at h
  · rename_i h1
    rw [if_pos h1]
    injection h with h
    rw [h]
  · cases h
theorem sF {t : Tx} (ht : Stp t) : ∀ (f f' : Nat) {nms nms' : List Tx} {n n' : Nd} {s s' : Tx}, f ≤ f' → bg f nms n s = .ok (nms', n', s') → bg f' nms n (s ++ t) = .ok (nms', n', s' ++ t)
  | 0, _, _, _, _, _, _, _, _, h => by cases h
  | f + 1, 0, _, _, _, _, _, _, hf, h => by omega
  | f + 1, f' + 1, nms, nms', n, n', s, s', hf, h => by
    unfold bg at h ⊢
    rw [kP ht]
    have e1 : ([47] : Tx).isPrefixOf ((aC s).2 ++ t) = ([47] : Tx).isPrefixOf (aC s).2 := nR ht (by decide)
    have e2 : ([62] : Tx).isPrefixOf ((aC s).2 ++ t) = ([62] : Tx).isPrefixOf (aC s).2 := nR ht (by decide)
    dsimp only
    rw [e1, e2]
    split at h
    · rename_i h1
      rw [if_pos h1]
      cases hn : bK (aC s).2 with
      | error e => rw [hn] at h; cases h
      | ok x =>
        obtain ⟨nm, s1⟩ := x
        rw [hn] at h
        rw [lq ht hn]
        dsimp only at h ⊢
        cases he : eqF s1 with
        | error e => rw [he] at h; cases h
        | ok s2 =>
          rw [he] at h
          rw [G5 ht he]
          dsimp only at h ⊢
          cases hq : iw s2 with
          | error e => rw [hq] at h; cases h
          | ok y =>
            obtain ⟨v, s3⟩ := y
            rw [hq] at h
            rw [DN ht hq]
            exact sF ht f f' (by omega) h
    · rename_i h1
      rw [if_neg h1]
      injection h with h
      injection h with h2 h3
      injection h3 with h3 h4
      rw [h2, h3, h4]
end Go.Proofs.YtohgmkjhbacmpaaGreatDoor
set_option linter.unusedVariables false
set_option linter.unusedSimpArgs false
namespace Go.Proofs.YtohgmkjhbacmpaaGreatDoor
open Go Go.Abs Go.RowKit Go.Xml
theorem uV {r r' : RS} {n : Nd} {i : Nat} (h : addF n r = .ok (i, r')) : r'.s = r.s := by
  unfold addF at h
  split at h
  · cases h
  · split at h <;> (injection h with h; injection h with _ h; rw [← h])
theorem Ch {r r' : RS} {n : Nd} {i : Nat} {x : Tx} (y : Tx) (h : addF n { r with s := x } = .ok (i, r')) : addF n { r with s := y } = .ok (i, { r' with s := y }) := Fu (r := { r with s := x }) y h
theorem Bj {r r' : RS} {t : Tx} (h : aQ t r = .ok r') : r'.s = r.s := by
  have h1 := nN r.s h
  have e : ({ r with s := r.s } : RS) = r := rfl
  rw [e, h] at h1
  injection h1 with h1
  rw [h1]
theorem Bl {t : Tx} (ht : Stp t) {r r' : RS} (h : aV r = .ok r') : aV { r with s := r.s ++ t } = .ok { r' with s := r'.s ++ t } := by
  unfold aV at h ⊢
  dsimp only at h ⊢
  split at h
  · cases h
  rename_i h0
  rw [if_neg h0]
  cases hn : bK r.s with
  | error e => rw [hn] at h; cases h
  | ok x =>
    obtain ⟨nm, s1⟩ := x
    rw [hn] at h
    rw [lq ht hn]
    dsimp only at h ⊢
    cases ha : bg (s1.length + 1) [] (dh nm) s1 with
    | error e => rw [ha] at h; cases h
    | ok y =>
      obtain ⟨nms, n, s2⟩ := y
      rw [ha] at h
      rw [sF ht (s1.length + 1) ((s1 ++ t).length + 1) (by rw [List.length_append]; omega) ha]
      dsimp only at h ⊢
      rw [iC ht s2 (w := [47]) (by decide)]
      dsimp only at h ⊢
      rw [iC ht (hasF [47] s2).2 (w := [62]) (by decide), oM]
      dsimp only at h ⊢
      split at h
      · cases h
      rename_i h1
      rw [if_neg h1]
      split at h
      · cases h
      rename_i h2
      rw [if_neg h2]
      split at h
      · cases h
      rename_i h3
      rw [if_neg h3]
      cases hs : aU r n with
      | error e => rw [hs] at h; cases h
      | ok n' =>
        rw [hs] at h
        dsimp only at h ⊢
        split at h
        · cases h
        rename_i h4
        rw [if_neg h4]
        cases hd : addF n' { r with s := (hasF [62] (hasF [47] s2).2).2 } with
        | error e => rw [hd] at h; cases h
        | ok z =>
          obtain ⟨a, r1⟩ := z
          rw [hd] at h
          rw [Ch ((hasF [62] (hasF [47] s2).2).2 ++ t) hd]
          have hk := uV hd
          dsimp only at h hk ⊢
          injection h with h
          rw [← h]
          dsimp only
          rw [hk]
theorem FK {t : Tx} (ht : Stp t) {r r' : RS} (h : endF r = .ok r') : endF { r with s := r.s ++ t } = .ok { r' with s := r'.s ++ t } := by
  unfold endF at h ⊢
  dsimp only at h ⊢
  cases hl : r.stk.getLast? with
  | none => rw [hl] at h; cases h
  | some x =>
    obtain ⟨p, nm⟩ := x
    rw [hl] at h
    dsimp only at h ⊢
    cases hn : bK r.s with
    | error e => rw [hn] at h; cases h
    | ok y =>
      obtain ⟨z, s1⟩ := y
      rw [hn] at h
      rw [lq ht hn]
      dsimp only at h ⊢
      rw [kP ht, iC ht _ (w := [62]) (by decide)]
      dsimp only
      split at h
      · rename_i h1
        rw [if_pos h1]
        injection h with h
        rw [← h]
      · cases h
theorem oQ {r r' : RS} {n : Nd} {s t : Tx} (h : (if r.stk = [] then (.ok { r with s := s } : Ex RS) else match addF n { r with s := s } with | .error e => .error e | .ok (_, r') => .ok r') = .ok r') :
    (if r.stk = [] then (.ok { r with s := s ++ t } : Ex RS) else match addF n { r with s := s ++ t } with | .error e => .error e | .ok (_, r') => .ok r') = .ok { r' with s := r'.s ++ t } := by
  split at h
  · rename_i h1
    rw [if_pos h1]
    injection h with h
    rw [← h]
  · rename_i h1
    rw [if_neg h1]
    cases hd : addF n { r with s := s } with
    | error e => rw [hd] at h; cases h
    | ok z =>
      obtain ⟨a, r1⟩ := z
      rw [hd] at h
      rw [Ch (s ++ t) hd]
      have hk := uV hd
      dsimp only at h hk ⊢
      injection h with h
      rw [← h, hk]
theorem DR {t : Tx} (ht : Stp t) {r r' : RS} (h : dH r = .ok r') : dH { r with s := r.s ++ t } = .ok { r' with s := r'.s ++ t } := by
  unfold dH at h ⊢
  dsimp only at h ⊢
  cases hn : bK r.s with
  | error e => rw [hn] at h; cases h
  | ok y =>
    obtain ⟨nm, s1⟩ := y
    rw [hn] at h
    rw [lq ht hn]
    dsimp only at h ⊢
    split at h
    · cases h
    rename_i h1
    rw [if_neg h1, iC ht s1 (w := [63, 62]) (by decide), kP ht]
    dsimp only
    split at h
    · rename_i h2
      rw [if_pos h2]
      exact oQ h
    · rename_i h2
      rw [if_neg h2]
      split at h
      · rename_i h3
        rw [if_pos h3]
        cases hu : aO [63, 62] (aC s1).2 with
        | error e => rw [hu] at h; cases h
        | ok z =>
          obtain ⟨v, s2⟩ := z
          rw [hu] at h
          rw [mq t hu]
          exact oQ h
      · cases h
theorem xB {t : Tx} (ht : Stp t) {r r' : RS} (h : aN r = .ok r') : aN { r with s := r.s ++ t } = .ok { r' with s := r'.s ++ t } := by
  unfold aN at h ⊢
  dsimp only at h ⊢
  cases hu : aO [45, 45] r.s with
  | error e => rw [hu] at h; cases h
  | ok z =>
    obtain ⟨v, s1⟩ := z
    rw [hu] at h
    rw [mq t hu]
    dsimp only at h ⊢
    rw [iC ht s1 (w := [62]) (by decide)]
    dsimp only
    split at h
    · rename_i h1
      rw [if_pos h1]
      exact oQ h
    · cases h
theorem uW {r r' : RS} {s t v : Tx} (h : aQ v { r with s := s } = .ok r') : aQ v { r with s := s ++ t } = .ok { r' with s := r'.s ++ t } := by
  have h1 := nN (s ++ t) h
  have h2 := Bj h
  dsimp only at h1 h2
  rw [h1, h2]
theorem DT {t : Tx} (ht : Stp t) {r r' : RS} (hs : r.s ≠ []) (h : fZ r = .ok r') : fZ { r with s := r.s ++ t } = .ok { r' with s := r'.s ++ t } := by
  unfold fZ at h ⊢
  dsimp only at h ⊢
  rw [jD ht (w := [60, 33, 45, 45]) (by decide) hs, jD ht (w := wDoc) (by decide) hs, jD ht (w := gU) (by decide) hs, jD ht (w := [60, 63]) (by decide) hs, jD ht (w := [60, 47]) (by decide) hs, jD ht (w := [60]) (by decide) hs]
  dsimp only
  split at h
  · rename_i h1
    rw [if_pos h1]
    exact xB ht (r := { r with s := (hasF [60, 33, 45, 45] r.s).2 }) h
  rename_i h1
  rw [if_neg h1]
  split at h
  · cases h
  rename_i h2
  rw [if_neg h2]
  split at h
  · rename_i h3
    rw [if_pos h3]
    cases hu : aO [93, 93, 62] (hasF gU r.s).2 with
    | error e => rw [hu] at h; cases h
    | ok z =>
      obtain ⟨v, s1⟩ := z
      rw [hu] at h
      rw [mq t hu]
      exact uW h
  rename_i h3
  rw [if_neg h3]
  split at h
  · rename_i h4
    rw [if_pos h4]
    exact DR ht (r := { r with s := (hasF [60, 63] r.s).2 }) h
  rename_i h4
  rw [if_neg h4]
  split at h
  · rename_i h5
    rw [if_pos h5]
    exact FK ht (r := { r with s := (hasF [60, 47] r.s).2 }) h
  rename_i h5
  rw [if_neg h5]
  split at h
  · rename_i h6
    rw [if_pos h6]
    exact Bl ht (r := { r with s := (hasF [60] r.s).2 }) h
  · rename_i h6
    rw [if_neg h6]
    injection h with h
    rw [← h]
theorem Bn {t : Tx} (ht : Stp t) {r r' : RS} (h : dJ r = .ok r') : dJ { r with s := r.s ++ t } = .ok { r' with s := r'.s ++ t } := by
  unfold dJ at h ⊢
  dsimp only at h ⊢
  rw [lS ht r.s (sg := [60, 38]) (by decide), lT ht r.s (sg := [60, 38]) (by decide)]
  split at h
  · rename_i h1
    rw [if_pos h1]
    split at h
    · rename_i h2
      rw [if_pos h2]
      injection h with h
      rw [← h]
    · cases h
  · rename_i h1
    rw [if_neg h1]
    split at h
    · cases h
    rename_i h2
    rw [if_neg h2]
    cases hx : aQ (r.s.take (upTo r.s [60, 38])) r with
    | error e => rw [hx] at h; cases h
    | ok r1 =>
      rw [hx] at h
      rw [nN (r.s ++ t) hx]
      injection h with h
      rw [← h]
theorem DU {t : Tx} (ht : Stp t) {r r' : RS} (hs : r.s ≠ []) (h : aR r = .ok r') : aR { r with s := r.s ++ t } = .ok { r' with s := r'.s ++ t } := by
  unfold aR at h ⊢
  dsimp only at h ⊢
  have e : (r.s ++ t).head? = r.s.head? := by
    cases hh : r.s with
    | nil => exact absurd hh hs
    | cons c s => rfl
  rw [e, iC ht r.s (w := [38]) (by decide)]
  dsimp only
  split at h
  · rename_i h1
    rw [if_pos h1]
    exact DT ht hs h
  rename_i h1
  rw [if_neg h1]
  split at h
  · rename_i h2
    rw [if_pos h2]
    cases hx : refF (hasF [38] r.s).2 with
    | error e => rw [hx] at h; cases h
    | ok z =>
      obtain ⟨v, s1⟩ := z
      rw [hx] at h
      rw [zu t hx]
      exact uW h
  rename_i h2
  rw [if_neg h2]
  split at h
  · cases h
  rename_i h3
  rw [if_neg h3]
  exact Bn ht h
end Go.Proofs.YtohgmkjhbacmpaaGreatDoor
set_option linter.unusedVariables false
set_option linter.unusedSimpArgs false
namespace Go.Proofs.YtohgmkjhbacmpaaGreatDoor
open Go Go.Abs Go.RowKit Go.Xml
inductive Steps : RS → RS → Prop
  | refl (r : RS) : Steps r r
  | step {r r1 r2 : RS} (hs : r.s ≠ []) (h : aR r = .ok r1) (t : Steps r1 r2) : Steps r r2
theorem Steps.trans {a b c : RS} (h : Steps a b) (h2 : Steps b c) : Steps a c := by
  induction h with
  | refl => exact h2
  | step hs h _ ih => exact .step hs h (ih h2)
theorem sG : ∀ (f : Nat) {r r' : RS}, allR f r = .ok r' → r'.s = [] ∧ Steps r r'
  | 0, r, r', h => by
    unfold allR at h
    split at h
    · rename_i hs
      injection h with h; subst h
      exact ⟨hs, .refl _⟩
    · cases h
  | f + 1, r, r', h => by
    unfold allR at h
    split at h
    · rename_i hs
      injection h with h; subst h
      exact ⟨hs, .refl _⟩
    · rename_i hs
      cases hx : aR r with
      | error e => rw [hx] at h; cases h
      | ok r1 =>
        rw [hx] at h
        obtain ⟨h1, h2⟩ := sG f h
        exact ⟨h1, .step hs hx h2⟩
theorem Steps.app {t : Tx} (ht : Stp t) {r r' : RS} (h : Steps r r') : Steps { r with s := r.s ++ t } { r' with s := r'.s ++ t } := by
  induction h with
  | refl => exact .refl _
  | step hs h _ ih => exact .step (by simp [hs]) (DU ht hs h) ih
theorem Steps.run {r r' : RS} (h : Steps r r') : ∀ (f : Nat), RI r → r.s.length ≤ f → ∃ f', r'.s.length ≤ f' ∧ allR f r = allR f' r' ∧ RI r' := by
  induction h with
  | refl r => exact fun f hI hf => ⟨f, hf, rfl, hI⟩
  | @step r r1 r2 hs h _ ih =>
    intro f hI hf
    obtain ⟨hI1, hl⟩ := rY hI hs h
    obtain ⟨f0, rfl⟩ : ∃ f0, f = f0 + 1 := ⟨f - 1, by have := List.length_pos_iff.2 hs; omega⟩
    obtain ⟨f', h1, h2, h3⟩ := ih f0 hI1 (by omega)
    refine ⟨f', h1, ?_, h3⟩
    rw [← h2]
    show (if r.s = [] then (Except.ok r : Ex RS) else _) = _
    rw [if_neg hs, h]
theorem DV {f : Nat} {r : RS} (h : r.s = []) : allR f r = .ok r := by
  cases f <;> (unfold allR; rw [if_pos h])
theorem Steps.end {r r' : RS} (h : Steps r r') (hI : RI r) (he : r'.s = []) {f : Nat} (hf : r.s.length ≤ f) : allR f r = .ok r' := by
  obtain ⟨f', h1, h2, _⟩ := h.run f hI hf
  rw [h2, DV he]
theorem Steps.err {r r' : RS} {e : Int} (h : Steps r r') (hI : RI r) (hs : r'.s ≠ []) (he : aR r' = .error e) {f : Nat} (hf : r.s.length ≤ f) : allR f r = .error e := by
  obtain ⟨f', h1, h2, _⟩ := h.run f hI hf
  obtain ⟨f0, rfl⟩ : ∃ f0, f' = f0 + 1 := ⟨f' - 1, by have := List.length_pos_iff.2 hs; omega⟩
  rw [h2]
  show (if r'.s = [] then (Except.ok r' : Ex RS) else _) = _
  rw [if_neg hs, he]
def shN (a : Nat) (n : Nd) : Nd := { n with par := if n.par < 0 then 0 else n.par + a, kids := n.kids.map (· + a) }
def shK (a : Nat) (l : List (Nat × Tx)) : List (Nat × Tx) := l.map fun x => (x.1 + a, x.2)
structure Zed (k : Nat) (P : List Nd) : Prop where
  head : ∃ n0 rest, P = n0 :: rest ∧ n0.dcls = []
  kinds : ∀ (i : Nat) (n : Nd), k ≤ i → P[i]? = some n → n.kind ≠ 1
  len : k ≤ P.length
theorem jX (P L : List Nd) (i : Nat) (f : Nd → Nd) : (P ++ L).modify (i + P.length) f = P ++ L.modify i f := by
  induction P with
  | nil => simp
  | cons p P ih =>
    rw [List.cons_append, List.length_cons, ← Nat.add_assoc, List.modify_succ_cons, ih]
    rfl
theorem jl (a : Nat) (f g : Nd → Nd) (h : ∀ n, g (shN a n) = shN a (f n)) : ∀ (L : List Nd) (i : Nat), (L.map (shN a)).modify i g = (L.modify i f).map (shN a)
  | [], i => by simp
  | n :: L, 0 => by simp [h]
  | n :: L, i + 1 => by
    rw [List.map_cons, List.modify_succ_cons, List.modify_succ_cons, List.map_cons, jl a f g h L i]
theorem FL (P L : List Nd) (p c : Nat) : aH (P ++ L.map (shN P.length)) (p + P.length) (c + P.length) = P ++ (aH L p c).map (shN P.length) := by
  unfold aH
  rw [jX, jl P.length (fun n => { n with kids := n.kids ++ [c] })]
  intro n
  simp [shN]
theorem zw (n0 : Nd) (P X : List Nd) (c : Nat) : aH (n0 :: P ++ X) 0 c = aH (n0 :: P) 0 c ++ X := by
  simp [aH]
theorem Bo (P L : List Nd) (i : Nat) : (P ++ L.map (shN P.length))[i + P.length]? = (L[i]?).map (shN P.length) := by
  rw [List.getElem?_append_right (by omega), Nat.add_sub_cancel, List.getElem?_map]
theorem zx (a : Nat) (x : Nat × Tx) (l : List (Nat × Tx)) (h : l ≠ []) : (x :: shK a l).getLast? = (l.getLast?).map fun x => (x.1 + a, x.2) := by
  unfold shK
  rw [List.getLast?_cons, List.getLast?_map]
  cases hl : l.getLast? with
  | none => exact absurd (List.getLast?_eq_none_iff.1 hl) h
  | some y => rfl
structure In2 (k : Nat) (zn : Tx) (P : List Nd) (r r2 : RS) : Prop where
  s : r2.s = r.s
  done2 : r2.done = true
  zed : Zed k P
  stk0 : r.stk ≠ []
  done : r.done = true
  stk : r2.stk = (0, zn) :: shK P.length r.stk
  ns : r2.ns = P ++ r.ns.map (shN P.length)
  kid : ∃ n0, P[0]? = some n0 ∧ n0.kids.getLast? = some P.length
  root : ∃ n, r.ns[0]? = some n ∧ n.kind = 1
theorem In2.less {k : Nat} {zn : Tx} {P : List Nd} {r r2 : RS} (h : In2 k zn P r r2) (x : Tx) : In2 k zn P { r with s := x } { r2 with s := x } := ⟨rfl, h.done2, h.zed, h.stk0, h.done, h.stk, h.ns, h.kid, h.root⟩
theorem In2.last {k : Nat} {zn : Tx} {P : List Nd} {r r2 : RS} (h : In2 k zn P r r2) : r2.stk.getLast? = (r.stk.getLast?).map fun x => (x.1 + P.length, x.2) := by rw [h.stk, zx _ _ _ h.stk0]
theorem In2.space {k : Nat} {zn : Tx} {P : List Nd} {r r2 : RS} (h : In2 k zn P r r2) (p : Tx) (ds : List Dcl) : aI r2 p ds = aI r p ds := by
  have ho : ∀ l : List (Nat × Tx), outer r2.ns p (shK P.length l ++ [(0, zn)]) = outer r.ns p l := by
    intro l
    induction l with
    | nil =>
      obtain ⟨n0, rest, hP, hd⟩ := h.zed.head
      show (match findD p ((r2.ns[0]?.map (·.dcls)).getD []) with | some u => some u | none => none) = none
      rw [h.ns, hP]
      show (match findD p n0.dcls with | some u => some u | none => none) = none
      rw [hd]
      rfl
    | cons x l ih =>
      obtain ⟨a, nm⟩ := x
      show (match findD p ((r2.ns[a + P.length]?.map (·.dcls)).getD []) with | some u => some u | none => outer r2.ns p (shK P.length l ++ [(0, zn)])) = (match findD p ((r.ns[a]?.map (·.dcls)).getD []) with | some u => some u | none => outer r.ns p l)
      rw [ih, h.ns, Bo]
      cases r.ns[a]? <;> rfl
  have hr : r2.stk.reverse = shK P.length r.stk.reverse ++ [(0, zn)] := by
    rw [h.stk, List.reverse_cons]
    unfold shK
    rw [List.map_reverse]
  unfold aI
  rw [hr, ho]
theorem sH {r r2 : RS} (h : ∀ p ds, aI r2 p ds = aI r p ds) (ds : List Dcl) : ∀ (l acc : List Att), eP r2 ds acc l = eP r ds acc l
  | [], acc => rfl
  | a :: l, acc => by
    unfold eP
    rw [h, sH h ds l, sH h ds l]
theorem sI {r r2 : RS} (h : ∀ p ds, aI r2 p ds = aI r p ds) (n : Nd) : aU r2 n = aU r n := by
  unfold aU
  rw [h, sH h]
theorem Bp {ns : List Nd} {p c : Nat} {m : Nd} (h : ∃ n, ns[0]? = some n ∧ n.kind = 1) : ∃ n, (aH ns p c ++ [m])[0]? = some n ∧ n.kind = 1 := by
  obtain ⟨n, h1, h2⟩ := h
  obtain ⟨n', g1, g2, _, _⟩ := Ext.aH ns p c m 0 n h1
  exact ⟨n', g1, by rw [g2]; exact h2⟩
theorem In2.add {k : Nat} {zn : Tx} {P : List Nd} {r r2 r' : RS} {n : Nd} {i : Nat} (h : In2 k zn P r r2) (hn : n.kids = []) (ha : addF n r = .ok (i, r')) :
    addF n r2 = .error 33 ∨ ∃ r2', addF n r2 = .ok (i + P.length, r2') ∧ In2 k zn P r' r2' := by
  obtain ⟨p, nm, hl⟩ := fE h.stk0
  obtain ⟨rfl, rfl⟩ := lg hl ha
  have hl2 : r2.stk.getLast? = some (p + P.length, nm) := by rw [h.last, hl]; rfl
  have hlen : r2.ns.length = r.ns.length + P.length := by rw [h.ns, List.length_append, List.length_map]; omega
  unfold addF
  rw [hl2]
  by_cases h4 : r2.ns.length = 4096
  · left; rw [if_pos h4]
  · right
    rw [if_neg h4]
    refine ⟨{ r2 with ns := aH r2.ns (p + P.length) r2.ns.length ++ [{ n with par := ((p + P.length : Nat) : Int) }] }, by rw [hlen], ⟨h.s, h.done2, h.zed, h.stk0, h.done, h.stk, ?_, h.kid, Bp h.root⟩⟩
    show aH r2.ns (p + P.length) r2.ns.length ++ [{ n with par := ((p + P.length : Nat) : Int) }] = P ++ (aH r.ns p r.ns.length ++ [{ n with par := ((p : Nat) : Int) }]).map (shN P.length)
    rw [hlen, h.ns, FL, List.map_append, List.append_assoc]
    congr 3
    simp only [List.map_cons, List.map_nil, shN, hn]
    rw [if_neg (by omega)]
    simp
theorem zy (P L : List Nd) (p : Nat) : bG (P ++ L.map (shN P.length)) (p + P.length) = (bG L p).map (· + P.length) := by
  unfold bG
  rw [Bo]
  cases hp : L[p]? with
  | none => rfl
  | some n =>
    show (match (n.kids.map (· + P.length)).getLast? with | some c => _ | none => _) = _
    rw [List.getLast?_map]
    show _ = Option.map _ (match n.kids.getLast? with | some c => _ | none => _)
    cases hc : n.kids.getLast? with
    | none => rfl
    | some c =>
      show (if ((P ++ L.map (shN P.length))[c + P.length]?.map (·.kind)) = some 2 then some (c + P.length) else none) = Option.map _ (if (L[c]?.map (·.kind)) = some 2 then some c else none)
      rw [Bo]
      have e : ((L[c]?.map (shN P.length)).map (·.kind)) = L[c]?.map (·.kind) := by cases L[c]? <;> rfl
      rw [e]
      split <;> rfl
theorem In2.text {k : Nat} {zn : Tx} {P : List Nd} {r r2 r' : RS} {t : Tx} (h : In2 k zn P r r2) (ha : aQ t r = .ok r') : aQ t r2 = .error 33 ∨ ∃ r2', aQ t r2 = .ok r2' ∧ In2 k zn P r' r2' := by
  obtain ⟨p, nm, hl⟩ := fE h.stk0
  have hl2 : r2.stk.getLast? = some (p + P.length, nm) := by rw [h.last, hl]; rfl
  unfold aQ at ha ⊢
  split at ha
  · rename_i h0
    injection ha with ha; subst ha
    right
    rw [if_pos h0]
    exact ⟨_, rfl, h⟩
  rename_i h0
  rw [if_neg h0, hl2]
  rw [hl] at ha
  dsimp only at ha ⊢
  rw [h.ns, zy]
  cases hx : bG r.ns p with
  | some c =>
    rw [hx] at ha
    injection ha with ha; subst ha
    right
    refine ⟨_, rfl, ⟨h.s, h.done2, h.zed, h.stk0, h.done, h.stk, ?_, h.kid, ?_⟩⟩
    · show ((P ++ r.ns.map (shN P.length)).modify (c + P.length) fun n => { n with val := n.val ++ t }) = P ++ (r.ns.modify c fun n => { n with val := n.val ++ t }).map (shN P.length)
      rw [jX, jl P.length (fun n => { n with val := n.val ++ t })]
      intro n; rfl
    · obtain ⟨n, h1, h2⟩ := h.root
      show ∃ m, (r.ns.modify c fun n => { n with val := n.val ++ t })[0]? = some m ∧ m.kind = 1
      rw [List.getElem?_modify, h1]
      exact ⟨_, rfl, by dsimp only; split <;> exact h2⟩
  | none =>
    rw [hx] at ha
    cases hd : addF { nd0 with kind := 2, val := t } r with
    | error e => rw [hd] at ha; cases ha
    | ok y =>
      obtain ⟨i, r1⟩ := y
      rw [hd] at ha
      injection ha with ha; subst ha
      rcases h.add (by rfl) hd with h1 | ⟨r2', h1, h2⟩
      · left
        show (match addF { nd0 with kind := 2, val := t } r2 with | .ok (_, r') => (.ok r' : Ex RS) | .error e => .error e) = _
        rw [h1]
      · right
        refine ⟨r2', ?_, h2⟩
        show (match addF { nd0 with kind := 2, val := t } r2 with | .ok (_, r') => (.ok r' : Ex RS) | .error e => .error e) = _
        rw [h1]
end Go.Proofs.YtohgmkjhbacmpaaGreatDoor
set_option linter.unusedVariables false
set_option linter.unusedSimpArgs false
namespace Go.Proofs.YtohgmkjhbacmpaaGreatDoor
open Go Go.Abs Go.RowKit Go.Xml
def gX (x : Ex RS) : Prop := x = .error 32 ∨ x = .error 33
structure Out3 (k a : Nat) (zn : Tx) (r r2 : RS) : Prop where
  s : r2.s = r.s
  done2 : r2.done = true
  stk0 : r.stk = []
  done : r.done = true
  stk : r2.stk = [(0, zn)]
  ns : ∃ P T, Zed k P ∧ P.length = a ∧ r2.ns = P ++ (r.ns.map (shN a) ++ T) ∧ ∃ n0 c, P[0]? = some n0 ∧ n0.kids.getLast? = some c ∧ (c = a ∨ a + r.ns.length ≤ c)
  root : ∃ n, r.ns[0]? = some n ∧ n.kind = 1
structure In1 (k : Nat) (zn : Tx) (r r2 : RS) : Prop where
  s : r2.s = r.s
  done2 : r2.done = true
  stk0 : r.stk = []
  done : r.done = false
  ns : r.ns = []
  stk : r2.stk = [(0, zn)]
  zed : Zed k r2.ns
theorem G6 {w s : Tx} (h : (hasF w s).1 = true) : s = w ++ (hasF w s).2 := by
  unfold hasF at h ⊢
  split at h
  · rename_i hp
    rw [if_pos hp]
    obtain ⟨t, rfl⟩ := List.isPrefixOf_iff_prefix.1 hp
    simp
  · cases h
theorem DW {k : Nat} {zn : Tx} {P : List Nd} {r r2 : RS} (h : In2 k zn P r r2) : ∃ p nm, r.stk.getLast? = some (p, nm) ∧ r2.stk.getLast? = some (p + P.length, nm) := by
  obtain ⟨p, nm, hl⟩ := fE h.stk0
  exact ⟨p, nm, hl, by rw [h.last, hl]; rfl⟩
theorem In2.stk2 {k : Nat} {zn : Tx} {P : List Nd} {r r2 : RS} (h : In2 k zn P r r2) : r2.stk ≠ [] := by rw [h.stk]; simp
theorem In2.start {k : Nat} {zn : Tx} {P : List Nd} {r r2 r' : RS} (h : In2 k zn P r r2) (ha : aV r = .ok r') : gX (aV r2) ∨ ∃ r2', aV r2 = .ok r2' ∧ In2 k zn P r' r2' := by
  unfold aV at ha ⊢
  rw [if_neg (by simp [h.stk0])] at ha
  rw [if_neg (by simp [h.stk2]), h.s]
  cases hn : bK r.s with
  | error e => rw [hn] at ha; cases ha
  | ok x =>
    obtain ⟨nm, s1⟩ := x
    rw [hn] at ha
    dsimp only at ha ⊢
    cases hat : bg (s1.length + 1) [] (dh nm) s1 with
    | error e => rw [hat] at ha; cases ha
    | ok y =>
      obtain ⟨nms, n, s2⟩ := y
      rw [hat] at ha
      dsimp only at ha ⊢
      split at ha
      · cases ha
      rename_i h1
      rw [if_neg h1]
      split at ha
      · cases ha
      rename_i h2
      rw [if_neg h2]
      split at ha
      · cases ha
      rename_i h3
      rw [if_neg h3, sI h.space]
      cases hs : aU r n with
      | error e => rw [hs] at ha; cases ha
      | ok n' =>
        rw [hs] at ha
        dsimp only at ha ⊢
        split at ha
        · cases ha
        rename_i h4
        have hl : r2.stk.length = r.stk.length + 1 := by rw [h.stk]; simp [shK]
        by_cases h5 : r2.stk.length = 32
        · left; rw [if_pos h5]; exact .inl rfl
        rw [if_neg h5]
        cases hd : addF n' { r with s := (hasF [62] (hasF [47] s2).2).2 } with
        | error e => rw [hd] at ha; cases ha
        | ok z =>
          obtain ⟨a, r1⟩ := z
          rw [hd] at ha
          dsimp only at ha
          injection ha with ha
          have hkids : n'.kids = [] := by
            obtain ⟨_, _, _, _, g⟩ := mo hs
            obtain ⟨g4, _⟩ := g
            rw [g4]
            obtain ⟨_, _, _, g5⟩ := je _ hat
            rw [g5]
            exact (nP hn).2.2
          rcases (h.less (hasF [62] (hasF [47] s2).2).2).add hkids hd with g | ⟨r2', g1, g2⟩
          · left; right
            rw [g]
          · right
            rw [g1]
            refine ⟨_, rfl, ?_⟩
            rw [← ha]
            refine ⟨g2.s, rfl, g2.zed, ?_, rfl, ?_, g2.ns, g2.kid, g2.root⟩
            · dsimp only
              split
              · exact g2.stk0
              · simp
            · dsimp only
              split
              · exact g2.stk
              · rw [g2.stk]
                simp [shK]
theorem In2.leaf {k : Nat} {zn : Tx} {P : List Nd} {r r2 r' : RS} {n : Nd} {x : Tx} (h : In2 k zn P r r2) (hn : n.kids = []) (ha : (if r.stk = [] then (.ok { r with s := x } : Ex RS) else match addF n { r with s := x } with | .error e => .error e | .ok (_, r') => .ok r') = .ok r') :
    gX (if r2.stk = [] then (.ok { r2 with s := x } : Ex RS) else match addF n { r2 with s := x } with | .error e => .error e | .ok (_, r') => .ok r') ∨ ∃ r2', (if r2.stk = [] then (.ok { r2 with s := x } : Ex RS) else match addF n { r2 with s := x } with | .error e => .error e | .ok (_, r') => .ok r') = .ok r2' ∧ In2 k zn P r' r2' := by
  rw [if_neg h.stk0] at ha
  rw [if_neg h.stk2]
  cases hd : addF n { r with s := x } with
  | error e => rw [hd] at ha; cases ha
  | ok z =>
    obtain ⟨a, r1⟩ := z
    rw [hd] at ha
    injection ha with ha; subst ha
    rcases (h.less x).add hn hd with g | ⟨r2', g1, g2⟩
    · left; right; rw [g]
    · right; rw [g1]; exact ⟨_, rfl, g2⟩
theorem In2.comment {k : Nat} {zn : Tx} {P : List Nd} {r r2 r' : RS} (h : In2 k zn P r r2) (ha : aN r = .ok r') : gX (aN r2) ∨ ∃ r2', aN r2 = .ok r2' ∧ In2 k zn P r' r2' := by
  unfold aN at ha ⊢
  rw [h.s]
  cases hu : aO [45, 45] r.s with
  | error e => rw [hu] at ha; cases ha
  | ok z =>
    obtain ⟨v, s1⟩ := z
    rw [hu] at ha
    dsimp only at ha ⊢
    split at ha
    · rename_i h1
      rw [if_pos h1]
      exact h.leaf rfl ha
    · cases ha
theorem In2.proc {k : Nat} {zn : Tx} {P : List Nd} {r r2 r' : RS} (h : In2 k zn P r r2) (ha : dH r = .ok r') : gX (dH r2) ∨ ∃ r2', dH r2 = .ok r2' ∧ In2 k zn P r' r2' := by
  unfold dH at ha ⊢
  rw [h.s]
  cases hn : bK r.s with
  | error e => rw [hn] at ha; cases ha
  | ok y =>
    obtain ⟨nm, s1⟩ := y
    rw [hn] at ha
    dsimp only at ha ⊢
    split at ha
    · cases ha
    rename_i h1
    rw [if_neg h1]
    split at ha
    · rename_i h2
      rw [if_pos h2]
      exact h.leaf rfl ha
    · rename_i h2
      rw [if_neg h2]
      split at ha
      · rename_i h3
        rw [if_pos h3]
        cases hu : aO [63, 62] (aC s1).2 with
        | error e => rw [hu] at ha; cases ha
        | ok z =>
          obtain ⟨v, s2⟩ := z
          rw [hu] at ha
          exact h.leaf rfl ha
      · cases ha
theorem In2.endT {k : Nat} {zn : Tx} {P : List Nd} {r r2 r' : RS} (h : In2 k zn P r r2) (ha : endF r = .ok r') : ∃ r2', endF r2 = .ok r2' ∧ (In2 k zn P r' r2' ∨ Out3 k P.length zn r' r2') := by
  obtain ⟨p, nm, hl, hl2⟩ := DW h
  unfold endF at ha ⊢
  rw [hl] at ha
  rw [hl2, h.s]
  dsimp only at ha ⊢
  cases hn : bK r.s with
  | error e => rw [hn] at ha; cases ha
  | ok y =>
    obtain ⟨z, s1⟩ := y
    rw [hn] at ha
    dsimp only at ha ⊢
    split at ha
    · rename_i h1
      rw [if_pos h1]
      refine ⟨_, rfl, ?_⟩
      injection ha with ha; subst ha
      by_cases h2 : r.stk.dropLast = []
      · right
        refine ⟨rfl, h.done2, h2, h.done, ?_, ⟨P, [], h.zed, rfl, by rw [List.append_nil]; exact h.ns, ?_⟩, h.root⟩
        · show r2.stk.dropLast = _
          rw [h.stk]
          unfold shK
          have h3 : r.stk.length = 1 := by
            have := congrArg List.length h2
            rw [List.length_dropLast] at this
            have h4 := List.length_pos_iff.2 h.stk0
            simp at this; omega
          obtain ⟨x, hx⟩ := List.length_eq_one_iff.1 h3
          rw [hx]; rfl
        · obtain ⟨n0, g1, g2⟩ := h.kid
          exact ⟨n0, _, g1, g2, .inl rfl⟩
      · left
        refine ⟨rfl, h.done2, h.zed, h2, h.done, ?_, h.ns, h.kid, h.root⟩
        show r2.stk.dropLast = _
        rw [h.stk]
        unfold shK
        rw [List.map_dropLast, List.dropLast_cons_of_ne_nil (by simp [h.stk0])]
    · cases ha
theorem In2.step {k : Nat} {zn : Tx} {P : List Nd} {r r2 r' : RS} (h : In2 k zn P r r2) (ha : aR r = .ok r') : gX (aR r2) ∨ ∃ r2', aR r2 = .ok r2' ∧ (In2 k zn P r' r2' ∨ Out3 k P.length zn r' r2') := by
  have lift : ∀ {x : Ex RS}, (gX x ∨ ∃ r2', x = .ok r2' ∧ In2 k zn P r' r2') → (gX x ∨ ∃ r2', x = .ok r2' ∧ (In2 k zn P r' r2' ∨ Out3 k P.length zn r' r2')) := fun hx => by
    rcases hx with g | ⟨r2', g1, g2⟩
    · exact .inl g
    · exact .inr ⟨r2', g1, .inl g2⟩
  have text : ∀ {t x : Tx}, aQ t { r with s := x } = .ok r' → (gX (aQ t { r2 with s := x }) ∨ ∃ r2', aQ t { r2 with s := x } = .ok r2' ∧ In2 k zn P r' r2') := fun hx => by
    rcases (h.less _).text hx with g | ⟨r2', g1, g2⟩
    · exact .inl (.inr g)
    · exact .inr ⟨r2', g1, g2⟩
  unfold aR at ha ⊢
  rw [h.s]
  split at ha
  · rename_i h1
    rw [if_pos h1]
    unfold fZ at ha ⊢
    rw [h.s]
    split at ha
    · rename_i g1
      rw [if_pos g1]
      exact lift ((h.less _).comment ha)
    rename_i g1
    rw [if_neg g1, if_neg (by simp [h.stk2])]
    rw [if_neg (by simp [h.stk0])] at ha
    split at ha
    · rename_i g2
      rw [if_pos ⟨h.stk2, g2.2⟩]
      cases hu : aO [93, 93, 62] (hasF gU r.s).2 with
      | error e => rw [hu] at ha; cases ha
      | ok z =>
        obtain ⟨v, s1⟩ := z
        rw [hu] at ha
        exact lift (text ha)
    rename_i g2
    rw [if_neg (fun g => g2 ⟨h.stk0, g.2⟩)]
    split at ha
    · rename_i g3
      rw [if_pos g3]
      exact lift ((h.less _).proc ha)
    rename_i g3
    rw [if_neg g3]
    split at ha
    · rename_i g4
      rw [if_pos g4]
      exact .inr ((h.less _).endT ha)
    rename_i g4
    rw [if_neg g4]
    split at ha
    · rename_i g5
      rw [if_pos g5]
      exact lift ((h.less _).start ha)
    · rename_i g5
      rw [if_neg g5]
      injection ha with ha; subst ha
      exact .inr ⟨_, rfl, .inl h⟩
  rename_i h1
  rw [if_neg h1]
  split at ha
  · rename_i h2
    rw [if_pos ⟨h.stk2, h2.2⟩]
    cases hx : refF (hasF [38] r.s).2 with
    | error e => rw [hx] at ha; cases ha
    | ok z =>
      obtain ⟨v, s1⟩ := z
      rw [hx] at ha
      exact lift (text ha)
  rename_i h2
  rw [if_neg (fun g => h2 ⟨h.stk0, g.2⟩)]
  split at ha
  · cases ha
  rename_i h3
  rw [if_neg h3]
  unfold dJ at ha ⊢
  rw [if_neg h.stk0] at ha
  rw [if_neg h.stk2, h.s]
  split at ha
  · cases ha
  rename_i h4
  rw [if_neg h4]
  cases hx : aQ (r.s.take (upTo r.s [60, 38])) r with
  | error e => rw [hx] at ha; cases ha
  | ok r1 =>
    rw [hx] at ha
    injection ha with ha; subst ha
    rcases h.text hx with g | ⟨r2', g1, g2⟩
    · left; right; rw [g]
    · right
      rw [g1]
      exact ⟨_, rfl, .inl (g2.less _)⟩
end Go.Proofs.YtohgmkjhbacmpaaGreatDoor
set_option linter.unusedVariables false
set_option linter.unusedSimpArgs false
namespace Go.Proofs.YtohgmkjhbacmpaaGreatDoor
open Go Go.Abs Go.RowKit Go.Xml
theorem Zed.kid {k : Nat} {P : List Nd} (h : Zed k P) (c : Nat) : Zed k (aH P 0 c) := by
  obtain ⟨n0, rest, rfl, hd⟩ := h.head
  refine ⟨⟨_, _, rfl, hd⟩, fun i n hi hn => ?_, by rw [bP]; exact h.len⟩
  rw [oN] at hn
  cases hx : (n0 :: rest)[i]? with
  | none => rw [hx] at hn; cases hn
  | some m =>
    rw [hx] at hn
    have := h.kinds i m hi hx
    simp only [Option.map_some, Option.some.injEq] at hn
    rw [← hn]
    split <;> exact this
theorem Zed.snoc {k : Nat} {P : List Nd} (h : Zed k P) {m : Nd} (hm : m.kind ≠ 1) : Zed k (P ++ [m]) := by
  obtain ⟨n0, rest, rfl, hd⟩ := h.head
  refine ⟨⟨n0, rest ++ [m], rfl, hd⟩, fun i n hi hn => ?_, by rw [List.length_append]; have := h.len; omega⟩
  by_cases hl : i < (n0 :: rest).length
  · rw [List.getElem?_append_left hl] at hn
    exact h.kinds i n hi hn
  · rw [List.getElem?_append_right (by omega)] at hn
    have := List.mem_of_getElem? hn
    rw [List.mem_singleton.1 this]
    exact hm
theorem Zed.mod {k : Nat} {P : List Nd} (h : Zed k P) (c : Nat) (t : Tx) : Zed k (P.modify c fun n => { n with val := n.val ++ t }) := by
  obtain ⟨n0, rest, rfl, hd⟩ := h.head
  refine ⟨?_, fun i n hi hn => ?_, by rw [List.length_modify]; exact h.len⟩
  · cases c with
    | zero => exact ⟨_, _, rfl, hd⟩
    | succ c => exact ⟨_, _, by rw [List.modify_succ_cons], hd⟩
  · rw [List.getElem?_modify] at hn
    cases hx : (n0 :: rest)[i]? with
    | none => rw [hx] at hn; cases hn
    | some m =>
      rw [hx] at hn
      have := h.kinds i m hi hx
      change some _ = some n at hn
      injection hn with hn
      rw [← hn]
      split <;> exact this
theorem addZ {r2 : RS} {zn : Tx} (n : Nd) (hs : r2.stk = [(0, zn)]) : addF n r2 = .error 33 ∨ addF n r2 = .ok (r2.ns.length, { r2 with ns := aH r2.ns 0 r2.ns.length ++ [{ n with par := ((0 : Nat) : Int) }] }) := by
  unfold addF
  by_cases h4 : r2.ns.length = 4096
  · left; rw [if_pos h4]
  · right; rw [if_neg h4, hs]; rfl
theorem In1.put {k : Nat} {zn : Tx} {r r2 : RS} (h : In1 k zn r r2) {m : Nd} (hm : m.kind ≠ 1) (x : Tx) (c : Nat) : In1 k zn { r with s := x } { r2 with s := x, ns := aH r2.ns 0 c ++ [m] } :=
  ⟨rfl, h.done2, h.stk0, h.done, h.ns, h.stk, (h.zed.kid c).snoc hm⟩
theorem In1.less {k : Nat} {zn : Tx} {r r2 : RS} (h : In1 k zn r r2) (x : Tx) : In1 k zn { r with s := x } { r2 with s := x } := ⟨rfl, h.done2, h.stk0, h.done, h.ns, h.stk, h.zed⟩
theorem Out3.less {k a : Nat} {zn : Tx} {r r2 : RS} (h : Out3 k a zn r r2) (x : Tx) : Out3 k a zn { r with s := x } { r2 with s := x } := ⟨rfl, h.done2, h.stk0, h.done, h.stk, h.ns, h.root⟩
theorem Out3.put {k a : Nat} {zn : Tx} {r r2 : RS} (h : Out3 k a zn r r2) (m : Nd) (x : Tx) : Out3 k a zn { r with s := x } { r2 with s := x, ns := aH r2.ns 0 r2.ns.length ++ [m] } := by
  obtain ⟨P, T, hZ, hP, hN, n0, c, h0, hc, hc2⟩ := h.ns
  obtain ⟨m0, rest, hm, hd⟩ := hZ.head
  refine ⟨rfl, h.done2, h.stk0, h.done, h.stk, ⟨aH P 0 r2.ns.length, T ++ [m], hZ.kid _, by rw [bP]; exact hP, ?_, { m0 with kids := m0.kids ++ [r2.ns.length] }, r2.ns.length, ?_, ?_, .inr ?_⟩, h.root⟩
  · show aH r2.ns 0 r2.ns.length ++ [m] = _
    rw [hN, hm, zw, List.append_assoc, List.append_assoc]
  · rw [hm]; rfl
  · simp
  · rw [hN, List.length_append, List.length_append, List.length_map]; dsimp only; omega
theorem zA {ns : List Nd} {c : Nat} (h : bG ns 0 = some c) : ∃ n0 n, ns[0]? = some n0 ∧ n0.kids.getLast? = some c ∧ ns[c]? = some n ∧ n.kind = 2 := by
  unfold bG at h
  cases h0 : ns[0]? with
  | none => rw [h0] at h; cases h
  | some n0 =>
    rw [h0] at h
    change (match n0.kids.getLast? with | some c => (if ((ns[c]?).map (·.kind)) = some 2 then some c else none) | none => none) = some c at h
    cases h1 : n0.kids.getLast? with
    | none => rw [h1] at h; cases h
    | some d =>
      rw [h1] at h
      dsimp only at h
      split at h
      · rename_i h2
        injection h with h; subst h
        cases h3 : ns[d]? with
        | none => rw [h3] at h2; cases h2
        | some n =>
          rw [h3] at h2
          simp at h2
          exact ⟨n0, n, rfl, h1, rfl, h2⟩
      · cases h
theorem Ii {r2 : RS} {zn t : Tx} (hs : r2.stk = [(0, zn)]) (ht : t ≠ []) : aQ t r2 = .error 33 ∨ (∃ c, bG r2.ns 0 = some c ∧ aQ t r2 = .ok { r2 with ns := r2.ns.modify c fun n => { n with val := n.val ++ t } }) ∨
    aQ t r2 = .ok { r2 with ns := aH r2.ns 0 r2.ns.length ++ [{ nd0 with kind := 2, val := t, par := ((0 : Nat) : Int) }] } := by
  unfold aQ
  rw [if_neg ht, hs]
  dsimp only [List.getLast?_singleton]
  cases hx : bG r2.ns 0 with
  | some c => exact .inr (.inl ⟨c, rfl, rfl⟩)
  | none =>
    rcases addZ { nd0 with kind := 2, val := t } hs with g | g
    · left
      show (match addF { nd0 with kind := 2, val := t } r2 with | .ok (_, r') => (.ok r' : Ex RS) | .error e => .error e) = _
      rw [g]
    · right; right
      show (match addF { nd0 with kind := 2, val := t } r2 with | .ok (_, r') => (.ok r' : Ex RS) | .error e => .error e) = _
      rw [g]
      dsimp only
      rw [hs]
theorem In1.text {k : Nat} {zn t : Tx} {r r2 : RS} (h : In1 k zn r r2) (ht : t ≠ []) : aQ t r2 = .error 33 ∨ ∃ r2', aQ t r2 = .ok r2' ∧ In1 k zn r r2' := by
  rcases Ii h.stk ht with g | ⟨c, _, g⟩ | g
  · exact .inl g
  · exact .inr ⟨_, g, h.s, h.done2, h.stk0, h.done, h.ns, h.stk, h.zed.mod c t⟩
  · exact .inr ⟨_, g, h.s, h.done2, h.stk0, h.done, h.ns, h.stk, (h.zed.kid _).snoc (show (2 : Int) ≠ 1 by decide)⟩
theorem Out3.text {k a : Nat} {zn t : Tx} {r r2 : RS} (h : Out3 k a zn r r2) (ht : t ≠ []) : aQ t r2 = .error 33 ∨ ∃ r2', aQ t r2 = .ok r2' ∧ Out3 k a zn r r2' := by
  rcases Ii h.stk ht with g | ⟨c, hc, g⟩ | g
  · exact .inl g
  · right
    refine ⟨_, g, h.s, h.done2, h.stk0, h.done, h.stk, ?_, h.root⟩
    obtain ⟨P, T, hZ, hP, hN, n0, c0, h0, hc0, hc2⟩ := h.ns
    obtain ⟨m0, m, g0, g1, g2, g3⟩ := zA hc
    obtain ⟨rn, hr, hr1⟩ := h.root
    have hpos : 0 < P.length := by obtain ⟨_, _, e, _⟩ := hZ.head; rw [e]; simp
    have e0 : r2.ns[0]? = some n0 := by rw [hN, List.getElem?_append_left hpos]; exact h0
    rw [e0] at g0
    injection g0 with g0; subst g0
    rw [hc0] at g1
    injection g1 with g1; subst g1
    have hge : a + r.ns.length ≤ c0 := by
      rcases hc2 with rfl | hge
      · exfalso
        have hrl := (List.getElem?_eq_some_iff.1 hr).1
        rw [hN, List.getElem?_append_right (by omega), hP, Nat.sub_self, List.getElem?_append_left (by rw [List.length_map]; omega), List.getElem?_map, hr] at g2
        injection g2 with g2
        rw [← g2] at g3
        simp [shN, hr1] at g3
      · exact hge
    refine ⟨P, T.modify (c0 - a - r.ns.length) fun n => { n with val := n.val ++ t }, hZ, hP, ?_, n0, c0, h0, hc0, .inr hge⟩
    show (r2.ns.modify c0 fun n => { n with val := n.val ++ t }) = _
    rw [hN]
    have e1 : c0 = (c0 - a - r.ns.length + (r.ns.map (shN a)).length) + P.length := by rw [List.length_map, hP]; omega
    conv => lhs; rw [e1]
    rw [jX, jX]
  · exact .inr ⟨_, g, by
      have := h.put { nd0 with kind := 2, val := t, par := ((0 : Nat) : Int) } r.s
      exact ⟨h.s, this.done2, this.stk0, this.done, this.stk, this.ns, this.root⟩⟩
theorem FM {r2 : RS} {zn x : Tx} (n : Nd) (hs : r2.stk = [(0, zn)]) :
    gX (if r2.stk = [] then (.ok { r2 with s := x } : Ex RS) else match addF n { r2 with s := x } with | .error e => .error e | .ok (_, r') => .ok r') ∨
    (if r2.stk = [] then (.ok { r2 with s := x } : Ex RS) else match addF n { r2 with s := x } with | .error e => .error e | .ok (_, r') => .ok r') = .ok { r2 with s := x, ns := aH r2.ns 0 r2.ns.length ++ [{ n with par := ((0 : Nat) : Int) }] } := by
  rw [if_neg (by simp [hs])]
  rcases addZ (r2 := { r2 with s := x }) n hs with g | g
  · left; right; rw [g]
  · right; rw [g]
theorem FN {r r2 r' : RS} {zn : Tx} (hs2 : r2.s = r.s) (hs : r2.stk = [(0, zn)]) (h0 : r.stk = []) (ha : aN r = .ok r') :
    gX (aN r2) ∨ ∃ x m, r' = { r with s := x } ∧ m.kind ≠ 1 ∧ aN r2 = .ok { r2 with s := x, ns := aH r2.ns 0 r2.ns.length ++ [m] } := by
  unfold aN at ha ⊢
  rw [hs2]
  cases hu : aO [45, 45] r.s with
  | error e => rw [hu] at ha; cases ha
  | ok z =>
    obtain ⟨v, s1⟩ := z
    rw [hu] at ha
    dsimp only at ha ⊢
    split at ha
    · rename_i h1
      rw [if_pos h1]
      try rw [if_pos h0] at ha
      injection ha with ha
      rcases FM (x := (hasF [62] s1).2) { nd0 with kind := 3, val := v } hs with g | g
      · exact .inl g
      · exact .inr ⟨_, _, ha.symm, by simp [nd0], g⟩
    · cases ha
theorem JI {r r2 r' : RS} {zn : Tx} (hs2 : r2.s = r.s) (hs : r2.stk = [(0, zn)]) (h0 : r.stk = []) (ha : dH r = .ok r') :
    gX (dH r2) ∨ ∃ x m, r' = { r with s := x } ∧ m.kind ≠ 1 ∧ dH r2 = .ok { r2 with s := x, ns := aH r2.ns 0 r2.ns.length ++ [m] } := by
  unfold dH at ha ⊢
  rw [hs2]
  cases hn : bK r.s with
  | error e => rw [hn] at ha; cases ha
  | ok y =>
    obtain ⟨nm, s1⟩ := y
    rw [hn] at ha
    dsimp only at ha ⊢
    split at ha
    · cases ha
    rename_i h1
    rw [if_neg h1]
    split at ha
    · rename_i h2
      rw [if_pos h2]
      try rw [if_pos h0] at ha
      injection ha with ha
      rcases FM (x := (hasF [63, 62] s1).2) { nd0 with kind := 4, loc := nm, val := [] } hs with g | g
      · exact .inl g
      · exact .inr ⟨_, _, ha.symm, by simp [nd0], g⟩
    · rename_i h2
      rw [if_neg h2]
      split at ha
      · rename_i h3
        rw [if_pos h3]
        cases hu : aO [63, 62] (aC s1).2 with
        | error e => rw [hu] at ha; cases ha
        | ok z =>
          obtain ⟨v, s2⟩ := z
          rw [hu] at ha
          dsimp only at ha ⊢
          try rw [if_pos h0] at ha
          injection ha with ha
          rcases FM (x := s2) { nd0 with kind := 4, loc := nm, val := v } hs with g | g
          · exact .inl g
          · exact .inr ⟨_, _, ha.symm, by simp [nd0], g⟩
      · cases ha
theorem uX {p : UInt8 → Bool} : ∀ {l : Tx}, l.dropWhile p = [] → ∀ c ∈ l, p c = true
  | [], _, c, hc => by cases hc
  | d :: l, h, c, hc => by
    by_cases hp : p d = true
    · rw [List.dropWhile_cons_of_pos hp] at h
      rcases List.mem_cons.1 hc with rfl | hc
      · exact hp
      · exact uX h c hc
    · rw [List.dropWhile_cons_of_neg hp] at h; cases h
theorem DX {l : Tx} (h : Lib.trimS l blanks = []) : ∀ c ∈ l, blanks.contains c = true := by
  unfold Lib.trimS Lib.trimLeftS Lib.trimRightS at h
  intro c hc
  have h1 : ∀ d ∈ (l.reverse.dropWhile (blanks.contains ·)).reverse, blanks.contains d = true := by
    intro d hd
    exact uX h d hd
  have h2 : c ∈ l.reverse.takeWhile (blanks.contains ·) ++ l.reverse.dropWhile (blanks.contains ·) := by
    rw [List.takeWhile_append_dropWhile]; exact List.mem_reverse.2 hc
  rcases List.mem_append.1 h2 with h3 | h3
  · have := List.all_takeWhile (p := (blanks.contains ·)) (l := l.reverse)
    exact List.all_eq_true.1 this c h3
  · exact h1 c (List.mem_reverse.2 h3)
theorem index_none {s : Tx} {o : UInt8} {t : Tx} (h : o ∉ s) : Lib.index s (o :: t) = -1 := by
  induction s with
  | nil => rfl
  | cons b s ih =>
    have hb : ¬ o = b := fun e => h (by rw [e]; exact List.mem_cons_self ..)
    have hs : o ∉ s := fun e => h (List.mem_cons_of_mem _ e)
    unfold Lib.index
    rw [if_neg (by rw [List.isPrefixOf_cons_cons]; simp [hb]), ih hs]
    rfl
theorem Bq {l : Tx} (h : Lib.trimS l blanks = []) : Lib.contains l [93, 93, 62] = false := by
  unfold Lib.contains
  rw [index_none (fun hm => by have := DX h 93 hm; revert this; decide)]
  rfl
theorem Ij {r r2 r' : RS} {zn : Tx} (hs2 : r2.s = r.s) (hs : r2.stk = [(0, zn)]) (hne : r.s ≠ []) (h0 : r.stk = []) (ha : aR r = .ok r') :
    gX (aR r2) ∨ (∃ x m, r' = { r with s := x } ∧ m.kind ≠ 1 ∧ aR r2 = .ok { r2 with s := x, ns := aH r2.ns 0 r2.ns.length ++ [m] }) ∨
    (∃ t x, t ≠ [] ∧ r' = { r with s := x } ∧ aR r2 = (match aQ t r2 with | .error e => .error e | .ok r'' => .ok { r'' with s := x })) ∨
    (aV { r with s := (hasF [60] r.s).2 } = .ok r' ∧ aR r2 = aV { r2 with s := (hasF [60] r.s).2 }) := by
  have hn2 : r2.stk ≠ [] := by rw [hs]; simp
  unfold aR at ha ⊢
  rw [hs2]
  split at ha
  · rename_i h1
    rw [if_pos h1]
    unfold fZ at ha ⊢
    rw [hs2]
    split at ha
    · rename_i g1
      rw [if_pos g1]
      rcases FN (r := { r with s := (hasF [60, 33, 45, 45] r.s).2 }) (r2 := { r2 with s := (hasF [60, 33, 45, 45] r.s).2 }) rfl hs h0 ha with g | ⟨x, m, a1, a2, a3⟩
      · exact .inl g
      · exact .inr (.inl ⟨x, m, a1, a2, a3⟩)
    rename_i g1
    rw [if_neg g1, if_neg (by simp [hn2])]
    split at ha
    · cases ha
    rename_i g1'
    rw [if_neg (by simp [h0])] at ha
    by_cases g2 : (hasF gU r.s).1 = true
    · exfalso
      have e := G6 g2
      generalize (hasF gU r.s).2 = y at e
      rw [e] at ha
      change aV { r with s := 33 :: 91 :: 67 :: 68 :: 65 :: 84 :: 65 :: 91 :: y } = .ok r' at ha
      unfold aV at ha
      split at ha
      · cases ha
      · have hnm : bK (33 :: 91 :: 67 :: 68 :: 65 :: 84 :: 65 :: 91 :: y) = .error 10 := rfl
        dsimp only at ha
        rw [hnm] at ha
        cases ha
    rw [if_neg (fun g => g2 g.2)]
    split at ha
    · rename_i g3
      rw [if_pos g3]
      rcases JI (r := { r with s := (hasF [60, 63] r.s).2 }) (r2 := { r2 with s := (hasF [60, 63] r.s).2 }) rfl hs h0 ha with g | ⟨x, m, a1, a2, a3⟩
      · exact .inl g
      · exact .inr (.inl ⟨x, m, a1, a2, a3⟩)
    rename_i g3
    rw [if_neg g3]
    split at ha
    · rename_i g4
      exfalso
      unfold endF at ha
      dsimp only at ha
      rw [h0] at ha
      cases ha
    rename_i g4
    rw [if_neg g4]
    split at ha
    · rename_i g5
      rw [if_pos g5]
      exact .inr (.inr (.inr ⟨ha, rfl⟩))
    · rename_i g5
      exfalso
      apply g5
      cases hr : r.s with
      | nil => exact absurd hr hne
      | cons c s => rw [hr] at h1; simp at h1; subst h1; simp [hasF]
  rename_i h1
  rw [if_neg h1]
  rw [if_neg (by simp [h0])] at ha
  split at ha
  · cases ha
  rename_i h3
  have h38 : (hasF [38] r.s).1 = false := by
    cases hr : r.s with
    | nil => exact absurd hr hne
    | cons c s =>
      rw [hr] at h3
      simp at h3
      simp [hasF, List.isPrefixOf, Ne.symm h3]
  rw [if_neg (fun g => by rw [h38] at g; exact absurd g.2 (by decide)), if_neg h3]
  unfold dJ at ha ⊢
  rw [if_pos h0] at ha
  rw [if_neg hn2, hs2]
  split at ha
  · rename_i h4
    injection ha with ha
    rw [if_neg (by rw [Bq h4]; decide)]
    refine .inr (.inr (.inl ⟨_, _, ?_, ha.symm, rfl⟩))
    intro e
    obtain ⟨c, s, hr⟩ := List.exists_cons_of_ne_nil hne
    have hp : 0 < upTo r.s [60, 38] := zh (c := c) (by rw [hr]; rfl) (by
      rw [hr] at h1 h3
      simp at h1 h3
      simp [h1, h3])
    have := congrArg List.length e
    rw [List.length_take, hr] at this
    rw [hr] at hp
    simp at this
    omega
  · cases ha
theorem Out3.step {k a : Nat} {zn : Tx} {r r2 r' : RS} (h : Out3 k a zn r r2) (hne : r.s ≠ []) (ha : aR r = .ok r') : gX (aR r2) ∨ ∃ r2', aR r2 = .ok r2' ∧ Out3 k a zn r' r2' := by
  rcases Ij h.s h.stk hne h.stk0 ha with g | ⟨x, m, rfl, hm, g⟩ | ⟨t, x, ht, rfl, g⟩ | ⟨g, _⟩
  · exact .inl g
  · exact .inr ⟨_, g, h.put m x⟩
  · rw [g]
    rcases h.text ht with g1 | ⟨r2', g1, g2⟩
    · left; right; rw [g1]
    · right; rw [g1]; exact ⟨_, rfl, g2.less x⟩
  · exfalso
    unfold aV at g
    rw [if_pos ⟨h.stk0, h.done⟩] at g
    cases g
theorem In1.start {k : Nat} {zn : Tx} {r r2 r' : RS} (h : In1 k zn r r2) (ha : aV r = .ok r') : gX (aV r2) ∨ ∃ r2', aV r2 = .ok r2' ∧ ((∃ P, In2 k zn P r' r2') ∨ ∃ a, Out3 k a zn r' r2') := by
  have hn2 : r2.stk ≠ [] := by rw [h.stk]; simp
  have hsp : ∀ p ds, aI r2 p ds = aI r p ds := by
    intro p ds
    obtain ⟨n0, rest, hP, hd⟩ := h.zed.head
    unfold aI
    rw [h.stk, h.stk0, hP]
    show _ = (if p = [120, 109, 108] then (fU, true) else match findD p ds with | some u => (u, true) | none => ([], decide (p = [])))
    show (if p = [120, 109, 108] then (fU, true) else match findD p ds with | some u => (u, true) | none => (match (match findD p n0.dcls with | some u => some u | none => none) with | some u => (u, true) | none => ([], decide (p = [])))) = _
    rw [hd]
    rfl
  unfold aV at ha ⊢
  rw [if_neg (by simp [h.done])] at ha
  rw [if_neg (by simp [hn2]), h.s]
  cases hn : bK r.s with
  | error e => rw [hn] at ha; cases ha
  | ok x =>
    obtain ⟨nm, s1⟩ := x
    rw [hn] at ha
    dsimp only at ha ⊢
    cases hat : bg (s1.length + 1) [] (dh nm) s1 with
    | error e => rw [hat] at ha; cases ha
    | ok y =>
      obtain ⟨nms, n, s2⟩ := y
      rw [hat] at ha
      dsimp only at ha ⊢
      split at ha
      · cases ha
      rename_i h1
      rw [if_neg h1]
      split at ha
      · cases ha
      rename_i h2
      rw [if_neg h2]
      split at ha
      · cases ha
      rename_i h3
      rw [if_neg h3, sI hsp]
      cases hs : aU r n with
      | error e => rw [hs] at ha; cases ha
      | ok n' =>
        rw [hs] at ha
        dsimp only at ha ⊢
        split at ha
        · cases ha
        rename_i h4
        rw [if_neg (by rw [h.stk]; simp)]
        cases hd : addF n' { r with s := (hasF [62] (hasF [47] s2).2).2 } with
        | error e => rw [hd] at ha; cases ha
        | ok z =>
          obtain ⟨a, r1⟩ := z
          rw [hd] at ha
          dsimp only at ha
          injection ha with ha
          obtain ⟨_, hk1, _, _, hkk, _⟩ := mo hs
          obtain ⟨a1, _, _, a4⟩ := je _ hat
          have hkids : n'.kids = [] := by rw [hkk, a4]; exact (nP hn).2.2
          have hkind : n'.kind = 1 := by rw [hk1, a1]; exact (nP hn).1
          obtain ⟨rfl, rfl⟩ := uP (r := { r with s := (hasF [62] (hasF [47] s2).2).2 }) h.stk0 hd
          rcases addZ (r2 := { r2 with s := (hasF [62] (hasF [47] s2).2).2 }) n' h.stk with g | g
          · left; right; rw [g]
          right
          rw [g]
          refine ⟨_, rfl, ?_⟩
          have hz := h.zed.kid r2.ns.length
          have hlen : (aH r2.ns 0 r2.ns.length).length = r2.ns.length := bP ..
          obtain ⟨m0, rest, hm, _⟩ := h.zed.head
          have hsh : aH r2.ns 0 r2.ns.length ++ [{ n' with par := ((0 : Nat) : Int) }] = aH r2.ns 0 r2.ns.length ++ (r.ns ++ [{ n' with par := -1 }]).map (shN (aH r2.ns 0 r2.ns.length).length) := by
            rw [h.ns]
            simp [shN, hkids]
          have hlast : ∃ n0, (aH r2.ns 0 r2.ns.length)[0]? = some n0 ∧ n0.kids.getLast? = some (aH r2.ns 0 r2.ns.length).length := by
            rw [hlen]
            refine ⟨{ m0 with kids := m0.kids ++ [r2.ns.length] }, ?_, by simp⟩
            rw [hm]; rfl
          have hroot : ∃ n, (r.ns ++ [{ n' with par := -1 }])[0]? = some n ∧ n.kind = 1 := by rw [h.ns]; exact ⟨_, rfl, hkind⟩
          rw [← ha]
          dsimp only
          cases hcl : (hasF [47] s2).1 with
          | true =>
            right
            refine ⟨(aH r2.ns 0 r2.ns.length).length, rfl, rfl, h.stk0, rfl, h.stk, ⟨_, [], hz, rfl, ?_, ?_⟩, hroot⟩
            · rw [List.append_nil]; exact hsh
            · obtain ⟨n0, g1, g2⟩ := hlast
              exact ⟨n0, _, g1, g2, .inl rfl⟩
          | false =>
            left
            refine ⟨aH r2.ns 0 r2.ns.length, rfl, rfl, hz, ?_, rfl, ?_, hsh, hlast, hroot⟩
            · rw [h.stk0]; simp
            · rw [h.stk, h.stk0, h.ns, hlen]
              simp [shK]
theorem In1.step {k : Nat} {zn : Tx} {r r2 r' : RS} (h : In1 k zn r r2) (hne : r.s ≠ []) (ha : aR r = .ok r') : gX (aR r2) ∨ ∃ r2', aR r2 = .ok r2' ∧ (In1 k zn r' r2' ∨ (∃ P, In2 k zn P r' r2') ∨ ∃ a, Out3 k a zn r' r2') := by
  rcases Ij h.s h.stk hne h.stk0 ha with g | ⟨x, m, rfl, hm, g⟩ | ⟨t, x, ht, rfl, g⟩ | ⟨g, g'⟩
  · exact .inl g
  · exact .inr ⟨_, g, .inl (h.put hm x _)⟩
  · rw [g]
    rcases h.text ht with g1 | ⟨r2', g1, g2⟩
    · left; right; rw [g1]
    · right; rw [g1]; exact ⟨_, rfl, .inl (g2.less x)⟩
  · rw [g']
    rcases (h.less _).start g with g1 | ⟨r2', g1, g2⟩
    · exact .inl g1
    · exact .inr ⟨r2', g1, .inr g2⟩
def WW (k : Nat) (zn : Tx) (r r2 : RS) : Prop := In1 k zn r r2 ∨ (∃ P, In2 k zn P r r2) ∨ ∃ a, Out3 k a zn r r2
theorem WW.s {k : Nat} {zn : Tx} {r r2 : RS} (h : WW k zn r r2) : r2.s = r.s := by
  rcases h with h | ⟨P, h⟩ | ⟨a, h⟩ <;> exact h.s
theorem WW.step {k : Nat} {zn : Tx} {r r2 r' : RS} (h : WW k zn r r2) (hne : r.s ≠ []) (ha : aR r = .ok r') : gX (aR r2) ∨ ∃ r2', aR r2 = .ok r2' ∧ WW k zn r' r2' := by
  rcases h with h | ⟨P, h⟩ | ⟨a, h⟩
  · exact h.step hne ha
  · rcases h.step ha with g | ⟨r2', g1, g2 | g2⟩
    · exact .inl g
    · exact .inr ⟨r2', g1, .inr (.inl ⟨P, g2⟩)⟩
    · exact .inr ⟨r2', g1, .inr (.inr ⟨_, g2⟩)⟩
  · rcases h.step hne ha with g | ⟨r2', g1, g2⟩
    · exact .inl g
    · exact .inr ⟨r2', g1, .inr (.inr ⟨a, g2⟩)⟩
theorem WW.steps {k : Nat} {zn : Tx} {r r' : RS} (hs : Steps r r') : ∀ {r2 : RS}, WW k zn r r2 → (∃ r3, Steps r2 r3 ∧ r3.s ≠ [] ∧ gX (aR r3)) ∨ ∃ r2', Steps r2 r2' ∧ WW k zn r' r2' := by
  induction hs with
  | refl => exact fun h => .inr ⟨_, .refl _, h⟩
  | step hs hx _ ih =>
    intro r2 h
    have hs2 : r2.s ≠ [] := by rw [h.s]; exact hs
    rcases h.step hs hx with g | ⟨r2', g1, g2⟩
    · exact .inl ⟨r2, .refl _, hs2, g⟩
    · rcases ih g2 with ⟨r3, a1, a2, a3⟩ | ⟨r3, a1, a2⟩
      · exact .inl ⟨r3, .step hs2 g1 a1, a2, a3⟩
      · exact .inr ⟨r3, .step hs2 g1 a1, a2⟩
end Go.Proofs.YtohgmkjhbacmpaaGreatDoor
set_option linter.unusedVariables false
set_option linter.unusedSimpArgs false
namespace Go.Proofs.YtohgmkjhbacmpaaGreatDoor
open Go Go.Abs Go.RowKit Go.Xml
def dW (old new s : Tx) : Tx := Lib.replaceK old new (Lib.count s old) s
theorem uY {old new s : Tx} (h : (old == new) = false) : Lib.replaceAll s old new = dW old new s := by
  unfold Lib.replaceAll Lib.replace dW Lib.replaceNum
  rw [h, if_neg (by decide), if_pos (.inl (by decide))]
theorem mD {old new : Tx} (ho : old ≠ []) {s : Tx} {i : Nat} (h : Lib.index s old = i) : dW old new s = s.take i ++ new ++ dW old new (s.drop (i + old.length)) := by
  have hc : Lib.count s old = Lib.count (s.drop (i + old.length)) old + 1 := by
    have := Lib.count_hit (s := s) (sub := old) ho h
    omega
  unfold dW
  rw [hc, Lib.replaceK_hit old new _ s i h]
theorem kQ {old new s : Tx} (h : Lib.index s old = -1) : dW old new s = s := by
  unfold dW
  rw [Lib.count_miss h]
  rfl
theorem kR {old new : Tx} (ho : old ≠ []) (c : UInt8) (l : Tx) : dW old new (c :: l) = if old.isPrefixOf (c :: l) then new ++ dW old new ((c :: l).drop old.length) else c :: dW old new l := by
  by_cases hp : old.isPrefixOf (c :: l) = true
  · have hi : Lib.index (c :: l) old = ((0 : Nat) : Int) := by
      unfold Lib.index
      rw [if_pos hp]; rfl
    rw [if_pos hp, mD ho hi, Nat.zero_add]
    rfl
  · rw [if_neg hp]
    have hg := Lib.index_ge l old
    by_cases hm : Lib.index l old = -1
    · have hi : Lib.index (c :: l) old = -1 := by
        unfold Lib.index
        rw [if_neg hp, hm]; rfl
      rw [kQ hi, kQ hm]
    · obtain ⟨i, hi⟩ : ∃ i : Nat, Lib.index l old = i := ⟨(Lib.index l old).toNat, by omega⟩
      have hi2 : Lib.index (c :: l) old = ((i + 1 : Nat) : Int) := by
        unfold Lib.index
        rw [if_neg hp, if_neg (by rw [hi]; simp), hi]
        rfl
      rw [mD ho hi, mD ho hi2, show i + 1 + old.length = (i + old.length) + 1 by omega]
      rfl
theorem jY {old new : Tx} (ho : old ≠ []) : dW old new [] = [] := by
  refine kQ ?_
  cases old with
  | nil => exact absurd rfl ho
  | cons c o => rfl
def cO : Tx → Tx
  | [] => []
  | c :: l => if c = 13 then (if l.head? = some 10 then cO l else 10 :: cO l) else c :: cO l
theorem dX {c : UInt8} (h : c ≠ 13) (l : Tx) : cO (c :: l) = c :: cO l := by
  conv => lhs; unfold cO
  rw [if_neg h]
theorem jE (l : Tx) : cO (13 :: l) = if l.head? = some 10 then cO l else 10 :: cO l := by
  conv => lhs; unfold cO
  rw [if_pos rfl]
theorem G7 (n : Nat) : ∀ l : Tx, l.length ≤ n → dW [13] [10] (dW [13, 10] [10] l) = cO l := by
  induction n with
  | zero =>
    intro l h
    rw [List.eq_nil_of_length_eq_zero (by omega : l.length = 0), jY (by simp), jY (by simp)]
    rfl
  | succ n ih =>
    intro l h
    cases l with
    | nil => rw [jY (by simp), jY (by simp)]; rfl
    | cons c l =>
      rw [kR (by simp)]
      by_cases hp : ([13, 10] : Tx).isPrefixOf (c :: l) = true
      · rw [if_pos hp]
        obtain ⟨t, ht⟩ := List.isPrefixOf_iff_prefix.1 hp
        rw [← ht] at h ⊢
        show dW [13] [10] (10 :: dW [13, 10] [10] t) = cO (13 :: 10 :: t)
        rw [kR (by simp), if_neg (by simp [List.isPrefixOf]), ih t (by simp at h; omega), jE, if_pos (show (10 :: t).head? = some 10 from rfl), dX (by decide)]
      · rw [if_neg hp, kR (by simp)]
        by_cases hc : c = 13
        · subst hc
          rw [if_pos (by simp [List.isPrefixOf])]
          show 10 :: dW [13] [10] (dW [13, 10] [10] l) = _
          rw [ih l (by simp at h; omega), jE, if_neg]
          intro e
          apply hp
          cases l with
          | nil => cases e
          | cons d l => simp at e; subst e; simp [List.isPrefixOf]
        · rw [if_neg (by simp [List.isPrefixOf, Ne.symm hc]), ih l (by simp at h; omega), dX hc]
theorem sJ (l : Tx) : lines l = cO l := by
  unfold lines
  rw [uY (by decide), uY (by decide)]
  exact G7 l.length l (Nat.le_refl _)
theorem jZ : ∀ {a : Tx}, (∀ c ∈ a, c ≠ 13) → ∀ l, cO (a ++ l) = a ++ cO l
  | [], _, l => rfl
  | c :: a, h, l => by
    rw [List.cons_append, dX (h c (List.mem_cons_self ..)), jZ (fun d hd => h d (List.mem_cons_of_mem _ hd))]
    rfl
theorem pX {t : Tx} (ht : t.head? ≠ some 10) : ∀ l : Tx, cO (l ++ t) = cO l ++ cO t
  | [] => rfl
  | c :: l => by
    have ih := pX ht l
    rw [List.cons_append]
    by_cases hc : c = 13
    · subst hc
      rw [jE, jE, ih]
      cases l with
      | nil =>
        rw [List.nil_append, if_neg ht, if_neg (by simp)]
        rfl
      | cons d l =>
        rw [show (d :: l ++ t).head? = (d :: l).head? from rfl]
        split <;> rfl
    · rw [dX hc, dX hc, ih]
      rfl
theorem sK : ∀ {w : Tx}, (∀ c ∈ w, c ≠ 10 ∧ c ≠ 13) → ∀ {l : Tx}, w.isPrefixOf (cO l) = true → w.isPrefixOf l = true
  | [], _, l, _ => by simp
  | c :: w, h, [], hp => by simp [cO] at hp
  | c :: w, h, d :: l, hp => by
    obtain ⟨h1, h2⟩ := h c (List.mem_cons_self ..)
    by_cases hd : d = 13
    · exfalso
      subst hd
      have : (cO (13 :: l)).head? = some 10 := by
        rw [jE]
        split
        · rename_i e
          cases l with
          | nil => cases e
          | cons d l => simp at e; subst e; rw [dX (by decide)]; rfl
        · rfl
      obtain ⟨t, ht⟩ := List.isPrefixOf_iff_prefix.1 hp
      rw [← ht] at this
      simp at this
      exact h1 this
    · rw [dX hd, List.isPrefixOf_cons_cons] at hp
      rw [List.isPrefixOf_cons_cons]
      simp only [Bool.and_eq_true] at hp ⊢
      exact ⟨hp.1, sK (fun e he => h e (List.mem_cons_of_mem _ he)) hp.2⟩
theorem Ja (c : Nat) : 1 ≤ (utf8 c).length ∧ (utf8 c).length ≤ 4 := by
  unfold utf8
  split
  · simp
  split
  · simp
  split <;> simp
set_option maxHeartbeats 1000000 in
theorem zB {c : Nat} (h : c < 0x110000) (hs : ¬ (0xD800 ≤ c ∧ c ≤ 0xDFFF)) (t : Tx) : Lib.decodeL (utf8 c ++ t) = (c, (utf8 c).length) := by
  rw [Lib.decodeL_N]
  unfold utf8
  split
  · simp only [List.cons_append, List.nil_append, List.getD_cons_zero, UInt8.toNat_ofNat', List.length_cons, List.length_nil]
    unfold Lib.decodeN
    rw [if_pos (by omega)]
    simp; omega
  split
  · simp only [List.cons_append, List.nil_append, List.getD_cons_zero, List.getD_cons_succ, UInt8.toNat_ofNat', List.length_cons, List.length_nil]
    unfold Lib.decodeN
    rw [if_neg (by omega), if_pos (by omega), if_pos (by omega)]
    simp; omega
  split
  · simp only [List.cons_append, List.nil_append, List.getD_cons_zero, List.getD_cons_succ, UInt8.toNat_ofNat', List.length_cons, List.length_nil]
    unfold Lib.decodeN
    rw [if_neg (by omega), if_neg (by omega), if_pos (by omega), if_pos (by omega)]
    simp; omega
  · simp only [List.cons_append, List.nil_append, List.getD_cons_zero, List.getD_cons_succ, UInt8.toNat_ofNat', List.length_cons, List.length_nil]
    unfold Lib.decodeN
    rw [if_neg (by omega), if_neg (by omega), if_neg (by omega), if_pos (by omega), if_pos (by omega)]
    simp; omega
theorem len4 : ∀ {l : Tx}, 3 < l.length → ∃ x y z v t, l = x :: y :: z :: v :: t
  | [], h => by simp at h
  | [_], h => by simp at h
  | [_, _], h => by simp at h
  | [_, _, _], h => by simp at h
  | x :: y :: z :: v :: t, _ => ⟨x, y, z, v, t, rfl⟩
theorem kS {x : UInt8} {n : Nat} (h : x.toNat = n) : UInt8.ofNat n = x := by subst h; simp
set_option maxRecDepth 10000 in
set_option maxHeartbeats 2000000 in
theorem zC {l : Tx} (hl : l ≠ []) (h : ¬ ((Lib.decodeL l).1 = 65533 ∧ (Lib.decodeL l).2 < 3)) : l = utf8 (Lib.decodeL l).1 ++ l.drop (Lib.decodeL l).2 := by
  have h0 : (l.getD 0 0).toNat < 256 := UInt8.toNat_lt _
  have h1 : (l.getD 1 0).toNat < 256 := UInt8.toNat_lt _
  have h2 : (l.getD 2 0).toNat < 256 := UInt8.toNat_lt _
  have h3 : (l.getD 3 0).toNat < 256 := UInt8.toNat_lt _
  rw [Lib.decodeL_N] at h ⊢
  unfold Lib.decodeN at h ⊢
  split
  · rename_i g
    obtain ⟨x, t, rfl⟩ := List.exists_cons_of_ne_nil hl
    simp only [List.getD_cons_zero] at g ⊢
    unfold utf8
    rw [if_pos g, kS rfl]
    rfl
  rename_i g0
  rw [if_neg g0] at h
  split
  · rename_i g
    rw [if_pos g] at h
    split
    · rename_i g1
      rw [if_pos g1] at h
      match l, g with
      | x :: y :: t, g =>
        simp only [List.getD_cons_zero, List.getD_cons_succ] at g g1 h0 h1 ⊢
        unfold utf8
        rw [if_neg (by omega), if_pos (by omega), kS (x := x) (by omega), kS (x := y) (by omega)]
        rfl
    · rename_i g1
      rw [if_neg g1] at h
      exact absurd ⟨rfl, by decide⟩ h
  rename_i g2
  rw [if_neg g2] at h
  split
  · rename_i g
    rw [if_pos g] at h
    split
    · rename_i g1
      rw [if_pos g1] at h
      match l, g with
      | x :: y :: z :: t, g =>
        simp only [List.getD_cons_zero, List.getD_cons_succ] at g g1 h0 h1 h2 ⊢
        unfold utf8
        rw [if_neg (by omega), if_neg (by omega), if_pos (by omega), kS (x := x) (by omega), kS (x := y) (by omega), kS (x := z) (by omega)]
        rfl
    · rename_i g1
      rw [if_neg g1] at h
      exact absurd ⟨rfl, by decide⟩ h
  rename_i g3
  rw [if_neg g3] at h
  split
  · rename_i g
    rw [if_pos g] at h
    split
    · rename_i g1
      rw [if_pos g1] at h
      obtain ⟨x, y, z, v, t, rfl⟩ := len4 g.2.2.2.1
      simp only [List.getD_cons_zero, List.getD_cons_succ] at g g1 h0 h1 h2 h3 ⊢
      unfold utf8
      rw [if_neg (by omega), if_neg (by omega), if_neg (by omega), kS (x := x) (by omega), kS (x := y) (by omega), kS (x := z) (by omega), kS (x := v) (by omega)]
      rfl
    · rename_i g1
      rw [if_neg g1] at h
      exact absurd ⟨rfl, by decide⟩ h
  · rename_i g
    rw [if_neg g] at h
    exact absurd ⟨rfl, by decide⟩ h
inductive Good : Tx → Prop
  | nil : Good []
  | cons {c : Nat} {l : Tx} (hc : eG c = true) (h : Good l) : Good (utf8 c ++ l)
theorem DY {c : Nat} (h : eG c = true) : c < 0x110000 ∧ ¬ (0xD800 ≤ c ∧ c ≤ 0xDFFF) := by
  unfold eG at h
  simp only [Bool.or_eq_true, Bool.and_eq_true, decide_eq_true_eq] at h
  omega
theorem Good.append {a b : Tx} (ha : Good a) (hb : Good b) : Good (a ++ b) := by
  induction ha with
  | nil => exact hb
  | cons hc _ ih => rw [List.append_assoc]; exact .cons hc ih
theorem Good.ascii : ∀ {a : Tx}, (∀ c ∈ a, c.toNat < 128 ∧ eG c.toNat = true) → Good a
  | [], _ => .nil
  | c :: a, h => by
    obtain ⟨h1, h2⟩ := h c (List.mem_cons_self ..)
    have := Good.cons h2 (Good.ascii (a := a) fun d hd => h d (List.mem_cons_of_mem _ hd))
    unfold utf8 at this
    rw [if_pos h1, kS rfl] at this
    exact this
theorem Good.ok {l : Tx} (h : Good l) : ∀ (f a : Nat), badF f l a = none := by
  induction h with
  | nil => exact fun f a => yQ f a
  | @cons c l hc _ ih =>
    intro f a
    cases f with
    | zero => rfl
    | succ f =>
      obtain ⟨h1, h2⟩ := DY hc
      have hd := zB h1 h2 l
      have hl := Ja c
      rw [oF f _ a (by intro e; have := congrArg List.length e; rw [List.length_append, List.length_nil] at this; omega), hd]
      dsimp only
      rw [if_neg, List.drop_left, ih]
      intro g
      rcases g with ⟨g1, g2⟩ | g
      · subst g1
        exact absurd g2 (by decide)
      · rw [hc] at g; cases g
theorem Good.Ci : ∀ (f a : Nat) {l : Tx}, l.length < f → badF f l a = none → Good l
  | 0, a, l, hl, h => by omega
  | f + 1, a, l, hl, h => by
    by_cases hne : l = []
    · subst hne; exact .nil
    · rw [oF f l a hne] at h
      split at h
      · cases h
      rename_i g
      have hw := oD l
      have e := zC hne fun x => g (.inl x)
      have hrec := Good.Ci f _ (l := l.drop (Lib.decodeL l).2) (by rw [List.length_drop]; have := List.length_pos_iff.2 hne; omega) h
      rw [e]
      refine .cons ?_ hrec
      cases hc : eG (Lib.decodeL l).1 with
      | true => rfl
      | false => exact absurd (.inr hc) g
theorem zD (l : Tx) : bad l = none ↔ Good l := ⟨fun h => Good.Ci (l.length + 1) 0 (Nat.lt_succ_self _) h, fun h => h.ok (l.length + 1) 0⟩
end Go.Proofs.YtohgmkjhbacmpaaGreatDoor
set_option linter.unusedVariables false
set_option linter.unusedSimpArgs false
namespace Go.Proofs.YtohgmkjhbacmpaaGreatDoor
open Go Go.Abs Go.RowKit Go.Xml
def bU (text b : Tx) : Tx := [60, 122, 62] ++ (text ++ ([60, 121, 47, 62] ++ (b ++ [60, 47, 122, 62])))
def kk (text : Tx) : Nat := if text = [] then 2 else 3
def zF : Nd := { nd0 with kind := 1, loc := [122], par := -1 }
theorem FP (t : Tx) : aR ⟨60 :: 122 :: 62 :: t, [], [], false⟩ = .ok ⟨t, [zF], [(0, [122])], true⟩ := by
  show aV ⟨122 :: 62 :: t, [], [], false⟩ = _
  rw [uT (r := ⟨122 :: 62 :: t, [], [], false⟩) (nm := [122]) (s1 := 62 :: t) (s2 := 62 :: t) (s3 := 62 :: t) (s4 := t) (nms := []) (n := dh [122]) (cl := false) (n' := dh [122]) (by simp) (by kernel_rfl) (sD (by decide)) rfl rfl (by simp) (by kernel_rfl) (by kernel_rfl) (by simp)]
  rfl
theorem FQ (t : Tx) (ns : List Nd) (h : ns.length < 4096) : ∃ n, aR ⟨60 :: 121 :: 47 :: 62 :: t, ns, [(0, [122])], true⟩ = .ok ⟨t, aH ns 0 ns.length ++ [n], [(0, [122])], true⟩ := by
  obtain ⟨u, hu⟩ := tV ⟨121 :: 47 :: 62 :: t, ns, [(0, [122])], true⟩ 121
  refine ⟨{ nd0 with kind := 1, loc := [121], spc := u, par := ((0 : Nat) : Int) }, ?_⟩
  show aV ⟨121 :: 47 :: 62 :: t, ns, [(0, [122])], true⟩ = _
  rw [uT (r := ⟨121 :: 47 :: 62 :: t, ns, [(0, [122])], true⟩) (nm := [121]) (s1 := 47 :: 62 :: t) (s2 := 47 :: 62 :: t) (s3 := 62 :: t) (s4 := t) (nms := []) (n := dh [121]) (cl := true) (by simp) (by kernel_rfl) (sD (by decide)) rfl rfl (by simp) (by kernel_rfl) hu (by simp)]
  unfold addF
  rw [if_neg (by dsimp only; omega)]
  rfl
theorem DZ (ns : List Nd) : aR ⟨[60, 47, 122, 62], ns, [(0, [122])], true⟩ = .ok ⟨[], ns, [], true⟩ := by
  show endF ⟨[122, 62], ns, [(0, [122])], true⟩ = _
  kernel_rfl
theorem uZ {p : UInt8 → Bool} : ∀ {l : Tx}, (∀ c ∈ l, p c = true) → l.takeWhile p = l
  | [], _ => rfl
  | c :: l, h => by rw [List.takeWhile_cons_of_pos (h c (List.mem_cons_self ..)), uZ fun d hd => h d (List.mem_cons_of_mem _ hd)]
theorem D5 {a t : Tx} {sg : Tx} (ha : ∀ c ∈ a, sg.contains c = false) (ht : Stp t) (h6 : sg.contains 60 = true) : upTo (a ++ t) sg = a.length := by
  rw [nQ ht a h6]
  unfold upTo
  rw [uZ]
  intro c hc
  rw [ha c hc]; rfl
theorem D6 {a t : Tx} (ha : ∀ c ∈ a, 97 ≤ c ∧ c ≤ 122) (hne : a ≠ []) (ht : t.head? = some 60) : aR ⟨a ++ t, [zF], [(0, [122])], true⟩ = .ok ⟨t, [{ zF with kids := [1] }, { nd0 with kind := 2, val := a, par := ((0 : Nat) : Int) }], [(0, [122])], true⟩ := by
  obtain ⟨c, a', rfl⟩ := List.exists_cons_of_ne_nil hne
  have hc := ha c (List.mem_cons_self ..)
  have h60 : c ≠ 60 := fun e => by subst e; revert hc; decide
  have h38 : c ≠ 38 := fun e => by subst e; revert hc; decide
  have hfree : ∀ d ∈ (c :: a'), ([60, 38] : Tx).contains d = false := fun d hd => by
    have := ha d hd
    have e1 : d ≠ 60 := fun e => by subst e; revert this; decide
    have e2 : d ≠ 38 := fun e => by subst e; revert this; decide
    simp [e1, e2]
  have hu : upTo (c :: a' ++ t) [60, 38] = (c :: a').length := D5 hfree (.inr ht) (by decide)
  unfold aR
  rw [if_neg (by simp [h60]), if_neg (by simp [hasF, List.isPrefixOf, Ne.symm h38]), if_neg (by simp [h38])]
  unfold dJ
  dsimp only
  rw [if_neg (by simp), hu, List.take_left, List.drop_left]
  have hcn : Lib.contains (c :: a') [93, 93, 62] = false := by
    unfold Lib.contains
    rw [index_none (fun hm => by have := ha 93 hm; revert this; decide)]
    rfl
  rw [hcn]
  rfl
theorem Br {b text : Tx} {ns : List Nd} (hp : bM b = .ok ns) (hx : (hasF wXml b).1 = false) (ht : ∀ c ∈ text, 97 ≤ c ∧ c ≤ 122) (hb : b.length ≤ 5000) (htl : text.length ≤ 100) :
    bM (bU text b) = .error 32 ∨ bM (bU text b) = .error 33 ∨ ∃ ns2 a, bM (bU text b) = .ok ns2 ∧ kk text ≤ a ∧ (∀ (i : Nat) (n : Nd), kk text ≤ i → i < a → ns2[i]? = some n → n.kind ≠ 1) ∧
      (∀ (i : Nat) (n : Nd), ns[i]? = some n → ns2[i + a]? = some (shN a n)) ∧ a + ns.length ≤ ns2.length ∧ (∃ n, ns[0]? = some n ∧ n.kind = 1) := by
  unfold bM at hp
  rw [if_neg (by omega)] at hp
  split at hp
  · cases hp
  rename_i hbad
  have hgood : Good b := (zD b).1 (by cases hh : bad b with | none => rfl | some x => rw [hh] at hbad; simp at hbad)
  have hascii : ∀ (a : Tx), (∀ c ∈ a, 47 ≤ c ∧ c ≤ 122) → Good a := fun a ha => Good.ascii fun c hc => by
    obtain ⟨h1, h2⟩ := ha c hc
    have h1' : 47 ≤ c.toNat := h1
    have h2' : c.toNat ≤ 122 := h2
    refine ⟨by omega, ?_⟩
    unfold eG
    simp only [Bool.or_eq_true, Bool.and_eq_true, decide_eq_true_eq]
    omega
  have hG : Good (bU text b) := by
    unfold bU
    refine (hascii _ (by decide)).append ((hascii text fun c hc => ?_).append ((hascii _ (by decide)).append (hgood.append (hascii _ (by decide)))))
    obtain ⟨h1, h2⟩ := ht c hc
    exact ⟨UInt8.le_trans (by decide) h1, h2⟩
  have hlen : (bU text b).length ≤ 5200 := by unfold bU; simp; omega
  have hL : lines (bU text b) = bU text (lines b) := by
    rw [sJ, sJ]
    unfold bU
    rw [jZ (a := [60, 122, 62]) (by decide), jZ (a := text) (fun c hc e => by have := ht c hc; subst e; revert this; decide), jZ (a := [60, 121, 47, 62]) (by decide), pX (t := [60, 47, 122, 62]) (by decide)]
    rfl
  have hll := oC b
  have hfr : fC (lines b) = .ok (lines b) := by
    unfold fC
    rw [if_neg]
    have : (hasF wXml (lines b)).1 = false := by
      rw [sJ]
      unfold hasF at hx ⊢
      split at hx
      · cases hx
      · rename_i h1
        rw [if_neg (fun h2 => h1 (sK (by decide) h2))]
    rw [this]; simp
  unfold allF at hp
  rw [hfr] at hp
  dsimp only at hp
  cases ha : allR (lines b).length ⟨lines b, [], [], false⟩ with
  | error e => rw [ha] at hp; cases hp
  | ok r' =>
    rw [ha] at hp
    dsimp only at hp
    split at hp
    case isFalse => cases hp
    rename_i hd
    obtain ⟨hdone, hstk⟩ := hd
    injection hp with hp
    obtain ⟨hs', hst⟩ := sG _ ha
    generalize hlb : lines b = lb at *
    have hstp : Stp [60, 47, 122, 62] := .inr rfl
    have hst2 := hst.app hstp
    rw [hs'] at hst2
    have hpre : ∃ ns3, Steps ⟨bU text lb, [], [], false⟩ ⟨lb ++ [60, 47, 122, 62], ns3, [(0, [122])], true⟩ ∧ Zed (kk text) ns3 := by
      by_cases h0 : text = []
      · subst h0
        obtain ⟨n, hn⟩ := FQ (lb ++ [60, 47, 122, 62]) [zF] (by simp)
        refine ⟨_, .step (by unfold bU; simp) (FP _) (.step (by simp) hn (.refl _)), ⟨⟨_, _, rfl, rfl⟩, fun i m hi hm => ?_, Nat.le_refl _⟩⟩
        have := (List.getElem?_eq_some_iff.1 hm).1
        simp [aH, kk] at this hi
        omega
      · obtain ⟨n, hn⟩ := FQ (lb ++ [60, 47, 122, 62]) [{ zF with kids := [1] }, { nd0 with kind := 2, val := text, par := ((0 : Nat) : Int) }] (by simp)
        refine ⟨_, .step (by unfold bU; simp) (FP _) (.step (by simp [h0]) (D6 (a := text) (t := 60 :: 121 :: 47 :: 62 :: (lb ++ [60, 47, 122, 62])) ht h0 rfl) (.step (by simp) hn (.refl _))), ⟨⟨_, _, rfl, rfl⟩, fun i m hi hm => ?_, ?_⟩⟩
        · have := (List.getElem?_eq_some_iff.1 hm).1
          simp [aH, kk, h0] at this hi
          omega
        · simp [aH, kk, h0]
    obtain ⟨ns3, hs3, hz⟩ := hpre
    have hRI : RI ⟨bU text lb, [], [], false⟩ := RI.start _ (by unfold bU; simp; omega)
    have hF : bM (bU text b) = match allR (bU text lb).length ⟨bU text lb, [], [], false⟩ with
        | .error e => .error e
        | .ok r => if r.done = true ∧ r.stk = [] then .ok r.ns else .error 10 := by
      unfold bM
      rw [if_neg (by omega), (zD _).2 hG, if_neg (by decide), hL]
      unfold allF
      have : fC (bU text lb) = .ok (bU text lb) := by unfold bU; rfl
      rw [this]
      rfl
    rw [hF]
    have hW : WW (kk text) [122] ⟨lb ++ [60, 47, 122, 62], [], [], false⟩ ⟨lb ++ [60, 47, 122, 62], ns3, [(0, [122])], true⟩ := .inl ⟨rfl, rfl, rfl, rfl, rfl, rfl, hz⟩
    rcases hW.steps hst2 with ⟨r3, a1, a2, a3⟩ | ⟨r2', a1, a2⟩
    · rcases a3 with a3 | a3
      · left; rw [(hs3.trans a1).err hRI a2 a3 (Nat.le_refl _)]
      · right; left; rw [(hs3.trans a1).err hRI a2 a3 (Nat.le_refl _)]
    · right; right
      rcases a2 with a2 | ⟨P, a2⟩ | ⟨a, a2⟩
      · have := a2.done; dsimp only at this; rw [hdone] at this; cases this
      · exact absurd hstk a2.stk0
      · have hend : aR r2' = .ok ⟨[], r2'.ns, [], true⟩ := by
          have e1 := a2.s
          have e2 := a2.stk
          have e3 := a2.done2
          dsimp only [List.nil_append] at e1
          obtain ⟨s, n, k, d⟩ := r2'
          dsimp only at e1 e2 e3
          subst e1 e2 e3
          exact DZ n
        have hall := ((hs3.trans a1).trans (.step (by rw [a2.s]; simp) hend (.refl _))).end hRI rfl (Nat.le_refl _)
        obtain ⟨P, T, hZ, hP, hN, _⟩ := a2.ns
        dsimp only at hN
        subst hp
        refine ⟨r2'.ns, a, by rw [hall]; rfl, by rw [← hP]; exact hZ.len, fun i n hi hia hn => ?_, fun i n hn => ?_, ?_, a2.root⟩
        · rw [hN, List.getElem?_append_left (by omega)] at hn
          exact hZ.kinds i n hi hn
        · have hil := (List.getElem?_eq_some_iff.1 hn).1
          rw [hN, List.getElem?_append_right (by omega), hP, Nat.add_sub_cancel, List.getElem?_append_left (by rw [List.length_map]; exact hil), List.getElem?_map, hn]
          rfl
        · rw [hN, List.length_append, List.length_append, List.length_map]; omega
end Go.Proofs.YtohgmkjhbacmpaaGreatDoor
