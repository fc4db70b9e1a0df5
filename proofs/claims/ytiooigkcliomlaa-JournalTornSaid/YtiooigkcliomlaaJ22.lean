/- What an opened disk has: plain facts. No conditions. -/
import Derived.Test.YtiooigkcliomlaaJ21
set_option linter.unusedVariables false
set_option linter.unusedSimpArgs false
namespace Go.Proofs.Ytiooigkcliomlaa
open Go Go.Abs Go.RowKit

theorem halfF_facts {l : List (List Nat)} (h64 : ∀ s ∈ l, Sec s) : ∀ (f gen : Nat) (out : List (List Nat)) (at_ : Nat), at_ ≤ l.length → gen < 4294967296 → (gen ≠ 0 → out ≠ []) → out.length ≤ at_ →
    (halfF f l gen out at_).2.2 ≤ l.length ∧ (halfF f l gen out at_).1 < 4294967296 ∧ ((halfF f l gen out at_).1 ≠ 0 → (halfF f l gen out at_).2.1 ≠ []) ∧ (halfF f l gen out at_).2.1.length ≤ (halfF f l gen out at_).2.2
  | 0, gen, out, at_, h1, h2, h3, h4 => ⟨h1, h2, h3, h4⟩
  | f + 1, gen, out, at_, h1, h2, h3, h4 => by
    rw [halfF]
    cases hr : readM (l.drop at_) gen out.length with
    | none => exact ⟨h1, h2, h3, h4⟩
    | some x =>
      obtain ⟨b, g⟩ := x
      obtain ⟨_, s2, s3, s4, _, _⟩ := readM_some (fun s hs => h64 s (List.mem_of_mem_drop hs)) hr
      rw [List.length_drop] at s2
      exact halfF_facts h64 f g (out ++ [b]) _ (by omega) s3 (fun _ => by simp) (by simp; omega)
theorem halfM_facts {l : List (List Nat)} (h64 : ∀ s ∈ l, Sec s) : (halfM l).2.2 ≤ l.length ∧ (halfM l).1 < 4294967296 ∧ ((halfM l).1 ≠ 0 → (halfM l).2.1 ≠ []) ∧ (halfM l).2.1.length ≤ (halfM l).2.2 :=
  halfF_facts h64 _ 0 [] 0 (Nat.zero_le _) (by decide) (fun h => absurd rfl h) (Nat.le_refl _)
/-- A half of sectors. -/
def halfOf (T : List (List Nat)) (w : Nat) : List (List Nat) := (T.drop (w * (T.length / 2))).take (T.length / 2)
theorem halfOf_sec {T : List (List Nat)} (h : ∀ s ∈ T, Sec s) (w : Nat) : ∀ s ∈ halfOf T w, Sec s := fun s hs => h s (List.mem_of_mem_drop (List.mem_of_mem_take hs))
theorem halfOf_length {T : List (List Nat)} {w : Nat} (hw : w ≤ 1) : (halfOf T w).length = T.length / 2 := by
  have : w * (T.length / 2) ≤ 1 * (T.length / 2) := Nat.mul_le_mul_right _ hw
  unfold halfOf
  rw [List.length_take, List.length_drop]; omega
theorem scanM_eq {T : List (List Nat)} (h : ∀ s ∈ T, Sec s) (h4 : 4 ≤ T.length) : scanM T =
    if (halfM (halfOf T 0)).1 = 0 ∧ (halfM (halfOf T 1)).1 = 0 then (-1, 0, [])
    else if (halfM (halfOf T 0)).1 ≥ (halfM (halfOf T 1)).1 then (0, (halfM (halfOf T 0)).1, (halfM (halfOf T 0)).2.1)
    else (1, (halfM (halfOf T 1)).1, (halfM (halfOf T 1)).2.1) := by
  have ha : (T.any fun s => decide (s.length ≠ 64)) = false := List.any_eq_false.2 fun s hs => by simpa using (h s hs).1
  unfold scanM
  rw [if_neg (by rw [ha]; simp; omega)]
  have e0 : halfOf T 0 = T.take (T.length / 2) := by simp [halfOf]
  have e1 : halfOf T 1 = (T.drop (T.length / 2)).take (T.length / 2) := by simp [halfOf]
  rw [e0, e1]
theorem scanM_some {T : List (List Nat)} (h : ∀ s ∈ T, Sec s) (h4 : 4 ≤ T.length) : (scanM T).1 = -1 ∨ ∃ w, w ≤ 1 ∧ (scanM T).1 = ((w : Nat) : Int) ∧ (scanM T).2.1 = (halfM (halfOf T w)).1 ∧ (scanM T).2.2 = (halfM (halfOf T w)).2.1 ∧ (halfM (halfOf T w)).1 ≠ 0 := by
  rw [scanM_eq h h4]
  split
  · exact .inl rfl
  · split
    · exact .inr ⟨0, by decide, rfl, rfl, rfl, by omega⟩
    · exact .inr ⟨1, by decide, rfl, rfl, rfl, by omega⟩
/-- Which half; its generation; its records; where it ends; the sectors. -/
def openM (T : List (List Nat)) : Nat × Nat × List (List Nat) × Nat × List (List Nat) :=
  if (scanM T).1 < 0 then (0, 1, [[]], 1, wrote (appN T (noughtF T true 0 (T.length / 2))) 0 1 0 [])
  else ((scanM T).1.toNat, (scanM T).2.1, (scanM T).2.2, (halfM (halfOf T (scanM T).1.toNat)).2.2,
    appN T (noughtF T false ((scanM T).1.toNat * (T.length / 2) + (halfM (halfOf T (scanM T).1.toNat)).2.2) (T.length / 2 - (halfM (halfOf T (scanM T).1.toNat)).2.2)))
end Go.Proofs.Ytiooigkcliomlaa
