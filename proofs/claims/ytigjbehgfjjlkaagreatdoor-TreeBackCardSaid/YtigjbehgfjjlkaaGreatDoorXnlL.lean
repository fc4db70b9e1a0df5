/- Why there is no tree: always a reason (plain Lean). -/
import Derived.Test.YtigjbehgfjjlkaaGreatDoorXmGE
set_option linter.unusedVariables false
set_option linter.unusedSimpArgs false
namespace Go.Proofs.YtigjbehgfjjlkaaGreatDoor
open Go Go.Abs Go.RowKit Go.Xml
theorem cu {t s : Tx} {e : Int} (h : aZ t s = .error e) : e ≠ 0 := by
  unfold aZ at h
  repeat' split at h
  all_goals first
    | (cases h; done)
    | (injection h with h; rw [← h]; decide)
theorem dR {s : Tx} {e : Int} (h : dF s = .error e) : e ≠ 0 := by
  unfold dF at h
  repeat' split at h
  all_goals first
    | (cases h; done)
    | (injection h with h; rw [← h]; decide)
    | (injection h with h; rw [← h]; first | exact cu (by assumption))
theorem fH {d : Tx} {b : Nat} {e : Int} (h : codeF d b = .error e) : e ≠ 0 := by
  unfold codeF at h
  repeat' split at h
  all_goals first
    | (cases h; done)
    | (injection h with h; rw [← h]; decide)
    | (injection h with h; rw [← h]; first | exact cu (by assumption) | exact dR (by assumption))
theorem iY {x : Tx} {e : Int} (h : refX x = .error e) : e ≠ 0 := by
  unfold refX at h
  repeat' split at h
  all_goals first
    | (cases h; done)
    | (injection h with h; rw [← h]; decide)
    | exact fH h
theorem iq {s : Tx} {e : Int} (h : refF s = .error e) : e ≠ 0 := by
  unfold refF at h
  repeat' split at h
  all_goals first
    | (cases h; done)
    | (injection h with h; rw [← h]; decide)
    | (injection h with h; rw [← h]; first | exact cu (by assumption) | exact dR (by assumption) | exact fH (by assumption) | exact iY (by assumption))
theorem xL {q : Tx} : ∀ (f : Nat) {o s : Tx} {e : Int}, gU q f o s = .error e → e ≠ 0
  | 0, o, s, e, h => by injection h with h; rw [← h]; decide
  | f + 1, o, s, e, h => by
    unfold gU at h
    repeat' split at h
    all_goals first
      | (cases h; done)
      | (injection h with h; rw [← h]; decide)
      | exact xL f h
      | (injection h with h; rw [← h]; exact iq (by assumption))
theorem gJ {s : Tx} {e : Int} (h : jC s = .error e) : e ≠ 0 := by
  unfold jC at h
  repeat' split at h
  all_goals first
    | exact xL _ h
    | (injection h with h; rw [← h]; decide)
theorem lU {s : Tx} {e : Int} (h : eqF s = .error e) : e ≠ 0 := by
  unfold eqF at h
  repeat' split at h
  all_goals first
    | (cases h; done)
    | (injection h with h; rw [← h]; decide)
    | (injection h with h; rw [← h]; first | exact cu (by assumption) | exact dR (by assumption) | exact fH (by assumption) | exact iY (by assumption) | exact iq (by assumption) | exact gJ (by assumption))
theorem jN {w : Tx} {b : Bool} {vs : List Tx} {s : Tx} {e : Int} (h : dh w b vs s = .error e) : e ≠ 0 := by
  unfold dh at h
  repeat' split at h
  all_goals first
    | (cases h; done)
    | (injection h with h; rw [← h]; decide)
    | (injection h with h; rw [← h]; first | exact cu (by assumption) | exact dR (by assumption) | exact fH (by assumption) | exact iY (by assumption) | exact iq (by assumption) | exact gJ (by assumption) | exact lU (by assumption))
theorem jO {s : Tx} {e : Int} (h : fJ s = .error e) : e ≠ 0 := by
  unfold fJ at h
  repeat' split at h
  all_goals first
    | (cases h; done)
    | (injection h with h; rw [← h]; decide)
    | (injection h with h; rw [← h]; first | exact cu (by assumption) | exact dR (by assumption) | exact fH (by assumption) | exact iY (by assumption) | exact iq (by assumption) | exact gJ (by assumption) | exact lU (by assumption) | exact jN (by assumption))
theorem mR {n : Nd} {r : RS} {e : Int} (h : addF n r = .error e) : e ≠ 0 := by
  unfold addF at h
  repeat' split at h
  all_goals first
    | (cases h; done)
    | (injection h with h; rw [← h]; decide)
    | (injection h with h; rw [← h]; first | exact cu (by assumption) | exact dR (by assumption) | exact fH (by assumption) | exact iY (by assumption) | exact iq (by assumption) | exact gJ (by assumption) | exact lU (by assumption) | exact jN (by assumption) | exact jO (by assumption))
theorem q9 {t : Tx} {r : RS} (hs : r.stk ≠ []) {e : Int} (h : aW t r = .error e) : e ≠ 0 := by
  obtain ⟨p, nm, hl⟩ := dY hs
  unfold aW at h
  rw [hl] at h
  dsimp only at h
  repeat' split at h
  all_goals first
    | (cases h; done)
    | (injection h with h; rw [← h]; exact mR (by assumption))
theorem xM {r : RS} {ds : List Dcl} : ∀ (l acc : List Att) {e : Int}, fO r ds acc l = .error e → e ≠ 0
  | [], acc, e, h => by cases h
  | a :: l, acc, e, h => by
    unfold fO at h
    repeat' split at h
    all_goals first
      | exact xM l _ h
      | (injection h with h; rw [← h]; decide)
theorem jX {r : RS} {n : Nd} {e : Int} (h : bH r n = .error e) : e ≠ 0 := by
  unfold bH at h
  repeat' split at h
  all_goals first
    | (cases h; done)
    | (injection h with h; rw [← h]; decide)
    | (injection h with h; rw [← h]; exact xM _ _ (by assumption))
theorem vK : ∀ (f : Nat) {nms : List Tx} {n : Nd} {s : Tx} {e : Int}, bC f nms n s = .error e → e ≠ 0
  | 0, nms, n, s, e, h => by injection h with h; rw [← h]; decide
  | f + 1, nms, n, s, e, h => by
    unfold bC at h
    repeat' split at h
    all_goals first
      | (cases h; done)
      | exact vK f h
      | (injection h with h; rw [← h]; first | exact dR (by assumption) | exact lU (by assumption) | exact gJ (by assumption))
theorem lV {r : RS} {e : Int} (h : bI r = .error e) : e ≠ 0 := by
  unfold bI at h
  repeat' split at h
  all_goals first
    | (cases h; done)
    | (injection h with h; rw [← h]; decide)
    | (injection h with h; rw [← h]; first | exact dR (by assumption) | exact vK _ (by assumption) | exact jX (by assumption) | exact mR (by assumption))
theorem vL {r : RS} {e : Int} (h : endF r = .error e) : e ≠ 0 := by
  unfold endF at h
  repeat' split at h
  all_goals first
    | (cases h; done)
    | (injection h with h; rw [← h]; decide)
    | (injection h with h; rw [← h]; first | exact cu (by assumption) | exact dR (by assumption) | exact fH (by assumption) | exact iY (by assumption) | exact iq (by assumption) | exact gJ (by assumption) | exact lU (by assumption) | exact jN (by assumption) | exact jO (by assumption) | exact mR (by assumption) | exact jX (by assumption) | exact lV (by assumption))
theorem xO {r : RS} {e : Int} (h : dS r = .error e) : e ≠ 0 := by
  unfold dS at h
  dsimp only at h
  repeat' split at h
  all_goals first
    | (cases h; done)
    | (injection h with h; rw [← h]; decide)
    | (injection h with h; rw [← h]; first | exact cu (by assumption) | exact dR (by assumption) | exact fH (by assumption) | exact iY (by assumption) | exact iq (by assumption) | exact gJ (by assumption) | exact lU (by assumption) | exact jN (by assumption) | exact jO (by assumption) | exact mR (by assumption) | exact jX (by assumption) | exact lV (by assumption) | exact vL (by assumption))
theorem zJ {r : RS} {e : Int} (h : aS r = .error e) : e ≠ 0 := by
  unfold aS at h
  repeat' split at h
  all_goals first
    | (cases h; done)
    | (injection h with h; rw [← h]; decide)
    | (injection h with h; rw [← h]; first | exact cu (by assumption) | exact dR (by assumption) | exact fH (by assumption) | exact iY (by assumption) | exact iq (by assumption) | exact gJ (by assumption) | exact lU (by assumption) | exact jN (by assumption) | exact jO (by assumption) | exact mR (by assumption) | exact jX (by assumption) | exact lV (by assumption) | exact vL (by assumption) | exact xO (by assumption))
theorem Gp {r : RS} {e : Int} (h : iy r = .error e) : e ≠ 0 := by
  unfold iy at h
  split at h
  · exact zJ h
  split at h
  · injection h with h; rw [← h]; decide
  split at h
  · rename_i hc
    split at h
    · rename_i e' h'
      injection h with h; rw [← h]; exact cu h'
    · rename_i t s1 h1
      exact q9 (r := ⟨s1, r.ns, r.stk, r.done⟩) hc.1 h
  split at h
  · exact xO h
  split at h
  · exact vL h
  split at h
  · exact lV h
  · cases h
theorem D8 {r : RS} {e : Int} (h : gu r = .error e) : e ≠ 0 := by
  unfold gu at h
  split at h
  · split at h
    · cases h
    · injection h with h; rw [← h]; decide
  · rename_i hs
    split at h
    · injection h with h; rw [← h]; decide
    · split at h
      · rename_i e' h'
        injection h with h; rw [← h]; exact q9 hs h'
      · cases h
theorem Gq {r : RS} {e : Int} (h : aX r = .error e) : e ≠ 0 := by
  unfold aX at h
  split at h
  · exact Gp h
  split at h
  · rename_i hs
    split at h
    · rename_i e' h'
      injection h with h; rw [← h]; exact iq h'
    · rename_i t s1 h1
      exact q9 (r := ⟨s1, r.ns, r.stk, r.done⟩) hs.1 h
  split at h
  · injection h with h; rw [← h]; decide
  · exact D8 h
theorem BN : ∀ (f : Nat) {r : RS} {e : Int}, allR f r = .error e → e ≠ 0
  | 0, r, e, h => by
    unfold allR at h
    split at h
    · cases h
    · injection h with h; rw [← h]; decide
  | f + 1, r, e, h => by
    unfold allR at h
    split at h
    · cases h
    · split at h
      · rename_i e' h'
        injection h with h; rw [← h]; exact Gq h'
      · exact BN f h
theorem D9 {b : Tx} {e : Int} (h : gW b = .error e) : e ≠ 0 := by
  unfold gW at h
  split at h
  · injection h with h; rw [← h]; decide
  split at h
  · injection h with h; rw [← h]; decide
  unfold allF at h
  split at h
  · rename_i e' h'
    injection h with h; rw [← h]; exact jO h'
  split at h
  · rename_i e' h'
    injection h with h; rw [← h]; exact BN _ h'
  split at h
  · cases h
  · injection h with h; rw [← h]; decide
end Go.Proofs.YtigjbehgfjjlkaaGreatDoor
