/- Texts that come in (plain). -/
import Derived.Test.YtohgmkjhbacmpaaGreatDoorLaidB
set_option linter.unusedVariables false
namespace Go.Proofs.YtohgmkjhbacmpaaGreatDoor
open Go Go.Abs Go.RowKit Go.Xml
theorem Hg {P : Program} {st : St} {t : TypeId} {V : Value} (hu : P.underlying t = some .string) (h : sP P st t V) : ∃ l : Tx, V = .string (tx l) ∧ l.length ≤ maxLen := by
  obtain ⟨n, h⟩ := h
  rw [hu] at h
  cases n with
  | zero => exact h.elim
  | succ n =>
    unfold Fit at h
    rw [hu] at h
    obtain ⟨m, h1, h2⟩ := h
    injection h1 with h1 _
    refine ⟨m.data.toList, by rw [Ju]; exact h1, ?_⟩
    have e : m.data.toList.length = m.size := by unfold ByteArray.size; exact Array.length_toList
    rw [e]
    exact h2
end Go.Proofs.YtohgmkjhbacmpaaGreatDoor
