/- Code points that come in, and a truth value (plain). -/
import Derived.Test.YtohgmkjhbacmpaaGreatDoorLaidC
set_option linter.unusedVariables false
set_option maxRecDepth 100000
namespace Go.Proofs.YtohgmkjhbacmpaaGreatDoor
open Go Go.Abs Go.RowKit Go.Xml
theorem FR {P : Program} {st : St} {t : TypeId} {V : Value} (hu : P.underlying t = some .bool) (h : sH P st t V) : ∃ b, V = .bool b := by
  obtain ⟨n, h⟩ := h
  rw [hu] at h
  cases n with
  | zero => exact h.elim
  | succ n =>
    unfold Fit at h
    rw [hu] at h
    obtain ⟨m, h1⟩ := h
    injection h1 with h1 _
    exact ⟨m, h1⟩
theorem DV {w : World} {V : Value} (h : sH Tryz.prog (st0 w) 48 V) : ∃ zs : List Int, Rws (foreign w) V 1 (zs.map fun z => [Value.int .i32 z]) ∧ ∀ z ∈ zs, -2147483648 ≤ z ∧ z ≤ 2147483647 := by
  obtain ⟨n, h⟩ := h
  rw [Tryz.underlying48] at h
  have hz : Tryz.prog.cellsOf 21 = 0 + 1 := by kernel_rfl
  obtain ⟨v, xs, hv, hr, hml, m, hf⟩ := Bq (w := w) Tryz.underlying48 hz h
  injection hv with hv _
  subst hv
  have hx : ∀ x ∈ xs, ∃ k, x = [.int .i32 k] ∧ -2147483648 ≤ k ∧ k ≤ 2147483647 := fun x hx => by
    obtain ⟨k, h1, h2, h3⟩ := FP Tryz.underlying21 (hf x hx)
    exact ⟨k, h1, by simpa [IntKind.min, IntKind.signed, IntKind.bits] using h2, by simpa [IntKind.max, IntKind.signed, IntKind.bits] using h3⟩
  have : ∃ zs : List Int, xs = zs.map (fun z => [Value.int .i32 z]) ∧ ∀ z ∈ zs, -2147483648 ≤ z ∧ z ≤ 2147483647 := by
    clear hr hf h hml
    induction xs with
    | nil => exact ⟨[], rfl, fun z hz => by cases hz⟩
    | cons x xs ih =>
      obtain ⟨k, rfl, h1, h2⟩ := hx x (List.mem_cons_self ..)
      obtain ⟨zs, rfl, h3⟩ := ih fun y hy => hx y (List.mem_cons_of_mem _ hy)
      exact ⟨k :: zs, rfl, fun z hz => by
        rcases List.mem_cons.1 hz with rfl | hz
        · exact ⟨h1, h2⟩
        · exact h3 z hz⟩
  obtain ⟨zs, rfl, h4⟩ := this
  exact ⟨zs, hr, h4⟩
end Go.Proofs.YtohgmkjhbacmpaaGreatDoor
