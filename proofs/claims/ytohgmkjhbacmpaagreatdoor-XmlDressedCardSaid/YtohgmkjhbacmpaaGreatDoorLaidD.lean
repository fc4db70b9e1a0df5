/- What a text is dressed in, come in (plain). -/
import Derived.Test.YtohgmkjhbacmpaaGreatDoorLaidC
set_option linter.unusedVariables false
set_option maxRecDepth 100000
namespace Go.Proofs.YtohgmkjhbacmpaaGreatDoor
open Go Go.Abs Go.RowKit Go.Xml
theorem Fu {w : World} {V : Value} (h : uD Tryz.prog (st0 w) 40 V) : ∃ fr ln za zc, V = .agg #[.bool fr, .bool ln, .int .i64 za, .int .i64 zc] := by
  obtain ⟨n, h⟩ := h
  rw [Tryz.underlying40] at h
  obtain ⟨cs, rfl, h⟩ := h
  obtain ⟨hl, m, hf⟩ := AQ Tryz.underlying40 h
  have hlen : cs.toList.length = 4 := hl.trans (by kernel_rfl)
  have c3 : Tryz.prog.cellsOf 3 = 1 := by kernel_rfl
  have c4 : Tryz.prog.cellsOf 4 = 1 := by kernel_rfl
  obtain ⟨cs⟩ := cs
  match cs, hlen with
  | [v0, v1, v2, v3], _ =>
    simp only [List.mem_cons, List.not_mem_nil, or_false, forall_eq_or_imp, forall_eq, c3, c4] at hf
    obtain ⟨f0, f1, f2, f3⟩ := hf
    obtain ⟨z0, e0⟩ := wC Tryz.underlying4 f0
    obtain ⟨z1, e1⟩ := wC Tryz.underlying4 f1
    obtain ⟨z2, e2, _⟩ := uE Tryz.underlying3 f2
    obtain ⟨z3, e3, _⟩ := uE Tryz.underlying3 f3
    simp at e0 e1 e2 e3
    subst e0 e1 e2 e3
    exact ⟨z0, z1, z2, z3, rfl⟩
end Go.Proofs.YtohgmkjhbacmpaaGreatDoor
