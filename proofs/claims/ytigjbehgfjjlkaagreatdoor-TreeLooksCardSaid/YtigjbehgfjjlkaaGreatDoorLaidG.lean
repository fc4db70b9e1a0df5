/- What is asked, come in (plain). -/
import Derived.Test.YtigjbehgfjjlkaaGreatDoorLaidF
set_option linter.unusedVariables false
set_option maxRecDepth 100000
namespace Go.Proofs.YtigjbehgfjjlkaaGreatDoor
open Go Go.Abs Go.RowKit Go.Xml
theorem GX {w : World} {V : Value} (h : um Tryz.prog (st0 w) 37 V) : ∃ I J sp lo, V = .agg [.int .i64 I, .int .i64 J, .string (tx sp), .string (tx lo)].toArray := by
  obtain ⟨n, h⟩ := h
  rw [Tryz.underlying37] at h
  obtain ⟨cs, rfl, h⟩ := h
  obtain ⟨hl, m, hf⟩ := iV Tryz.underlying37 h
  have hlen : cs.toList.length = 4 := hl.trans (by kernel_rfl)
  have c3 : Tryz.prog.cellsOf 3 = 1 := by kernel_rfl
  have c9 : Tryz.prog.cellsOf 9 = 1 := by kernel_rfl
  obtain ⟨cs⟩ := cs
  match cs, hlen with
  | [v0, v1, v2, v3], _ =>
    simp only [List.mem_cons, List.not_mem_nil, or_false, forall_eq_or_imp, forall_eq, c3, c9] at hf
    obtain ⟨f0, f1, f2, f3⟩ := hf
    obtain ⟨z0, e0, _⟩ := lV Tryz.underlying3 f0
    obtain ⟨z1, e1, _⟩ := lV Tryz.underlying3 f1
    obtain ⟨z2, e2⟩ := fK Tryz.underlying9 f2
    obtain ⟨z3, e3⟩ := fK Tryz.underlying9 f3
    simp at e0 e1 e2 e3
    subst e0 e1 e2 e3
    exact ⟨z0, z1, z2, z3, rfl⟩
end Go.Proofs.YtigjbehgfjjlkaaGreatDoor
