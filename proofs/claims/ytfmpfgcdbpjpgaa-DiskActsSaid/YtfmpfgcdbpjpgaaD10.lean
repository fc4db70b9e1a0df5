/- Contracts of the program's functions over the abstract heap, and what follows from them (a part of the proof of this seat's laws). -/
import Derived.Test.YtfmpfgcdbpjpgaaD9
import Derived.Test.YtfmpfgcdbpjpgaaAbsL
set_option linter.unusedVariables false
set_option linter.unusedSimpArgs false
namespace Go.Proofs.Ytfmpfgcdbpjpgaa
open Go Go.Abs Go.RowKit Go.ChangeShapes

theorem own : ownKnob Try.prog.godebug = none := by kernel_rfl
theorem laidOut : laidOutB Try.prog = true := by kernel_rfl


set_option maxRecDepth 100000 in
theorem torn_lifted (os : Os) (started : os.Started) (H : Type) (enc : TypeId × Value → H) :
    ReturnsInHanded {} Try.checked os 3 .any (Rows.diskTornSpec.pre6 enc Try.prog Try.f3 Rows.diskTornRow.domain false) (Rows.diskTornSpec.post enc Try.prog Try.f3 false true false false) := by
  refine law_lift (C := Try.checked) (G := 0) (tb := 4) own started (by kernel_rfl) Try.func3 laidOut (by kernel_rfl) (by kernel_rfl) Try.underlying4 rfl (fun ds hd => ?_)
    (ChangeSpec.witness6 (enc := enc) (C := Try.checked) false ⟨#[], #[.int .u8 0, .int .u8 0, .int .i64 0], []⟩ 8 (by kernel_rfl) (by kernel_rfl) (by kernel_rfl) (by kernel_rfl)) (fun W args hn hf _ => ⟨Nat.zero_le _, ?_⟩)
  · rw [Try.params3] at hd
    obtain ⟨a, b, c, rfl⟩ : ∃ a b c, ds = [a, b, c] := by
      match ds, hd with
      | [a, b, c], _ => exact ⟨a, b, c, rfl⟩
    rfl
  · rw [Try.params3] at hn hf
    obtain ⟨a, b, c, rfl⟩ : ∃ a b c, args = #[a, b, c] := by
      obtain ⟨l⟩ := args
      match l, hn with
      | [a, b, c], _ => exact ⟨a, b, c, rfl⟩
    obtain ⟨m0, e0, _⟩ := fit_int Try.underlying5 (hf 0 5 a rfl rfl)
    obtain ⟨m1, e1, _⟩ := fit_int Try.underlying5 (hf 1 5 b rfl rfl)
    obtain ⟨m2, e2, _⟩ := fit_int Try.underlying3 (hf 2 3 c rfl rfl)
    simp only [List.map_cons, List.map_nil, e0, e1, e2]
    exact torn_spec _ m0 m1 m2 _ _ fun _ => rfl

theorem diskTorn_holds : Rows.DiskTornSaid :=
  OpenClaim.holds_of_wide 3 Try.f3 rfl rfl rfl rfl rfl rfl rfl ⟨rfl, rfl, rfl, rfl, rfl⟩ rfl rfl rfl rfl rfl (by kernel_rfl) Try.func3 (by kernel_rfl)
    (of_decide_eq_true (by kernel_rfl)) (by unfold Func.isWrapper; first | (rw [if_pos (by decide +kernel)]; kernel_rfl) | (rw [if_neg (by decide +kernel)]; exact ⟨rfl, rfl⟩))
    (fun os started H enc _ => torn_lifted os started H enc)
#print axioms diskTorn_holds
end Go.Proofs.Ytfmpfgcdbpjpgaa
