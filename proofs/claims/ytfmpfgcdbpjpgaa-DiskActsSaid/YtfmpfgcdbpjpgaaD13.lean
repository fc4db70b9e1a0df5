/- DiskFuses answers true for every input, and leaves what came in as it was. No conditions. -/
import Derived.Test.YtfmpfgcdbpjpgaaD12
set_option linter.unusedVariables false
set_option linter.unusedSimpArgs false
namespace Go.Proofs.Ytfmpfgcdbpjpgaa
open Go Go.Abs Go.RowKit Go.ChangeShapes

set_option maxRecDepth 100000 in
theorem fuses_lifted (os : Os) (started : os.Started) (H : Type) (enc : TypeId × Value → H) :
    ReturnsInHanded {} Try.checked os 5 .any (Rows.diskFusesSpec.pre6 enc Try.prog Try.f5 Rows.diskFusesRow.domain false) (Rows.diskFusesSpec.post enc Try.prog Try.f5 false true false false) := by
  refine law_lift (C := Try.checked) (G := 0) (tb := 4) own started (by kernel_rfl) Try.func5 laidOut (by kernel_rfl) (by kernel_rfl) Try.underlying4 rfl (fun ds hd => ?_)
    (ChangeSpec.witness6 (enc := enc) (C := Try.checked) false ⟨#[], #[.int .i64 0, .slice none 0 0], []⟩ 8 (by kernel_rfl) (by kernel_rfl) (by kernel_rfl) (by kernel_rfl)) (fun W args hn hf _ => ⟨Nat.zero_le _, ?_⟩)
  · rw [Try.params5] at hd
    obtain ⟨a, b, rfl⟩ : ∃ a b, ds = [a, b] := by
      match ds, hd with
      | [a, b], _ => exact ⟨a, b, rfl⟩
    rfl
  · rw [Try.params5] at hn hf
    obtain ⟨a, b, rfl⟩ : ∃ a b, args = #[a, b] := by
      obtain ⟨l⟩ := args
      match l, hn with
      | [a, b], _ => exact ⟨a, b, rfl⟩
    obtain ⟨m0, e0, _⟩ := fit_int Try.underlying3 (hf 0 3 a rfl rfl)
    obtain ⟨xs, hr, hx⟩ := fit_acts (hf 1 35 b rfl rfl)
    simp only [List.map_cons, List.map_nil, e0]
    exact fuses_spec _ _ _ xs m0 (own_foreign W) hr hx _ _ fun _ => rfl

theorem diskFuses_holds : Rows.DiskFusesSaid :=
  OpenClaim.holds_of_wide 5 Try.f5 rfl rfl rfl rfl rfl rfl rfl ⟨rfl, rfl, rfl, rfl, rfl⟩ rfl rfl rfl rfl rfl (by kernel_rfl) Try.func5 (by kernel_rfl)
    (of_decide_eq_true (by kernel_rfl)) (by unfold Func.isWrapper; first | (rw [if_pos (by decide +kernel)]; kernel_rfl) | (rw [if_neg (by decide +kernel)]; exact ⟨rfl, rfl⟩))
    (fun os started H enc _ => fuses_lifted os started H enc)
#print axioms diskFuses_holds
end Go.Proofs.Ytfmpfgcdbpjpgaa
