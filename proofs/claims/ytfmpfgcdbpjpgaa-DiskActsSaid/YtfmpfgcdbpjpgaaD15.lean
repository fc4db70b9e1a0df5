/- DiskStays answers true for every input, and leaves what came in as it was. No conditions. -/
import Derived.Test.YtfmpfgcdbpjpgaaD14
set_option linter.unusedVariables false
set_option linter.unusedSimpArgs false
namespace Go.Proofs.Ytfmpfgcdbpjpgaa
open Go Go.Abs Go.RowKit Go.ChangeShapes

theorem fit_pair {w : World} {V : Value} (h : ArgFit Try.prog (st0 w) 36 V) : ∃ a b, V = .agg #[.int .i64 a, .int .i64 b] := by
  obtain ⟨n, h⟩ := h
  rw [Try.underlying36] at h
  obtain ⟨cs, rfl, h⟩ := h
  obtain ⟨hl, m, hf⟩ := fit_array' Try.underlying36 h
  have hlen : cs.toList.length = 2 := hl.trans (by kernel_rfl)
  have c3 : Try.prog.cellsOf 3 = 1 := by kernel_rfl
  obtain ⟨cs⟩ := cs
  match cs, hlen with
  | [v0, v1], _ =>
    have f0 := hf 0 (by decide)
    have f1 := hf 1 (by decide)
    simp only [c3] at f0 f1
    obtain ⟨a, h0, _⟩ := fit_int' Try.underlying3 f0
    obtain ⟨b, h1, _⟩ := fit_int' Try.underlying3 f1
    simp at h0 h1
    subst h0 h1
    exact ⟨a, b, rfl⟩

set_option maxRecDepth 100000 in
theorem stays_lifted (os : Os) (started : os.Started) (H : Type) (enc : TypeId × Value → H) :
    ReturnsInHanded {} Try.checked os 4 .any (Rows.diskStaysSpec.pre6 enc Try.prog Try.f4 Rows.diskStaysRow.domain false) (Rows.diskStaysSpec.post enc Try.prog Try.f4 false true false false) := by
  refine law_lift (C := Try.checked) (G := 0) (tb := 4) own started (by kernel_rfl) Try.func4 laidOut (by kernel_rfl) (by kernel_rfl) Try.underlying4 rfl (fun ds hd => ?_)
    (ChangeSpec.witness6 (enc := enc) (C := Try.checked) false ⟨#[], #[.slice none 0 0, .slice none 0 0, .agg #[.int .i64 0, .int .i64 0]], []⟩ 8 (by kernel_rfl) (by kernel_rfl) (by kernel_rfl) (by kernel_rfl)) (fun W args hn hf _ => ⟨Nat.zero_le _, ?_⟩)
  · rw [Try.params4] at hd
    obtain ⟨a, b, c, rfl⟩ : ∃ a b c, ds = [a, b, c] := by
      match ds, hd with
      | [a, b, c], _ => exact ⟨a, b, c, rfl⟩
    rfl
  · rw [Try.params4] at hn hf
    obtain ⟨a, b, c, rfl⟩ : ∃ a b c, args = #[a, b, c] := by
      obtain ⟨l⟩ := args
      match l, hn with
      | [a, b, c], _ => exact ⟨a, b, c, rfl⟩
    obtain ⟨xs, hr, hx⟩ := fit_acts (hf 0 35 a rfl rfl)
    obtain ⟨ys, hr2, hx2⟩ := fit_acts (hf 1 35 b rfl rfl)
    obtain ⟨k0, k1, e2⟩ := fit_pair (hf 2 36 c rfl rfl)
    simp only [List.map_cons, List.map_nil, e2]
    exact stays_spec _ _ _ _ xs ys k0 k1 (own_foreign W) hr hx hr2 hx2 _ _ fun _ => rfl

theorem diskStays_holds : Rows.DiskStaysSaid :=
  OpenClaim.holds_of_wide 4 Try.f4 rfl rfl rfl rfl rfl rfl rfl ⟨rfl, rfl, rfl, rfl, rfl⟩ rfl rfl rfl rfl rfl (by kernel_rfl) Try.func4 (by kernel_rfl)
    (of_decide_eq_true (by kernel_rfl)) (by unfold Func.isWrapper; first | (rw [if_pos (by decide +kernel)]; kernel_rfl) | (rw [if_neg (by decide +kernel)]; exact ⟨rfl, rfl⟩))
    (fun os started H enc _ => stays_lifted os started H enc)
#print axioms diskStays_holds
end Go.Proofs.Ytfmpfgcdbpjpgaa
