/- JournalActs answers true for every input, and leaves what came in as it was. No conditions. -/
import Derived.Test.YtiooigkcliomlaaQ4
import Derived.Test.YtiooigkcliomlaaQT
import Derived.Test.YtiooigkcliomlaaAbsL
set_option linter.unusedVariables false
set_option linter.unusedSimpArgs false
namespace Go.Proofs.Ytiooigkcliomlaa
open Go Go.Abs Go.RowKit Go.ChangeShapes

theorem fit_actJ {w : World} {n : Nat} {x : List Value} (h : Fit Try.prog (st0 w) n 57 x) : IsActJ (foreign w) x := by
  obtain ⟨hl, m, hf⟩ := fit_struct' Try.underlying57 h
  have hlen : x.length = 4 := hl.trans (by kernel_rfl)
  match x, hlen with
  | [v0, v1, v2, v4], _ =>
    have c3 : Try.prog.cellsOf 3 = 1 := by kernel_rfl
    have c23 : Try.prog.cellsOf 23 = 1 := by kernel_rfl
    simp only [List.mem_cons, List.not_mem_nil, or_false, forall_eq_or_imp, forall_eq, c3, c23, List.drop_zero, List.take_succ_cons, List.take_zero, List.drop_succ_cons] at hf
    obtain ⟨f0, f1, f2, f4⟩ := hf
    obtain ⟨k, h0, _⟩ := fit_int' Try.underlying3 f0
    obtain ⟨a, h1, ha1, ha2⟩ := fit_int' Try.underlying3 f1
    obtain ⟨m, h2, hm1, hm2⟩ := fit_int' Try.underlying3 f2
    obtain ⟨raw, l, h4, hb, hlm⟩ := fit_nb f4
    injection h0 with h0 _
    injection h1 with h1 _
    injection h2 with h2 _
    injection h4 with h4 _
    subst h0 h1 h2 h4
    exact ⟨k, a, m, v4, l, rfl, hb, Nat.le_trans hlm (by decide), by simpa [IntKind.max, IntKind.signed, IntKind.bits] using ha2⟩
theorem fit_actsJ {w : World} {V : Value} (h : ArgFit Try.prog (st0 w) 52 V) : ∃ xs, Rws (foreign w) V 4 xs ∧ ∀ x ∈ xs, IsActJ (foreign w) x := by
  obtain ⟨n, h⟩ := h
  rw [Try.underlying52] at h
  obtain ⟨v, xs, hv, hr, _, m, hx⟩ := fit_slice' Try.underlying52 (show Try.prog.cellsOf 57 = 3 + 1 by kernel_rfl) h
  injection hv with hv _
  subst hv
  exact ⟨xs, hr, fun x hx' => fit_actJ (hx x hx')⟩
theorem fit_int3 {w : World} {v : Value} (h : ArgFit Try.prog (st0 w) 3 v) : ∃ a, v = .int .i64 a := by
  obtain ⟨n, h⟩ := h
  rw [Try.underlying3] at h
  obtain ⟨a, e, _⟩ := fit_int' Try.underlying3 h
  exact ⟨a, (List.cons.inj (show [v] = [.int .i64 a] from e)).1⟩
set_option maxRecDepth 100000 in
theorem acts_lifted (os : Os) (started : os.Started) (H : Type) (enc : TypeId × Value → H) :
    ReturnsInHanded {} Try.checked os 7 .any (Rows.journalActsSpec.pre6 enc Try.prog Try.f7 Rows.journalActsRow.domain false) (Rows.journalActsSpec.post enc Try.prog Try.f7 false true false false) := by
  refine law_lift (C := Try.checked) (G := 0) (ex := fun t => false) (tb := 4) own started (by kernel_rfl) Try.func7 laidOut (by kernel_rfl) (by kernel_rfl) Try.underlying4 rfl (fun ds hd => ?_)
    (ChangeSpec.witness6 (enc := enc) (C := Try.checked) false ⟨#[], #[.int .i64 0, .slice none 0 0], []⟩ 8 (by kernel_rfl) (by kernel_rfl) (by kernel_rfl) (by kernel_rfl)) (fun W args hn hf _ => ⟨Nat.zero_le _, ?_⟩)
  · rw [Try.params7] at hd
    obtain ⟨a, b, rfl⟩ : ∃ a b, ds = [a, b] := by
      match ds, hd with
      | [a, b], _ => exact ⟨a, b, rfl⟩
    rfl
  · rw [Try.params7] at hn hf
    obtain ⟨a, b, rfl⟩ : ∃ a b, args = #[a, b] := by
      obtain ⟨l⟩ := args
      match l, hn with
      | [a, b], _ => exact ⟨a, b, rfl⟩
    obtain ⟨m0, e0⟩ := fit_int3 (hf 0 3 a rfl rfl)
    obtain ⟨xs, hr, hx⟩ := fit_actsJ (hf 1 52 b rfl rfl)
    simp only [List.map_cons, List.map_nil, e0]
    exact acts_spec _ _ _ xs m0 (own_foreign W) hr hx _ _ fun _ => rfl

theorem journalActs_holds : Rows.JournalActsSaid :=
  OpenClaim.holds_of_wide 7 Try.f7 rfl rfl rfl rfl rfl rfl rfl ⟨rfl, rfl, rfl, rfl, rfl⟩ rfl rfl rfl rfl rfl (by kernel_rfl) Try.func7 (by kernel_rfl)
    (of_decide_eq_true (by kernel_rfl)) (by unfold Func.isWrapper; first | (rw [if_pos (by decide +kernel)]; kernel_rfl) | (rw [if_neg (by decide +kernel)]; exact ⟨rfl, rfl⟩))
    (fun os started H enc _ => acts_lifted os started H enc)
#print axioms journalActs_holds
end Go.Proofs.Ytiooigkcliomlaa
