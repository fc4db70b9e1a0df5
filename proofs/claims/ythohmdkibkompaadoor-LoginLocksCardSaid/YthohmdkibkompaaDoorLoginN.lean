/- LoginFull answers true for every input, and leaves what came in as it was. No conditions. -/
import Derived.Test.YthohmdkibkompaaDoorLoginL
import Derived.Test.YthohmdkibkompaaDoorLoginK
set_option linter.unusedVariables false
set_option linter.unusedSimpArgs false
set_option maxRecDepth 100000
namespace Go.Proofs.YthohmdkibkompaaDoor
open Go Go.Abs Go.RowKit Go.ChangeShapes

theorem fit_ints {w : World} {v : Value} (h : ArgFit Tryd.prog (st0 w) 24 v) : ∃ l, Iz (foreign w) v l := by
  obtain ⟨n, h⟩ := h
  rw [Tryd.underlying24] at h
  obtain ⟨v', xs, e, hr, hl, m, hf⟩ := fit_slice' (sz := 0) Tryd.underlying24 (by kernel_rfl) h
  injection e with e _
  subst e
  have : ∃ l : List Int, xs = l.map fun z => [.int .i64 z] := by
    clear hr hl
    induction xs with
    | nil => exact ⟨[], rfl⟩
    | cons x xs ih =>
      obtain ⟨l, e⟩ := ih fun y hy => hf y (List.mem_cons_of_mem _ hy)
      obtain ⟨z, hz, _⟩ := fit_int' Tryd.underlying3 (hf x (List.mem_cons_self ..))
      exact ⟨z :: l, by rw [e, hz]; rfl⟩
  obtain ⟨l, rfl⟩ := this
  exact ⟨l, hr⟩
set_option maxRecDepth 100000 in
theorem full_lifted (os : Os) (started : os.Started) (H : Type) (enc : TypeId × Value → H) :
    ReturnsInHanded {} Tryd.checked os 4 .any (fun w args => (Rows.loginFullSpec.pre enc Tryd.prog Tryd.f4 Rows.loginFullRow.domain false w args ∧ laidMetH Tryd.prog laidK w) ∧ sizedMet enc Tryd.prog Tryd.f4 (OpenSpec.ofChange Rows.loginFullSpec) false w args)
      (Rows.loginFullSpec.post enc Tryd.prog Tryd.f4 false true false false) := by
  refine law_lift_laid (C := Tryd.checked) (G := 4) (ex := fun t => t == 88) (tb := 4) own started (by kernel_rfl) Tryd.func4 laidOut (by kernel_rfl) (by kernel_rfl) Tryd.underlying4 rfl (fun ds hd => ?_)
    (ChangeSpec.witness_shaped (enc := enc) (C := Tryd.checked) (os := os) (X := fun w _ => laidMetH Tryd.prog laidK w) false (World.laidAll Tryd.prog os laidK) #[.agg #[.int .i64 0, .int .i64 0, .int .i64 0, .int .i64 0], .slice none 0 0, .int .i64 0] 8 (World.laidAll_os _ _ _)
      (World.shaped_of_ZipB (by kernel_rfl) (by kernel_rfl)) (by kernel_rfl) (by kernel_rfl) (by kernel_rfl)
      (by rw [MakeChecks.laidMetH_plain _ _ _ (by kernel_rfl)]; exact laidMet_laidAll _ (by kernel_rfl) (by kernel_rfl))) (fun W args hn hf hL => ?_)
  · rw [Tryd.params4] at hd
    obtain ⟨a, b, c, rfl⟩ : ∃ a b c, ds = [a, b, c] := by
      match ds, hd with
      | [a, b, c], _ => exact ⟨a, b, c, rfl⟩
    rfl
  · rw [Tryd.params4] at hn hf
    obtain ⟨a, b, c, rfl⟩ : ∃ a b c, args = #[a, b, c] := by
      obtain ⟨l⟩ := args
      match l, hn with
      | [a, b, c], _ => exact ⟨a, b, c, rfl⟩
    obtain ⟨U, hU⟩ := fit_rules (hf 0 23 a rfl rfl)
    obtain ⟨l, hl⟩ := fit_ints (hf 1 24 b rfl rfl)
    obtain ⟨z2, hz2, hlo, hhi⟩ := fit_int Tryd.underlying3 (hf 2 3 c rfl rfl)
    obtain ⟨hT, ⟨kt, hK⟩, hG⟩ := laid_all hL
    refine ⟨hG, ?_⟩
    simp only [List.map_cons, List.map_nil, hU, hz2]
    exact LoginFull_spec _ _ U _ l z2 false (by simpa [IntKind.min, IntKind.signed, IntKind.bits] using hlo) (by simpa [IntKind.max, IntKind.signed, IntKind.bits] using hhi) hl hT hK (own_foreign W) _ _ fun _ => rfl
theorem loginFull_row_holds : Rows.LoginFullSaid :=
  OpenClaim.holds_of_wide 4 Tryd.f4 rfl rfl rfl rfl rfl rfl rfl ⟨rfl, rfl, rfl, rfl, rfl⟩ rfl rfl rfl rfl rfl (by kernel_rfl) Tryd.func4 (by kernel_rfl)
    (of_decide_eq_true (by kernel_rfl)) (by unfold Func.isWrapper; first | (rw [if_pos (by decide +kernel)]; kernel_rfl) | (rw [if_neg (by decide +kernel)]; exact ⟨rfl, rfl⟩))
    (fun os started H enc _ => full_lifted os started H enc)
theorem loginFull_holds : Rows.LoginFullCardSaid :=
  Claim7.holds_tied_plain_at .later [] [.data, .data, .data, .data] true (true, "b702a6455130421e64f208764259bf7f47d084bd74adb5cbd00fdf4a4ecdfebe") false
    loginFull_row_holds (fun _ h => by cases h) (by kernel_rfl) (fun _ h => by cases h) loginFull_row_tie rfl ⟨rfl, rfl⟩ (by kernel_rfl) rfl
    (fun f fn hf hfn => by
      obtain rfl : f = 4 := Option.some.inj ((show Tryd.prog.funcNamed "lanyard/lanyardlaw21.LoginFull" = some 4 by kernel_rfl).symm.trans hf) |>.symm
      obtain rfl : fn = Tryd.f4 := (Option.some.inj (Tryd.func4.symm.trans hfn)).symm
      exact ⟨by kernel_rfl, fun j t ht => by
        rw [Tryd.params4] at ht
        have hm : t ∈ [23, 24, 3] := by simpa using Array.mem_of_getElem? ht
        have hall : ([23, 24, 3].all fun u => !Tryd.prog.wantsStandIn u) = true := by kernel_rfl
        exact (show Tryd.prog.wantsStandIn t = false by simpa using List.all_eq_true.1 hall t hm)⟩)
    (by kernel_rfl)
#print axioms loginFull_holds
end Go.Proofs.YthohmdkibkompaaDoor
