/- LoginLocks answers true for every input, and leaves what came in as it was. No conditions. -/
import Derived.Test.YthohmdkibkompaaDoorLoginM
import Derived.Test.YthohmdkibkompaaDoorLoginN
set_option linter.unusedVariables false
set_option linter.unusedSimpArgs false
set_option maxRecDepth 100000
namespace Go.Proofs.YthohmdkibkompaaDoor
open Go Go.Abs Go.RowKit Go.ChangeShapes

theorem fit_str {w : World} {v : Value} (h : ArgFit Tryd.prog (st0 w) 9 v) : ∃ s, v = .string s := by
  obtain ⟨n, h⟩ := h
  rw [Tryd.underlying9] at h
  obtain ⟨s, e, _⟩ := fit_string' Tryd.underlying9 h
  injection e with e _
  exact ⟨s, e⟩
set_option maxRecDepth 100000 in
theorem locks_lifted (os : Os) (started : os.Started) (H : Type) (enc : TypeId × Value → H) :
    ReturnsInHanded {} Tryd.checked os 3 .any (fun w args => (Rows.loginLocksSpec.pre enc Tryd.prog Tryd.f3 Rows.loginLocksRow.domain false w args ∧ laidMetH Tryd.prog laidK w) ∧ sizedMet enc Tryd.prog Tryd.f3 (OpenSpec.ofChange Rows.loginLocksSpec) false w args)
      (Rows.loginLocksSpec.post enc Tryd.prog Tryd.f3 false true false false) := by
  refine law_lift_laid (C := Tryd.checked) (G := 4) (ex := fun t => t == 88) (tb := 4) own started (by kernel_rfl) Tryd.func3 laidOut (by kernel_rfl) (by kernel_rfl) Tryd.underlying4 rfl (fun ds hd => ?_)
    (ChangeSpec.witness_shaped (enc := enc) (C := Tryd.checked) (os := os) (X := fun w _ => laidMetH Tryd.prog laidK w) false (World.laidAll Tryd.prog os laidK) #[.agg #[.int .i64 0, .int .i64 0, .int .i64 0, .int .i64 0], .string ⟨#[]⟩, .slice none 0 0] 8 (World.laidAll_os _ _ _)
      (World.shaped_of_ZipB (by kernel_rfl) (by kernel_rfl)) (by kernel_rfl) (by kernel_rfl) (by kernel_rfl)
      (by rw [MakeChecks.laidMetH_plain _ _ _ (by kernel_rfl)]; exact laidMet_laidAll _ (by kernel_rfl) (by kernel_rfl))) (fun W args hn hf hL => ?_)
  · rw [Tryd.params3] at hd
    obtain ⟨a, b, c, rfl⟩ : ∃ a b c, ds = [a, b, c] := by
      match ds, hd with
      | [a, b, c], _ => exact ⟨a, b, c, rfl⟩
    rfl
  · rw [Tryd.params3] at hn hf
    obtain ⟨a, b, c, rfl⟩ : ∃ a b c, args = #[a, b, c] := by
      obtain ⟨l⟩ := args
      match l, hn with
      | [a, b, c], _ => exact ⟨a, b, c, rfl⟩
    obtain ⟨U, hU⟩ := fit_rules (hf 0 23 a rfl rfl)
    obtain ⟨s, hs⟩ := fit_str (hf 1 9 b rfl rfl)
    obtain ⟨l, hl⟩ := fit_ints (hf 2 24 c rfl rfl)
    obtain ⟨hT, ⟨kt, hK⟩, hG⟩ := laid_all hL
    refine ⟨hG, ?_⟩
    simp only [List.map_cons, List.map_nil, hU, hs]
    rw [← str_byt s]
    exact LoginLocks_spec _ _ U _ _ l false (byt_lt s) hl hT hK (own_foreign W) _ _ fun _ => rfl
theorem loginLocks_row_holds : Rows.LoginLocksSaid :=
  OpenClaim.holds_of_wide 3 Tryd.f3 rfl rfl rfl rfl rfl rfl rfl ⟨rfl, rfl, rfl, rfl, rfl⟩ rfl rfl rfl rfl rfl (by kernel_rfl) Tryd.func3 (by kernel_rfl)
    (of_decide_eq_true (by kernel_rfl)) (by unfold Func.isWrapper; first | (rw [if_pos (by decide +kernel)]; kernel_rfl) | (rw [if_neg (by decide +kernel)]; exact ⟨rfl, rfl⟩))
    (fun os started H enc _ => locks_lifted os started H enc)
theorem loginLocks_holds : Rows.LoginLocksCardSaid :=
  Claim7.holds_tied_plain_at .later [] [.data, .data, .data, .data] true (true, "b702a6455130421e64f208764259bf7f47d084bd74adb5cbd00fdf4a4ecdfebe") false
    loginLocks_row_holds (fun _ h => by cases h) (by kernel_rfl) (fun _ h => by cases h) loginLocks_row_tie rfl ⟨rfl, rfl⟩ (by kernel_rfl) rfl
    (fun f fn hf hfn => by
      obtain rfl : f = 3 := Option.some.inj ((show Tryd.prog.funcNamed "lanyard/lanyardlaw21.LoginLocks" = some 3 by kernel_rfl).symm.trans hf) |>.symm
      obtain rfl : fn = Tryd.f3 := (Option.some.inj (Tryd.func3.symm.trans hfn)).symm
      exact ⟨by kernel_rfl, fun j t ht => by
        rw [Tryd.params3] at ht
        have hm : t ∈ [23, 9, 24] := by simpa using Array.mem_of_getElem? ht
        have hall : ([23, 9, 24].all fun u => !Tryd.prog.wantsStandIn u) = true := by kernel_rfl
        exact (show Tryd.prog.wantsStandIn t = false by simpa using List.all_eq_true.1 hall t hm)⟩)
    (by kernel_rfl)
#print axioms loginLocks_holds
end Go.Proofs.YthohmdkibkompaaDoor
