/- XmlBounds answers true for every input, and leaves what came in as it was. No conditions. -/
import Derived.Test.YtohgmkjhbacmpaaGreatDoorXmGH
import Derived.Test.YtohgmkjhbacmpaaGreatDoorLaidB
set_option linter.unusedVariables false
set_option linter.unusedSimpArgs false
set_option maxRecDepth 100000
namespace Go.Proofs.YtohgmkjhbacmpaaGreatDoor
open Go Go.Abs Go.RowKit Go.ChangeShapes Go.Xml
theorem mU (os : Os) (started : os.Started) (H : Type) (enc : TypeId × Value → H) :
    ReturnsInHanded {} Tryz.checked os 6 .any (fun w args => (Rows.xmlBoundsSpec.pre enc Tryz.prog Tryz.f6 Rows.xmlBoundsRow.domain false w args ∧ laidMetH Tryz.prog zM w) ∧ sizedMet enc Tryz.prog Tryz.f6 (OpenSpec.ofChange Rows.xmlBoundsSpec) false w args)
      (Rows.xmlBoundsSpec.post enc Tryz.prog Tryz.f6 false true false false) := by
  refine nS (C := Tryz.checked) (G := 3) (ex := fun _ => false) (tb := 4) own started (by kernel_rfl) Tryz.func6 laidOut (by kernel_rfl) (by kernel_rfl) Tryz.underlying4 rfl (fun ds hd => ?_)
    (ChangeSpec.witness_shaped (enc := enc) (C := Tryz.checked) (os := os) (X := fun w _ => laidMetH Tryz.prog zM w) false (World.laidAll Tryz.prog os zM) #[.int .i64 0, .int .i64 0, .int .i64 0] 8 (World.laidAll_os _ _ _)
      (World.shaped_of_ZipB (by kernel_rfl) (by kernel_rfl)) (by kernel_rfl) (by kernel_rfl) (by kernel_rfl)
      (by rw [MakeChecks.laidMetH_plain _ _ _ (by kernel_rfl)]; exact laidMet_laidAll _ (by kernel_rfl) (by kernel_rfl))) (fun W args hn hf hL hsh => ?_)
  · rw [Tryz.params6] at hd
    obtain ⟨a, b, c, rfl⟩ : ∃ a b c, ds = [a, b, c] := by
      match ds, hd with
      | [a, b, c], _ => exact ⟨a, b, c, rfl⟩
    rfl
  · rw [Tryz.params6] at hn hf
    obtain ⟨a, b, c, rfl⟩ : ∃ a b c, args = #[a, b, c] := by
      obtain ⟨l⟩ := args
      match l, hn with
      | [a, b, c], _ => exact ⟨a, b, c, rfl⟩
    obtain ⟨z1, hz1, _⟩ := uS Tryz.underlying3 (hf 0 3 a rfl rfl)
    obtain ⟨z2, hz2, _⟩ := uS Tryz.underlying3 (hf 1 3 b rfl rfl)
    obtain ⟨z3, hz3, _⟩ := uS Tryz.underlying3 (hf 2 3 c rfl rfl)
    refine ⟨three hsh, ?_⟩
    simp only [List.map_cons, List.map_nil, hz1, hz2, hz3]
    exact uQ _ _ z1 z2 z3 (C9 hsh) (Bd hL) (w9 W) _ _ fun _ => rfl
theorem jO : Rows.XmlBoundsSaid :=
  OpenClaim.holds_of_wide 6 Tryz.f6 rfl rfl rfl rfl rfl rfl rfl ⟨rfl, rfl, rfl, rfl, rfl⟩ rfl rfl rfl rfl rfl (by kernel_rfl) Tryz.func6 (by kernel_rfl)
    (of_decide_eq_true (by kernel_rfl)) (by unfold Func.isWrapper; first | (rw [if_pos (by decide +kernel)]; kernel_rfl) | (rw [if_neg (by decide +kernel)]; exact ⟨rfl, rfl⟩))
    (fun os started H enc _ => mU os started H enc)
theorem xmlBounds_holds : Rows.XmlBoundsCardSaid :=
  Claim7.holds_tied_plain_at .later [] [.data, .pinned] true (true, "d8d2abc968ad27b8f2996404a56e4e4be22abeb94f37492d39b526066ad52ddf") true
    jO (fun _ h => by cases h) (by kernel_rfl) (fun _ h => by cases h) xmlBounds_row_tie rfl ⟨rfl, rfl⟩ (by kernel_rfl) rfl
    (fun f fn hf hfn => by
      obtain rfl : f = 6 := Option.some.inj ((show Tryz.prog.funcNamed "lanyard/lanyardlaw11.XmlBounds" = some 6 by kernel_rfl).symm.trans hf) |>.symm
      obtain rfl : fn = Tryz.f6 := (Option.some.inj (Tryz.func6.symm.trans hfn)).symm
      exact ⟨by kernel_rfl, fun j t ht => by
        rw [Tryz.params6] at ht
        have hm : t ∈ [3, 3, 3] := by simpa using Array.mem_of_getElem? ht
        have hall : ([3, 3, 3].all fun u => !Tryz.prog.wantsStandIn u) = true := by kernel_rfl
        exact (show Tryz.prog.wantsStandIn t = false by simpa using List.all_eq_true.1 hall t hm)⟩)
    (by kernel_rfl)
#print axioms xmlBounds_holds
end Go.Proofs.YtohgmkjhbacmpaaGreatDoor
