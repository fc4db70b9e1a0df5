/- XmlWraps answers true for every input, and leaves what came in as it was. No conditions. -/
import Derived.Test.YtohgmkjhbacmpaaGreatDoorXmGI
import Derived.Test.YtohgmkjhbacmpaaGreatDoorLaidC
set_option linter.unusedVariables false
set_option linter.unusedSimpArgs false
set_option maxRecDepth 100000
namespace Go.Proofs.YtohgmkjhbacmpaaGreatDoor
open Go Go.Abs Go.RowKit Go.ChangeShapes Go.Xml
theorem qj (os : Os) (started : os.Started) (H : Type) (enc : TypeId × Value → H) :
    ReturnsInHanded {} Tryz.checked os 5 .any (fun w args => (Rows.xmlWrapsSpec.pre enc Tryz.prog Tryz.f5 Rows.xmlWrapsRow.domain false w args ∧ laidMetH Tryz.prog Cn w) ∧ sizedMet enc Tryz.prog Tryz.f5 (OpenSpec.ofChange Rows.xmlWrapsSpec) false w args)
      (Rows.xmlWrapsSpec.post enc Tryz.prog Tryz.f5 false true false false) := by
  refine qh (C := Tryz.checked) (G := 3) (ex := fun _ => false) (tb := 4) own started (by kernel_rfl) Tryz.func5 laidOut (by kernel_rfl) (by kernel_rfl) Tryz.underlying4 rfl (fun ds hd => ?_)
    (ChangeSpec.witness_shaped (enc := enc) (C := Tryz.checked) (os := os) (X := fun w _ => laidMetH Tryz.prog Cn w) false (World.laidAll Tryz.prog os Cn) #[.slice none 0 0, .string ⟨#[]⟩] 8 (World.laidAll_os _ _ _)
      (World.shaped_of_ZipB (by kernel_rfl) (by kernel_rfl)) (by kernel_rfl) (by kernel_rfl) (by kernel_rfl)
      (by rw [MakeChecks.laidMetH_plain _ _ _ (by kernel_rfl)]; exact laidMet_laidAll _ (by kernel_rfl) (by kernel_rfl))) (fun W args hn hf hL hsh => ?_)
  · rw [Tryz.params5] at hd
    obtain ⟨a, b, rfl⟩ : ∃ a b, ds = [a, b] := by
      match ds, hd with
      | [a, b], _ => exact ⟨a, b, rfl⟩
    rfl
  · rw [Tryz.params5] at hn hf
    obtain ⟨a, b, rfl⟩ : ∃ a b, args = #[a, b] := by
      obtain ⟨l⟩ := args
      match l, hn with
      | [a, b], _ => exact ⟨a, b, rfl⟩
    obtain ⟨l, hX, hS⟩ := Je (hf 0 22 a rfl rfl)
    obtain ⟨u1, hu1, _⟩ := Hg Tryz.underlying9 (hf 1 9 b rfl rfl)
    refine ⟨three hsh, ?_⟩
    simp only [List.map_cons, List.map_nil, hu1]
    exact zH _ _ _ l u1 (FV hsh) (D8 hL) hX hS (zJ W) _ _ fun _ => rfl
theorem mF : Rows.XmlWrapsSaid :=
  OpenClaim.holds_of_wide 5 Tryz.f5 rfl rfl rfl rfl rfl rfl rfl ⟨rfl, rfl, rfl, rfl, rfl⟩ rfl rfl rfl rfl rfl (by kernel_rfl) Tryz.func5 (by kernel_rfl)
    (of_decide_eq_true (by kernel_rfl)) (by unfold Func.isWrapper; first | (rw [if_pos (by decide +kernel)]; kernel_rfl) | (rw [if_neg (by decide +kernel)]; exact ⟨rfl, rfl⟩))
    (fun os started H enc _ => qj os started H enc)
theorem xmlWraps_holds : Rows.XmlWrapsCardSaid :=
  Claim7.holds_tied_plain_at .later [] [.data, .pinned] true (true, "d8d2abc968ad27b8f2996404a56e4e4be22abeb94f37492d39b526066ad52ddf") true
    mF (fun _ h => by cases h) (by kernel_rfl) (fun _ h => by cases h) xmlWraps_row_tie rfl ⟨rfl, rfl⟩ (by kernel_rfl) rfl
    (fun f fn hf hfn => by
      obtain rfl : f = 5 := Option.some.inj ((show Tryz.prog.funcNamed "lanyard/lanyardlaw11.XmlWraps" = some 5 by kernel_rfl).symm.trans hf) |>.symm
      obtain rfl : fn = Tryz.f5 := (Option.some.inj (Tryz.func5.symm.trans hfn)).symm
      exact ⟨by kernel_rfl, fun j t ht => by
        rw [Tryz.params5] at ht
        have hm : t ∈ [22, 9] := by simpa using Array.mem_of_getElem? ht
        have hall : ([22, 9].all fun u => !Tryz.prog.wantsStandIn u) = true := by kernel_rfl
        exact (show Tryz.prog.wantsStandIn t = false by simpa using List.all_eq_true.1 hall t hm)⟩)
    (by kernel_rfl)
#print axioms xmlWraps_holds
end Go.Proofs.YtohgmkjhbacmpaaGreatDoor
