/- XmlDressed answers true for every input, and leaves what came in as it was. No conditions. -/
import Derived.Test.YtohgmkjhbacmpaaGreatDoorXmGI
import Derived.Test.YtohgmkjhbacmpaaGreatDoorLaidD
set_option linter.unusedVariables false
set_option linter.unusedSimpArgs false
set_option maxRecDepth 100000
namespace Go.Proofs.YtohgmkjhbacmpaaGreatDoor
open Go Go.Abs Go.RowKit Go.ChangeShapes Go.Xml
theorem ou (os : Os) (started : os.Started) (H : Type) (enc : TypeId × Value → H) :
    ReturnsInHanded {} Tryz.checked os 4 .any (fun w args => (Rows.xmlDressedSpec.pre enc Tryz.prog Tryz.f4 Rows.xmlDressedRow.domain false w args ∧ laidMetH Tryz.prog DL w) ∧ sizedMet enc Tryz.prog Tryz.f4 (OpenSpec.ofChange Rows.xmlDressedSpec) false w args)
      (Rows.xmlDressedSpec.post enc Tryz.prog Tryz.f4 false true false false) := by
  refine qJ (C := Tryz.checked) (G := 3) (ex := fun _ => false) (tb := 4) own started (by kernel_rfl) Tryz.func4 laidOut (by kernel_rfl) (by kernel_rfl) Tryz.underlying4 rfl (fun ds hd => ?_)
    (ChangeSpec.witness_shaped (enc := enc) (C := Tryz.checked) (os := os) (X := fun w _ => laidMetH Tryz.prog DL w) false (World.laidAll Tryz.prog os DL) #[.slice none 0 0, .agg #[.bool false, .bool false, .int .i64 0, .int .i64 0]] 8 (World.laidAll_os _ _ _)
      (World.shaped_of_ZipB (by kernel_rfl) (by kernel_rfl)) (by kernel_rfl) (by kernel_rfl) (by kernel_rfl)
      (by rw [MakeChecks.laidMetH_plain _ _ _ (by kernel_rfl)]; exact laidMet_laidAll _ (by kernel_rfl) (by kernel_rfl))) (fun W args hn hf hL hsh => ?_)
  · rw [Tryz.params4] at hd
    obtain ⟨a, b, rfl⟩ : ∃ a b, ds = [a, b] := by
      match ds, hd with
      | [a, b], _ => exact ⟨a, b, rfl⟩
    rfl
  · rw [Tryz.params4] at hn hf
    obtain ⟨a, b, rfl⟩ : ∃ a b, args = #[a, b] := by
      obtain ⟨l⟩ := args
      match l, hn with
      | [a, b], _ => exact ⟨a, b, rfl⟩
    obtain ⟨l, hX, hS⟩ := Kt (hf 0 22 a rfl rfl)
    obtain ⟨fr, ln, za, zc, hD⟩ := Fu (hf 1 40 b rfl rfl)
    refine ⟨three hsh, ?_⟩
    simp only [List.map_cons, List.map_nil, hD]
    exact uY _ _ _ l fr ln za zc (Hg hsh) (Fq hL) hX hS (AP W) _ _ fun _ => rfl
theorem kV : Rows.XmlDressedSaid :=
  OpenClaim.holds_of_wide 4 Tryz.f4 rfl rfl rfl rfl rfl rfl rfl ⟨rfl, rfl, rfl, rfl, rfl⟩ rfl rfl rfl rfl rfl (by kernel_rfl) Tryz.func4 (by kernel_rfl)
    (of_decide_eq_true (by kernel_rfl)) (by unfold Func.isWrapper; first | (rw [if_pos (by decide +kernel)]; kernel_rfl) | (rw [if_neg (by decide +kernel)]; exact ⟨rfl, rfl⟩))
    (fun os started H enc _ => ou os started H enc)
theorem xmlDressed_holds : Rows.XmlDressedCardSaid :=
  Claim7.holds_tied_plain_at .later [] [.data, .pinned] true (true, "d8d2abc968ad27b8f2996404a56e4e4be22abeb94f37492d39b526066ad52ddf") true
    kV (fun _ h => by cases h) (by kernel_rfl) (fun _ h => by cases h) xmlDressed_row_tie rfl ⟨rfl, rfl⟩ (by kernel_rfl) rfl
    (fun f fn hf hfn => by
      obtain rfl : f = 4 := Option.some.inj ((show Tryz.prog.funcNamed "lanyard/lanyardlaw11.XmlDressed" = some 4 by kernel_rfl).symm.trans hf) |>.symm
      obtain rfl : fn = Tryz.f4 := (Option.some.inj (Tryz.func4.symm.trans hfn)).symm
      exact ⟨by kernel_rfl, fun j t ht => by
        rw [Tryz.params4] at ht
        have hm : t ∈ [22, 40] := by simpa using Array.mem_of_getElem? ht
        have hall : ([22, 40].all fun u => !Tryz.prog.wantsStandIn u) = true := by kernel_rfl
        exact (show Tryz.prog.wantsStandIn t = false by simpa using List.all_eq_true.1 hall t hm)⟩)
    (by kernel_rfl)
#print axioms xmlDressed_holds
end Go.Proofs.YtohgmkjhbacmpaaGreatDoor
