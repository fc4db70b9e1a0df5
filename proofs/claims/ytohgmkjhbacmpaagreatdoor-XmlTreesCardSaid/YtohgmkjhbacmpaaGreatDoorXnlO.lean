/- XmlTrees answers true for every input, and leaves what came in as it was. No conditions. -/
import Derived.Test.YtohgmkjhbacmpaaGreatDoorXnlN
import Derived.Test.YtohgmkjhbacmpaaGreatDoorLaidB
set_option linter.unusedVariables false
set_option linter.unusedSimpArgs false
set_option maxRecDepth 100000
namespace Go.Proofs.YtohgmkjhbacmpaaGreatDoor
open Go Go.Abs Go.RowKit Go.ChangeShapes Go.Xml

theorem trees_lifted (os : Os) (started : os.Started) (H : Type) (enc : TypeId × Value → H) :
    ReturnsInHanded {} Tryz.checked os 3 .any (fun w args => (Rows.xmlTreesSpec.pre enc Tryz.prog Tryz.f3 Rows.xmlTreesRow.domain false w args ∧ laidMetH Tryz.prog laidK w) ∧ sizedMet enc Tryz.prog Tryz.f3 (OpenSpec.ofChange Rows.xmlTreesSpec) false w args)
      (Rows.xmlTreesSpec.post enc Tryz.prog Tryz.f3 false true false false) := by
  refine law_lift_shaped (C := Tryz.checked) (G := 3) (ex := fun _ => false) (tb := 4) own started (by kernel_rfl) Tryz.func3 laidOut (by kernel_rfl) (by kernel_rfl) Tryz.underlying4 rfl (fun ds hd => ?_)
    (ChangeSpec.witness_shaped (enc := enc) (C := Tryz.checked) (os := os) (X := fun w _ => laidMetH Tryz.prog laidK w) false (World.laidAll Tryz.prog os laidK) #[.slice none 0 0] 8 (World.laidAll_os _ _ _)
      (World.shaped_of_ZipB (by kernel_rfl) (by kernel_rfl)) (by kernel_rfl) (by kernel_rfl) (by kernel_rfl)
      (by rw [MakeChecks.laidMetH_plain _ _ _ (by kernel_rfl)]; exact laidMet_laidAll _ (by kernel_rfl) (by kernel_rfl))) (fun W args hn hf hL hsh => ?_)
  · rw [Tryz.params3] at hd
    obtain ⟨a, rfl⟩ : ∃ a, ds = [a] := by
      match ds, hd with
      | [a], _ => exact ⟨a, rfl⟩
    rfl
  · rw [Tryz.params3] at hn hf
    obtain ⟨a, rfl⟩ : ∃ a, args = #[a] := by
      obtain ⟨l⟩ := args
      match l, hn with
      | [a], _ => exact ⟨a, rfl⟩
    obtain ⟨l, hX, hS⟩ := fit_tx (hf 0 22 a rfl rfl)
    refine ⟨three hsh, ?_⟩
    simp only [List.map_cons, List.map_nil]
    exact LTrees_spec _ _ _ l (max_ok hsh) (laid_tabs hL) hX hS (own_foreign W) _ _ fun _ => rfl
theorem xmlTrees_row_holds : Rows.XmlTreesSaid :=
  OpenClaim.holds_of_wide 3 Tryz.f3 rfl rfl rfl rfl rfl rfl rfl ⟨rfl, rfl, rfl, rfl, rfl⟩ rfl rfl rfl rfl rfl (by kernel_rfl) Tryz.func3 (by kernel_rfl)
    (of_decide_eq_true (by kernel_rfl)) (by unfold Func.isWrapper; first | (rw [if_pos (by decide +kernel)]; kernel_rfl) | (rw [if_neg (by decide +kernel)]; exact ⟨rfl, rfl⟩))
    (fun os started H enc _ => trees_lifted os started H enc)
theorem xmlTrees_holds : Rows.XmlTreesCardSaid :=
  Claim7.holds_tied_plain_at .later [] [.data, .pinned] true (true, "d8d2abc968ad27b8f2996404a56e4e4be22abeb94f37492d39b526066ad52ddf") true
    xmlTrees_row_holds (fun _ h => by cases h) (by kernel_rfl) (fun _ h => by cases h) xmlTrees_row_tie rfl ⟨rfl, rfl⟩ (by kernel_rfl) rfl
    (fun f fn hf hfn => by
      obtain rfl : f = 3 := Option.some.inj ((show Tryz.prog.funcNamed "lanyard/lanyardlaw11.XmlTrees" = some 3 by kernel_rfl).symm.trans hf) |>.symm
      obtain rfl : fn = Tryz.f3 := (Option.some.inj (Tryz.func3.symm.trans hfn)).symm
      exact ⟨by kernel_rfl, fun j t ht => by
        rw [Tryz.params3] at ht
        have hm : t ∈ [22] := by simpa using Array.mem_of_getElem? ht
        have hall : ([22].all fun u => !Tryz.prog.wantsStandIn u) = true := by kernel_rfl
        exact (show Tryz.prog.wantsStandIn t = false by simpa using List.all_eq_true.1 hall t hm)⟩)
    (by kernel_rfl)
#print axioms xmlTrees_holds
end Go.Proofs.YtohgmkjhbacmpaaGreatDoor
