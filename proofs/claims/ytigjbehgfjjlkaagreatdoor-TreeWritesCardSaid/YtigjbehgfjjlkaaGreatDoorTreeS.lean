/- TreeWrites answers true for every input, and leaves what came in as it was. No conditions. -/
import Derived.Test.YtigjbehgfjjlkaaGreatDoorTrGE
import Derived.Test.YtigjbehgfjjlkaaGreatDoorLaidF
set_option linter.unusedVariables false
set_option linter.unusedSimpArgs false
set_option maxRecDepth 100000
namespace Go.Proofs.YtigjbehgfjjlkaaGreatDoor
open Go Go.Abs Go.RowKit Go.ChangeShapes Go.Xml
theorem ou (os : Os) (started : os.Started) (H : Type) (enc : TypeId × Value → H) :
    ReturnsInHanded {} Tryz.checked os 3 .any (fun w args => (Rows.treeWritesSpec.pre enc Tryz.prog Tryz.f3 Rows.treeWritesRow.domain false w args ∧ laidMetH Tryz.prog BJ w) ∧ sizedMet enc Tryz.prog Tryz.f3 (OpenSpec.ofChange Rows.treeWritesSpec) false w args)
      (Rows.treeWritesSpec.post enc Tryz.prog Tryz.f3 false true false false) := by
  refine qA (C := Tryz.checked) (G := 3) (ex := fun _ => false) (tb := 4) own started (by kernel_rfl) Tryz.func3 laidOut (by kernel_rfl) (by kernel_rfl) Tryz.underlying4 rfl (fun ds hd => ?_)
    (ChangeSpec.witness_shaped (enc := enc) (C := Tryz.checked) (os := os) (X := fun w _ => laidMetH Tryz.prog BJ w) false (World.laidAll Tryz.prog os BJ) #[.agg #[.slice none 0 0]] 8 (World.laidAll_os _ _ _)
      (World.shaped_of_ZipB (by kernel_rfl) (by kernel_rfl)) (by kernel_rfl) (by kernel_rfl) (by kernel_rfl)
      (by rw [MakeChecks.laidMetH_plain _ _ _ (by kernel_rfl)]; exact laidMet_laidAll _ (by kernel_rfl) (by kernel_rfl))) (fun W args hn hf hL hsh => ?_)
  · rw [Tryz.params3] at hd
    obtain ⟨a, rfl⟩ : ∃ a, ds = [a] := by
      match ds, hd with
      | [a], _ => exact ⟨a, rfl⟩
    rfl
  · rw [Tryz.params3] at hn hf
    obtain ⟨a, rfl⟩ : ∃ a, args = #[a] := by
      obtain ⟨l⟩ := args
      match l, hn with
      | [a], _ => exact ⟨a, rfl⟩
    obtain ⟨dv, dns, hdv, hDX⟩ := FX (hf 0 24 a rfl rfl)
    refine ⟨three hsh, ?_⟩
    simp only [List.map_cons, List.map_nil, hdv]
    exact wW _ _ _ dns (EI hsh) (Dh hL) hDX (zq W) _ _ fun _ => rfl
theorem lg : Rows.TreeWritesSaid :=
  OpenClaim.holds_of_wide 3 Tryz.f3 rfl rfl rfl rfl rfl rfl rfl ⟨rfl, rfl, rfl, rfl, rfl⟩ rfl rfl rfl rfl rfl (by kernel_rfl) Tryz.func3 (by kernel_rfl)
    (of_decide_eq_true (by kernel_rfl)) (by unfold Func.isWrapper; first | (rw [if_pos (by decide +kernel)]; kernel_rfl) | (rw [if_neg (by decide +kernel)]; exact ⟨rfl, rfl⟩))
    (fun os started H enc _ => ou os started H enc)
theorem treeWrites_holds : Rows.TreeWritesCardSaid :=
  Claim7.holds_tied_plain_at .later [] [.data, .pinned] true (true, "3e53b2ab7913cb8d010664f05436be1263aa0ee6a0c387f380bd34c347e5309f") true
    lg (fun _ h => by cases h) (by kernel_rfl) (fun _ h => by cases h) treeWrites_row_tie rfl ⟨rfl, rfl⟩ (by kernel_rfl) rfl
    (fun f fn hf hfn => by
      obtain rfl : f = 3 := Option.some.inj ((show Tryz.prog.funcNamed "lanyard/lanyardlaw12.TreeWrites" = some 3 by kernel_rfl).symm.trans hf) |>.symm
      obtain rfl : fn = Tryz.f3 := (Option.some.inj (Tryz.func3.symm.trans hfn)).symm
      exact ⟨by kernel_rfl, fun j t ht => by
        rw [Tryz.params3] at ht
        have hm : t ∈ [24] := by simpa using Array.mem_of_getElem? ht
        have hall : ([24].all fun u => !Tryz.prog.wantsStandIn u) = true := by kernel_rfl
        exact (show Tryz.prog.wantsStandIn t = false by simpa using List.all_eq_true.1 hall t hm)⟩)
    (by kernel_rfl)
#print axioms treeWrites_holds
end Go.Proofs.YtigjbehgfjjlkaaGreatDoor
