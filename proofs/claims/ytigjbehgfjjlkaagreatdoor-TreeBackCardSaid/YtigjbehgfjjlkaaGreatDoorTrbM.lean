/- TreeBack answers true for every input, and leaves what came in as it was. No conditions. -/
import Derived.Test.YtigjbehgfjjlkaaGreatDoorTrbL
import Derived.Test.YtigjbehgfjjlkaaGreatDoorLaidC
set_option linter.unusedVariables false
set_option linter.unusedSimpArgs false
set_option maxRecDepth 100000
namespace Go.Proofs.YtigjbehgfjjlkaaGreatDoor
open Go Go.Abs Go.RowKit Go.ChangeShapes Go.Xml
theorem sF (os : Os) (started : os.Started) (H : Type) (enc : TypeId × Value → H) :
    ReturnsInHanded {} Tryz.checked os 4 .any (fun w args => (Rows.treeBackSpec.pre enc Tryz.prog Tryz.f4 Rows.treeBackRow.domain false w args ∧ laidMetH Tryz.prog ER w) ∧ sizedMet enc Tryz.prog Tryz.f4 (OpenSpec.ofChange Rows.treeBackSpec) false w args)
      (Rows.treeBackSpec.post enc Tryz.prog Tryz.f4 false true false false) := by
  refine sD (C := Tryz.checked) (G := 3) (ex := fun _ => false) (tb := 4) own started (by kernel_rfl) Tryz.func4 laidOut (by kernel_rfl) (by kernel_rfl) Tryz.underlying4 rfl (fun ds hd => ?_)
    (ChangeSpec.witness_shaped (enc := enc) (C := Tryz.checked) (os := os) (X := fun w _ => laidMetH Tryz.prog ER w) false (World.laidAll Tryz.prog os ER) #[.slice none 0 0] 8 (World.laidAll_os _ _ _)
      (World.shaped_of_ZipB (by kernel_rfl) (by kernel_rfl)) (by kernel_rfl) (by kernel_rfl) (by kernel_rfl)
      (by rw [MakeChecks.laidMetH_plain _ _ _ (by kernel_rfl)]; exact laidMet_laidAll _ (by kernel_rfl) (by kernel_rfl))) (fun W args hn hf hL hsh => ?_)
  · rw [Tryz.params4] at hd
    obtain ⟨a, rfl⟩ : ∃ a, ds = [a] := by
      match ds, hd with
      | [a], _ => exact ⟨a, rfl⟩
    rfl
  · rw [Tryz.params4] at hn hf
    obtain ⟨a, rfl⟩ : ∃ a, args = #[a] := by
      obtain ⟨l⟩ := args
      match l, hn with
      | [a], _ => exact ⟨a, rfl⟩
    obtain ⟨l, hX, hS⟩ := Lx (hf 0 31 a rfl rfl)
    refine ⟨three hsh, ?_⟩
    simp only [List.map_cons, List.map_nil]
    exact Ea _ _ _ l (I6 hsh) (Gr hL) hX hS (BQ W) _ _ fun _ => rfl
theorem oH : Rows.TreeBackSaid :=
  OpenClaim.holds_of_wide 4 Tryz.f4 rfl rfl rfl rfl rfl rfl rfl ⟨rfl, rfl, rfl, rfl, rfl⟩ rfl rfl rfl rfl rfl (by kernel_rfl) Tryz.func4 (by kernel_rfl)
    (of_decide_eq_true (by kernel_rfl)) (by unfold Func.isWrapper; first | (rw [if_pos (by decide +kernel)]; kernel_rfl) | (rw [if_neg (by decide +kernel)]; exact ⟨rfl, rfl⟩))
    (fun os started H enc _ => sF os started H enc)
theorem treeBack_holds : Rows.TreeBackCardSaid :=
  Claim7.holds_tied_plain_at .later [] [.data, .pinned] true (true, "3e53b2ab7913cb8d010664f05436be1263aa0ee6a0c387f380bd34c347e5309f") true
    oH (fun _ h => by cases h) (by kernel_rfl) (fun _ h => by cases h) treeBack_row_tie rfl ⟨rfl, rfl⟩ (by kernel_rfl) rfl
    (fun f fn hf hfn => by
      obtain rfl : f = 4 := Option.some.inj ((show Tryz.prog.funcNamed "lanyard/lanyardlaw12.TreeBack" = some 4 by kernel_rfl).symm.trans hf) |>.symm
      obtain rfl : fn = Tryz.f4 := (Option.some.inj (Tryz.func4.symm.trans hfn)).symm
      exact ⟨by kernel_rfl, fun j t ht => by
        rw [Tryz.params4] at ht
        have hm : t ∈ [31] := by simpa using Array.mem_of_getElem? ht
        have hall : ([31].all fun u => !Tryz.prog.wantsStandIn u) = true := by kernel_rfl
        exact (show Tryz.prog.wantsStandIn t = false by simpa using List.all_eq_true.1 hall t hm)⟩)
    (by kernel_rfl)
#print axioms treeBack_holds
end Go.Proofs.YtigjbehgfjjlkaaGreatDoor
