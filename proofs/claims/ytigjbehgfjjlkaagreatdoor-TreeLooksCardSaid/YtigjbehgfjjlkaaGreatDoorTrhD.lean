/- TreeLooks answers true for every input, and leaves what came in as it was. No conditions. -/
import Derived.Test.YtigjbehgfjjlkaaGreatDoorTrGH
import Derived.Test.YtigjbehgfjjlkaaGreatDoorLaidG
set_option linter.unusedVariables false
set_option linter.unusedSimpArgs false
set_option maxRecDepth 100000
namespace Go.Proofs.YtigjbehgfjjlkaaGreatDoor
open Go Go.Abs Go.RowKit Go.ChangeShapes Go.Xml
theorem p9 (os : Os) (started : os.Started) (H : Type) (enc : TypeId × Value → H) :
    ReturnsInHanded {} Tryz.checked os 6 .any (fun w args => (Rows.treeLooksSpec.pre enc Tryz.prog Tryz.f6 Rows.treeLooksRow.domain false w args ∧ laidMetH Tryz.prog CG w) ∧ sizedMet enc Tryz.prog Tryz.f6 (OpenSpec.ofChange Rows.treeLooksSpec) false w args)
      (Rows.treeLooksSpec.post enc Tryz.prog Tryz.f6 false true false false) := by
  refine qQ (C := Tryz.checked) (G := 3) (ex := fun _ => false) (tb := 4) own started (by kernel_rfl) Tryz.func6 laidOut (by kernel_rfl) (by kernel_rfl) Tryz.underlying4 rfl (fun ds hd => ?_)
    (ChangeSpec.witness_shaped (enc := enc) (C := Tryz.checked) (os := os) (X := fun w _ => laidMetH Tryz.prog CG w) false (World.laidAll Tryz.prog os CG) #[.agg #[.slice none 0 0], .agg #[.int .i64 0, .int .i64 0, .string ⟨#[]⟩, .string ⟨#[]⟩]] 8 (World.laidAll_os _ _ _)
      (World.shaped_of_ZipB (by kernel_rfl) (by kernel_rfl)) (by kernel_rfl) (by kernel_rfl) (by kernel_rfl)
      (by rw [MakeChecks.laidMetH_plain _ _ _ (by kernel_rfl)]; exact laidMet_laidAll _ (by kernel_rfl) (by kernel_rfl))) (fun W args hn hf hL hsh => ?_)
  · rw [Tryz.params6] at hd
    obtain ⟨a, b, rfl⟩ : ∃ a b, ds = [a, b] := by
      match ds, hd with
      | [a, b], _ => exact ⟨a, b, rfl⟩
    rfl
  · rw [Tryz.params6] at hn hf
    obtain ⟨a, b, rfl⟩ : ∃ a b, args = #[a, b] := by
      obtain ⟨l⟩ := args
      match l, hn with
      | [a, b], _ => exact ⟨a, b, rfl⟩
    obtain ⟨dv, dns, hdv, hDX⟩ := GU (hf 0 24 a rfl rfl)
    obtain ⟨aI, aJ, asp, alo, hask⟩ := GX (hf 1 37 b rfl rfl)
    refine ⟨three hsh, ?_⟩
    simp only [List.map_cons, List.map_nil, hdv, hask]
    exact zW _ _ _ dns aI aJ asp alo (FP hsh) (Ec hL) hDX (zY W) _ _ fun _ => rfl
theorem mh : Rows.TreeLooksSaid :=
  OpenClaim.holds_of_wide 6 Tryz.f6 rfl rfl rfl rfl rfl rfl rfl ⟨rfl, rfl, rfl, rfl, rfl⟩ rfl rfl rfl rfl rfl (by kernel_rfl) Tryz.func6 (by kernel_rfl)
    (of_decide_eq_true (by kernel_rfl)) (by unfold Func.isWrapper; first | (rw [if_pos (by decide +kernel)]; kernel_rfl) | (rw [if_neg (by decide +kernel)]; exact ⟨rfl, rfl⟩))
    (fun os started H enc _ => p9 os started H enc)
theorem treeLooks_holds : Rows.TreeLooksCardSaid :=
  Claim7.holds_tied_plain_at .later [] [.data, .pinned] true (true, "3e53b2ab7913cb8d010664f05436be1263aa0ee6a0c387f380bd34c347e5309f") true
    mh (fun _ h => by cases h) (by kernel_rfl) (fun _ h => by cases h) treeLooks_row_tie rfl ⟨rfl, rfl⟩ (by kernel_rfl) rfl
    (fun f fn hf hfn => by
      obtain rfl : f = 6 := Option.some.inj ((show Tryz.prog.funcNamed "lanyard/lanyardlaw12.TreeLooks" = some 6 by kernel_rfl).symm.trans hf) |>.symm
      obtain rfl : fn = Tryz.f6 := (Option.some.inj (Tryz.func6.symm.trans hfn)).symm
      exact ⟨by kernel_rfl, fun j t ht => by
        rw [Tryz.params6] at ht
        have hm : t ∈ [24, 37] := by simpa using Array.mem_of_getElem? ht
        have hall : ([24, 37].all fun u => !Tryz.prog.wantsStandIn u) = true := by kernel_rfl
        exact (show Tryz.prog.wantsStandIn t = false by simpa using List.all_eq_true.1 hall t hm)⟩)
    (by kernel_rfl)
#print axioms treeLooks_holds
end Go.Proofs.YtigjbehgfjjlkaaGreatDoor
