/- XmlQuotes answers true for every input, and leaves what came in as it was. No conditions. -/
import Derived.Test.YtohgmkjhbacmpaaGreatDoorXmGI
import Derived.Test.YtohgmkjhbacmpaaGreatDoorLaidE
set_option linter.unusedVariables false
set_option linter.unusedSimpArgs false
set_option maxRecDepth 100000
namespace Go.Proofs.YtohgmkjhbacmpaaGreatDoor
open Go Go.Abs Go.RowKit Go.ChangeShapes Go.Xml
theorem oC (os : Os) (started : os.Started) (H : Type) (enc : TypeId × Value → H) :
    ReturnsInHanded {} Tryz.checked os 7 .any (fun w args => (Rows.xmlQuotesSpec.pre enc Tryz.prog Tryz.f7 Rows.xmlQuotesRow.domain false w args ∧ laidMetH Tryz.prog Cm w) ∧ sizedMet enc Tryz.prog Tryz.f7 (OpenSpec.ofChange Rows.xmlQuotesSpec) false w args)
      (Rows.xmlQuotesSpec.post enc Tryz.prog Tryz.f7 false true false false) := by
  refine pQ (C := Tryz.checked) (G := 3) (ex := fun _ => false) (tb := 4) own started (by kernel_rfl) Tryz.func7 laidOut (by kernel_rfl) (by kernel_rfl) Tryz.underlying4 rfl (fun ds hd => ?_)
    (ChangeSpec.witness_shaped (enc := enc) (C := Tryz.checked) (os := os) (X := fun w _ => laidMetH Tryz.prog Cm w) false (World.laidAll Tryz.prog os Cm) #[.slice none 0 0, .bool false] 8 (World.laidAll_os _ _ _)
      (World.shaped_of_ZipB (by kernel_rfl) (by kernel_rfl)) (by kernel_rfl) (by kernel_rfl) (by kernel_rfl)
      (by rw [MakeChecks.laidMetH_plain _ _ _ (by kernel_rfl)]; exact laidMet_laidAll _ (by kernel_rfl) (by kernel_rfl))) (fun W args hn hf hL hsh => ?_)
  · rw [Tryz.params7] at hd
    obtain ⟨a, b, rfl⟩ : ∃ a b, ds = [a, b] := by
      match ds, hd with
      | [a, b], _ => exact ⟨a, b, rfl⟩
    rfl
  · rw [Tryz.params7] at hn hf
    obtain ⟨a, b, rfl⟩ : ∃ a b, args = #[a, b] := by
      obtain ⟨l⟩ := args
      match l, hn with
      | [a, b], _ => exact ⟨a, b, rfl⟩
    obtain ⟨zs, hV, hzs⟩ := DV (hf 0 48 a rfl rfl)
    obtain ⟨hx, hhx⟩ := FR Tryz.underlying4 (hf 1 4 b rfl rfl)
    refine ⟨three hsh, ?_⟩
    simp only [List.map_cons, List.map_nil, hhx]
    exact xg _ _ _ zs hx (FQ hsh) (DU hL) hV hzs (zF W) _ _ fun _ => rfl
theorem kI : Rows.XmlQuotesSaid :=
  OpenClaim.holds_of_wide 7 Tryz.f7 rfl rfl rfl rfl rfl rfl rfl ⟨rfl, rfl, rfl, rfl, rfl⟩ rfl rfl rfl rfl rfl (by kernel_rfl) Tryz.func7 (by kernel_rfl)
    (of_decide_eq_true (by kernel_rfl)) (by unfold Func.isWrapper; first | (rw [if_pos (by decide +kernel)]; kernel_rfl) | (rw [if_neg (by decide +kernel)]; exact ⟨rfl, rfl⟩))
    (fun os started H enc _ => oC os started H enc)
theorem xmlQuotes_holds : Rows.XmlQuotesCardSaid :=
  Claim7.holds_tied_plain_at .later [] [.data, .pinned] true (true, "d8d2abc968ad27b8f2996404a56e4e4be22abeb94f37492d39b526066ad52ddf") true
    kI (fun _ h => by cases h) (by kernel_rfl) (fun _ h => by cases h) xmlQuotes_row_tie rfl ⟨rfl, rfl⟩ (by kernel_rfl) rfl
    (fun f fn hf hfn => by
      obtain rfl : f = 7 := Option.some.inj ((show Tryz.prog.funcNamed "lanyard/lanyardlaw11.XmlQuotes" = some 7 by kernel_rfl).symm.trans hf) |>.symm
      obtain rfl : fn = Tryz.f7 := (Option.some.inj (Tryz.func7.symm.trans hfn)).symm
      exact ⟨by kernel_rfl, fun j t ht => by
        rw [Tryz.params7] at ht
        have hm : t ∈ [48, 4] := by simpa using Array.mem_of_getElem? ht
        have hall : ([48, 4].all fun u => !Tryz.prog.wantsStandIn u) = true := by kernel_rfl
        exact (show Tryz.prog.wantsStandIn t = false by simpa using List.all_eq_true.1 hall t hm)⟩)
    (by kernel_rfl)
#print axioms xmlQuotes_holds
end Go.Proofs.YtohgmkjhbacmpaaGreatDoor
