/- HashMacs answers true for every input, and leaves what came in as it was. No conditions. -/
import Derived.Test.YtjkmcnhofpnoeaaDoorE27
import Derived.Test.YtjkmcnhofpnoeaaDoorE22
set_option linter.unusedVariables false
set_option linter.unusedSimpArgs false
namespace Go.Proofs.YtjkmcnhofpnoeaaDoor
open Go Go.Abs Go.RowKit Go.ChangeShapes

theorem fit_nb1 {w : World} {v : Value} (h : ArgFit Tryd.prog (st0 w) 23 v) : ∃ l, Nb (foreign w) v l := by
  obtain ⟨n, h⟩ := h
  rw [Tryd.underlying23] at h
  obtain ⟨v', l, e, hb⟩ := fit_nb h
  injection e with e _
  subst e
  exact ⟨l, hb⟩
set_option maxRecDepth 100000 in
theorem macs_lifted (os : Os) (started : os.Started) (H : Type) (enc : TypeId × Value → H) :
    ReturnsInHanded {} Tryd.checked os 4 .any (fun w args => (Rows.hashMacsSpec.pre enc Tryd.prog Tryd.f4 Rows.hashMacsRow.domain false w args ∧ laidMetH Tryd.prog laidK w) ∧ sizedMet enc Tryd.prog Tryd.f4 (OpenSpec.ofChange Rows.hashMacsSpec) false w args)
      (Rows.hashMacsSpec.post enc Tryd.prog Tryd.f4 false true false false) := by
  refine law_lift_laid (C := Tryd.checked) (G := 1) (ex := fun t => t == 22) (tb := 4) own started (by kernel_rfl) Tryd.func4 laidOut (by kernel_rfl) (by kernel_rfl) Tryd.underlying4 rfl (fun ds hd => ?_)
    (ChangeSpec.witness_shaped (enc := enc) (C := Tryd.checked) (os := os) (X := fun w _ => laidMetH Tryd.prog laidK w) false (World.laidAll Tryd.prog os laidK) #[.slice none 0 0, .slice none 0 0] 8 (World.laidAll_os _ _ _)
      (World.shaped_of_ZipB (by kernel_rfl) (by kernel_rfl)) (by kernel_rfl) (by kernel_rfl) (by kernel_rfl)
      (by rw [MakeChecks.laidMetH_plain _ _ _ (by kernel_rfl)]; exact laidMet_laidAll _ (by kernel_rfl) (by kernel_rfl))) (fun W args hn hf hL => ?_)
  · rw [Tryd.params4] at hd
    obtain ⟨a, b, rfl⟩ : ∃ a b, ds = [a, b] := by
      match ds, hd with
      | [a, b], _ => exact ⟨a, b, rfl⟩
    rfl
  · rw [Tryd.params4] at hn hf
    obtain ⟨a, b, rfl⟩ : ∃ a b, args = #[a, b] := by
      obtain ⟨l⟩ := args
      match l, hn with
      | [a, b], _ => exact ⟨a, b, rfl⟩
    obtain ⟨key, hkey⟩ := fit_nb1 (hf 0 23 a rfl rfl)
    obtain ⟨ps, hps⟩ := fit_ps (hf 1 22 b rfl rfl)
    obtain ⟨kt, hK⟩ := k_cell hL
    refine ⟨foreign_pos hK, ?_⟩
    simp only [List.map_cons, List.map_nil]
    exact macs_spec _ _ _ _ key ps false hkey hps hK (own_foreign W) _ _ fun _ => rfl
theorem hashMacs_row_holds : Rows.HashMacsSaid :=
  OpenClaim.holds_of_wide 4 Tryd.f4 rfl rfl rfl rfl rfl rfl rfl ⟨rfl, rfl, rfl, rfl, rfl⟩ rfl rfl rfl rfl rfl (by kernel_rfl) Tryd.func4 (by kernel_rfl)
    (of_decide_eq_true (by kernel_rfl)) (by unfold Func.isWrapper; first | (rw [if_pos (by decide +kernel)]; kernel_rfl) | (rw [if_neg (by decide +kernel)]; exact ⟨rfl, rfl⟩))
    (fun os started H enc _ => macs_lifted os started H enc)
theorem hashMacs_holds : Rows.HashMacsCardSaid :=
  Claim7.holds_tied_plain_at .later [] [.data] true (true, "ca2d1331903dfda42b821b7ff8d7e1d028d85c9a3d5ab409d25f7bde08abb9ac") false
    hashMacs_row_holds (fun _ h => by cases h) (by kernel_rfl) (fun _ h => by cases h) hashMacs_row_tie rfl ⟨rfl, rfl⟩ (by kernel_rfl) rfl
    (fun f fn hf hfn => by
      obtain rfl : f = 4 := Option.some.inj ((show Tryd.prog.funcNamed "lanyard/lanyardlaw05.HashMacs" = some 4 by kernel_rfl).symm.trans hf) |>.symm
      obtain rfl : fn = Tryd.f4 := (Option.some.inj (Tryd.func4.symm.trans hfn)).symm
      exact ⟨by kernel_rfl, fun j t ht => by
        rw [Tryd.params4] at ht
        have hm : t ∈ [23, 22] := by simpa using Array.mem_of_getElem? ht
        have hall : ([23, 22].all fun u => !Tryd.prog.wantsStandIn u) = true := by kernel_rfl
        exact (show Tryd.prog.wantsStandIn t = false by simpa using List.all_eq_true.1 hall t hm)⟩)
    (by kernel_rfl)
#print axioms hashMacs_holds
end Go.Proofs.YtjkmcnhofpnoeaaDoor
