/- HashPieces answers true for every input, and leaves what came in as it was. No conditions. -/
import Derived.Test.YtjkmcnhofpnoeaaDoorE37
import Derived.Test.YtjkmcnhofpnoeaaDoorE22
set_option linter.unusedVariables false
set_option linter.unusedSimpArgs false
namespace Go.Proofs.YtjkmcnhofpnoeaaDoor
open Go Go.Abs Go.RowKit Go.ChangeShapes

theorem fit_nb1 {w : World} {v : Value} (h : ArgFit Tryd.prog (st0 w) 23 v) : ∃ l, Nb (foreign w) v l := by
  obtain ⟨n, h⟩ := h
  rw [Tryd.underlying23] at h
  obtain ⟨v', l, e, hb⟩ := fit_nb h
  injection e with e _
  subst e
  exact ⟨l, hb⟩
set_option maxRecDepth 100000 in
theorem pieces_lifted (os : Os) (started : os.Started) (H : Type) (enc : TypeId × Value → H) :
    ReturnsInHanded {} Tryd.checked os 5 .any (fun w args => (Rows.hashPiecesSpec.pre enc Tryd.prog Tryd.f5 Rows.hashPiecesRow.domain false w args ∧ laidMetH Tryd.prog laidK w) ∧ sizedMet enc Tryd.prog Tryd.f5 (OpenSpec.ofChange Rows.hashPiecesSpec) false w args)
      (Rows.hashPiecesSpec.post enc Tryd.prog Tryd.f5 false true false false) := by
  refine law_lift_laid (C := Tryd.checked) (G := 1) (ex := fun t => t == 22) (tb := 4) own started (by kernel_rfl) Tryd.func5 laidOut (by kernel_rfl) (by kernel_rfl) Tryd.underlying4 rfl (fun ds hd => ?_)
    (ChangeSpec.witness_shaped (enc := enc) (C := Tryd.checked) (os := os) (X := fun w _ => laidMetH Tryd.prog laidK w) false (World.laidAll Tryd.prog os laidK) #[.slice none 0 0, .slice none 0 0, .int .i64 0] 8 (World.laidAll_os _ _ _)
      (World.shaped_of_ZipB (by kernel_rfl) (by kernel_rfl)) (by kernel_rfl) (by kernel_rfl) (by kernel_rfl)
      (by rw [MakeChecks.laidMetH_plain _ _ _ (by kernel_rfl)]; exact laidMet_laidAll _ (by kernel_rfl) (by kernel_rfl))) (fun W args hn hf hL => ?_)
  · rw [Tryd.params5] at hd
    obtain ⟨a, b, c, rfl⟩ : ∃ a b c, ds = [a, b, c] := by
      match ds, hd with
      | [a, b, c], _ => exact ⟨a, b, c, rfl⟩
    rfl
  · rw [Tryd.params5] at hn hf
    obtain ⟨a, b, c, rfl⟩ : ∃ a b c, args = #[a, b, c] := by
      obtain ⟨l⟩ := args
      match l, hn with
      | [a, b, c], _ => exact ⟨a, b, c, rfl⟩
    obtain ⟨key, hkey⟩ := fit_nb1 (hf 0 23 a rfl rfl)
    have hex : ∃ m c, lowA W.heap.size a = .slice m key.length c := hkey.isSlice
    obtain ⟨m1, c1, e1⟩ := hex
    have hx := fit_exact (hf 0 23 a rfl rfl) _ _ _ e1
    obtain ⟨kb, hkb⟩ := fit_nb1 (hf 1 23 b rfl rfl)
    obtain ⟨z, hz, _⟩ := fit_int Tryd.underlying3 (hf 2 3 c rfl rfl)
    obtain ⟨kt, hK⟩ := k_cell hL
    refine ⟨foreign_pos hK, ?_⟩
    simp only [List.map_cons, List.map_nil, hz]
    exact pieces_spec _ _ _ _ key kb z false hkey hx hkb hK (own_foreign W) _ _ fun _ => rfl
theorem hashPieces_row_holds : Rows.HashPiecesSaid :=
  OpenClaim.holds_of_wide 5 Tryd.f5 rfl rfl rfl rfl rfl rfl rfl ⟨rfl, rfl, rfl, rfl, rfl⟩ rfl rfl rfl rfl rfl (by kernel_rfl) Tryd.func5 (by kernel_rfl)
    (of_decide_eq_true (by kernel_rfl)) (by unfold Func.isWrapper; first | (rw [if_pos (by decide +kernel)]; kernel_rfl) | (rw [if_neg (by decide +kernel)]; exact ⟨rfl, rfl⟩))
    (fun os started H enc _ => pieces_lifted os started H enc)
theorem hashPieces_holds : Rows.HashPiecesCardSaid :=
  Claim7.holds_tied_plain_at .later [] [.data] true (true, "ca2d1331903dfda42b821b7ff8d7e1d028d85c9a3d5ab409d25f7bde08abb9ac") false
    hashPieces_row_holds (fun _ h => by cases h) (by kernel_rfl) (fun _ h => by cases h) hashPieces_row_tie rfl ⟨rfl, rfl⟩ (by kernel_rfl) rfl
    (fun f fn hf hfn => by
      obtain rfl : f = 5 := Option.some.inj ((show Tryd.prog.funcNamed "lanyard/lanyardlaw05.HashPieces" = some 5 by kernel_rfl).symm.trans hf) |>.symm
      obtain rfl : fn = Tryd.f5 := (Option.some.inj (Tryd.func5.symm.trans hfn)).symm
      exact ⟨by kernel_rfl, fun j t ht => by
        rw [Tryd.params5] at ht
        have hm : t ∈ [23, 23, 3] := by simpa using Array.mem_of_getElem? ht
        have hall : ([23, 23, 3].all fun u => !Tryd.prog.wantsStandIn u) = true := by kernel_rfl
        exact (show Tryd.prog.wantsStandIn t = false by simpa using List.all_eq_true.1 hall t hm)⟩)
    (by kernel_rfl)
#print axioms hashPieces_holds
end Go.Proofs.YtjkmcnhofpnoeaaDoor
