/- HashStretch answers true for every input, and leaves what came in as it was. No conditions. -/
import Derived.Test.YtjkmcnhofpnoeaaDoorE34
import Derived.Test.YtjkmcnhofpnoeaaDoorE22
set_option linter.unusedVariables false
set_option linter.unusedSimpArgs false
namespace Go.Proofs.YtjkmcnhofpnoeaaDoor
open Go Go.Abs Go.RowKit Go.ChangeShapes

theorem fit_words {w : World} {V : Value} (h : ArgFit Tryd.prog (st0 w) 38 V) : ∃ u v a b, V = .agg #[u, v] ∧ Nb (foreign w) u a ∧ Nb (foreign w) v b := by
  obtain ⟨n, h⟩ := h
  rw [Tryd.underlying38] at h
  obtain ⟨cs, rfl, h⟩ := h
  obtain ⟨hl, m, hf⟩ := fit_array' Tryd.underlying38 h
  have hlen : cs.toList.length = 2 := hl.trans (by kernel_rfl)
  have c3 : Tryd.prog.cellsOf 23 = 1 := by kernel_rfl
  obtain ⟨cs⟩ := cs
  match cs, hlen with
  | [v0, v1], _ =>
    have f0 := hf 0 (by decide)
    have f1 := hf 1 (by decide)
    simp only [c3] at f0 f1
    obtain ⟨u, a, h0, ha⟩ := fit_nb f0
    obtain ⟨v, b, h1, hb⟩ := fit_nb f1
    simp at h0 h1
    subst h0 h1
    exact ⟨_, _, a, b, rfl, ha, hb⟩
theorem fit_nb1 {w : World} {v : Value} (h : ArgFit Tryd.prog (st0 w) 23 v) : ∃ l, Nb (foreign w) v l := by
  obtain ⟨n, h⟩ := h
  rw [Tryd.underlying23] at h
  obtain ⟨v', l, e, hb⟩ := fit_nb h
  injection e with e _
  subst e
  exact ⟨l, hb⟩
set_option maxRecDepth 100000 in
theorem stretch_lifted (os : Os) (started : os.Started) (H : Type) (enc : TypeId × Value → H) :
    ReturnsInHanded {} Tryd.checked os 6 .any (fun w args => (Rows.hashStretchSpec.pre enc Tryd.prog Tryd.f6 Rows.hashStretchRow.domain false w args ∧ laidMetH Tryd.prog laidK w) ∧ sizedMet enc Tryd.prog Tryd.f6 (OpenSpec.ofChange Rows.hashStretchSpec) false w args)
      (Rows.hashStretchSpec.post enc Tryd.prog Tryd.f6 false true false false) := by
  refine law_lift_laid (C := Tryd.checked) (G := 1) (ex := fun t => t == 22) (tb := 4) own started (by kernel_rfl) Tryd.func6 laidOut (by kernel_rfl) (by kernel_rfl) Tryd.underlying4 rfl (fun ds hd => ?_)
    (ChangeSpec.witness_shaped (enc := enc) (C := Tryd.checked) (os := os) (X := fun w _ => laidMetH Tryd.prog laidK w) false (World.laidAll Tryd.prog os laidK) #[.agg #[.slice none 0 0, .slice none 0 0], .int .i64 0, .int .i64 0] 8 (World.laidAll_os _ _ _)
      (World.shaped_of_ZipB (by kernel_rfl) (by kernel_rfl)) (by kernel_rfl) (by kernel_rfl) (by kernel_rfl)
      (by rw [MakeChecks.laidMetH_plain _ _ _ (by kernel_rfl)]; exact laidMet_laidAll _ (by kernel_rfl) (by kernel_rfl))) (fun W args hn hf hL => ?_)
  · rw [Tryd.params6] at hd
    obtain ⟨a, b, c, rfl⟩ : ∃ a b c, ds = [a, b, c] := by
      match ds, hd with
      | [a, b, c], _ => exact ⟨a, b, c, rfl⟩
    rfl
  · rw [Tryd.params6] at hn hf
    obtain ⟨a, b, c, rfl⟩ : ∃ a b c, args = #[a, b, c] := by
      obtain ⟨l⟩ := args
      match l, hn with
      | [a, b, c], _ => exact ⟨a, b, c, rfl⟩
    obtain ⟨u, v, ka, kb, hp, hka, hkb⟩ := fit_words (hf 0 38 a rfl rfl)
    obtain ⟨z1, hz1, _⟩ := fit_int Tryd.underlying3 (hf 1 3 b rfl rfl)
    obtain ⟨z2, hz2, _⟩ := fit_int Tryd.underlying3 (hf 2 3 c rfl rfl)
    obtain ⟨kt, hK⟩ := k_cell hL
    refine ⟨foreign_pos hK, ?_⟩
    simp only [List.map_cons, List.map_nil, hp, hz1, hz2]
    exact stretch_spec _ _ _ _ ka kb z1 z2 false hka hkb hK (own_foreign W) _ _ fun _ => rfl
theorem hashStretch_row_holds : Rows.HashStretchSaid :=
  OpenClaim.holds_of_wide 6 Tryd.f6 rfl rfl rfl rfl rfl rfl rfl ⟨rfl, rfl, rfl, rfl, rfl⟩ rfl rfl rfl rfl rfl (by kernel_rfl) Tryd.func6 (by kernel_rfl)
    (of_decide_eq_true (by kernel_rfl)) (by unfold Func.isWrapper; first | (rw [if_pos (by decide +kernel)]; kernel_rfl) | (rw [if_neg (by decide +kernel)]; exact ⟨rfl, rfl⟩))
    (fun os started H enc _ => stretch_lifted os started H enc)
theorem hashStretch_holds : Rows.HashStretchCardSaid :=
  Claim7.holds_tied_plain_at .later [] [.data] true (true, "ca2d1331903dfda42b821b7ff8d7e1d028d85c9a3d5ab409d25f7bde08abb9ac") false
    hashStretch_row_holds (fun _ h => by cases h) (by kernel_rfl) (fun _ h => by cases h) hashStretch_row_tie rfl ⟨rfl, rfl⟩ (by kernel_rfl) rfl
    (fun f fn hf hfn => by
      obtain rfl : f = 6 := Option.some.inj ((show Tryd.prog.funcNamed "lanyard/lanyardlaw05.HashStretch" = some 6 by kernel_rfl).symm.trans hf) |>.symm
      obtain rfl : fn = Tryd.f6 := (Option.some.inj (Tryd.func6.symm.trans hfn)).symm
      exact ⟨by kernel_rfl, fun j t ht => by
        rw [Tryd.params6] at ht
        have hm : t ∈ [38, 3, 3] := by simpa using Array.mem_of_getElem? ht
        have hall : ([38, 3, 3].all fun u => !Tryd.prog.wantsStandIn u) = true := by kernel_rfl
        exact (show Tryd.prog.wantsStandIn t = false by simpa using List.all_eq_true.1 hall t hm)⟩)
    (by kernel_rfl)
#print axioms hashStretch_holds
end Go.Proofs.YtjkmcnhofpnoeaaDoor
