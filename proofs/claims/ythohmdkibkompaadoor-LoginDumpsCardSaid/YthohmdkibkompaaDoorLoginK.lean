/- LoginEnds answers true for every input, and leaves what came in as it was. No conditions. -/
import Derived.Test.YthohmdkibkompaaDoorLoginJ
import Derived.Test.YthohmdkibkompaaDoorLaidA
import Derived.Test.YthohmdkibkompaaDoorAbsL
import Derived.Test.YthohmdkibkompaaDoorTie
import Derived.Test.YthohmdkibkompaaDoorCards
import Derived.Lay
set_option linter.unusedVariables false
set_option linter.unusedSimpArgs false
set_option maxRecDepth 100000
namespace Go.Proofs.YthohmdkibkompaaDoor
open Go Go.Abs Go.RowKit Go.ChangeShapes

theorem own : ownKnob Tryd.prog.godebug = none := by kernel_rfl
theorem laidOut : laidOutB Tryd.prog = true := by kernel_rfl
abbrev laidK : List (String × DataW Unit) := [("math/bits.deBruijn32tab", Rows.laid_math_bits_deBruijn32tab), ("math/bits.deBruijn64tab", Rows.laid_math_bits_deBruijn64tab), ("internal/strconv.uint64pow10", Rows.laid_internal_strconv_uint64pow10), ("lanyard/hash.k", Rows.laid_lanyard_hash_k)]
theorem laid_pow : (Rows.laid_internal_strconv_uint64pow10 : DataW Unit) = Lib.tabData .u64 Lib.pow10Tab := by kernel_rfl
theorem laid_k : (Rows.laid_lanyard_hash_k : DataW Unit) = Lib.tabData .u32 (ks0.map fun n : Nat => (n : Int)) := by kernel_rfl
theorem laid_b : (Rows.laid_math_bits_deBruijn64tab : DataW Unit) = Lib.tabData .u8 ([0, 1, 56, 2, 57, 49, 28, 3, 61, 58, 42, 50, 38, 29, 17, 4, 62, 47, 59, 36, 45, 43, 51, 22, 53, 39, 33, 30, 24, 18, 12, 5, 63, 55, 48, 27, 60, 41, 37, 16, 46, 35, 44, 21, 52, 32, 23, 11, 54, 26, 40, 15, 34, 20, 31, 10, 25, 14, 19, 9, 13, 8, 7, 6]) := by kernel_rfl
theorem laid_all {W : World} (h : laidMetH Tryd.prog laidK W) : TabOk W ∧ (∃ kt, (0, Ob.cells (wl ks0) kt false) ∈ foreign W) ∧ 4 ≤ W.heap.size := by
  rw [MakeChecks.laidMetH_plain _ _ _ (by kernel_rfl)] at h
  have h1 : Lib.TabIs Tryd.prog W "internal/strconv.uint64pow10" .u64 Lib.pow10Tab :=
    laid_tab (show Tryd.prog.globalNamed "internal/strconv.uint64pow10" = some 1 by kernel_rfl) (by kernel_rfl) Tryd.underlying136 Tryd.underlying100 (by kernel_rfl) (by kernel_rfl) (by rw [← laid_pow]; simp) h
  have h2 : Lib.TabIs Tryd.prog W "lanyard/hash.k" .u32 (ks0.map fun n : Nat => (n : Int)) :=
    laid_tab (show Tryd.prog.globalNamed "lanyard/hash.k" = some 0 by kernel_rfl) (by kernel_rfl) Tryd.underlying119 Tryd.underlying101 (by kernel_rfl) (by kernel_rfl) (by rw [← laid_k]; simp) h
  have h3 : 4 - 1 < W.heap.size := tab_lt (W := W) (show Tryd.prog.globalNamed "math/bits.deBruijn64tab" = some (4 - 1) by kernel_rfl)
    (laid_tab (show Tryd.prog.globalNamed "math/bits.deBruijn64tab" = some (4 - 1) by kernel_rfl) (by kernel_rfl) Tryd.underlying152 Tryd.underlying5 (by kernel_rfl) (by kernel_rfl) (by rw [← laid_b]; simp) h)
  obtain ⟨kt, hk⟩ := tab_cell (show Tryd.prog.globalNamed "lanyard/hash.k" = some 0 by kernel_rfl) h2
  refine ⟨h1, ⟨kt, ?_⟩, h3⟩
  rw [List.map_map] at hk
  unfold wl
  exact hk
theorem fit_rules {w : World} {V : Value} (h : ArgFit Tryd.prog (st0 w) 23 V) : ∃ U : Rul, V = .agg U.cells.toArray := by
  obtain ⟨n, h⟩ := h
  rw [Tryd.underlying23] at h
  obtain ⟨cs, rfl, h⟩ := h
  obtain ⟨hl, m, hf⟩ := fit_struct' Tryd.underlying23 h
  have hlen : cs.toList.length = 4 := hl.trans (by kernel_rfl)
  have c3 : Tryd.prog.cellsOf 3 = 1 := by kernel_rfl
  obtain ⟨cs⟩ := cs
  match cs, hlen with
  | [v0, v1, v2, v3], _ =>
    simp only [List.mem_cons, List.not_mem_nil, or_false, forall_eq_or_imp, forall_eq, c3] at hf
    obtain ⟨f0, f1, f2, f3⟩ := hf
    obtain ⟨z0, e0, _⟩ := fit_int' Tryd.underlying3 f0
    obtain ⟨z1, e1, _⟩ := fit_int' Tryd.underlying3 f1
    obtain ⟨z2, e2, _⟩ := fit_int' Tryd.underlying3 f2
    obtain ⟨z3, e3, _⟩ := fit_int' Tryd.underlying3 f3
    simp at e0 e1 e2 e3
    subst e0 e1 e2 e3
    exact ⟨⟨z0, z1, z2, z3⟩, rfl⟩
set_option maxRecDepth 100000 in
theorem ends_lifted (os : Os) (started : os.Started) (H : Type) (enc : TypeId × Value → H) :
    ReturnsInHanded {} Tryd.checked os 5 .any (fun w args => (Rows.loginEndsSpec.pre enc Tryd.prog Tryd.f5 Rows.loginEndsRow.domain false w args ∧ laidMetH Tryd.prog laidK w) ∧ sizedMet enc Tryd.prog Tryd.f5 (OpenSpec.ofChange Rows.loginEndsSpec) false w args)
      (Rows.loginEndsSpec.post enc Tryd.prog Tryd.f5 false true false false) := by
  refine law_lift_laid (C := Tryd.checked) (G := 4) (ex := fun t => t == 88) (tb := 4) own started (by kernel_rfl) Tryd.func5 laidOut (by kernel_rfl) (by kernel_rfl) Tryd.underlying4 rfl (fun ds hd => ?_)
    (ChangeSpec.witness_shaped (enc := enc) (C := Tryd.checked) (os := os) (X := fun w _ => laidMetH Tryd.prog laidK w) false (World.laidAll Tryd.prog os laidK) #[.agg #[.int .i64 0, .int .i64 0, .int .i64 0, .int .i64 0], .int .i64 0, .int .i64 0] 8 (World.laidAll_os _ _ _)
      (World.shaped_of_ZipB (by kernel_rfl) (by kernel_rfl)) (by kernel_rfl) (by kernel_rfl) (by kernel_rfl)
      (by rw [MakeChecks.laidMetH_plain _ _ _ (by kernel_rfl)]; exact laidMet_laidAll _ (by kernel_rfl) (by kernel_rfl))) (fun W args hn hf hL => ?_)
  · rw [Tryd.params5] at hd
    obtain ⟨a, b, c, rfl⟩ : ∃ a b c, ds = [a, b, c] := by
      match ds, hd with
      | [a, b, c], _ => exact ⟨a, b, c, rfl⟩
    rfl
  · rw [Tryd.params5] at hn hf
    obtain ⟨a, b, c, rfl⟩ : ∃ a b c, args = #[a, b, c] := by
      obtain ⟨l⟩ := args
      match l, hn with
      | [a, b, c], _ => exact ⟨a, b, c, rfl⟩
    obtain ⟨U, hU⟩ := fit_rules (hf 0 23 a rfl rfl)
    obtain ⟨z1, hz1, _⟩ := fit_int Tryd.underlying3 (hf 1 3 b rfl rfl)
    obtain ⟨z2, hz2, hlo, hhi⟩ := fit_int Tryd.underlying3 (hf 2 3 c rfl rfl)
    obtain ⟨hT, ⟨kt, hK⟩, hG⟩ := laid_all hL
    refine ⟨hG, ?_⟩
    simp only [List.map_cons, List.map_nil, hU, hz1, hz2]
    exact LoginEnds_spec _ _ U z1 z2 false (by simpa [IntKind.min, IntKind.signed, IntKind.bits] using hlo) (by simpa [IntKind.max, IntKind.signed, IntKind.bits] using hhi) hT hK (own_foreign W) _ _ fun _ => rfl
theorem loginEnds_row_holds : Rows.LoginEndsSaid :=
  OpenClaim.holds_of_wide 5 Tryd.f5 rfl rfl rfl rfl rfl rfl rfl ⟨rfl, rfl, rfl, rfl, rfl⟩ rfl rfl rfl rfl rfl (by kernel_rfl) Tryd.func5 (by kernel_rfl)
    (of_decide_eq_true (by kernel_rfl)) (by unfold Func.isWrapper; first | (rw [if_pos (by decide +kernel)]; kernel_rfl) | (rw [if_neg (by decide +kernel)]; exact ⟨rfl, rfl⟩))
    (fun os started H enc _ => ends_lifted os started H enc)
theorem loginEnds_holds : Rows.LoginEndsCardSaid :=
  Claim7.holds_tied_plain_at .later [] [.data, .data, .data, .data] true (true, "b702a6455130421e64f208764259bf7f47d084bd74adb5cbd00fdf4a4ecdfebe") false
    loginEnds_row_holds (fun _ h => by cases h) (by kernel_rfl) (fun _ h => by cases h) loginEnds_row_tie rfl ⟨rfl, rfl⟩ (by kernel_rfl) rfl
    (fun f fn hf hfn => by
      obtain rfl : f = 5 := Option.some.inj ((show Tryd.prog.funcNamed "lanyard/lanyardlaw21.LoginEnds" = some 5 by kernel_rfl).symm.trans hf) |>.symm
      obtain rfl : fn = Tryd.f5 := (Option.some.inj (Tryd.func5.symm.trans hfn)).symm
      exact ⟨by kernel_rfl, fun j t ht => by
        rw [Tryd.params5] at ht
        have hm : t ∈ [23, 3, 3] := by simpa using Array.mem_of_getElem? ht
        have hall : ([23, 3, 3].all fun u => !Tryd.prog.wantsStandIn u) = true := by kernel_rfl
        exact (show Tryd.prog.wantsStandIn t = false by simpa using List.all_eq_true.1 hall t hm)⟩)
    (by kernel_rfl)
#print axioms loginEnds_holds
end Go.Proofs.YthohmdkibkompaaDoor
