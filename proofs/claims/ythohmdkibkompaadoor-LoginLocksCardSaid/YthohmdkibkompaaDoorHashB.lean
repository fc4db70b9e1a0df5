/- The words of a block. No conditions. -/
import Derived.Test.YthohmdkibkompaaDoorHashA
set_option linter.unusedVariables false
set_option linter.unusedSimpArgs false
namespace Go.Proofs.YthohmdkibkompaaDoor
open Go Go.Abs Go.RowKit
variable {base : Nat} {w0 : World} {G : Nat}

def wz (l : List Nat) : List Value := wl (l ++ List.replicate (64 - l.length) 0)
theorem wz_length {l : List Nat} (h : l.length ≤ 64) : (wz l).length = 64 := by simp [wz, wl]; omega
theorem wz_set {l : List Nat} {i : Nat} (hi : l.length = i) (h : i < 64) (x : Nat) : (wz l).set i (.int .u32 x) = wz (l ++ [x]) := by
  subst hi
  unfold wz
  rw [wl_set, show 64 - l.length = (64 - (l ++ [x]).length) + 1 by simp; omega, List.replicate_succ, List.set_append_right _ _ (Nat.le_refl _), Nat.sub_self, List.set_cons_zero]
  simp
theorem wz_get {l : List Nat} {i : Nat} (h : i < l.length) : (wz l)[i]? = some (.int .u32 (l.getD i 0 : Nat)) := by
  unfold wz
  rw [wl_get (by simp; omega)]
  simp [List.getD_eq_getElem?_getD, List.getElem?_append_left h]
theorem wz_nil : wz [] = List.replicate 64 (.int .u32 0) := by simp [wz, wl]
theorem wz_full {l : List Nat} (h : l.length = 64) : wz l = wl l := by simp [wz, h]
theorem bw_word {b0 b1 b2 b3 : Nat} (h0 : b0 < 256) (h1 : b1 < 256) (h2 : b2 < 256) (h3 : b3 < 256) :
    bits .or .u32 (bits .or .u32 (bits .or .u32 (IntKind.u32.wrap (IntKind.u32.wrap (b0 : Int) * 2 ^ 24)) (IntKind.u32.wrap (IntKind.u32.wrap (b1 : Int) * 2 ^ 16))) (IntKind.u32.wrap (IntKind.u32.wrap (b2 : Int) * 2 ^ 8))) (IntKind.u32.wrap (b3 : Int)) = ((((b0 * 256 + b1) * 256 + b2) * 256 + b3 : Nat) : Int) := by
  have e0 : IntKind.u32.wrap (IntKind.u32.wrap (b0 : Int) * 2 ^ 24) = ((b0 * 16777216 : Nat) : Int) := by
    rw [w_u32 (x := (b0 : Int)) (by omega), show (2 : Int) ^ 24 = 16777216 from rfl, w_u32 (by omega)]; omega
  have e1 : IntKind.u32.wrap (IntKind.u32.wrap (b1 : Int) * 2 ^ 16) = ((b1 * 65536 : Nat) : Int) := by
    rw [w_u32 (x := (b1 : Int)) (by omega), show (2 : Int) ^ 16 = 65536 from rfl, w_u32 (by omega)]; omega
  have e2 : IntKind.u32.wrap (IntKind.u32.wrap (b2 : Int) * 2 ^ 8) = ((b2 * 256 : Nat) : Int) := by
    rw [w_u32 (x := (b2 : Int)) (by omega), show (2 : Int) ^ 8 = 256 from rfl, w_u32 (by omega)]; omega
  rw [e0, e1, e2, w_u32 (x := (b3 : Int)) (by omega)]
  have l1 := or_lt (a := b0 * 16777216) (b := b1 * 65536) (by omega) (by omega)
  have l2 := or_lt (a := b0 * 16777216 ||| b1 * 65536) (b := b2 * 256) l1 (by omega)
  rw [bits_or32 (by omega) (by omega), bits_or32 l1 (by omega), bits_or32 l2 (by omega), sh_or h0 h1 h2 h3]
theorem rotl (st : St) (x r : Nat) (R : Int) (hR : R = -(r : Int)) (hx : x < 4294967296) (hr : r ≤ 32) (hs : bits .and .u64 (IntKind.u64.wrap (-(r : Int))) 31 = ((32 - r : Nat) : Int)) (k q : Value → St → Prop) (hk : k (.int .u32 (rotN x r : Nat)) st) :
    ACallF (C base w0 G) 67 [.int .u32 x, .int .i64 R] st k q := by
  subst hR
  exact ACallF.enter Tryd.func67 rfl (by kernel_rfl) (RotateLeft32_spec st x r hx hr hs k q hk)
theorem shr_low (x n : Nat) : ((x : Int) / 2 ^ n) = ((lowN x n : Nat) : Int) := by
  rw [lowN_eq, Int.natCast_ediv, Int.natCast_pow]; rfl
set_option maxRecDepth 10000 in
theorem words_spec (st : St) (r : Hp) (m : List Nat) (B off n c : Nat) (sp : Option Nat) (ow : Bool) (hm : ∀ d ∈ m, d < 256) (hmem : (B, .cells (nl m) 5 ow) ∈ r) (hn : 64 ≤ n) (hoff : off + 64 ≤ m.length) (hO : Own st r) (k q : Value → St → Prop)
    (hk : ∀ st', Own st' r → k (.agg (wl (wsN m off 64)).toArray) st') :
    ACall (C base w0 G) 66 [.slice (some ⟨B, off, sp⟩) n c] st k q := by
  refine ACall.of (cx := C base w0 G) mixed Tryd.func66 rfl (by kernel_rfl) (by simp [Tryd.ntmps66]) ?_
  simp only [Tryd.results66]
  simp (config := { implicitDefEqProofs := false }) only [↓GP, ↓GM, GQ, abuiltinX, ↓awp_seq, ↓awp_block, C_ex, Nat.reduceBEq, acap, afieldAddr, aload, astore, abin, anum, astr, aun, isAggD, cond_true, cond_false, ↓reduceIte, C_P, C_G, isTuple, Value.cells, setL, ares, aresL, ares1, reduceCtorEq, Nat.reduceEqDiff, eq_self, Nat.reduceAdd, if_true, if_false, Go.Abs.one, Nat.reduceLeDiff, undef, gsl, aextract, aindexAddr, amake, implies_true, forall_const, alen, abuiltin, anil, isC, Int.reduceEq, Int.reduceLT, Int.reduceLE, Int.reduceAdd, Int.reduceToNat, Int.reduceNeg, Nat.reduceMul, Nat.reduceSub, abuild, afill, Int.reduceBNe, Int.reduceBEq, aalloc, azc119]
  have hO2 : Own _ ((st.n + 1, .cells (wz []) 119 true) :: (st.n, .cells (wz []) 119 true) :: r) := (hO.new (.cells (wz []) 119 true)).new (.cells (wz []) 119 true)
  rw [← wz_nil]
  refine ⟨fun q ρ s => ∃ i : Nat, q = 16 - i ∧ i ≤ 16 ∧ ρ 0 = .slice (some ⟨B, off, sp⟩) n c ∧ ρ 2 = .pointer (some ⟨st.n, 0, none⟩) ∧ ρ 3 = .pointer (some ⟨st.n + 1, 0, none⟩) ∧ ρ 10 = .int .i64 i ∧
    Own s ((st.n + 1, .cells (wz (wsN m off i)) 119 true) :: (st.n, .cells (wz []) 119 true) :: r), ⟨16, 0, rfl, by decide, rfl, rfl, rfl, rfl, hO2⟩, ?_⟩
  rintro _ ρ s ⟨i, rfl, hi, h0, h2, h3, h10, hs⟩
  have hcw := hs.head
  have hcb := hs.get (List.mem_cons_of_mem _ (List.mem_cons_of_mem _ hmem))
  by_cases him : i < 16
  · have hlw := wsN_length m off i
    have hwl := wz_length (l := wsN m off i) (by omega)
    simp (config := { implicitDefEqProofs := false }) only [↓GP, ↓GM, GQ, abuiltinX, ↓awp_seq, ↓awp_block, C_ex, Nat.reduceBEq, acap, afieldAddr, aload, astore, abin, anum, astr, aun, isAggD, cond_true, cond_false, ↓reduceIte, C_P, C_G, isTuple, Value.cells, setL, ares, aresL, ares1, reduceCtorEq, Nat.reduceEqDiff, eq_self, Nat.reduceAdd, if_true, if_false, Go.Abs.one, Nat.reduceLeDiff, undef, gsl, aextract, aindexAddr, amake, implies_true, forall_const, alen, abuiltin, anil, isC, Int.reduceEq, Int.reduceLT, Int.reduceLE, Int.reduceAdd, Int.reduceToNat, Int.reduceNeg, Nat.reduceMul, Nat.reduceSub, abuild, afill, Int.reduceBNe, Int.reduceBEq, h0, h2, h3, h10, show (i : Int) < 16 by omega, decide_true]
    refine ADraw.of [(0, false, []), (1, false, []), (2, false, []), (3, false, []), (4, false, []), (5, false, []), (6, false, []), (7, false, []), (8, false, []), (9, false, []), (10, false, []), (11, false, []), (12, false, []), (13, false, []), (14, false, []), (15, false, []), (16, false, []), (17, false, []), (18, false, []), (19, false, []), (20, false, []), (21, false, []), (22, false, []), (23, false, []), (24, false, []), (25, false, []), (26, false, []), (27, false, []), (28, false, []), (29, false, []), (30, false, []), (31, false, []), (32, false, []), (33, false, []), (34, false, []), (35, false, [])] [] [] (by kernel_rfl) ?_
    have g0 := nl_get (l := m) (i := off + 4 * i) (by omega)
    have g1 := nl_get (l := m) (i := off + (4 * i + 1)) (by omega)
    have g2 := nl_get (l := m) (i := off + (4 * i + 2)) (by omega)
    have g3 := nl_get (l := m) (i := off + (4 * i + 3)) (by omega)
    have w0 : IntKind.i64.wrap (4 * (i : Int)) = ((4 * i : Nat) : Int) := by rw [w_i64 (by omega)]; omega
    have w1 : IntKind.i64.wrap (((4 * i : Nat) : Int) + 1) = ((4 * i + 1 : Nat) : Int) := by rw [w_i64 (by omega)]; omega
    have w2 : IntKind.i64.wrap (((4 * i : Nat) : Int) + 2) = ((4 * i + 2 : Nat) : Int) := by rw [w_i64 (by omega)]; omega
    have w3 : IntKind.i64.wrap (((4 * i : Nat) : Int) + 3) = ((4 * i + 3 : Nat) : Int) := by rw [w_i64 (by omega)]; omega
    have b0 := getD8 hm (off + 4 * i)
    have b1 := getD8 hm (off + (4 * i + 1))
    have b2 := getD8 hm (off + (4 * i + 2))
    have b3 := getD8 hm (off + (4 * i + 3))
    simp (config := { implicitDefEqProofs := false }) only [↓GP, ↓GM, GQ, abuiltinX, ↓awp_seq, ↓awp_block, C_ex, Nat.reduceBEq, acap, afieldAddr, aload, astore, abin, anum, astr, aun, isAggD, cond_true, cond_false, ↓reduceIte, C_P, C_G, isTuple, Value.cells, setL, ares, aresL, ares1, reduceCtorEq, Nat.reduceEqDiff, eq_self, Nat.reduceAdd, if_true, if_false, Go.Abs.one, Nat.reduceLeDiff, undef, gsl, aextract, aindexAddr, amake, implies_true, forall_const, alen, abuiltin, anil, isC, Int.reduceEq, Int.reduceLT, Int.reduceLE, Int.reduceAdd, Int.reduceToNat, Int.reduceNeg, Nat.reduceMul, Nat.reduceSub, abuild, afill, Int.reduceBNe, Int.reduceBEq, h0, h2, h3, h10, w0, w1, w2, w3, g0, g1, g2, g3, hcb, hcw, asz5, asz101, asz119, Tryd.underlying38, Tryd.underlying5, Tryd.underlying101, Tryd.underlying119, aconv, ashift]
    have hb32 : (IntKind.u32.bits : Int) = 32 := rfl
    refine ⟨by omega, by decide, by omega, by decide, by omega, by decide, by omega, by omega, by omega, 16 - (i + 1), by omega, i + 1, rfl, by omega, by rw [w_i64 (by omega)]; rfl, ?_⟩
    rw [bw_word b0 b1 b2 b3, wz_set hlw (by omega)]
    have e : wsN m off (i + 1) = wsN m off i ++ [((m.getD (off + 4 * i) 0 * 256 + m.getD (off + (4 * i + 1)) 0) * 256 + m.getD (off + (4 * i + 2)) 0) * 256 + m.getD (off + (4 * i + 3)) 0] := by
      rw [wsN, show Nat.blt i 16 = true from Nat.ble_eq_true_of_le him, cond_true, word]; rfl
    rw [e]
    exact hs.set rfl _ rfl
  · obtain rfl : i = 16 := by omega
    simp (config := { implicitDefEqProofs := false }) only [↓GP, ↓GM, GQ, abuiltinX, ↓awp_seq, ↓awp_block, C_ex, Nat.reduceBEq, acap, afieldAddr, aload, astore, abin, anum, astr, aun, isAggD, cond_true, cond_false, ↓reduceIte, C_P, C_G, isTuple, Value.cells, setL, ares, aresL, ares1, reduceCtorEq, Nat.reduceEqDiff, eq_self, Nat.reduceAdd, if_true, if_false, Go.Abs.one, Nat.reduceLeDiff, undef, gsl, aextract, aindexAddr, amake, implies_true, forall_const, alen, abuiltin, anil, isC, Int.reduceEq, Int.reduceLT, Int.reduceLE, Int.reduceAdd, Int.reduceToNat, Int.reduceNeg, Nat.reduceMul, Nat.reduceSub, abuild, afill, Int.reduceBNe, Int.reduceBEq, h0, h2, h3, h10, show ¬ ((16 : Nat) : Int) < 16 by decide, decide_false]
    refine ⟨fun q ρ s => ∃ i : Nat, q = 64 - i ∧ 16 ≤ i ∧ i ≤ 64 ∧ ρ 2 = .pointer (some ⟨st.n, 0, none⟩) ∧ ρ 3 = .pointer (some ⟨st.n + 1, 0, none⟩) ∧ ρ 5 = .int .i64 i ∧
      Own s ((st.n + 1, .cells (wz (wsN m off i)) 119 true) :: (st.n, .cells (wz []) 119 true) :: r), ⟨48, 16, rfl, by decide, by decide, h2, h3, rfl, hs⟩, ?_⟩
    rintro _ ρ s ⟨i, rfl, hi16, hi, h2, h3, h5, hs⟩
    have hcw := hs.head
    by_cases him : i < 64
    · have hlw := wsN_length m off i
      have hlt := wsN_lt hm off i
      have hwl := wz_length (l := wsN m off i) (by omega)
      have g2 := wz_get (l := wsN m off i) (i := i - 2) (by omega)
      have g7 := wz_get (l := wsN m off i) (i := i - 7) (by omega)
      have g15 := wz_get (l := wsN m off i) (i := i - 15) (by omega)
      have g16 := wz_get (l := wsN m off i) (i := i - 16) (by omega)
      have w2 : IntKind.i64.wrap ((i : Int) - 2) = ((i - 2 : Nat) : Int) := by rw [w_i64 (by omega)]; omega
      have w7 : IntKind.i64.wrap ((i : Int) - 7) = ((i - 7 : Nat) : Int) := by rw [w_i64 (by omega)]; omega
      have w15 : IntKind.i64.wrap ((i : Int) - 15) = ((i - 15 : Nat) : Int) := by rw [w_i64 (by omega)]; omega
      have w16 : IntKind.i64.wrap ((i : Int) - 16) = ((i - 16 : Nat) : Int) := by rw [w_i64 (by omega)]; omega
      have l2 := getD32 hlt (i - 2)
      have l15 := getD32 hlt (i - 15)
      simp (config := { implicitDefEqProofs := false }) only [↓GP, ↓GM, GQ, abuiltinX, ↓awp_seq, ↓awp_block, C_ex, Nat.reduceBEq, acap, afieldAddr, aload, astore, abin, anum, astr, aun, isAggD, cond_true, cond_false, ↓reduceIte, C_P, C_G, isTuple, Value.cells, setL, ares, aresL, ares1, reduceCtorEq, Nat.reduceEqDiff, eq_self, Nat.reduceAdd, if_true, if_false, Go.Abs.one, Nat.reduceLeDiff, undef, gsl, aextract, aindexAddr, amake, implies_true, forall_const, alen, abuiltin, anil, isC, Int.reduceEq, Int.reduceLT, Int.reduceLE, Int.reduceAdd, Int.reduceToNat, Int.reduceNeg, Nat.reduceMul, Nat.reduceSub, abuild, afill, Int.reduceBNe, Int.reduceBEq, h2, h3, h5, show (i : Int) < 64 by omega, decide_true]
      refine ADraw.of [(0, false, []), (1, false, []), (2, false, []), (3, false, []), (4, false, []), (5, false, []), (6, false, []), (7, false, []), (8, false, []), (9, false, [])] [] [] (by kernel_rfl) ?_
      simp (config := { implicitDefEqProofs := false }) only [↓GP, ↓GM, GQ, abuiltinX, ↓awp_seq, ↓awp_block, C_ex, Nat.reduceBEq, acap, afieldAddr, aload, astore, abin, anum, astr, aun, isAggD, cond_true, cond_false, ↓reduceIte, C_P, C_G, isTuple, Value.cells, setL, ares, aresL, ares1, reduceCtorEq, Nat.reduceEqDiff, eq_self, Nat.reduceAdd, if_true, if_false, Go.Abs.one, Nat.reduceLeDiff, undef, gsl, aextract, aindexAddr, amake, implies_true, forall_const, alen, abuiltin, anil, isC, Int.reduceEq, Int.reduceLT, Int.reduceLE, Int.reduceAdd, Int.reduceToNat, Int.reduceNeg, Nat.reduceMul, Nat.reduceSub, abuild, afill, Int.reduceBNe, Int.reduceBEq, h2, h3, h5, w2, w15, g2, g15, hcw, asz101, asz119, Tryd.underlying101, Tryd.underlying119]
      refine ⟨by omega, by omega, ?_⟩
      refine rotl s _ 17 _ rfl l2 (by decide) (by decide +kernel) _ _ ?_
      simp (config := { implicitDefEqProofs := false }) only [↓GP, ↓GM, GQ, abuiltinX, ↓awp_seq, ↓awp_block, C_ex, Nat.reduceBEq, acap, afieldAddr, aload, astore, abin, anum, astr, aun, isAggD, cond_true, cond_false, ↓reduceIte, C_P, C_G, isTuple, Value.cells, setL, ares, aresL, ares1, reduceCtorEq, Nat.reduceEqDiff, eq_self, Nat.reduceAdd, if_true, if_false, Go.Abs.one, Nat.reduceLeDiff, undef, gsl, aextract, aindexAddr, amake, implies_true, forall_const, alen, abuiltin, anil, isC, Int.reduceEq, Int.reduceLT, Int.reduceLE, Int.reduceAdd, Int.reduceToNat, Int.reduceNeg, Nat.reduceMul, Nat.reduceSub, abuild, afill, Int.reduceBNe, Int.reduceBEq, h2, h3, h5]
      refine rotl s _ 19 _ rfl l2 (by decide) (by decide +kernel) _ _ ?_
      simp (config := { implicitDefEqProofs := false }) only [↓GP, ↓GM, GQ, abuiltinX, ↓awp_seq, ↓awp_block, C_ex, Nat.reduceBEq, acap, afieldAddr, aload, astore, abin, anum, astr, aun, isAggD, cond_true, cond_false, ↓reduceIte, C_P, C_G, isTuple, Value.cells, setL, ares, aresL, ares1, reduceCtorEq, Nat.reduceEqDiff, eq_self, Nat.reduceAdd, if_true, if_false, Go.Abs.one, Nat.reduceLeDiff, undef, gsl, aextract, aindexAddr, amake, implies_true, forall_const, alen, abuiltin, anil, isC, Int.reduceEq, Int.reduceLT, Int.reduceLE, Int.reduceAdd, Int.reduceToNat, Int.reduceNeg, Nat.reduceMul, Nat.reduceSub, abuild, afill, Int.reduceBNe, Int.reduceBEq, h2, h3, h5, bits_xor32 (rotN_lt l2 17) (rotN_lt l2 19), ashift, shr_low, bits_xor32 (xor_lt (rotN_lt l2 17) (rotN_lt l2 19)) (lowN_lt l2 10), Tryd.underlying101]
      refine ⟨by decide, ?_⟩
      refine rotl s _ 7 _ rfl l15 (by decide) (by decide +kernel) _ _ ?_
      simp (config := { implicitDefEqProofs := false }) only [↓GP, ↓GM, GQ, abuiltinX, ↓awp_seq, ↓awp_block, C_ex, Nat.reduceBEq, acap, afieldAddr, aload, astore, abin, anum, astr, aun, isAggD, cond_true, cond_false, ↓reduceIte, C_P, C_G, isTuple, Value.cells, setL, ares, aresL, ares1, reduceCtorEq, Nat.reduceEqDiff, eq_self, Nat.reduceAdd, if_true, if_false, Go.Abs.one, Nat.reduceLeDiff, undef, gsl, aextract, aindexAddr, amake, implies_true, forall_const, alen, abuiltin, anil, isC, Int.reduceEq, Int.reduceLT, Int.reduceLE, Int.reduceAdd, Int.reduceToNat, Int.reduceNeg, Nat.reduceMul, Nat.reduceSub, abuild, afill, Int.reduceBNe, Int.reduceBEq, h2, h3, h5]
      refine rotl s _ 18 _ rfl l15 (by decide) (by decide +kernel) _ _ ?_
      simp (config := { implicitDefEqProofs := false }) only [↓GP, ↓GM, GQ, abuiltinX, ↓awp_seq, ↓awp_block, C_ex, Nat.reduceBEq, acap, afieldAddr, aload, astore, abin, anum, astr, aun, isAggD, cond_true, cond_false, ↓reduceIte, C_P, C_G, isTuple, Value.cells, setL, ares, aresL, ares1, reduceCtorEq, Nat.reduceEqDiff, eq_self, Nat.reduceAdd, if_true, if_false, Go.Abs.one, Nat.reduceLeDiff, undef, gsl, aextract, aindexAddr, amake, implies_true, forall_const, alen, abuiltin, anil, isC, Int.reduceEq, Int.reduceLT, Int.reduceLE, Int.reduceAdd, Int.reduceToNat, Int.reduceNeg, Nat.reduceMul, Nat.reduceSub, abuild, afill, Int.reduceBNe, Int.reduceBEq, h2, h3, h5, bits_xor32 (rotN_lt l15 7) (rotN_lt l15 18), ashift, shr_low, bits_xor32 (xor_lt (rotN_lt l15 7) (rotN_lt l15 18)) (lowN_lt l15 3), Tryd.underlying101]
      refine ⟨by decide, ?_⟩
      refine ADraw.of [(0, false, []), (1, false, []), (2, false, []), (3, false, []), (4, false, []), (5, false, []), (6, false, []), (7, false, []), (8, false, []), (9, false, []), (10, false, []), (11, false, []), (12, false, []), (13, false, []), (14, false, []), (15, false, [])] [] [] (by kernel_rfl) ?_
      simp (config := { implicitDefEqProofs := false }) only [↓GP, ↓GM, GQ, abuiltinX, ↓awp_seq, ↓awp_block, C_ex, Nat.reduceBEq, acap, afieldAddr, aload, astore, abin, anum, astr, aun, isAggD, cond_true, cond_false, ↓reduceIte, C_P, C_G, isTuple, Value.cells, setL, ares, aresL, ares1, reduceCtorEq, Nat.reduceEqDiff, eq_self, Nat.reduceAdd, if_true, if_false, Go.Abs.one, Nat.reduceLeDiff, undef, gsl, aextract, aindexAddr, amake, implies_true, forall_const, alen, abuiltin, anil, isC, Int.reduceEq, Int.reduceLT, Int.reduceLE, Int.reduceAdd, Int.reduceToNat, Int.reduceNeg, Nat.reduceMul, Nat.reduceSub, abuild, afill, Int.reduceBNe, Int.reduceBEq, h2, h3, h5, w7, w16, g7, g16, hcw, asz101, asz119, Tryd.underlying101, Tryd.underlying119, w_ad]
      refine ⟨by omega, by omega, by omega, by omega, 64 - (i + 1), by omega, i + 1, rfl, by omega, by omega, by rw [w_i64 (by omega)]; rfl, ?_⟩
      have hb : Nat.blt i 16 = false := by
        cases h : Nat.blt i 16 with
        | false => rfl
        | true => exact absurd (Nat.le_of_ble_eq_true h) (by omega)
      rw [wz_set hlw (by omega)]
      rw [wsN, hb, cond_false, wnext, sgB, sgB]
      generalize ad (ad _ _) _ = z
      exact hs.set rfl _ rfl
    · obtain rfl : i = 64 := by omega
      have hcr := hs.get (b := st.n) (o := .cells (wz []) 119 true) (by simp)
      have hne := hs.ne rfl (b' := st.n) (o' := .cells (wz []) 119 true) (by simp)
      have hl64 := wz_length (l := wsN m off 64) (by rw [wsN_length]; decide)
      have hcut := cut_all (wz (wsN m off 64))
      rw [hl64] at hcut
      have hl0 := wz_length (l := []) (by decide)
      have hone : (wz (wsN m off 64)).all one = true := by simp [wz, wl, one]
      simp (config := { implicitDefEqProofs := false }) only [↓GP, ↓GM, GQ, abuiltinX, ↓awp_seq, ↓awp_block, C_ex, Nat.reduceBEq, acap, afieldAddr, aload, astore, abin, anum, astr, aun, isAggD, cond_true, cond_false, ↓reduceIte, C_P, C_G, isTuple, Value.cells, setL, ares, aresL, ares1, reduceCtorEq, Nat.reduceEqDiff, eq_self, Nat.reduceAdd, if_true, if_false, Go.Abs.one, Nat.reduceLeDiff, undef, gsl, aextract, aindexAddr, amake, implies_true, forall_const, alen, abuiltin, anil, isC, Int.reduceEq, Int.reduceLT, Int.reduceLE, Int.reduceAdd, Int.reduceToNat, Int.reduceNeg, Nat.reduceMul, Nat.reduceSub, abuild, afill, Int.reduceBNe, Int.reduceBEq, h2, h3, h5, show ¬ ((64 : Nat) : Int) < 64 by decide, decide_false, hcw, hcr, asz119, Tryd.underlying119, hcut, List.size_toArray, hl64, List.toList_toArray, hone, setL_all _ _ (hl0.trans hl64.symm), hl0]
      have := hk _ (hs.tail.set rfl (.cells (wz (wsN m off 64)) 119 true) rfl).tail
      rw [← wz_full (wsN_length m off 64)] at this
      exact this
end Go.Proofs.YthohmdkibkompaaDoor
