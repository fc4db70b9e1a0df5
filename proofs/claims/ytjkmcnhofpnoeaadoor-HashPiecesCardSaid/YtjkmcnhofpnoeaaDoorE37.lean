/- HashPieces answers true over the abstract heap. No conditions. -/
import Derived.Test.YtjkmcnhofpnoeaaDoorE36
set_option linter.unusedVariables false
set_option linter.unusedSimpArgs false
namespace Go.Proofs.YtjkmcnhofpnoeaaDoor
open Go Go.Abs Go.RowKit
variable {base : Nat} {w0 : World} {G : Nat}

set_option maxHeartbeats 1600000 in
set_option maxRecDepth 10000 in
theorem pieces_spec (st : St) (r : Hp) (bv kv : Value) (b key : List Nat) (z : Int) (ok : Bool) {kt : TypeId} (hb : Nb r bv b) (hx : Exact bv b.length) (hkv : Nb r kv key) (hK : (0, .cells (wl ks0) kt ok) ∈ r) (hO : Own st r) (k q : Value → St → Prop)
    (hk : ∀ st', k (.bool true) st') :
    ACall (C base w0 1) 5 [bv, kv, .int .i64 z] st k q := by
  refine ACall.of (cx := C base w0 1) mixed Tryd.func5 rfl (by kernel_rfl) (by simp [Tryd.ntmps5]) ?_
  simp only [Tryd.results5]
  obtain ⟨aa, ca, hbs⟩ := hb.isSlice
  obtain ⟨ab, cb, hks⟩ := hkv.isSlice
  simp (config := { implicitDefEqProofs := false }) only [↓GP, GQ, ↓awp_seq, ↓awp_block, C_ex, Nat.reduceBEq, acap, afieldAddr, aload, astore, abin, anum, astr, aun, isAggD, cond_true, cond_false, ↓reduceIte, C_P, C_G, isTuple, Value.cells, setL, ares, aresL, ares1, reduceCtorEq, Nat.reduceEqDiff, eq_self, Nat.reduceAdd, if_true, if_false, one, Nat.reduceLeDiff, undef, gsl, aextract, aindexAddr, amake, implies_true, forall_const, alen, abuiltin, anil, isC, Int.reduceEq, Int.reduceLT, Int.reduceLE, Int.reduceAdd, Int.reduceToNat, Int.reduceNeg, Nat.reduceMul, Nat.reduceSub, abuild, afill, Int.reduceBNe, Int.reduceBEq]
  refine ACallF.enter Tryd.func9 rfl (by kernel_rfl) (awake_spec st r ok hK hO _ _ fun s1 hO1 => ?_)
  by_cases hal : 500 < b.length
  · simp (config := { implicitDefEqProofs := false }) only [↓GP, GQ, ↓awp_seq, ↓awp_block, C_ex, Nat.reduceBEq, acap, afieldAddr, aload, astore, abin, anum, astr, aun, isAggD, cond_true, cond_false, ↓reduceIte, C_P, C_G, isTuple, Value.cells, setL, ares, aresL, ares1, reduceCtorEq, Nat.reduceEqDiff, eq_self, Nat.reduceAdd, if_true, if_false, one, Nat.reduceLeDiff, undef, gsl, aextract, aindexAddr, amake, implies_true, forall_const, alen, abuiltin, anil, isC, Int.reduceEq, Int.reduceLT, Int.reduceLE, Int.reduceAdd, Int.reduceToNat, Int.reduceNeg, Nat.reduceMul, Nat.reduceSub, abuild, afill, Int.reduceBNe, Int.reduceBEq, hbs, Tryd.underlying23, show (b.length : Int) > 500 by omega, decide_true]
    refine ACallF.enter Tryd.func9 rfl (by kernel_rfl) (awake_spec s1 r ok hK hO1 _ _ fun s2 hO2 => ?_)
    simp (config := { implicitDefEqProofs := false }) only [↓GP, GQ, ↓awp_seq, ↓awp_block, C_ex, Nat.reduceBEq, acap, afieldAddr, aload, astore, abin, anum, astr, aun, isAggD, cond_true, cond_false, ↓reduceIte, C_P, C_G, isTuple, Value.cells, setL, ares, aresL, ares1, reduceCtorEq, Nat.reduceEqDiff, eq_self, Nat.reduceAdd, if_true, if_false, one, Nat.reduceLeDiff, undef, gsl, aextract, aindexAddr, amake, implies_true, forall_const, alen, abuiltin, anil, isC, Int.reduceEq, Int.reduceLT, Int.reduceLE, Int.reduceAdd, Int.reduceToNat, Int.reduceNeg, Nat.reduceMul, Nat.reduceSub, abuild, afill, Int.reduceBNe, Int.reduceBEq]
    exact hk _
  by_cases hbl : 300 < key.length
  · simp (config := { implicitDefEqProofs := false }) only [↓GP, GQ, ↓awp_seq, ↓awp_block, C_ex, Nat.reduceBEq, acap, afieldAddr, aload, astore, abin, anum, astr, aun, isAggD, cond_true, cond_false, ↓reduceIte, C_P, C_G, isTuple, Value.cells, setL, ares, aresL, ares1, reduceCtorEq, Nat.reduceEqDiff, eq_self, Nat.reduceAdd, if_true, if_false, one, Nat.reduceLeDiff, undef, gsl, aextract, aindexAddr, amake, implies_true, forall_const, alen, abuiltin, anil, isC, Int.reduceEq, Int.reduceLT, Int.reduceLE, Int.reduceAdd, Int.reduceToNat, Int.reduceNeg, Nat.reduceMul, Nat.reduceSub, abuild, afill, Int.reduceBNe, Int.reduceBEq, hbs, hks, Tryd.underlying23, show ¬ (b.length : Int) > 500 by omega, show (key.length : Int) > 300 by omega, decide_true, decide_false]
    refine ACallF.enter Tryd.func9 rfl (by kernel_rfl) (awake_spec s1 r ok hK hO1 _ _ fun s2 hO2 => ?_)
    simp (config := { implicitDefEqProofs := false }) only [↓GP, GQ, ↓awp_seq, ↓awp_block, C_ex, Nat.reduceBEq, acap, afieldAddr, aload, astore, abin, anum, astr, aun, isAggD, cond_true, cond_false, ↓reduceIte, C_P, C_G, isTuple, Value.cells, setL, ares, aresL, ares1, reduceCtorEq, Nat.reduceEqDiff, eq_self, Nat.reduceAdd, if_true, if_false, one, Nat.reduceLeDiff, undef, gsl, aextract, aindexAddr, amake, implies_true, forall_const, alen, abuiltin, anil, isC, Int.reduceEq, Int.reduceLT, Int.reduceLE, Int.reduceAdd, Int.reduceToNat, Int.reduceNeg, Nat.reduceMul, Nat.reduceSub, abuild, afill, Int.reduceBNe, Int.reduceBEq]
    exact hk _
  have hw1 : IntKind.i64.wrap ((b.length : Int) + 1) = ((b.length + 1 : Nat) : Int) := by rw [w_i64 (by omega)]; rfl
  obtain ⟨κ, hκ, hκ2⟩ : ∃ κ : Nat, (IntKind.i64.wrap (IntKind.i64.wrap (z.tmod ((b.length + 1 : Nat) : Int) + (b.length : Int)) + 1)).tmod ((b.length + 1 : Nat) : Int) = (κ : Int) ∧ κ ≤ b.length := by
    have hp : (0 : Int) < ((b.length + 1 : Nat) : Int) := by omega
    have h1 := Int.tmod_lt_of_pos z hp
    have h2 := Int.lt_tmod_of_pos z hp
    have e1 : IntKind.i64.wrap (z.tmod ((b.length + 1 : Nat) : Int) + (b.length : Int)) = z.tmod ((b.length + 1 : Nat) : Int) + (b.length : Int) := w_i64 (by omega)
    have e2 : IntKind.i64.wrap (z.tmod ((b.length + 1 : Nat) : Int) + (b.length : Int) + 1) = z.tmod ((b.length + 1 : Nat) : Int) + (b.length : Int) + 1 := w_i64 (by omega)
    rw [e1, e2]
    have h3 := Int.tmod_lt_of_pos (z.tmod ((b.length + 1 : Nat) : Int) + (b.length : Int) + 1) hp
    have h4 := Int.tmod_nonneg ((b.length + 1 : Nat) : Int) (show 0 ≤ z.tmod ((b.length + 1 : Nat) : Int) + (b.length : Int) + 1 by omega)
    exact ⟨_, (Int.toNat_of_nonneg h4).symm, by omega⟩
  simp (config := { implicitDefEqProofs := false }) only [↓GP, GQ, ↓awp_seq, ↓awp_block, C_ex, Nat.reduceBEq, acap, afieldAddr, aload, astore, abin, anum, astr, aun, isAggD, cond_true, cond_false, ↓reduceIte, C_P, C_G, isTuple, Value.cells, setL, ares, aresL, ares1, reduceCtorEq, Nat.reduceEqDiff, eq_self, Nat.reduceAdd, if_true, if_false, one, Nat.reduceLeDiff, undef, gsl, aextract, aindexAddr, amake, implies_true, forall_const, alen, abuiltin, anil, isC, Int.reduceEq, Int.reduceLT, Int.reduceLE, Int.reduceAdd, Int.reduceToNat, Int.reduceNeg, Nat.reduceMul, Nat.reduceSub, abuild, afill, Int.reduceBNe, Int.reduceBEq, hbs, hks, Tryd.underlying23, show ¬ (b.length : Int) > 500 by omega, show ¬ (key.length : Int) > 300 by omega, decide_true, decide_false, hw1, show ¬ ((b.length + 1 : Nat) : Int) = 0 by omega, hκ]
  obtain ⟨⟨v1, hv1, hn1⟩, v2, hv2, hn2⟩ := nb_parts hb hx hκ2
  have h7 : Value.int .i64 κ = .int .i64 κ := rfl
  have hfl1 : flat [(bv, b)] = b := by simp [flat]
  have hfl2 : flat [(v1, b.take κ), (v2, b.drop κ)] = b := by simp [flat]
  have hfl3 : flat [(v1, b.take κ), (.slice none 0 0, []), (v2, b.drop κ)] = b := by simp [flat]
  have hdl := digest_length b
  have hdd := digest_lt b
  have hml := mac_length key b
  have hmd := mac_lt key b
  obtain ⟨S1, hS1⟩ : ∃ S, S = strOf ((digest b).map fun n : Nat => (n : Int)) := ⟨_, rfl⟩
  obtain ⟨S2, hS2⟩ : ∃ S, S = strOf ((mac key b).map fun n : Nat => (n : Int)) := ⟨_, rfl⟩
  refine ADraw.facts [some 35, some 36, some 37, some 38, some 39, some 40, some 41, some 42, some 43, some 44, some 45, some 46, some 47, some 48, some 49, some 50, some 51, some 52, some 53, some 54, some 55, some 56, some 57, some 58, some 59, some 60, some 61, some 62, some 63, some 64, some 65, some 66] [[], [], [0, 1], [], [], [3, 4], [0, 1, 2, 3, 4, 5], [0, 1, 2, 3, 4, 5, 6], [0, 1, 2, 3, 4, 5, 6, 7], [], [9], [0, 1, 2, 3, 4, 5, 6, 7, 9, 10], [0, 1, 2, 3, 4, 5, 6, 7, 9, 10, 11], [0, 1, 2, 3, 4, 5, 6, 7, 8, 9, 10, 11, 12], [0, 1, 2, 3, 4, 5, 6, 7, 8, 9, 10, 11, 12, 13], [0, 1, 2, 3, 4, 5, 6, 7, 8, 9, 10, 11, 12, 13, 14], [0, 1, 2, 3, 4, 5, 6, 7, 8, 9, 10, 11, 12, 13, 14], [0, 1, 2, 3, 4, 5, 6, 7, 8, 9, 10, 11, 12, 13, 14], [0, 1, 2, 3, 4, 5, 6, 7, 8, 9, 10, 11, 12, 13, 14, 16, 17], [0, 1, 2, 3, 4, 5, 6, 7, 8, 9, 10, 11, 12, 13, 14], [0, 1, 2, 3, 4, 5, 6, 7, 8, 9, 10, 11, 12, 13, 14], [0, 1, 2, 3, 4, 5, 6, 7, 8, 9, 10, 11, 12, 13, 14, 19, 20], [0, 1, 2, 3, 4, 5, 6, 7, 8, 9, 10, 11, 12, 13, 14, 16, 17, 18, 19, 20, 21], [0, 1, 2, 3, 4, 5, 6, 7, 8, 9, 10, 11, 12, 13, 14, 15, 16, 17, 18, 19, 20, 21, 22], [0, 1, 2, 3, 4, 5, 6, 7, 8, 9, 10, 11, 12, 13, 14, 15, 16, 17, 18, 19, 20, 21, 22, 23], [0, 1, 2, 3, 4, 5, 6, 7, 8, 9, 10, 11, 12, 13, 14], [0, 1, 2, 3, 4, 5, 6, 7, 8, 9, 10, 11, 12, 13, 14], [0, 1, 2, 3, 4, 5, 6, 7, 8, 9, 10, 11, 12, 13, 14, 26], [0, 1, 2, 3, 4, 5, 6, 7, 8, 9, 10, 11, 12, 13, 14, 15, 16, 17, 18, 19, 20, 21, 22, 23, 25, 26, 27], [0, 1, 2, 3, 4, 5, 6, 7, 8, 9, 10, 11, 12, 13, 14, 15, 16, 17, 18, 19, 20, 21, 22, 23, 25, 26, 27, 28], [0, 1, 2, 3, 4, 5, 6, 7, 8, 9, 10, 11, 12, 13, 14, 15, 16, 17, 18, 19, 20, 21, 22, 23, 24, 25, 26, 27, 28, 29], [0, 1, 2, 3, 4, 5, 6, 7, 8, 9, 10, 11, 12, 13, 14, 15, 16, 17, 18, 19, 20, 21, 22, 23, 24, 25, 26, 27, 28, 29, 30]] [[], [], [], [], [], [], [], [], [], [], [], [], [], [], [], [], [], [], [], [], [], [], [], [], [], [], [], [], [], [], [], []] [.eq bv, .eq (.int .i64 κ), .eq v1, .eq bv, .eq (.int .i64 κ), .eq v2, fPs [(v1, b.take κ), (v2, b.drop κ)], fNb (digest b), .eq (.string S1), .eq bv, fPs [(bv, b)], fNb (digest b), .eq (.string S1), .eq (.bool false), .eq (.bool false), .eq kv, .eq bv, .eq (.int .i64 κ), .eq v1, .eq bv, .eq (.int .i64 κ), .eq v2, fPs [(v1, b.take κ), (.slice none 0 0, []), (v2, b.drop κ)], fNb (mac key b), .eq (.string S2), .eq kv, .eq bv, fPs [(bv, b)], fNb (mac key b), .eq (.string S2), .eq (.bool false), .eq (.bool false)] [] hO1 (by kernel_rfl) (Steps.cons ?_ (Steps.cons ?_ (Steps.cons ?_ (Steps.cons ?_ (Steps.cons ?_ (Steps.cons ?_ (Steps.cons ?_ (Steps.cons ?_ (Steps.cons ?_ (Steps.cons ?_ (Steps.cons ?_ (Steps.cons ?_ (Steps.cons ?_ (Steps.cons ?_ (Steps.cons ?_ (Steps.cons ?_ (Steps.cons ?_ (Steps.cons ?_ (Steps.cons ?_ (Steps.cons ?_ (Steps.cons ?_ (Steps.cons ?_ (Steps.cons ?_ (Steps.cons ?_ (Steps.cons ?_ (Steps.cons ?_ (Steps.cons ?_ (Steps.cons ?_ (Steps.cons ?_ (Steps.cons ?_ (Steps.cons ?_ (Steps.cons ?_ Steps.nil)))))))))))))))))))))))))))))))) ?_
  · intro ρ s ow R X hB0 hF0 hP0 hO hX0 hR0
    have b0 := (hB0 0 rfl).trans hbs.symm
    replace hO : Own s X := hO
    simp (config := { implicitDefEqProofs := false }) only [↓GP, GQ, ↓awp_seq, ↓awp_block, C_ex, Nat.reduceBEq, acap, afieldAddr, aload, astore, abin, anum, astr, aun, isAggD, cond_true, cond_false, ↓reduceIte, C_P, C_G, isTuple, Value.cells, setL, ares, aresL, ares1, reduceCtorEq, Nat.reduceEqDiff, eq_self, Nat.reduceAdd, if_true, if_false, one, Nat.reduceLeDiff, undef, gsl, aextract, aindexAddr, amake, implies_true, forall_const, alen, abuiltin, anil, isC, Int.reduceEq, Int.reduceLT, Int.reduceLE, Int.reduceAdd, Int.reduceToNat, Int.reduceNeg, Nat.reduceMul, Nat.reduceSub, abuild, afill, Int.reduceBNe, Int.reduceBEq, b0]
    exact Gives.here hO ⟨rfl, rfl⟩
  · intro ρ s ow R X hB0 hF0 hP0 hO hX0 hR0
    have b7 := (hB0 7 rfl).trans h7
    replace hO : Own s X := hO
    simp (config := { implicitDefEqProofs := false }) only [↓GP, GQ, ↓awp_seq, ↓awp_block, C_ex, Nat.reduceBEq, acap, afieldAddr, aload, astore, abin, anum, astr, aun, isAggD, cond_true, cond_false, ↓reduceIte, C_P, C_G, isTuple, Value.cells, setL, ares, aresL, ares1, reduceCtorEq, Nat.reduceEqDiff, eq_self, Nat.reduceAdd, if_true, if_false, one, Nat.reduceLeDiff, undef, gsl, aextract, aindexAddr, amake, implies_true, forall_const, alen, abuiltin, anil, isC, Int.reduceEq, Int.reduceLT, Int.reduceLE, Int.reduceAdd, Int.reduceToNat, Int.reduceNeg, Nat.reduceMul, Nat.reduceSub, abuild, afill, Int.reduceBNe, Int.reduceBEq, b7]
    exact Gives.here hO ⟨rfl, rfl⟩
  · intro ρ s ow R X hB0 hF0 hP0 hO hX0 hR0
    have g0 : ρ 35 = bv := (hF0 0 35 rfl rfl).2
    have g1 : ρ 36 = (.int .i64 κ) := (hF0 1 36 rfl rfl).2
    replace hO : Own s X := hO
    simp (config := { implicitDefEqProofs := false }) only [↓GP, GQ, ↓awp_seq, ↓awp_block, C_ex, Nat.reduceBEq, acap, afieldAddr, aload, astore, abin, anum, astr, aun, isAggD, cond_true, cond_false, ↓reduceIte, C_P, C_G, isTuple, Value.cells, setL, ares, aresL, ares1, reduceCtorEq, Nat.reduceEqDiff, eq_self, Nat.reduceAdd, if_true, if_false, one, Nat.reduceLeDiff, undef, gsl, aextract, aindexAddr, amake, implies_true, forall_const, alen, abuiltin, anil, isC, Int.reduceEq, Int.reduceLT, Int.reduceLE, Int.reduceAdd, Int.reduceToNat, Int.reduceNeg, Nat.reduceMul, Nat.reduceSub, abuild, afill, Int.reduceBNe, Int.reduceBEq, g0, g1, hv1]
    exact Gives.here hO ⟨rfl, rfl⟩
  · intro ρ s ow R X hB0 hF0 hP0 hO hX0 hR0
    have b0 := (hB0 0 rfl).trans hbs.symm
    replace hO : Own s X := hO
    simp (config := { implicitDefEqProofs := false }) only [↓GP, GQ, ↓awp_seq, ↓awp_block, C_ex, Nat.reduceBEq, acap, afieldAddr, aload, astore, abin, anum, astr, aun, isAggD, cond_true, cond_false, ↓reduceIte, C_P, C_G, isTuple, Value.cells, setL, ares, aresL, ares1, reduceCtorEq, Nat.reduceEqDiff, eq_self, Nat.reduceAdd, if_true, if_false, one, Nat.reduceLeDiff, undef, gsl, aextract, aindexAddr, amake, implies_true, forall_const, alen, abuiltin, anil, isC, Int.reduceEq, Int.reduceLT, Int.reduceLE, Int.reduceAdd, Int.reduceToNat, Int.reduceNeg, Nat.reduceMul, Nat.reduceSub, abuild, afill, Int.reduceBNe, Int.reduceBEq, b0]
    exact Gives.here hO ⟨rfl, rfl⟩
  · intro ρ s ow R X hB0 hF0 hP0 hO hX0 hR0
    have b7 := (hB0 7 rfl).trans h7
    replace hO : Own s X := hO
    simp (config := { implicitDefEqProofs := false }) only [↓GP, GQ, ↓awp_seq, ↓awp_block, C_ex, Nat.reduceBEq, acap, afieldAddr, aload, astore, abin, anum, astr, aun, isAggD, cond_true, cond_false, ↓reduceIte, C_P, C_G, isTuple, Value.cells, setL, ares, aresL, ares1, reduceCtorEq, Nat.reduceEqDiff, eq_self, Nat.reduceAdd, if_true, if_false, one, Nat.reduceLeDiff, undef, gsl, aextract, aindexAddr, amake, implies_true, forall_const, alen, abuiltin, anil, isC, Int.reduceEq, Int.reduceLT, Int.reduceLE, Int.reduceAdd, Int.reduceToNat, Int.reduceNeg, Nat.reduceMul, Nat.reduceSub, abuild, afill, Int.reduceBNe, Int.reduceBEq, b7]
    exact Gives.here hO ⟨rfl, rfl⟩
  · intro ρ s ow R X hB0 hF0 hP0 hO hX0 hR0
    have g3 : ρ 38 = bv := (hF0 3 38 rfl rfl).2
    have g4 : ρ 39 = (.int .i64 κ) := (hF0 4 39 rfl rfl).2
    replace hO : Own s X := hO
    simp (config := { implicitDefEqProofs := false }) only [↓GP, GQ, ↓awp_seq, ↓awp_block, C_ex, Nat.reduceBEq, acap, afieldAddr, aload, astore, abin, anum, astr, aun, isAggD, cond_true, cond_false, ↓reduceIte, C_P, C_G, isTuple, Value.cells, setL, ares, aresL, ares1, reduceCtorEq, Nat.reduceEqDiff, eq_self, Nat.reduceAdd, if_true, if_false, one, Nat.reduceLeDiff, undef, gsl, aextract, aindexAddr, amake, implies_true, forall_const, alen, abuiltin, anil, isC, Int.reduceEq, Int.reduceLT, Int.reduceLE, Int.reduceAdd, Int.reduceToNat, Int.reduceNeg, Nat.reduceMul, Nat.reduceSub, abuild, afill, Int.reduceBNe, Int.reduceBEq, g3, g4, hv2]
    exact Gives.here hO ⟨rfl, rfl⟩
  · intro ρ s ow R X hB0 hF0 hP0 hO hX0 hR0
    have g2 : ρ 37 = v1 := (hF0 2 37 rfl rfl).2
    have g5 : ρ 40 = v2 := (hF0 5 40 rfl rfl).2
    replace hO : Own s X := hO
    simp (config := { implicitDefEqProofs := false }) only [↓GP, GQ, ↓awp_seq, ↓awp_block, C_ex, Nat.reduceBEq, acap, afieldAddr, aload, astore, abin, anum, astr, aun, isAggD, cond_true, cond_false, ↓reduceIte, C_P, C_G, isTuple, Value.cells, setL, ares, aresL, ares1, reduceCtorEq, Nat.reduceEqDiff, eq_self, Nat.reduceAdd, if_true, if_false, one, Nat.reduceLeDiff, undef, gsl, aextract, aindexAddr, amake, implies_true, forall_const, alen, abuiltin, anil, isC, Int.reduceEq, Int.reduceLT, Int.reduceLE, Int.reduceAdd, Int.reduceToNat, Int.reduceNeg, Nat.reduceMul, Nat.reduceSub, abuild, afill, Int.reduceBNe, Int.reduceBEq, g2, g5, build2v hn1.sl hn2.sl]
    have hs := fun e he => hR0 e he
    exact Gives.all [(s.n, .cells [v1, v2] 23 true)] (hO.new _) ⟨rfl, ps2 (List.mem_cons_self ..) (hn1.sub fun e he => List.mem_cons_of_mem _ (hR0 e he)) (hn2.sub fun e he => List.mem_cons_of_mem _ (hR0 e he))⟩
  · intro ρ s ow R X hB0 hF0 hP0 hO hX0 hR0
    have g6 : Fact.is (fPs [(v1, b.take κ), (v2, b.drop κ)]) (ow 6) R (ρ 41) := hF0 6 41 rfl rfl
    replace hO : Own s X := hO
    simp (config := { implicitDefEqProofs := false }) only [↓GP, GQ, ↓awp_seq, ↓awp_block, C_ex, Nat.reduceBEq, acap, afieldAddr, aload, astore, abin, anum, astr, aun, isAggD, cond_true, cond_false, ↓reduceIte, C_P, C_G, isTuple, Value.cells, setL, ares, aresL, ares1, reduceCtorEq, Nat.reduceEqDiff, eq_self, Nat.reduceAdd, if_true, if_false, one, Nat.reduceLeDiff, undef, gsl, aextract, aindexAddr, amake, implies_true, forall_const, alen, abuiltin, anil, isC, Int.reduceEq, Int.reduceLT, Int.reduceLE, Int.reduceAdd, Int.reduceToNat, Int.reduceNeg, Nat.reduceMul, Nat.reduceSub, abuild, afill, Int.reduceBNe, Int.reduceBEq]
    refine ACallF.enter Tryd.func10 rfl (by kernel_rfl) (Sum_spec s X (ρ 41) _ ok (kt := kt) (g6.2.sub hX0) (by rw [hfl2]; omega) (show (2 : Nat) ≤ 100000 by decide) (hX0 _ (hR0 _ hK)) hO _ _ fun v hg st' e1 e2 => ?_)
    rw [hfl2] at e1
    exact Gives.all hg e2 ⟨rfl, e1.x.nb hdl.symm hdd⟩
  · intro ρ s ow R X hB0 hF0 hP0 hO hX0 hR0
    have g7 : Fact.is (fNb (digest b)) (ow 7) R (ρ 42) := hF0 7 42 rfl rfl
    replace hO : Own s X := hO
    simp (config := { implicitDefEqProofs := false }) only [↓GP, GQ, ↓awp_seq, ↓awp_block, C_ex, Nat.reduceBEq, acap, afieldAddr, aload, astore, abin, anum, astr, aun, isAggD, cond_true, cond_false, ↓reduceIte, C_P, C_G, isTuple, Value.cells, setL, ares, aresL, ares1, reduceCtorEq, Nat.reduceEqDiff, eq_self, Nat.reduceAdd, if_true, if_false, one, Nat.reduceLeDiff, undef, gsl, aextract, aindexAddr, amake, implies_true, forall_const, alen, abuiltin, anil, isC, Int.reduceEq, Int.reduceLT, Int.reduceLE, Int.reduceAdd, Int.reduceToNat, Int.reduceNeg, Nat.reduceMul, Nat.reduceSub, abuild, afill, Int.reduceBNe, Int.reduceBEq]
    have e := (g7.2.sub hX0).strE hO
    rw [← hS1] at e
    rw [e]
    exact Gives.here hO ⟨rfl, rfl⟩
  · intro ρ s ow R X hB0 hF0 hP0 hO hX0 hR0
    have b0 := (hB0 0 rfl).trans hbs.symm
    replace hO : Own s X := hO
    simp (config := { implicitDefEqProofs := false }) only [↓GP, GQ, ↓awp_seq, ↓awp_block, C_ex, Nat.reduceBEq, acap, afieldAddr, aload, astore, abin, anum, astr, aun, isAggD, cond_true, cond_false, ↓reduceIte, C_P, C_G, isTuple, Value.cells, setL, ares, aresL, ares1, reduceCtorEq, Nat.reduceEqDiff, eq_self, Nat.reduceAdd, if_true, if_false, one, Nat.reduceLeDiff, undef, gsl, aextract, aindexAddr, amake, implies_true, forall_const, alen, abuiltin, anil, isC, Int.reduceEq, Int.reduceLT, Int.reduceLE, Int.reduceAdd, Int.reduceToNat, Int.reduceNeg, Nat.reduceMul, Nat.reduceSub, abuild, afill, Int.reduceBNe, Int.reduceBEq, b0]
    exact Gives.here hO ⟨rfl, rfl⟩
  · intro ρ s ow R X hB0 hF0 hP0 hO hX0 hR0
    have g9 : ρ 44 = bv := (hF0 9 44 rfl rfl).2
    replace hO : Own s X := hO
    simp (config := { implicitDefEqProofs := false }) only [↓GP, GQ, ↓awp_seq, ↓awp_block, C_ex, Nat.reduceBEq, acap, afieldAddr, aload, astore, abin, anum, astr, aun, isAggD, cond_true, cond_false, ↓reduceIte, C_P, C_G, isTuple, Value.cells, setL, ares, aresL, ares1, reduceCtorEq, Nat.reduceEqDiff, eq_self, Nat.reduceAdd, if_true, if_false, one, Nat.reduceLeDiff, undef, gsl, aextract, aindexAddr, amake, implies_true, forall_const, alen, abuiltin, anil, isC, Int.reduceEq, Int.reduceLT, Int.reduceLE, Int.reduceAdd, Int.reduceToNat, Int.reduceNeg, Nat.reduceMul, Nat.reduceSub, abuild, afill, Int.reduceBNe, Int.reduceBEq, g9, build1v hb.sl]
    exact Gives.all [(s.n, .cells [bv] 23 true)] (hO.new _) ⟨rfl, ps1 (List.mem_cons_self ..) (hb.sub fun e he => List.mem_cons_of_mem _ (hR0 e he))⟩
  · intro ρ s ow R X hB0 hF0 hP0 hO hX0 hR0
    have g10 : Fact.is (fPs [(bv, b)]) (ow 10) R (ρ 45) := hF0 10 45 rfl rfl
    replace hO : Own s X := hO
    simp (config := { implicitDefEqProofs := false }) only [↓GP, GQ, ↓awp_seq, ↓awp_block, C_ex, Nat.reduceBEq, acap, afieldAddr, aload, astore, abin, anum, astr, aun, isAggD, cond_true, cond_false, ↓reduceIte, C_P, C_G, isTuple, Value.cells, setL, ares, aresL, ares1, reduceCtorEq, Nat.reduceEqDiff, eq_self, Nat.reduceAdd, if_true, if_false, one, Nat.reduceLeDiff, undef, gsl, aextract, aindexAddr, amake, implies_true, forall_const, alen, abuiltin, anil, isC, Int.reduceEq, Int.reduceLT, Int.reduceLE, Int.reduceAdd, Int.reduceToNat, Int.reduceNeg, Nat.reduceMul, Nat.reduceSub, abuild, afill, Int.reduceBNe, Int.reduceBEq]
    refine ACallF.enter Tryd.func10 rfl (by kernel_rfl) (Sum_spec s X (ρ 45) _ ok (kt := kt) (g10.2.sub hX0) (by rw [hfl1]; omega) (show (1 : Nat) ≤ 100000 by decide) (hX0 _ (hR0 _ hK)) hO _ _ fun v hg st' e1 e2 => ?_)
    rw [hfl1] at e1
    exact Gives.all hg e2 ⟨rfl, e1.x.nb hdl.symm hdd⟩
  · intro ρ s ow R X hB0 hF0 hP0 hO hX0 hR0
    have g11 : Fact.is (fNb (digest b)) (ow 11) R (ρ 46) := hF0 11 46 rfl rfl
    replace hO : Own s X := hO
    simp (config := { implicitDefEqProofs := false }) only [↓GP, GQ, ↓awp_seq, ↓awp_block, C_ex, Nat.reduceBEq, acap, afieldAddr, aload, astore, abin, anum, astr, aun, isAggD, cond_true, cond_false, ↓reduceIte, C_P, C_G, isTuple, Value.cells, setL, ares, aresL, ares1, reduceCtorEq, Nat.reduceEqDiff, eq_self, Nat.reduceAdd, if_true, if_false, one, Nat.reduceLeDiff, undef, gsl, aextract, aindexAddr, amake, implies_true, forall_const, alen, abuiltin, anil, isC, Int.reduceEq, Int.reduceLT, Int.reduceLE, Int.reduceAdd, Int.reduceToNat, Int.reduceNeg, Nat.reduceMul, Nat.reduceSub, abuild, afill, Int.reduceBNe, Int.reduceBEq]
    have e := (g11.2.sub hX0).strE hO
    rw [← hS1] at e
    rw [e]
    exact Gives.here hO ⟨rfl, rfl⟩
  · intro ρ s ow R X hB0 hF0 hP0 hO hX0 hR0
    have g8 : ρ 43 = (.string S1) := (hF0 8 43 rfl rfl).2
    have g12 : ρ 47 = (.string S1) := (hF0 12 47 rfl rfl).2
    replace hO : Own s X := hO
    simp (config := { implicitDefEqProofs := false }) only [↓GP, GQ, ↓awp_seq, ↓awp_block, C_ex, Nat.reduceBEq, acap, afieldAddr, aload, astore, abin, anum, astr, aun, isAggD, cond_true, cond_false, ↓reduceIte, C_P, C_G, isTuple, Value.cells, setL, ares, aresL, ares1, reduceCtorEq, Nat.reduceEqDiff, eq_self, Nat.reduceAdd, if_true, if_false, one, Nat.reduceLeDiff, undef, gsl, aextract, aindexAddr, amake, implies_true, forall_const, alen, abuiltin, anil, isC, Int.reduceEq, Int.reduceLT, Int.reduceLE, Int.reduceAdd, Int.reduceToNat, Int.reduceNeg, Nat.reduceMul, Nat.reduceSub, abuild, afill, Int.reduceBNe, Int.reduceBEq, g8, g12]
    exact Gives.here hO ⟨rfl, rfl⟩
  · intro ρ s ow R X hB0 hF0 hP0 hO hX0 hR0
    have g13 : ρ 48 = (.bool false) := (hF0 13 48 rfl rfl).2
    replace hO : Own s X := hO
    simp (config := { implicitDefEqProofs := false }) only [↓GP, GQ, ↓awp_seq, ↓awp_block, C_ex, Nat.reduceBEq, acap, afieldAddr, aload, astore, abin, anum, astr, aun, isAggD, cond_true, cond_false, ↓reduceIte, C_P, C_G, isTuple, Value.cells, setL, ares, aresL, ares1, reduceCtorEq, Nat.reduceEqDiff, eq_self, Nat.reduceAdd, if_true, if_false, one, Nat.reduceLeDiff, undef, gsl, aextract, aindexAddr, amake, implies_true, forall_const, alen, abuiltin, anil, isC, Int.reduceEq, Int.reduceLT, Int.reduceLE, Int.reduceAdd, Int.reduceToNat, Int.reduceNeg, Nat.reduceMul, Nat.reduceSub, abuild, afill, Int.reduceBNe, Int.reduceBEq, g13]
    exact Gives.here hO ⟨rfl, rfl⟩
  · intro ρ s ow R X hB0 hF0 hP0 hO hX0 hR0
    have b1 := (hB0 1 rfl).trans hks.symm
    have g14 : ρ 49 = (.bool false) := (hF0 14 49 rfl rfl).2
    replace hO : Own s X := hO
    simp (config := { implicitDefEqProofs := false }) only [↓GP, GQ, ↓awp_seq, ↓awp_block, C_ex, Nat.reduceBEq, acap, afieldAddr, aload, astore, abin, anum, astr, aun, isAggD, cond_true, cond_false, ↓reduceIte, C_P, C_G, isTuple, Value.cells, setL, ares, aresL, ares1, reduceCtorEq, Nat.reduceEqDiff, eq_self, Nat.reduceAdd, if_true, if_false, one, Nat.reduceLeDiff, undef, gsl, aextract, aindexAddr, amake, implies_true, forall_const, alen, abuiltin, anil, isC, Int.reduceEq, Int.reduceLT, Int.reduceLE, Int.reduceAdd, Int.reduceToNat, Int.reduceNeg, Nat.reduceMul, Nat.reduceSub, abuild, afill, Int.reduceBNe, Int.reduceBEq, b1, g14]
    exact Gives.here hO ⟨rfl, rfl⟩
  · intro ρ s ow R X hB0 hF0 hP0 hO hX0 hR0
    have b0 := (hB0 0 rfl).trans hbs.symm
    have g14 : ρ 49 = (.bool false) := (hF0 14 49 rfl rfl).2
    replace hO : Own s X := hO
    simp (config := { implicitDefEqProofs := false }) only [↓GP, GQ, ↓awp_seq, ↓awp_block, C_ex, Nat.reduceBEq, acap, afieldAddr, aload, astore, abin, anum, astr, aun, isAggD, cond_true, cond_false, ↓reduceIte, C_P, C_G, isTuple, Value.cells, setL, ares, aresL, ares1, reduceCtorEq, Nat.reduceEqDiff, eq_self, Nat.reduceAdd, if_true, if_false, one, Nat.reduceLeDiff, undef, gsl, aextract, aindexAddr, amake, implies_true, forall_const, alen, abuiltin, anil, isC, Int.reduceEq, Int.reduceLT, Int.reduceLE, Int.reduceAdd, Int.reduceToNat, Int.reduceNeg, Nat.reduceMul, Nat.reduceSub, abuild, afill, Int.reduceBNe, Int.reduceBEq, b0, g14]
    exact Gives.here hO ⟨rfl, rfl⟩
  · intro ρ s ow R X hB0 hF0 hP0 hO hX0 hR0
    have b7 := (hB0 7 rfl).trans h7
    have g14 : ρ 49 = (.bool false) := (hF0 14 49 rfl rfl).2
    replace hO : Own s X := hO
    simp (config := { implicitDefEqProofs := false }) only [↓GP, GQ, ↓awp_seq, ↓awp_block, C_ex, Nat.reduceBEq, acap, afieldAddr, aload, astore, abin, anum, astr, aun, isAggD, cond_true, cond_false, ↓reduceIte, C_P, C_G, isTuple, Value.cells, setL, ares, aresL, ares1, reduceCtorEq, Nat.reduceEqDiff, eq_self, Nat.reduceAdd, if_true, if_false, one, Nat.reduceLeDiff, undef, gsl, aextract, aindexAddr, amake, implies_true, forall_const, alen, abuiltin, anil, isC, Int.reduceEq, Int.reduceLT, Int.reduceLE, Int.reduceAdd, Int.reduceToNat, Int.reduceNeg, Nat.reduceMul, Nat.reduceSub, abuild, afill, Int.reduceBNe, Int.reduceBEq, b7, g14]
    exact Gives.here hO ⟨rfl, rfl⟩
  · intro ρ s ow R X hB0 hF0 hP0 hO hX0 hR0
    have g14 : ρ 49 = (.bool false) := (hF0 14 49 rfl rfl).2
    have g16 : ρ 51 = bv := (hF0 16 51 rfl rfl).2
    have g17 : ρ 52 = (.int .i64 κ) := (hF0 17 52 rfl rfl).2
    replace hO : Own s X := hO
    simp (config := { implicitDefEqProofs := false }) only [↓GP, GQ, ↓awp_seq, ↓awp_block, C_ex, Nat.reduceBEq, acap, afieldAddr, aload, astore, abin, anum, astr, aun, isAggD, cond_true, cond_false, ↓reduceIte, C_P, C_G, isTuple, Value.cells, setL, ares, aresL, ares1, reduceCtorEq, Nat.reduceEqDiff, eq_self, Nat.reduceAdd, if_true, if_false, one, Nat.reduceLeDiff, undef, gsl, aextract, aindexAddr, amake, implies_true, forall_const, alen, abuiltin, anil, isC, Int.reduceEq, Int.reduceLT, Int.reduceLE, Int.reduceAdd, Int.reduceToNat, Int.reduceNeg, Nat.reduceMul, Nat.reduceSub, abuild, afill, Int.reduceBNe, Int.reduceBEq, g14, g16, g17, hv1]
    exact Gives.here hO ⟨rfl, rfl⟩
  · intro ρ s ow R X hB0 hF0 hP0 hO hX0 hR0
    have b0 := (hB0 0 rfl).trans hbs.symm
    have g14 : ρ 49 = (.bool false) := (hF0 14 49 rfl rfl).2
    replace hO : Own s X := hO
    simp (config := { implicitDefEqProofs := false }) only [↓GP, GQ, ↓awp_seq, ↓awp_block, C_ex, Nat.reduceBEq, acap, afieldAddr, aload, astore, abin, anum, astr, aun, isAggD, cond_true, cond_false, ↓reduceIte, C_P, C_G, isTuple, Value.cells, setL, ares, aresL, ares1, reduceCtorEq, Nat.reduceEqDiff, eq_self, Nat.reduceAdd, if_true, if_false, one, Nat.reduceLeDiff, undef, gsl, aextract, aindexAddr, amake, implies_true, forall_const, alen, abuiltin, anil, isC, Int.reduceEq, Int.reduceLT, Int.reduceLE, Int.reduceAdd, Int.reduceToNat, Int.reduceNeg, Nat.reduceMul, Nat.reduceSub, abuild, afill, Int.reduceBNe, Int.reduceBEq, b0, g14]
    exact Gives.here hO ⟨rfl, rfl⟩
  · intro ρ s ow R X hB0 hF0 hP0 hO hX0 hR0
    have b7 := (hB0 7 rfl).trans h7
    have g14 : ρ 49 = (.bool false) := (hF0 14 49 rfl rfl).2
    replace hO : Own s X := hO
    simp (config := { implicitDefEqProofs := false }) only [↓GP, GQ, ↓awp_seq, ↓awp_block, C_ex, Nat.reduceBEq, acap, afieldAddr, aload, astore, abin, anum, astr, aun, isAggD, cond_true, cond_false, ↓reduceIte, C_P, C_G, isTuple, Value.cells, setL, ares, aresL, ares1, reduceCtorEq, Nat.reduceEqDiff, eq_self, Nat.reduceAdd, if_true, if_false, one, Nat.reduceLeDiff, undef, gsl, aextract, aindexAddr, amake, implies_true, forall_const, alen, abuiltin, anil, isC, Int.reduceEq, Int.reduceLT, Int.reduceLE, Int.reduceAdd, Int.reduceToNat, Int.reduceNeg, Nat.reduceMul, Nat.reduceSub, abuild, afill, Int.reduceBNe, Int.reduceBEq, b7, g14]
    exact Gives.here hO ⟨rfl, rfl⟩
  · intro ρ s ow R X hB0 hF0 hP0 hO hX0 hR0
    have g14 : ρ 49 = (.bool false) := (hF0 14 49 rfl rfl).2
    have g19 : ρ 54 = bv := (hF0 19 54 rfl rfl).2
    have g20 : ρ 55 = (.int .i64 κ) := (hF0 20 55 rfl rfl).2
    replace hO : Own s X := hO
    simp (config := { implicitDefEqProofs := false }) only [↓GP, GQ, ↓awp_seq, ↓awp_block, C_ex, Nat.reduceBEq, acap, afieldAddr, aload, astore, abin, anum, astr, aun, isAggD, cond_true, cond_false, ↓reduceIte, C_P, C_G, isTuple, Value.cells, setL, ares, aresL, ares1, reduceCtorEq, Nat.reduceEqDiff, eq_self, Nat.reduceAdd, if_true, if_false, one, Nat.reduceLeDiff, undef, gsl, aextract, aindexAddr, amake, implies_true, forall_const, alen, abuiltin, anil, isC, Int.reduceEq, Int.reduceLT, Int.reduceLE, Int.reduceAdd, Int.reduceToNat, Int.reduceNeg, Nat.reduceMul, Nat.reduceSub, abuild, afill, Int.reduceBNe, Int.reduceBEq, g14, g19, g20, hv2]
    exact Gives.here hO ⟨rfl, rfl⟩
  · intro ρ s ow R X hB0 hF0 hP0 hO hX0 hR0
    have g14 : ρ 49 = (.bool false) := (hF0 14 49 rfl rfl).2
    have g18 : ρ 53 = v1 := (hF0 18 53 rfl rfl).2
    have g21 : ρ 56 = v2 := (hF0 21 56 rfl rfl).2
    replace hO : Own s X := hO
    simp (config := { implicitDefEqProofs := false }) only [↓GP, GQ, ↓awp_seq, ↓awp_block, C_ex, Nat.reduceBEq, acap, afieldAddr, aload, astore, abin, anum, astr, aun, isAggD, cond_true, cond_false, ↓reduceIte, C_P, C_G, isTuple, Value.cells, setL, ares, aresL, ares1, reduceCtorEq, Nat.reduceEqDiff, eq_self, Nat.reduceAdd, if_true, if_false, one, Nat.reduceLeDiff, undef, gsl, aextract, aindexAddr, amake, implies_true, forall_const, alen, abuiltin, anil, isC, Int.reduceEq, Int.reduceLT, Int.reduceLE, Int.reduceAdd, Int.reduceToNat, Int.reduceNeg, Nat.reduceMul, Nat.reduceSub, abuild, afill, Int.reduceBNe, Int.reduceBEq, g14, g18, g21, build3v hn1.sl ⟨none, 0, 0, rfl⟩ hn2.sl]
    exact Gives.all [(s.n, .cells [v1, .slice none 0 0, v2] 23 true)] (hO.new _) ⟨rfl, ps3 (List.mem_cons_self ..) (hn1.sub fun e he => List.mem_cons_of_mem _ (hR0 e he)) nb_nil (hn2.sub fun e he => List.mem_cons_of_mem _ (hR0 e he))⟩
  · intro ρ s ow R X hB0 hF0 hP0 hO hX0 hR0
    have g14 : ρ 49 = (.bool false) := (hF0 14 49 rfl rfl).2
    have g15 : ρ 50 = kv := (hF0 15 50 rfl rfl).2
    have g22 : Fact.is (fPs [(v1, b.take κ), (.slice none 0 0, []), (v2, b.drop κ)]) (ow 22) R (ρ 57) := hF0 22 57 rfl rfl
    replace hO : Own s X := hO
    simp (config := { implicitDefEqProofs := false }) only [↓GP, GQ, ↓awp_seq, ↓awp_block, C_ex, Nat.reduceBEq, acap, afieldAddr, aload, astore, abin, anum, astr, aun, isAggD, cond_true, cond_false, ↓reduceIte, C_P, C_G, isTuple, Value.cells, setL, ares, aresL, ares1, reduceCtorEq, Nat.reduceEqDiff, eq_self, Nat.reduceAdd, if_true, if_false, one, Nat.reduceLeDiff, undef, gsl, aextract, aindexAddr, amake, implies_true, forall_const, alen, abuiltin, anil, isC, Int.reduceEq, Int.reduceLT, Int.reduceLE, Int.reduceAdd, Int.reduceToNat, Int.reduceNeg, Nat.reduceMul, Nat.reduceSub, abuild, afill, Int.reduceBNe, Int.reduceBEq, g14, g15]
    refine ACallF.enter Tryd.func13 rfl (by kernel_rfl) (Mac_spec s X kv (ρ 57) key _ ok (kt := kt) (hkv.sub fun e he => hX0 _ (hR0 e he)) (g22.2.sub hX0) (by omega) (by rw [hfl3]; omega) (show (3 : Nat) ≤ 50000 by decide) (hX0 _ (hR0 _ hK)) hO _ _ fun v hg st' e1 e2 => ?_)
    rw [hfl3] at e1
    exact Gives.all hg e2 ⟨rfl, e1.x.nb hml.symm hmd⟩
  · intro ρ s ow R X hB0 hF0 hP0 hO hX0 hR0
    have g14 : ρ 49 = (.bool false) := (hF0 14 49 rfl rfl).2
    have g23 : Fact.is (fNb (mac key b)) (ow 23) R (ρ 58) := hF0 23 58 rfl rfl
    replace hO : Own s X := hO
    simp (config := { implicitDefEqProofs := false }) only [↓GP, GQ, ↓awp_seq, ↓awp_block, C_ex, Nat.reduceBEq, acap, afieldAddr, aload, astore, abin, anum, astr, aun, isAggD, cond_true, cond_false, ↓reduceIte, C_P, C_G, isTuple, Value.cells, setL, ares, aresL, ares1, reduceCtorEq, Nat.reduceEqDiff, eq_self, Nat.reduceAdd, if_true, if_false, one, Nat.reduceLeDiff, undef, gsl, aextract, aindexAddr, amake, implies_true, forall_const, alen, abuiltin, anil, isC, Int.reduceEq, Int.reduceLT, Int.reduceLE, Int.reduceAdd, Int.reduceToNat, Int.reduceNeg, Nat.reduceMul, Nat.reduceSub, abuild, afill, Int.reduceBNe, Int.reduceBEq, g14]
    have e := (g23.2.sub hX0).strE hO
    rw [← hS2] at e
    rw [e]
    exact Gives.here hO ⟨rfl, rfl⟩
  · intro ρ s ow R X hB0 hF0 hP0 hO hX0 hR0
    have b1 := (hB0 1 rfl).trans hks.symm
    have g14 : ρ 49 = (.bool false) := (hF0 14 49 rfl rfl).2
    replace hO : Own s X := hO
    simp (config := { implicitDefEqProofs := false }) only [↓GP, GQ, ↓awp_seq, ↓awp_block, C_ex, Nat.reduceBEq, acap, afieldAddr, aload, astore, abin, anum, astr, aun, isAggD, cond_true, cond_false, ↓reduceIte, C_P, C_G, isTuple, Value.cells, setL, ares, aresL, ares1, reduceCtorEq, Nat.reduceEqDiff, eq_self, Nat.reduceAdd, if_true, if_false, one, Nat.reduceLeDiff, undef, gsl, aextract, aindexAddr, amake, implies_true, forall_const, alen, abuiltin, anil, isC, Int.reduceEq, Int.reduceLT, Int.reduceLE, Int.reduceAdd, Int.reduceToNat, Int.reduceNeg, Nat.reduceMul, Nat.reduceSub, abuild, afill, Int.reduceBNe, Int.reduceBEq, b1, g14]
    exact Gives.here hO ⟨rfl, rfl⟩
  · intro ρ s ow R X hB0 hF0 hP0 hO hX0 hR0
    have b0 := (hB0 0 rfl).trans hbs.symm
    have g14 : ρ 49 = (.bool false) := (hF0 14 49 rfl rfl).2
    replace hO : Own s X := hO
    simp (config := { implicitDefEqProofs := false }) only [↓GP, GQ, ↓awp_seq, ↓awp_block, C_ex, Nat.reduceBEq, acap, afieldAddr, aload, astore, abin, anum, astr, aun, isAggD, cond_true, cond_false, ↓reduceIte, C_P, C_G, isTuple, Value.cells, setL, ares, aresL, ares1, reduceCtorEq, Nat.reduceEqDiff, eq_self, Nat.reduceAdd, if_true, if_false, one, Nat.reduceLeDiff, undef, gsl, aextract, aindexAddr, amake, implies_true, forall_const, alen, abuiltin, anil, isC, Int.reduceEq, Int.reduceLT, Int.reduceLE, Int.reduceAdd, Int.reduceToNat, Int.reduceNeg, Nat.reduceMul, Nat.reduceSub, abuild, afill, Int.reduceBNe, Int.reduceBEq, b0, g14]
    exact Gives.here hO ⟨rfl, rfl⟩
  · intro ρ s ow R X hB0 hF0 hP0 hO hX0 hR0
    have g14 : ρ 49 = (.bool false) := (hF0 14 49 rfl rfl).2
    have g26 : ρ 61 = bv := (hF0 26 61 rfl rfl).2
    replace hO : Own s X := hO
    simp (config := { implicitDefEqProofs := false }) only [↓GP, GQ, ↓awp_seq, ↓awp_block, C_ex, Nat.reduceBEq, acap, afieldAddr, aload, astore, abin, anum, astr, aun, isAggD, cond_true, cond_false, ↓reduceIte, C_P, C_G, isTuple, Value.cells, setL, ares, aresL, ares1, reduceCtorEq, Nat.reduceEqDiff, eq_self, Nat.reduceAdd, if_true, if_false, one, Nat.reduceLeDiff, undef, gsl, aextract, aindexAddr, amake, implies_true, forall_const, alen, abuiltin, anil, isC, Int.reduceEq, Int.reduceLT, Int.reduceLE, Int.reduceAdd, Int.reduceToNat, Int.reduceNeg, Nat.reduceMul, Nat.reduceSub, abuild, afill, Int.reduceBNe, Int.reduceBEq, g14, g26, build1v hb.sl]
    exact Gives.all [(s.n, .cells [bv] 23 true)] (hO.new _) ⟨rfl, ps1 (List.mem_cons_self ..) (hb.sub fun e he => List.mem_cons_of_mem _ (hR0 e he))⟩
  · intro ρ s ow R X hB0 hF0 hP0 hO hX0 hR0
    have g14 : ρ 49 = (.bool false) := (hF0 14 49 rfl rfl).2
    have g25 : ρ 60 = kv := (hF0 25 60 rfl rfl).2
    have g27 : Fact.is (fPs [(bv, b)]) (ow 27) R (ρ 62) := hF0 27 62 rfl rfl
    replace hO : Own s X := hO
    simp (config := { implicitDefEqProofs := false }) only [↓GP, GQ, ↓awp_seq, ↓awp_block, C_ex, Nat.reduceBEq, acap, afieldAddr, aload, astore, abin, anum, astr, aun, isAggD, cond_true, cond_false, ↓reduceIte, C_P, C_G, isTuple, Value.cells, setL, ares, aresL, ares1, reduceCtorEq, Nat.reduceEqDiff, eq_self, Nat.reduceAdd, if_true, if_false, one, Nat.reduceLeDiff, undef, gsl, aextract, aindexAddr, amake, implies_true, forall_const, alen, abuiltin, anil, isC, Int.reduceEq, Int.reduceLT, Int.reduceLE, Int.reduceAdd, Int.reduceToNat, Int.reduceNeg, Nat.reduceMul, Nat.reduceSub, abuild, afill, Int.reduceBNe, Int.reduceBEq, g14, g25]
    refine ACallF.enter Tryd.func13 rfl (by kernel_rfl) (Mac_spec s X kv (ρ 62) key _ ok (kt := kt) (hkv.sub fun e he => hX0 _ (hR0 e he)) (g27.2.sub hX0) (by omega) (by rw [hfl1]; omega) (show (1 : Nat) ≤ 50000 by decide) (hX0 _ (hR0 _ hK)) hO _ _ fun v hg st' e1 e2 => ?_)
    rw [hfl1] at e1
    exact Gives.all hg e2 ⟨rfl, e1.x.nb hml.symm hmd⟩
  · intro ρ s ow R X hB0 hF0 hP0 hO hX0 hR0
    have g14 : ρ 49 = (.bool false) := (hF0 14 49 rfl rfl).2
    have g28 : Fact.is (fNb (mac key b)) (ow 28) R (ρ 63) := hF0 28 63 rfl rfl
    replace hO : Own s X := hO
    simp (config := { implicitDefEqProofs := false }) only [↓GP, GQ, ↓awp_seq, ↓awp_block, C_ex, Nat.reduceBEq, acap, afieldAddr, aload, astore, abin, anum, astr, aun, isAggD, cond_true, cond_false, ↓reduceIte, C_P, C_G, isTuple, Value.cells, setL, ares, aresL, ares1, reduceCtorEq, Nat.reduceEqDiff, eq_self, Nat.reduceAdd, if_true, if_false, one, Nat.reduceLeDiff, undef, gsl, aextract, aindexAddr, amake, implies_true, forall_const, alen, abuiltin, anil, isC, Int.reduceEq, Int.reduceLT, Int.reduceLE, Int.reduceAdd, Int.reduceToNat, Int.reduceNeg, Nat.reduceMul, Nat.reduceSub, abuild, afill, Int.reduceBNe, Int.reduceBEq, g14]
    have e := (g28.2.sub hX0).strE hO
    rw [← hS2] at e
    rw [e]
    exact Gives.here hO ⟨rfl, rfl⟩
  · intro ρ s ow R X hB0 hF0 hP0 hO hX0 hR0
    have g14 : ρ 49 = (.bool false) := (hF0 14 49 rfl rfl).2
    have g24 : ρ 59 = (.string S2) := (hF0 24 59 rfl rfl).2
    have g29 : ρ 64 = (.string S2) := (hF0 29 64 rfl rfl).2
    replace hO : Own s X := hO
    simp (config := { implicitDefEqProofs := false }) only [↓GP, GQ, ↓awp_seq, ↓awp_block, C_ex, Nat.reduceBEq, acap, afieldAddr, aload, astore, abin, anum, astr, aun, isAggD, cond_true, cond_false, ↓reduceIte, C_P, C_G, isTuple, Value.cells, setL, ares, aresL, ares1, reduceCtorEq, Nat.reduceEqDiff, eq_self, Nat.reduceAdd, if_true, if_false, one, Nat.reduceLeDiff, undef, gsl, aextract, aindexAddr, amake, implies_true, forall_const, alen, abuiltin, anil, isC, Int.reduceEq, Int.reduceLT, Int.reduceLE, Int.reduceAdd, Int.reduceToNat, Int.reduceNeg, Nat.reduceMul, Nat.reduceSub, abuild, afill, Int.reduceBNe, Int.reduceBEq, g14, g24, g29]
    exact Gives.here hO ⟨rfl, rfl⟩
  · intro ρ s ow R X hB0 hF0 hP0 hO hX0 hR0
    have g14 : ρ 49 = (.bool false) := (hF0 14 49 rfl rfl).2
    have g30 : ρ 65 = (.bool false) := (hF0 30 65 rfl rfl).2
    replace hO : Own s X := hO
    simp (config := { implicitDefEqProofs := false }) only [↓GP, GQ, ↓awp_seq, ↓awp_block, C_ex, Nat.reduceBEq, acap, afieldAddr, aload, astore, abin, anum, astr, aun, isAggD, cond_true, cond_false, ↓reduceIte, C_P, C_G, isTuple, Value.cells, setL, ares, aresL, ares1, reduceCtorEq, Nat.reduceEqDiff, eq_self, Nat.reduceAdd, if_true, if_false, one, Nat.reduceLeDiff, undef, gsl, aextract, aindexAddr, amake, implies_true, forall_const, alen, abuiltin, anil, isC, Int.reduceEq, Int.reduceLT, Int.reduceLE, Int.reduceAdd, Int.reduceToNat, Int.reduceNeg, Nat.reduceMul, Nat.reduceSub, abuild, afill, Int.reduceBNe, Int.reduceBEq, g14, g30]
    exact Gives.here hO ⟨rfl, rfl⟩
  · intro ρ s ow R hB0 hF0 hO hR0
    have b0 := (hB0 0 rfl).trans hbs.symm
    have b1 := (hB0 1 rfl).trans hks.symm
    have b7 := (hB0 7 rfl).trans h7
    have g31 : ρ 66 = (.bool false) := (hF0 31 66 rfl rfl).2
    simp only [List.flatMap_cons, List.flatMap_nil, List.append_nil, List.nil_append] at hO
    have hOr : Own s r := hO.back (a := []) hR0 hO1
    clear hO hB0 hF0 hR0
    have hO2 := hOr.new (.cells (nl (List.replicate 65 0)) 5 true)
    simp (config := { implicitDefEqProofs := false }) only [↓GP, GQ, ↓awp_seq, ↓awp_block, C_ex, Nat.reduceBEq, acap, afieldAddr, aload, astore, abin, anum, astr, aun, isAggD, cond_true, cond_false, ↓reduceIte, C_P, C_G, isTuple, Value.cells, setL, ares, aresL, ares1, reduceCtorEq, Nat.reduceEqDiff, eq_self, Nat.reduceAdd, if_true, if_false, one, Nat.reduceLeDiff, undef, gsl, aextract, aindexAddr, amake, implies_true, forall_const, alen, abuiltin, anil, isC, Int.reduceEq, Int.reduceLT, Int.reduceLE, Int.reduceAdd, Int.reduceToNat, Int.reduceNeg, Nat.reduceMul, Nat.reduceSub, abuild, afill, Int.reduceBNe, Int.reduceBEq, b0, b1, b7, g31, Tryd.underlying23, asz5, azc5, aby5, zeros]
    refine ⟨by decide, ?_⟩
    rw [show (List.replicate 65 [Value.int IntKind.u8 0]).flatten = nl (List.replicate 65 0) from rfl]
    refine append_room (l := List.replicate 65 0) rfl (fun d hd => by rw [(List.mem_replicate.1 hd).2]; decide) hkv (by decide) (by omega) hO2 fun lv s2 R2 hOl hin hlv => ?_
    have hLl : (List.replicate 65 0 ++ key).length = 65 + key.length := by rw [List.length_append, List.length_replicate]
    have hmm := mac_long (l := List.replicate 65 0 ++ key) (b := b) (by rw [hLl]; omega)
    generalize List.replicate 65 0 ++ key = L at *
    simp (config := { implicitDefEqProofs := false }) only [↓GP, GQ, ↓awp_seq, ↓awp_block, C_ex, Nat.reduceBEq, acap, afieldAddr, aload, astore, abin, anum, astr, aun, isAggD, cond_true, cond_false, ↓reduceIte, C_P, C_G, isTuple, Value.cells, setL, ares, aresL, ares1, reduceCtorEq, Nat.reduceEqDiff, eq_self, Nat.reduceAdd, if_true, if_false, one, Nat.reduceLeDiff, undef, gsl, aextract, aindexAddr, amake, implies_true, forall_const, alen, abuiltin, anil, isC, Int.reduceEq, Int.reduceLT, Int.reduceLE, Int.reduceAdd, Int.reduceToNat, Int.reduceNeg, Nat.reduceMul, Nat.reduceSub, abuild, afill, Int.reduceBNe, Int.reduceBEq, b0, b1, b7]
    have hb2 := hb.sub hin
    have hK2 := hin _ hK
    have hdL := digest_length L
    have hdd2 := digest_lt L
    have hml1 := mac_length L b
    have hmd1 := mac_lt L b
    have hml2 := mac_length (digest L) b
    have hmd2 := mac_lt (digest L) b
    have hfl4 : flat [(lv, L)] = L := by simp [flat]
    obtain ⟨S3, hS3⟩ : ∃ S, S = strOf ((mac L b).map fun n : Nat => (n : Int)) := ⟨_, rfl⟩
    have hS4 := hS3
    rw [hmm] at hS4
    have h8 : lv = lv := rfl
    refine ADraw.facts [some 70, some 71, some 72, some 73, some 74, some 75, some 76, some 77, some 78, some 79, some 80, some 81, some 82, some 83, some 84, some 85, some 86, some 87, some 6] [[], [], [1], [0, 1, 2], [0, 1, 2, 3], [], [5], [0, 1, 2, 3, 5, 6], [], [8], [0, 1, 2, 3, 5, 6, 7, 8, 9], [0, 1, 2, 3, 5, 6, 7, 8, 9, 10], [0, 1, 2, 3, 4, 5, 6, 7, 8, 9, 10, 11], [0, 1, 2, 3, 4, 5, 6, 7, 8, 9, 10, 11, 12], [0, 1, 2, 3, 4, 5, 6, 7, 8, 9, 10, 11, 12, 13], [0, 1, 2, 3, 4, 5, 6, 7, 8, 9, 10, 11, 12, 13, 14], [0, 1, 2, 3, 4, 5, 6, 7, 8, 9, 10, 11, 12, 13, 14, 15], [0, 1, 2, 3, 4, 5, 6, 7, 8, 9, 10, 11, 12, 13, 14, 15, 16], [0, 1, 2, 3, 4, 5, 6, 7, 8, 9, 10, 11, 12, 13, 14, 15, 16, 17]] [[], [], [], [], [], [], [], [], [], [], [], [], [], [], [], [], [], [], []] [.eq lv, .eq bv, fPs [(bv, b)], fNb (mac L b), .eq (.string S3), .eq lv, fPs [(lv, L)], fNb (digest L), .eq bv, fPs [(bv, b)], fNb (mac (digest L) b), .eq (.string S3), .eq (.bool true), .eq (.bool true), fNb (digest []), .eq (.int .i64 32), .eq (.bool true), .eq (.bool true), .eq (.bool true)] [] hOl (by kernel_rfl) (Steps.cons ?_ (Steps.cons ?_ (Steps.cons ?_ (Steps.cons ?_ (Steps.cons ?_ (Steps.cons ?_ (Steps.cons ?_ (Steps.cons ?_ (Steps.cons ?_ (Steps.cons ?_ (Steps.cons ?_ (Steps.cons ?_ (Steps.cons ?_ (Steps.cons ?_ (Steps.cons ?_ (Steps.cons ?_ (Steps.cons ?_ (Steps.cons ?_ (Steps.cons ?_ Steps.nil))))))))))))))))))) ?_
    · intro ρ s ow R X hB0 hF0 hP0 hO hX0 hR0
      have b8 := (hB0 8 rfl).trans h8
      replace hO : Own s X := hO
      simp (config := { implicitDefEqProofs := false }) only [↓GP, GQ, ↓awp_seq, ↓awp_block, C_ex, Nat.reduceBEq, acap, afieldAddr, aload, astore, abin, anum, astr, aun, isAggD, cond_true, cond_false, ↓reduceIte, C_P, C_G, isTuple, Value.cells, setL, ares, aresL, ares1, reduceCtorEq, Nat.reduceEqDiff, eq_self, Nat.reduceAdd, if_true, if_false, one, Nat.reduceLeDiff, undef, gsl, aextract, aindexAddr, amake, implies_true, forall_const, alen, abuiltin, anil, isC, Int.reduceEq, Int.reduceLT, Int.reduceLE, Int.reduceAdd, Int.reduceToNat, Int.reduceNeg, Nat.reduceMul, Nat.reduceSub, abuild, afill, Int.reduceBNe, Int.reduceBEq, b8]
      exact Gives.here hO ⟨rfl, rfl⟩
    · intro ρ s ow R X hB0 hF0 hP0 hO hX0 hR0
      have b0 := (hB0 0 rfl).trans b0
      replace hO : Own s X := hO
      simp (config := { implicitDefEqProofs := false }) only [↓GP, GQ, ↓awp_seq, ↓awp_block, C_ex, Nat.reduceBEq, acap, afieldAddr, aload, astore, abin, anum, astr, aun, isAggD, cond_true, cond_false, ↓reduceIte, C_P, C_G, isTuple, Value.cells, setL, ares, aresL, ares1, reduceCtorEq, Nat.reduceEqDiff, eq_self, Nat.reduceAdd, if_true, if_false, one, Nat.reduceLeDiff, undef, gsl, aextract, aindexAddr, amake, implies_true, forall_const, alen, abuiltin, anil, isC, Int.reduceEq, Int.reduceLT, Int.reduceLE, Int.reduceAdd, Int.reduceToNat, Int.reduceNeg, Nat.reduceMul, Nat.reduceSub, abuild, afill, Int.reduceBNe, Int.reduceBEq, b0]
      exact Gives.here hO ⟨rfl, rfl⟩
    · intro ρ s ow R X hB0 hF0 hP0 hO hX0 hR0
      have g1 : ρ 71 = bv := (hF0 1 71 rfl rfl).2
      replace hO : Own s X := hO
      simp (config := { implicitDefEqProofs := false }) only [↓GP, GQ, ↓awp_seq, ↓awp_block, C_ex, Nat.reduceBEq, acap, afieldAddr, aload, astore, abin, anum, astr, aun, isAggD, cond_true, cond_false, ↓reduceIte, C_P, C_G, isTuple, Value.cells, setL, ares, aresL, ares1, reduceCtorEq, Nat.reduceEqDiff, eq_self, Nat.reduceAdd, if_true, if_false, one, Nat.reduceLeDiff, undef, gsl, aextract, aindexAddr, amake, implies_true, forall_const, alen, abuiltin, anil, isC, Int.reduceEq, Int.reduceLT, Int.reduceLE, Int.reduceAdd, Int.reduceToNat, Int.reduceNeg, Nat.reduceMul, Nat.reduceSub, abuild, afill, Int.reduceBNe, Int.reduceBEq, g1, build1v hb.sl]
      exact Gives.all [(s.n, .cells [bv] 23 true)] (hO.new _) ⟨rfl, ps1 (List.mem_cons_self ..) (hb2.sub fun e he => List.mem_cons_of_mem _ (hR0 e he))⟩
    · intro ρ s ow R X hB0 hF0 hP0 hO hX0 hR0
      have g0 : ρ 70 = lv := (hF0 0 70 rfl rfl).2
      have g2 : Fact.is (fPs [(bv, b)]) (ow 2) R (ρ 72) := hF0 2 72 rfl rfl
      replace hO : Own s X := hO
      simp (config := { implicitDefEqProofs := false }) only [↓GP, GQ, ↓awp_seq, ↓awp_block, C_ex, Nat.reduceBEq, acap, afieldAddr, aload, astore, abin, anum, astr, aun, isAggD, cond_true, cond_false, ↓reduceIte, C_P, C_G, isTuple, Value.cells, setL, ares, aresL, ares1, reduceCtorEq, Nat.reduceEqDiff, eq_self, Nat.reduceAdd, if_true, if_false, one, Nat.reduceLeDiff, undef, gsl, aextract, aindexAddr, amake, implies_true, forall_const, alen, abuiltin, anil, isC, Int.reduceEq, Int.reduceLT, Int.reduceLE, Int.reduceAdd, Int.reduceToNat, Int.reduceNeg, Nat.reduceMul, Nat.reduceSub, abuild, afill, Int.reduceBNe, Int.reduceBEq, g0]
      refine ACallF.enter Tryd.func13 rfl (by kernel_rfl) (Mac_spec s X lv (ρ 72) L _ ok (kt := kt) (hlv.sub fun e he => hX0 _ (hR0 e he)) (g2.2.sub hX0) (by omega) (by rw [hfl1]; omega) (show (1 : Nat) ≤ 50000 by decide) (hX0 _ (hR0 _ hK2)) hO _ _ fun v hg st' e1 e2 => ?_)
      rw [hfl1] at e1
      exact Gives.all hg e2 ⟨rfl, e1.x.nb hml1.symm hmd1⟩
    · intro ρ s ow R X hB0 hF0 hP0 hO hX0 hR0
      have g3 : Fact.is (fNb (mac L b)) (ow 3) R (ρ 73) := hF0 3 73 rfl rfl
      replace hO : Own s X := hO
      simp (config := { implicitDefEqProofs := false }) only [↓GP, GQ, ↓awp_seq, ↓awp_block, C_ex, Nat.reduceBEq, acap, afieldAddr, aload, astore, abin, anum, astr, aun, isAggD, cond_true, cond_false, ↓reduceIte, C_P, C_G, isTuple, Value.cells, setL, ares, aresL, ares1, reduceCtorEq, Nat.reduceEqDiff, eq_self, Nat.reduceAdd, if_true, if_false, one, Nat.reduceLeDiff, undef, gsl, aextract, aindexAddr, amake, implies_true, forall_const, alen, abuiltin, anil, isC, Int.reduceEq, Int.reduceLT, Int.reduceLE, Int.reduceAdd, Int.reduceToNat, Int.reduceNeg, Nat.reduceMul, Nat.reduceSub, abuild, afill, Int.reduceBNe, Int.reduceBEq]
      have e := (g3.2.sub hX0).strE hO
      rw [← hS3] at e
      rw [e]
      exact Gives.here hO ⟨rfl, rfl⟩
    · intro ρ s ow R X hB0 hF0 hP0 hO hX0 hR0
      have b8 := (hB0 8 rfl).trans h8
      replace hO : Own s X := hO
      simp (config := { implicitDefEqProofs := false }) only [↓GP, GQ, ↓awp_seq, ↓awp_block, C_ex, Nat.reduceBEq, acap, afieldAddr, aload, astore, abin, anum, astr, aun, isAggD, cond_true, cond_false, ↓reduceIte, C_P, C_G, isTuple, Value.cells, setL, ares, aresL, ares1, reduceCtorEq, Nat.reduceEqDiff, eq_self, Nat.reduceAdd, if_true, if_false, one, Nat.reduceLeDiff, undef, gsl, aextract, aindexAddr, amake, implies_true, forall_const, alen, abuiltin, anil, isC, Int.reduceEq, Int.reduceLT, Int.reduceLE, Int.reduceAdd, Int.reduceToNat, Int.reduceNeg, Nat.reduceMul, Nat.reduceSub, abuild, afill, Int.reduceBNe, Int.reduceBEq, b8]
      exact Gives.here hO ⟨rfl, rfl⟩
    · intro ρ s ow R X hB0 hF0 hP0 hO hX0 hR0
      have g5 : ρ 75 = lv := (hF0 5 75 rfl rfl).2
      replace hO : Own s X := hO
      simp (config := { implicitDefEqProofs := false }) only [↓GP, GQ, ↓awp_seq, ↓awp_block, C_ex, Nat.reduceBEq, acap, afieldAddr, aload, astore, abin, anum, astr, aun, isAggD, cond_true, cond_false, ↓reduceIte, C_P, C_G, isTuple, Value.cells, setL, ares, aresL, ares1, reduceCtorEq, Nat.reduceEqDiff, eq_self, Nat.reduceAdd, if_true, if_false, one, Nat.reduceLeDiff, undef, gsl, aextract, aindexAddr, amake, implies_true, forall_const, alen, abuiltin, anil, isC, Int.reduceEq, Int.reduceLT, Int.reduceLE, Int.reduceAdd, Int.reduceToNat, Int.reduceNeg, Nat.reduceMul, Nat.reduceSub, abuild, afill, Int.reduceBNe, Int.reduceBEq, g5, build1v hlv.sl]
      exact Gives.all [(s.n, .cells [lv] 23 true)] (hO.new _) ⟨rfl, ps1 (List.mem_cons_self ..) (hlv.sub fun e he => List.mem_cons_of_mem _ (hR0 e he))⟩
    · intro ρ s ow R X hB0 hF0 hP0 hO hX0 hR0
      have g6 : Fact.is (fPs [(lv, L)]) (ow 6) R (ρ 76) := hF0 6 76 rfl rfl
      replace hO : Own s X := hO
      simp (config := { implicitDefEqProofs := false }) only [↓GP, GQ, ↓awp_seq, ↓awp_block, C_ex, Nat.reduceBEq, acap, afieldAddr, aload, astore, abin, anum, astr, aun, isAggD, cond_true, cond_false, ↓reduceIte, C_P, C_G, isTuple, Value.cells, setL, ares, aresL, ares1, reduceCtorEq, Nat.reduceEqDiff, eq_self, Nat.reduceAdd, if_true, if_false, one, Nat.reduceLeDiff, undef, gsl, aextract, aindexAddr, amake, implies_true, forall_const, alen, abuiltin, anil, isC, Int.reduceEq, Int.reduceLT, Int.reduceLE, Int.reduceAdd, Int.reduceToNat, Int.reduceNeg, Nat.reduceMul, Nat.reduceSub, abuild, afill, Int.reduceBNe, Int.reduceBEq]
      refine ACallF.enter Tryd.func10 rfl (by kernel_rfl) (Sum_spec s X (ρ 76) _ ok (kt := kt) (g6.2.sub hX0) (by rw [hfl4]; omega) (show (1 : Nat) ≤ 100000 by decide) (hX0 _ (hR0 _ hK2)) hO _ _ fun v hg st' e1 e2 => ?_)
      rw [hfl4] at e1
      exact Gives.all hg e2 ⟨rfl, e1.x.nb hdL.symm hdd2⟩
    · intro ρ s ow R X hB0 hF0 hP0 hO hX0 hR0
      have b0 := (hB0 0 rfl).trans b0
      replace hO : Own s X := hO
      simp (config := { implicitDefEqProofs := false }) only [↓GP, GQ, ↓awp_seq, ↓awp_block, C_ex, Nat.reduceBEq, acap, afieldAddr, aload, astore, abin, anum, astr, aun, isAggD, cond_true, cond_false, ↓reduceIte, C_P, C_G, isTuple, Value.cells, setL, ares, aresL, ares1, reduceCtorEq, Nat.reduceEqDiff, eq_self, Nat.reduceAdd, if_true, if_false, one, Nat.reduceLeDiff, undef, gsl, aextract, aindexAddr, amake, implies_true, forall_const, alen, abuiltin, anil, isC, Int.reduceEq, Int.reduceLT, Int.reduceLE, Int.reduceAdd, Int.reduceToNat, Int.reduceNeg, Nat.reduceMul, Nat.reduceSub, abuild, afill, Int.reduceBNe, Int.reduceBEq, b0]
      exact Gives.here hO ⟨rfl, rfl⟩
    · intro ρ s ow R X hB0 hF0 hP0 hO hX0 hR0
      have g8 : ρ 78 = bv := (hF0 8 78 rfl rfl).2
      replace hO : Own s X := hO
      simp (config := { implicitDefEqProofs := false }) only [↓GP, GQ, ↓awp_seq, ↓awp_block, C_ex, Nat.reduceBEq, acap, afieldAddr, aload, astore, abin, anum, astr, aun, isAggD, cond_true, cond_false, ↓reduceIte, C_P, C_G, isTuple, Value.cells, setL, ares, aresL, ares1, reduceCtorEq, Nat.reduceEqDiff, eq_self, Nat.reduceAdd, if_true, if_false, one, Nat.reduceLeDiff, undef, gsl, aextract, aindexAddr, amake, implies_true, forall_const, alen, abuiltin, anil, isC, Int.reduceEq, Int.reduceLT, Int.reduceLE, Int.reduceAdd, Int.reduceToNat, Int.reduceNeg, Nat.reduceMul, Nat.reduceSub, abuild, afill, Int.reduceBNe, Int.reduceBEq, g8, build1v hb.sl]
      exact Gives.all [(s.n, .cells [bv] 23 true)] (hO.new _) ⟨rfl, ps1 (List.mem_cons_self ..) (hb2.sub fun e he => List.mem_cons_of_mem _ (hR0 e he))⟩
    · intro ρ s ow R X hB0 hF0 hP0 hO hX0 hR0
      have g7 : Fact.is (fNb (digest L)) (ow 7) R (ρ 77) := hF0 7 77 rfl rfl
      have g9 : Fact.is (fPs [(bv, b)]) (ow 9) R (ρ 79) := hF0 9 79 rfl rfl
      replace hO : Own s X := hO
      simp (config := { implicitDefEqProofs := false }) only [↓GP, GQ, ↓awp_seq, ↓awp_block, C_ex, Nat.reduceBEq, acap, afieldAddr, aload, astore, abin, anum, astr, aun, isAggD, cond_true, cond_false, ↓reduceIte, C_P, C_G, isTuple, Value.cells, setL, ares, aresL, ares1, reduceCtorEq, Nat.reduceEqDiff, eq_self, Nat.reduceAdd, if_true, if_false, one, Nat.reduceLeDiff, undef, gsl, aextract, aindexAddr, amake, implies_true, forall_const, alen, abuiltin, anil, isC, Int.reduceEq, Int.reduceLT, Int.reduceLE, Int.reduceAdd, Int.reduceToNat, Int.reduceNeg, Nat.reduceMul, Nat.reduceSub, abuild, afill, Int.reduceBNe, Int.reduceBEq]
      refine ACallF.enter Tryd.func13 rfl (by kernel_rfl) (Mac_spec s X (ρ 77) (ρ 79) (digest L) _ ok (kt := kt) (g7.2.sub hX0) (g9.2.sub hX0) (by omega) (by rw [hfl1]; omega) (show (1 : Nat) ≤ 50000 by decide) (hX0 _ (hR0 _ hK2)) hO _ _ fun v hg st' e1 e2 => ?_)
      rw [hfl1] at e1
      exact Gives.all hg e2 ⟨rfl, e1.x.nb hml2.symm hmd2⟩
    · intro ρ s ow R X hB0 hF0 hP0 hO hX0 hR0
      have g10 : Fact.is (fNb (mac (digest L) b)) (ow 10) R (ρ 80) := hF0 10 80 rfl rfl
      replace hO : Own s X := hO
      simp (config := { implicitDefEqProofs := false }) only [↓GP, GQ, ↓awp_seq, ↓awp_block, C_ex, Nat.reduceBEq, acap, afieldAddr, aload, astore, abin, anum, astr, aun, isAggD, cond_true, cond_false, ↓reduceIte, C_P, C_G, isTuple, Value.cells, setL, ares, aresL, ares1, reduceCtorEq, Nat.reduceEqDiff, eq_self, Nat.reduceAdd, if_true, if_false, one, Nat.reduceLeDiff, undef, gsl, aextract, aindexAddr, amake, implies_true, forall_const, alen, abuiltin, anil, isC, Int.reduceEq, Int.reduceLT, Int.reduceLE, Int.reduceAdd, Int.reduceToNat, Int.reduceNeg, Nat.reduceMul, Nat.reduceSub, abuild, afill, Int.reduceBNe, Int.reduceBEq]
      have e := (g10.2.sub hX0).strE hO
      rw [← hS4] at e
      rw [e]
      exact Gives.here hO ⟨rfl, rfl⟩
    · intro ρ s ow R X hB0 hF0 hP0 hO hX0 hR0
      have g4 : ρ 74 = (.string S3) := (hF0 4 74 rfl rfl).2
      have g11 : ρ 81 = (.string S3) := (hF0 11 81 rfl rfl).2
      replace hO : Own s X := hO
      simp (config := { implicitDefEqProofs := false }) only [↓GP, GQ, ↓awp_seq, ↓awp_block, C_ex, Nat.reduceBEq, acap, afieldAddr, aload, astore, abin, anum, astr, aun, isAggD, cond_true, cond_false, ↓reduceIte, C_P, C_G, isTuple, Value.cells, setL, ares, aresL, ares1, reduceCtorEq, Nat.reduceEqDiff, eq_self, Nat.reduceAdd, if_true, if_false, one, Nat.reduceLeDiff, undef, gsl, aextract, aindexAddr, amake, implies_true, forall_const, alen, abuiltin, anil, isC, Int.reduceEq, Int.reduceLT, Int.reduceLE, Int.reduceAdd, Int.reduceToNat, Int.reduceNeg, Nat.reduceMul, Nat.reduceSub, abuild, afill, Int.reduceBNe, Int.reduceBEq, g4, g11]
      exact Gives.here hO ⟨rfl, rfl⟩
    · intro ρ s ow R X hB0 hF0 hP0 hO hX0 hR0
      have g12 : ρ 82 = (.bool true) := (hF0 12 82 rfl rfl).2
      replace hO : Own s X := hO
      simp (config := { implicitDefEqProofs := false }) only [↓GP, GQ, ↓awp_seq, ↓awp_block, C_ex, Nat.reduceBEq, acap, afieldAddr, aload, astore, abin, anum, astr, aun, isAggD, cond_true, cond_false, ↓reduceIte, C_P, C_G, isTuple, Value.cells, setL, ares, aresL, ares1, reduceCtorEq, Nat.reduceEqDiff, eq_self, Nat.reduceAdd, if_true, if_false, one, Nat.reduceLeDiff, undef, gsl, aextract, aindexAddr, amake, implies_true, forall_const, alen, abuiltin, anil, isC, Int.reduceEq, Int.reduceLT, Int.reduceLE, Int.reduceAdd, Int.reduceToNat, Int.reduceNeg, Nat.reduceMul, Nat.reduceSub, abuild, afill, Int.reduceBNe, Int.reduceBEq, g12]
      exact Gives.here hO ⟨rfl, rfl⟩
    · intro ρ s ow R X hB0 hF0 hP0 hO hX0 hR0
      have g13 : ρ 83 = (.bool true) := (hF0 13 83 rfl rfl).2
      replace hO : Own s X := hO
      simp (config := { implicitDefEqProofs := false }) only [↓GP, GQ, ↓awp_seq, ↓awp_block, C_ex, Nat.reduceBEq, acap, afieldAddr, aload, astore, abin, anum, astr, aun, isAggD, cond_true, cond_false, ↓reduceIte, C_P, C_G, isTuple, Value.cells, setL, ares, aresL, ares1, reduceCtorEq, Nat.reduceEqDiff, eq_self, Nat.reduceAdd, if_true, if_false, one, Nat.reduceLeDiff, undef, gsl, aextract, aindexAddr, amake, implies_true, forall_const, alen, abuiltin, anil, isC, Int.reduceEq, Int.reduceLT, Int.reduceLE, Int.reduceAdd, Int.reduceToNat, Int.reduceNeg, Nat.reduceMul, Nat.reduceSub, abuild, afill, Int.reduceBNe, Int.reduceBEq, g13]
      refine ACallF.enter Tryd.func10 rfl (by kernel_rfl) (Sum_spec s X (.slice none 0 0) [] ok (kt := kt) ⟨.inl ⟨rfl, .inl rfl⟩, fun p hp => by simp at hp⟩ (show (0 : Nat) ≤ 100000 by decide) (show (0 : Nat) ≤ 100000 by decide) (hX0 _ (hR0 _ hK2)) hO _ _ fun v hg st' e1 e2 => ?_)
      exact Gives.all hg e2 ⟨rfl, e1.x.nb (digest_length _).symm (digest_lt _)⟩
    · intro ρ s ow R X hB0 hF0 hP0 hO hX0 hR0
      have g13 : ρ 83 = (.bool true) := (hF0 13 83 rfl rfl).2
      have g14 : Fact.is (fNb (digest [])) (ow 14) R (ρ 84) := hF0 14 84 rfl rfl
      replace hO : Own s X := hO
      obtain ⟨a9, c9, e9⟩ := g14.2.isSlice
      have e32 : (digest ([] : List Nat)).length = 32 := digest_length _
      rw [e32] at e9
      simp (config := { implicitDefEqProofs := false }) only [↓GP, GQ, ↓awp_seq, ↓awp_block, C_ex, Nat.reduceBEq, acap, afieldAddr, aload, astore, abin, anum, astr, aun, isAggD, cond_true, cond_false, ↓reduceIte, C_P, C_G, isTuple, Value.cells, setL, ares, aresL, ares1, reduceCtorEq, Nat.reduceEqDiff, eq_self, Nat.reduceAdd, if_true, if_false, one, Nat.reduceLeDiff, undef, gsl, aextract, aindexAddr, amake, implies_true, forall_const, alen, abuiltin, anil, isC, Int.reduceEq, Int.reduceLT, Int.reduceLE, Int.reduceAdd, Int.reduceToNat, Int.reduceNeg, Nat.reduceMul, Nat.reduceSub, abuild, afill, Int.reduceBNe, Int.reduceBEq, g13, e9, Tryd.underlying23]
      exact Gives.here hO ⟨rfl, rfl⟩
    · intro ρ s ow R X hB0 hF0 hP0 hO hX0 hR0
      have g13 : ρ 83 = (.bool true) := (hF0 13 83 rfl rfl).2
      have g15 : ρ 85 = (.int .i64 32) := (hF0 15 85 rfl rfl).2
      replace hO : Own s X := hO
      simp (config := { implicitDefEqProofs := false }) only [↓GP, GQ, ↓awp_seq, ↓awp_block, C_ex, Nat.reduceBEq, acap, afieldAddr, aload, astore, abin, anum, astr, aun, isAggD, cond_true, cond_false, ↓reduceIte, C_P, C_G, isTuple, Value.cells, setL, ares, aresL, ares1, reduceCtorEq, Nat.reduceEqDiff, eq_self, Nat.reduceAdd, if_true, if_false, one, Nat.reduceLeDiff, undef, gsl, aextract, aindexAddr, amake, implies_true, forall_const, alen, abuiltin, anil, isC, Int.reduceEq, Int.reduceLT, Int.reduceLE, Int.reduceAdd, Int.reduceToNat, Int.reduceNeg, Nat.reduceMul, Nat.reduceSub, abuild, afill, Int.reduceBNe, Int.reduceBEq, g13, g15]
      exact Gives.here hO ⟨rfl, rfl⟩
    · intro ρ s ow R X hB0 hF0 hP0 hO hX0 hR0
      have g13 : ρ 83 = (.bool true) := (hF0 13 83 rfl rfl).2
      have g16 : ρ 86 = (.bool true) := (hF0 16 86 rfl rfl).2
      replace hO : Own s X := hO
      simp (config := { implicitDefEqProofs := false }) only [↓GP, GQ, ↓awp_seq, ↓awp_block, C_ex, Nat.reduceBEq, acap, afieldAddr, aload, astore, abin, anum, astr, aun, isAggD, cond_true, cond_false, ↓reduceIte, C_P, C_G, isTuple, Value.cells, setL, ares, aresL, ares1, reduceCtorEq, Nat.reduceEqDiff, eq_self, Nat.reduceAdd, if_true, if_false, one, Nat.reduceLeDiff, undef, gsl, aextract, aindexAddr, amake, implies_true, forall_const, alen, abuiltin, anil, isC, Int.reduceEq, Int.reduceLT, Int.reduceLE, Int.reduceAdd, Int.reduceToNat, Int.reduceNeg, Nat.reduceMul, Nat.reduceSub, abuild, afill, Int.reduceBNe, Int.reduceBEq, g13, g16]
      exact Gives.here hO ⟨rfl, rfl⟩
    · intro ρ s ow R X hB0 hF0 hP0 hO hX0 hR0
      have g17 : ρ 87 = (.bool true) := (hF0 17 87 rfl rfl).2
      replace hO : Own s X := hO
      simp (config := { implicitDefEqProofs := false }) only [↓GP, GQ, ↓awp_seq, ↓awp_block, C_ex, Nat.reduceBEq, acap, afieldAddr, aload, astore, abin, anum, astr, aun, isAggD, cond_true, cond_false, ↓reduceIte, C_P, C_G, isTuple, Value.cells, setL, ares, aresL, ares1, reduceCtorEq, Nat.reduceEqDiff, eq_self, Nat.reduceAdd, if_true, if_false, one, Nat.reduceLeDiff, undef, gsl, aextract, aindexAddr, amake, implies_true, forall_const, alen, abuiltin, anil, isC, Int.reduceEq, Int.reduceLT, Int.reduceLE, Int.reduceAdd, Int.reduceToNat, Int.reduceNeg, Nat.reduceMul, Nat.reduceSub, abuild, afill, Int.reduceBNe, Int.reduceBEq, g17]
      exact Gives.here hO ⟨rfl, rfl⟩
    · intro ρ s ow R hB0 hF0 hO hR0
      have b0 := (hB0 0 rfl).trans b0
      have b1 := (hB0 1 rfl).trans b1
      have b8 := (hB0 8 rfl).trans h8
      have g18 : ρ 6 = (.bool true) := (hF0 18 6 rfl rfl).2
      simp only [List.flatMap_cons, List.flatMap_nil, List.append_nil, List.nil_append] at hO
      simp (config := { implicitDefEqProofs := false }) only [↓GP, GQ, ↓awp_seq, ↓awp_block, C_ex, Nat.reduceBEq, acap, afieldAddr, aload, astore, abin, anum, astr, aun, isAggD, cond_true, cond_false, ↓reduceIte, C_P, C_G, isTuple, Value.cells, setL, ares, aresL, ares1, reduceCtorEq, Nat.reduceEqDiff, eq_self, Nat.reduceAdd, if_true, if_false, one, Nat.reduceLeDiff, undef, gsl, aextract, aindexAddr, amake, implies_true, forall_const, alen, abuiltin, anil, isC, Int.reduceEq, Int.reduceLT, Int.reduceLE, Int.reduceAdd, Int.reduceToNat, Int.reduceNeg, Nat.reduceMul, Nat.reduceSub, abuild, afill, Int.reduceBNe, Int.reduceBEq, g18]
      exact hk _
end Go.Proofs.YtjkmcnhofpnoeaaDoor
