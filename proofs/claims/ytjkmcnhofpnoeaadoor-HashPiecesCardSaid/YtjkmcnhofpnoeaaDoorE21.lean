/- HashSums answers true over the abstract heap. No conditions. -/
import Derived.Test.YtjkmcnhofpnoeaaDoorE20
set_option linter.unusedVariables false
set_option linter.unusedSimpArgs false
namespace Go.Proofs.YtjkmcnhofpnoeaaDoor
open Go Go.Abs Go.RowKit
variable {base : Nat} {w0 : World}

set_option maxHeartbeats 800000 in
set_option maxRecDepth 10000 in
theorem sums_spec (st : St) (r : Hp) (v : Value) (ps : List (Value × List Nat)) (ok : Bool) {kt : TypeId} (hv : Ps r v ps) (hK : (0, .cells (wl ks0) kt ok) ∈ r) (hO : Own st r) (k q : Value → St → Prop)
    (hk : ∀ st', k (.bool true) st') :
    ACall (C base w0 1) 3 [v] st k q := by
  refine ACall.of (cx := C base w0 1) mixed Tryd.func3 rfl (by kernel_rfl) (by simp [Tryd.ntmps3]) ?_
  simp only [Tryd.results3]
  simp (config := { implicitDefEqProofs := false }) only [↓GP, GQ, ↓awp_seq, ↓awp_block, C_ex, Nat.reduceBEq, acap, afieldAddr, aload, astore, abin, anum, astr, aun, isAggD, cond_true, cond_false, ↓reduceIte, C_P, C_G, isTuple, Value.cells, setL, ares, aresL, ares1, reduceCtorEq, Nat.reduceEqDiff, eq_self, Nat.reduceAdd, if_true, if_false, one, Nat.reduceLeDiff, undef, gsl, aextract, aindexAddr, amake, implies_true, forall_const, alen, abuiltin, anil, isC, Int.reduceEq, Int.reduceLT, Int.reduceLE, Int.reduceAdd, Int.reduceToNat, Int.reduceNeg, Nat.reduceMul, Nat.reduceSub, abuild, afill, Int.reduceBNe, Int.reduceBEq]
  refine ACallF.enter Tryd.func8 rfl (by kernel_rfl) (joined_spec st r v ps hv hO _ _ (fun s1 hO1 => ?_) fun va ha s1 h20 h300 hfl hG hO1 => ?_)
  · simp (config := { implicitDefEqProofs := false }) only [↓GP, GQ, ↓awp_seq, ↓awp_block, C_ex, Nat.reduceBEq, acap, afieldAddr, aload, astore, abin, anum, astr, aun, isAggD, cond_true, cond_false, ↓reduceIte, C_P, C_G, isTuple, Value.cells, setL, ares, aresL, ares1, reduceCtorEq, Nat.reduceEqDiff, eq_self, Nat.reduceAdd, if_true, if_false, one, Nat.reduceLeDiff, undef, gsl, aextract, aindexAddr, amake, implies_true, forall_const, alen, abuiltin, anil, isC, Int.reduceEq, Int.reduceLT, Int.reduceLE, Int.reduceAdd, Int.reduceToNat, Int.reduceNeg, Nat.reduceMul, Nat.reduceSub, abuild, afill, Int.reduceBNe, Int.reduceBEq]
    refine ACallF.enter Tryd.func9 rfl (by kernel_rfl) (awake_spec s1 r ok hK hO1 _ _ fun s2 hO2 => ?_)
    simp (config := { implicitDefEqProofs := false }) only [↓GP, GQ, ↓awp_seq, ↓awp_block, C_ex, Nat.reduceBEq, acap, afieldAddr, aload, astore, abin, anum, astr, aun, isAggD, cond_true, cond_false, ↓reduceIte, C_P, C_G, isTuple, Value.cells, setL, ares, aresL, ares1, reduceCtorEq, Nat.reduceEqDiff, eq_self, Nat.reduceAdd, if_true, if_false, one, Nat.reduceLeDiff, undef, gsl, aextract, aindexAddr, amake, implies_true, forall_const, alen, abuiltin, anil, isC, Int.reduceEq, Int.reduceLT, Int.reduceLE, Int.reduceAdd, Int.reduceToNat, Int.reduceNeg, Nat.reduceMul, Nat.reduceSub, abuild, afill, Int.reduceBNe, Int.reduceBEq]
    refine ACallF.enter Tryd.func9 rfl (by kernel_rfl) (awake_spec s2 r ok hK hO2 _ _ fun s3 hO3 => ?_)
    simp (config := { implicitDefEqProofs := false }) only [↓GP, GQ, ↓awp_seq, ↓awp_block, C_ex, Nat.reduceBEq, acap, afieldAddr, aload, astore, abin, anum, astr, aun, isAggD, cond_true, cond_false, ↓reduceIte, C_P, C_G, isTuple, Value.cells, setL, ares, aresL, ares1, reduceCtorEq, Nat.reduceEqDiff, eq_self, Nat.reduceAdd, if_true, if_false, one, Nat.reduceLeDiff, undef, gsl, aextract, aindexAddr, amake, implies_true, forall_const, alen, abuiltin, anil, isC, Int.reduceEq, Int.reduceLT, Int.reduceLE, Int.reduceAdd, Int.reduceToNat, Int.reduceNeg, Nat.reduceMul, Nat.reduceSub, abuild, afill, Int.reduceBNe, Int.reduceBEq]
    exact hk _
  · simp (config := { implicitDefEqProofs := false }) only [↓GP, GQ, ↓awp_seq, ↓awp_block, C_ex, Nat.reduceBEq, acap, afieldAddr, aload, astore, abin, anum, astr, aun, isAggD, cond_true, cond_false, ↓reduceIte, C_P, C_G, isTuple, Value.cells, setL, ares, aresL, ares1, reduceCtorEq, Nat.reduceEqDiff, eq_self, Nat.reduceAdd, if_true, if_false, one, Nat.reduceLeDiff, undef, gsl, aextract, aindexAddr, amake, implies_true, forall_const, alen, abuiltin, anil, isC, Int.reduceEq, Int.reduceLT, Int.reduceLE, Int.reduceAdd, Int.reduceToNat, Int.reduceNeg, Nat.reduceMul, Nat.reduceSub, abuild, afill, Int.reduceBNe, Int.reduceBEq]
    refine ACallF.enter Tryd.func9 rfl (by kernel_rfl) (awake_spec s1 (ha ++ r) ok (List.mem_append_right _ hK) hO1 _ _ fun s2 hO2 => ?_)
    simp (config := { implicitDefEqProofs := false }) only [↓GP, GQ, ↓awp_seq, ↓awp_block, C_ex, Nat.reduceBEq, acap, afieldAddr, aload, astore, abin, anum, astr, aun, isAggD, cond_true, cond_false, ↓reduceIte, C_P, C_G, isTuple, Value.cells, setL, ares, aresL, ares1, reduceCtorEq, Nat.reduceEqDiff, eq_self, Nat.reduceAdd, if_true, if_false, one, Nat.reduceLeDiff, undef, gsl, aextract, aindexAddr, amake, implies_true, forall_const, alen, abuiltin, anil, isC, Int.reduceEq, Int.reduceLT, Int.reduceLE, Int.reduceAdd, Int.reduceToNat, Int.reduceNeg, Nat.reduceMul, Nat.reduceSub, abuild, afill, Int.reduceBNe, Int.reduceBEq]
    refine ADraw.of [(0, false, []), (4, false, []), (1, false, []), (2, true, []), (3, false, [2]), (5, false, [2]), (6, false, []), (7, false, []), (8, false, [])] [2] [(2, 3), (2, 5)] (by kernel_rfl) ?_
    simp (config := { implicitDefEqProofs := false }) only [↓GP, GQ, ↓awp_seq, ↓awp_block, C_ex, Nat.reduceBEq, acap, afieldAddr, aload, astore, abin, anum, astr, aun, isAggD, cond_true, cond_false, ↓reduceIte, C_P, C_G, isTuple, Value.cells, setL, ares, aresL, ares1, reduceCtorEq, Nat.reduceEqDiff, eq_self, Nat.reduceAdd, if_true, if_false, one, Nat.reduceLeDiff, undef, gsl, aextract, aindexAddr, amake, implies_true, forall_const, alen, abuiltin, anil, isC, Int.reduceEq, Int.reduceLT, Int.reduceLE, Int.reduceAdd, Int.reduceToNat, Int.reduceNeg, Nat.reduceMul, Nat.reduceSub, abuild, afill, Int.reduceBNe, Int.reduceBEq]
    have hv2 : Ps (ha ++ r) v ps := hv.sub fun e he => List.mem_append_right _ he
    refine ACallF.enter Tryd.func10 rfl (by kernel_rfl) (Sum_spec s2 _ v ps ok hv2 (by omega) (by omega) (List.mem_append_right _ hK) hO2 _ _ fun vs hs s3 hG3 hO3 => ?_)
    have hsrc3 := GV.src hG3 hO3
    obtain ⟨a3, has⟩ := hG3.isSlice
    simp (config := { implicitDefEqProofs := false }) only [↓GP, GQ, ↓awp_seq, ↓awp_block, C_ex, Nat.reduceBEq, acap, afieldAddr, aload, astore, abin, anum, astr, aun, isAggD, cond_true, cond_false, ↓reduceIte, C_P, C_G, isTuple, Value.cells, setL, ares, aresL, ares1, reduceCtorEq, Nat.reduceEqDiff, eq_self, Nat.reduceAdd, if_true, if_false, one, Nat.reduceLeDiff, undef, gsl, aextract, aindexAddr, amake, implies_true, forall_const, alen, abuiltin, anil, isC, Int.reduceEq, Int.reduceLT, Int.reduceLE, Int.reduceAdd, Int.reduceToNat, Int.reduceNeg, Nat.reduceMul, Nat.reduceSub, abuild, afill, Int.reduceBNe, Int.reduceBEq, aconv_str hsrc3 ⟨_, _, _, has⟩]
    refine ACallF.enter Tryd.func11 rfl (by kernel_rfl) (New_spec s3 _ hO3 _ _ fun Bh Bk s4 hO4 => ?_)
    have hsrc4 := GV.src hG3 hO4.tail.tail
    simp (config := { implicitDefEqProofs := false }) only [↓GP, GQ, ↓awp_seq, ↓awp_block, C_ex, Nat.reduceBEq, acap, afieldAddr, aload, astore, abin, anum, astr, aun, isAggD, cond_true, cond_false, ↓reduceIte, C_P, C_G, isTuple, Value.cells, setL, ares, aresL, ares1, reduceCtorEq, Nat.reduceEqDiff, eq_self, Nat.reduceAdd, if_true, if_false, one, Nat.reduceLeDiff, undef, gsl, aextract, aindexAddr, amake, implies_true, forall_const, alen, abuiltin, anil, isC, Int.reduceEq, Int.reduceLT, Int.reduceLE, Int.reduceAdd, Int.reduceToNat, Int.reduceNeg, Nat.reduceMul, Nat.reduceSub, abuild, afill, Int.reduceBNe, Int.reduceBEq, aconv_str hsrc4 ⟨_, _, _, has⟩]
    have hnb : Nb ((Bh, .cells (wl hs0) 47 true) :: (Bk, .cells (wl ks0) 47 true) :: (hs ++ (ha ++ r))) va (flat ps) :=
      (hG.nb (r := r) rfl (flat_lt hv)).sub fun e he => List.mem_cons_of_mem _ (List.mem_cons_of_mem _ (List.mem_append_right _ he))
    refine ACallF.enter Tryd.func12 rfl (by kernel_rfl) (RSum_spec s4 _ va (flat ps) Bh Bk true true hnb (by omega) (by simp) (by simp) hO4 _ _ fun vr hr s5 hG5 hO5 => ?_)
    have hsrc5 := GV.src hG5 hO5
    have hsrc5' := GV.src hG3 hO5.right.tail.tail
    obtain ⟨a5, has5⟩ := hG5.isSlice
    simp (config := { implicitDefEqProofs := false }) only [↓GP, GQ, ↓awp_seq, ↓awp_block, C_ex, Nat.reduceBEq, acap, afieldAddr, aload, astore, abin, anum, astr, aun, isAggD, cond_true, cond_false, ↓reduceIte, C_P, C_G, isTuple, Value.cells, setL, ares, aresL, ares1, reduceCtorEq, Nat.reduceEqDiff, eq_self, Nat.reduceAdd, if_true, if_false, one, Nat.reduceLeDiff, undef, gsl, aextract, aindexAddr, amake, implies_true, forall_const, alen, abuiltin, anil, isC, Int.reduceEq, Int.reduceLT, Int.reduceLE, Int.reduceAdd, Int.reduceToNat, Int.reduceNeg, Nat.reduceMul, Nat.reduceSub, abuild, afill, Int.reduceBNe, Int.reduceBEq, aconv_str hsrc5 ⟨_, _, _, has5⟩, aconv_str hsrc5' ⟨_, _, _, has⟩, Tryd.underlying9]
    exact hk _
end Go.Proofs.YtjkmcnhofpnoeaaDoor
