/- A record's head. No conditions. -/
import Derived.Test.YtiooigkcliomlaaJ11
set_option linter.unusedVariables false
set_option linter.unusedSimpArgs false
namespace Go.Proofs.Ytiooigkcliomlaa
open Go Go.Abs Go.RowKit
variable {base : Nat} {w0 : World} {G : Nat}

def head17 (g num : Nat) (l : List Nat) : List Nat := [74] ++ out4 g ++ out4 num ++ out4 l.length ++ out4 (crcN l)
def headL (g num : Nat) (l : List Nat) : List Nat := head17 g num l ++ List.replicate 46 0 ++ [165]
theorem head17_length (g num : Nat) (l : List Nat) : (head17 g num l).length = 17 := rfl
theorem headL_length (g num : Nat) (l : List Nat) : (headL g num l).length = 64 := rfl
theorem headL_lt (g num : Nat) (l : List Nat) : ∀ d ∈ headL g num l, d < 256 := by
  intro d hd
  simp only [headL, head17, List.mem_append, List.mem_singleton, List.mem_replicate] at hd
  rcases hd with (((((h | h) | h) | h) | h) | h) | h
  · omega
  · exact out4_lt _ d h
  · exact out4_lt _ d h
  · exact out4_lt _ d h
  · exact out4_lt _ d h
  · omega
  · omega
theorem zeros_nl (n : Nat) : zeros [Value.int .u8 0] n = nl (List.replicate n 0) := by simp [zeros, nl, bl]
theorem build1 {st : St} {a : Int} : abuildSlice Try.prog st 23 1 [(0, .int .u8 a)] = some (.slice (some ⟨st.n, 0, none⟩) 1 1, st.new (.cells [.int .u8 a] 5 true)) :=
  abuildSlice_one (v := .int .u8 a) Try.underlying23 asz5 azc5 rfl rfl rfl (by decide)
set_option maxRecDepth 10000 in
theorem head_spec (st : St) (r : Hp) (v : Value) (l : List Nat) (g num : Nat) (hv : Nb r v l) (hl : l.length ≤ 1000000) (hg : g < 4294967296) (hnum : num < 4294967296) (hO : Own st r) (k q : Value → St → Prop)
    (hk : ∀ v' h' st', GV v' (nl (headL g num l)) 64 1 5 h' → Own st' (h' ++ r) → k v' st') :
    ACall (C base w0 G) 50 [.int .i64 g, .int .i64 num, v] st k q := by
  obtain ⟨a, c, hvs⟩ := hv.isSlice
  refine ACall.of (cx := C base w0 G) mixed Try.func50 rfl (by kernel_rfl) (by simp [Try.ntmps50]) ?_
  simp only [Try.results50]
  have w1 : IntKind.u32.wrap (g : Int) = (g : Int) := w_u32 (by omega)
  have w2 : IntKind.u32.wrap (num : Int) = (num : Int) := w_u32 (by omega)
  have w3 : IntKind.u32.wrap (l.length : Int) = (l.length : Int) := w_u32 (by omega)
  simp (config := { implicitDefEqProofs := false }) only [↓GP, GQ, ↓awp_seq, ↓awp_block, C_ex, Nat.reduceBEq, acap, afieldAddr, aload, astore, abin, anum, astr, aun, isAggD, cond_true, cond_false, ↓reduceIte, C_P, C_G, isTuple, Value.cells, setL, ares, aresL, ares1, reduceCtorEq, Nat.reduceEqDiff, eq_self, Nat.reduceAdd, if_true, if_false, one, Nat.reduceLeDiff, undef, gsl, aextract, aindexAddr, amake, implies_true, forall_const, alen, abuiltin, anil, isC, Int.reduceEq, Int.reduceLT, Int.reduceLE, Int.reduceAdd, Int.reduceToNat, Int.reduceNeg, Nat.reduceMul, Nat.reduceSub, abuild, afill, Int.reduceBNe, Int.reduceBEq, hvs, Try.underlying23, Try.underlying3, Try.underlying47, aconv, w1, w2, w3, build1]
  refine ACallF.enter Try.func54 rfl (by kernel_rfl) (four_spec _ r _ _ [74] 1 g (.inr ⟨st.n, rfl, rfl, rfl⟩) (hO.new (.cells [.int .u8 74] 5 true)) (by decide) hg _ _ fun v1 h1 s1 hG1 hO1 => ?_)
  simp (config := { implicitDefEqProofs := false }) only [↓GP, GQ, ↓awp_seq, ↓awp_block, C_ex, Nat.reduceBEq, acap, afieldAddr, aload, astore, abin, anum, astr, aun, isAggD, cond_true, cond_false, ↓reduceIte, C_P, C_G, isTuple, Value.cells, setL, ares, aresL, ares1, reduceCtorEq, Nat.reduceEqDiff, eq_self, Nat.reduceAdd, if_true, if_false, one, Nat.reduceLeDiff, undef, gsl, aextract, aindexAddr, amake, implies_true, forall_const, alen, abuiltin, anil, isC, Int.reduceEq, Int.reduceLT, Int.reduceLE, Int.reduceAdd, Int.reduceToNat, Int.reduceNeg, Nat.reduceMul, Nat.reduceSub, abuild, afill, Int.reduceBNe, Int.reduceBEq, hvs, Try.underlying23, Try.underlying3, Try.underlying47, aconv, w1, w2, w3, build1]
  refine ACallF.enter Try.func54 rfl (by kernel_rfl) (four_spec _ r _ _ _ _ num (.inl hG1.x) hO1 (by decide) hnum _ _ fun v2 h2 s2 hG2 hO2 => ?_)
  simp (config := { implicitDefEqProofs := false }) only [↓GP, GQ, ↓awp_seq, ↓awp_block, C_ex, Nat.reduceBEq, acap, afieldAddr, aload, astore, abin, anum, astr, aun, isAggD, cond_true, cond_false, ↓reduceIte, C_P, C_G, isTuple, Value.cells, setL, ares, aresL, ares1, reduceCtorEq, Nat.reduceEqDiff, eq_self, Nat.reduceAdd, if_true, if_false, one, Nat.reduceLeDiff, undef, gsl, aextract, aindexAddr, amake, implies_true, forall_const, alen, abuiltin, anil, isC, Int.reduceEq, Int.reduceLT, Int.reduceLE, Int.reduceAdd, Int.reduceToNat, Int.reduceNeg, Nat.reduceMul, Nat.reduceSub, abuild, afill, Int.reduceBNe, Int.reduceBEq, hvs, Try.underlying23, Try.underlying3, Try.underlying47, aconv, w1, w2, w3, build1]
  refine ACallF.enter Try.func54 rfl (by kernel_rfl) (four_spec _ r _ _ _ _ l.length (.inl hG2.x) hO2 (by decide) (by omega) _ _ fun v3 h3 s3 hG3 hO3 => ?_)
  simp (config := { implicitDefEqProofs := false }) only [↓GP, GQ, ↓awp_seq, ↓awp_block, C_ex, Nat.reduceBEq, acap, afieldAddr, aload, astore, abin, anum, astr, aun, isAggD, cond_true, cond_false, ↓reduceIte, C_P, C_G, isTuple, Value.cells, setL, ares, aresL, ares1, reduceCtorEq, Nat.reduceEqDiff, eq_self, Nat.reduceAdd, if_true, if_false, one, Nat.reduceLeDiff, undef, gsl, aextract, aindexAddr, amake, implies_true, forall_const, alen, abuiltin, anil, isC, Int.reduceEq, Int.reduceLT, Int.reduceLE, Int.reduceAdd, Int.reduceToNat, Int.reduceNeg, Nat.reduceMul, Nat.reduceSub, abuild, afill, Int.reduceBNe, Int.reduceBEq, hvs, Try.underlying23, Try.underlying3, Try.underlying47, aconv, w1, w2, w3, build1]
  refine ACallF.enter Try.func55 rfl (by kernel_rfl) (crc_spec _ (h3 ++ r) _ l (by rw [← hvs]; exact hv.sub fun e he => List.mem_append_right _ he) hl hO3 _ _ fun s4 hO4 => ?_)
  simp (config := { implicitDefEqProofs := false }) only [↓GP, GQ, ↓awp_seq, ↓awp_block, C_ex, Nat.reduceBEq, acap, afieldAddr, aload, astore, abin, anum, astr, aun, isAggD, cond_true, cond_false, ↓reduceIte, C_P, C_G, isTuple, Value.cells, setL, ares, aresL, ares1, reduceCtorEq, Nat.reduceEqDiff, eq_self, Nat.reduceAdd, if_true, if_false, one, Nat.reduceLeDiff, undef, gsl, aextract, aindexAddr, amake, implies_true, forall_const, alen, abuiltin, anil, isC, Int.reduceEq, Int.reduceLT, Int.reduceLE, Int.reduceAdd, Int.reduceToNat, Int.reduceNeg, Nat.reduceMul, Nat.reduceSub, abuild, afill, Int.reduceBNe, Int.reduceBEq, hvs, Try.underlying23, Try.underlying3, Try.underlying47, aconv, w1, w2, w3, build1]
  refine ACallF.enter Try.func54 rfl (by kernel_rfl) (four_spec _ r _ _ _ _ _ (.inl hG3.x) hO4 (by decide) (crcN_lt hv.2) _ _ fun v5 h5 s5 hG5 hO5 => ?_)
  obtain ⟨a5, c5, hv5⟩ := hG5.x.isSlice
  have hG5' : GV v5 (nl (head17 g num l)) 17 1 5 h5 := hG5
  have hw : IntKind.i64.wrap (63 - 17) = ((46 : Nat) : Int) := by decide
  simp (config := { implicitDefEqProofs := false }) only [↓GP, GQ, ↓awp_seq, ↓awp_block, C_ex, Nat.reduceBEq, acap, afieldAddr, aload, astore, abin, anum, astr, aun, isAggD, cond_true, cond_false, ↓reduceIte, C_P, C_G, isTuple, Value.cells, setL, ares, aresL, ares1, reduceCtorEq, Nat.reduceEqDiff, eq_self, Nat.reduceAdd, if_true, if_false, one, Nat.reduceLeDiff, undef, gsl, aextract, aindexAddr, amake, implies_true, forall_const, alen, abuiltin, anil, isC, Int.reduceEq, Int.reduceLT, Int.reduceLE, Int.reduceAdd, Int.reduceToNat, Int.reduceNeg, Nat.reduceMul, Nat.reduceSub, abuild, afill, Int.reduceBNe, Int.reduceBEq, hv5, Try.underlying23, Try.underlying3, hw]
  rw [← hv5]
  refine GV.appendZ (m := 46) Try.underlying23 (by rw [Try.underlying3]; rfl) asz5 azc5 aby5 hG5' hO5 (by decide) rfl rfl (by decide) fun v6 h6 s6 hG6 hO6 => ?_
  obtain ⟨a6, c6, hv6⟩ := hG6.x.isSlice
  simp (config := { implicitDefEqProofs := false }) only [↓GP, GQ, ↓awp_seq, ↓awp_block, C_ex, Nat.reduceBEq, acap, afieldAddr, aload, astore, abin, anum, astr, aun, isAggD, cond_true, cond_false, ↓reduceIte, C_P, C_G, isTuple, Value.cells, setL, ares, aresL, ares1, reduceCtorEq, Nat.reduceEqDiff, eq_self, Nat.reduceAdd, if_true, if_false, one, Nat.reduceLeDiff, undef, gsl, aextract, aindexAddr, amake, implies_true, forall_const, alen, abuiltin, anil, isC, Int.reduceEq, Int.reduceLT, Int.reduceLE, Int.reduceAdd, Int.reduceToNat, Int.reduceNeg, Nat.reduceMul, Nat.reduceSub, abuild, afill, Int.reduceBNe, Int.reduceBEq, hv6, build1]
  rw [← hv6]
  refine GVx.append1 (c := [.int .u8 165]) Try.underlying23 (by rw [Try.underlying23]; rfl) asz5 azc5 aby5 hG6.x hO6 rfl rfl (by decide) fun v7 h7 s7 hG7 hO7 => ?_
  simp (config := { implicitDefEqProofs := false }) only [↓GP, GQ, ↓awp_seq, ↓awp_block, C_ex, Nat.reduceBEq, acap, afieldAddr, aload, astore, abin, anum, astr, aun, isAggD, cond_true, cond_false, ↓reduceIte, C_P, C_G, isTuple, Value.cells, setL, ares, aresL, ares1, reduceCtorEq, Nat.reduceEqDiff, eq_self, Nat.reduceAdd, if_true, if_false, one, Nat.reduceLeDiff, undef, gsl, aextract, aindexAddr, amake, implies_true, forall_const, alen, abuiltin, anil, isC, Int.reduceEq, Int.reduceLT, Int.reduceLE, Int.reduceAdd, Int.reduceToNat, Int.reduceNeg, Nat.reduceMul, Nat.reduceSub, abuild, afill, Int.reduceBNe, Int.reduceBEq]
  refine hk v7 h7 s7 ?_ hO7
  rw [zeros_nl, ← nl_append] at hG7
  have e : nl (headL g num l) = nl (head17 g num l ++ List.replicate 46 0) ++ [.int .u8 165] := by rw [headL, nl_append]; rfl
  rw [e]
  exact hG7
end Go.Proofs.Ytiooigkcliomlaa
