/- The document's own sum, and its numbers. No conditions. -/
import Derived.Test.YtiooigkcliomlaaQ3
import Derived.Test.YtiooigkcliomlaaQT
import Derived.Test.YtiooigkcliomlaaAbsL
set_option linter.unusedVariables false
set_option linter.unusedSimpArgs false
namespace Go.Proofs.Ytiooigkcliomlaa
open Go Go.Abs Go.RowKit
variable {base : Nat} {w0 : World} {G : Nat}

theorem stpN_lt {r : Nat} (h : r < 4294967296) : ∀ n, stpN n r < 4294967296
  | 0 => h
  | n + 1 => by
    have ih := stpN_lt h n
    show stp (stpN n r) < _
    unfold stp
    split
    · exact xor_lt (by omega) (by decide)
    · omega
set_option maxRecDepth 10000 in
theorem Rcrc_spec (st : St) (r : Hp) (v : Value) (l : List Nat) (hv : Nb r v l) (hl : l.length ≤ 1000000000) (hO : Own st r) (k q : Value → St → Prop)
    (hk : k (.int .u32 (crcN l : Nat)) st) : ACallF (C base w0 G) 46 [v] st k q := by
  refine ACallF.enter Try.func46 rfl (by kernel_rfl) ?_
  obtain ⟨a, c, hvs⟩ := hv.isSlice
  refine ACall.of (cx := C base w0 G) mixed Try.func46 rfl (by kernel_rfl) (by simp [Try.ntmps46]) ?_
  simp only [Try.results46]
  simp (config := { implicitDefEqProofs := false }) only [↓GP, GQ, ↓awp_seq, ↓awp_block, C_ex, Nat.reduceBEq, acap, afieldAddr, aload, astore, abin, anum, astr, aun, isAggD, cond_true, cond_false, ↓reduceIte, C_P, C_G, isTuple, Value.cells, setL, ares, aresL, ares1, reduceCtorEq, Nat.reduceEqDiff, eq_self, Nat.reduceAdd, if_true, if_false, one, Nat.reduceLeDiff, undef, gsl, aextract, aindexAddr, amake, implies_true, forall_const, alen, abuiltin, anil, isC, Int.reduceEq, Int.reduceLT, Int.reduceLE, Int.reduceAdd, Int.reduceToNat, Int.reduceNeg, Nat.reduceMul, Nat.reduceSub, abuild, afill, Int.reduceBNe, Int.reduceBEq]
  refine ⟨fun m ρ s => ∃ i : Nat, m = l.length - i ∧ i ≤ l.length ∧ ρ 0 = v ∧ ρ 3 = .int .u32 (crcR (l.take i) : Nat) ∧ ρ 4 = .int .i64 i ∧ s = st, ⟨l.length, 0, rfl, Nat.zero_le _, rfl, rfl, rfl, rfl⟩, ?_⟩
  rintro m ρ s ⟨i, rfl, hi, h0, h3, h4, rfl⟩
  by_cases him : i < l.length
  · obtain ⟨B, o, sp, c', cs, ty, own, hvx, hmem, hget⟩ := hv.at (by intro e; rw [e] at him; simp at him)
    have hB := hO.get hmem
    have hg := hget i him
    have hx := getD8 hv.2 i
    have hr := crcR_lt hv.2 i
    have hcr := crcR_take him
    generalize l.getD i 0 = x at *
    generalize crcR (l.take i) = y at *
    have e1 : IntKind.u32.wrap (x : Int) = (x : Int) := w_u32 (by omega)
    have x1 := bits_xor32 (a := y) (b := x) hr (by omega)
    have l1 := xor_lt (a := y) (b := x) hr (by omega)
    simp (config := { implicitDefEqProofs := false }) only [↓GP, GQ, ↓awp_seq, ↓awp_block, C_ex, Nat.reduceBEq, acap, afieldAddr, aload, astore, abin, anum, astr, aun, isAggD, cond_true, cond_false, ↓reduceIte, C_P, C_G, isTuple, Value.cells, setL, ares, aresL, ares1, reduceCtorEq, Nat.reduceEqDiff, eq_self, Nat.reduceAdd, if_true, if_false, one, Nat.reduceLeDiff, undef, gsl, aextract, aindexAddr, amake, implies_true, forall_const, alen, abuiltin, anil, isC, Int.reduceEq, Int.reduceLT, Int.reduceLE, Int.reduceAdd, Int.reduceToNat, Int.reduceNeg, Nat.reduceMul, Nat.reduceSub, abuild, afill, Int.reduceBNe, Int.reduceBEq, h0, h3, h4, him, Int.ofNat_lt, decide_true, hvx, hB, hg, Try.underlying3, Try.underlying23, Try.underlying5, Try.underlying47, asz5, aconv, e1, x1]
    refine ⟨by omega, fun m ρ s' => ∃ j : Nat, m = 8 - j ∧ j ≤ 8 ∧ ρ 0 = v ∧ ρ 3 = .int .u32 (stpN j (y ^^^ x) : Nat) ∧ ρ 4 = .int .i64 i ∧ ρ 5 = .int .i64 j ∧ s' = s, ⟨8, 0, rfl, by decide, h0, rfl, h4, rfl, rfl⟩, ?_⟩
    clear h0 h3 h4
    rintro m ρ s' ⟨j, rfl, hj, h0, h3, h4, h5, rfl⟩
    by_cases hj8 : j < 8
    · have hz := stpN_lt l1 j
      have hs : stpN (j + 1) (y ^^^ x) = stp (stpN j (y ^^^ x)) := rfl
      generalize stpN j (y ^^^ x) = z at *
      have d1 : IntKind.u32.wrap ((z : Int).tmod 2) = ((z % 2 : Nat) : Int) := by rw [Int.tmod_eq_emod_of_nonneg (by omega), w_u32 (by omega)]; omega
      have d1' : (z : Int).tmod 2 = ((z % 2 : Nat) : Int) := by rw [Int.tmod_eq_emod_of_nonneg (by omega)]; omega
      have d2 : IntKind.u32.wrap ((z : Int).tdiv 2) = ((z / 2 : Nat) : Int) := by rw [Int.tdiv_eq_ediv_of_nonneg (by omega), w_u32 (by omega)]; omega
      have d3 := bits_xor32 (a := z / 2) (b := 3988292384) (by omega) (by decide)
      have d3' : bits .xor .u32 ((z / 2 : Nat) : Int) 3988292384 = ((z / 2 ^^^ 3988292384 : Nat) : Int) := d3
      by_cases h2 : z % 2 = 1
      · have hstp : stp z = (z / 2) ^^^ 3988292384 := by unfold stp; rw [if_pos h2]
        simp (config := { implicitDefEqProofs := false }) only [↓GP, GQ, ↓awp_seq, ↓awp_block, C_ex, Nat.reduceBEq, acap, afieldAddr, aload, astore, abin, anum, astr, aun, isAggD, cond_true, cond_false, ↓reduceIte, C_P, C_G, isTuple, Value.cells, setL, ares, aresL, ares1, reduceCtorEq, Nat.reduceEqDiff, eq_self, Nat.reduceAdd, if_true, if_false, one, Nat.reduceLeDiff, undef, gsl, aextract, aindexAddr, amake, implies_true, forall_const, alen, abuiltin, anil, isC, Int.reduceEq, Int.reduceLT, Int.reduceLE, Int.reduceAdd, Int.reduceToNat, Int.reduceNeg, Nat.reduceMul, Nat.reduceSub, abuild, afill, Int.reduceBNe, Int.reduceBEq, h0, h3, h4, h5, Try.underlying3, Try.underlying47, show (j : Int) < 8 by omega, decide_true, d1, d1', d2, d3', beqT (show ((z % 2 : Nat) : Int) = 1 by omega)]
        exact ⟨8 - (j + 1), by omega, j + 1, rfl, by omega, by rw [hs, hstp], by rw [w_i64 (by omega)]; rfl⟩
      · have hstp : stp z = z / 2 := by unfold stp; rw [if_neg h2]
        simp (config := { implicitDefEqProofs := false }) only [↓GP, GQ, ↓awp_seq, ↓awp_block, C_ex, Nat.reduceBEq, acap, afieldAddr, aload, astore, abin, anum, astr, aun, isAggD, cond_true, cond_false, ↓reduceIte, C_P, C_G, isTuple, Value.cells, setL, ares, aresL, ares1, reduceCtorEq, Nat.reduceEqDiff, eq_self, Nat.reduceAdd, if_true, if_false, one, Nat.reduceLeDiff, undef, gsl, aextract, aindexAddr, amake, implies_true, forall_const, alen, abuiltin, anil, isC, Int.reduceEq, Int.reduceLT, Int.reduceLE, Int.reduceAdd, Int.reduceToNat, Int.reduceNeg, Nat.reduceMul, Nat.reduceSub, abuild, afill, Int.reduceBNe, Int.reduceBEq, h0, h3, h4, h5, Try.underlying3, Try.underlying47, show (j : Int) < 8 by omega, decide_true, d1, d1', d2, d3', beqF (show ¬ ((z % 2 : Nat) : Int) = 1 by omega)]
        exact ⟨8 - (j + 1), by omega, j + 1, rfl, by omega, by rw [hs, hstp], by rw [w_i64 (by omega)]; rfl⟩
    · obtain rfl : j = 8 := by omega
      simp (config := { implicitDefEqProofs := false }) only [↓GP, GQ, ↓awp_seq, ↓awp_block, C_ex, Nat.reduceBEq, acap, afieldAddr, aload, astore, abin, anum, astr, aun, isAggD, cond_true, cond_false, ↓reduceIte, C_P, C_G, isTuple, Value.cells, setL, ares, aresL, ares1, reduceCtorEq, Nat.reduceEqDiff, eq_self, Nat.reduceAdd, if_true, if_false, one, Nat.reduceLeDiff, undef, gsl, aextract, aindexAddr, amake, implies_true, forall_const, alen, abuiltin, anil, isC, Int.reduceEq, Int.reduceLT, Int.reduceLE, Int.reduceAdd, Int.reduceToNat, Int.reduceNeg, Nat.reduceMul, Nat.reduceSub, abuild, afill, Int.reduceBNe, Int.reduceBEq, h0, h3, h4, h5, Try.underlying3, show ¬ ((8 : Nat) : Int) < 8 by omega, decide_false]
      exact ⟨l.length - (i + 1), by omega, i + 1, rfl, by omega, by rw [hcr]; rfl, by rw [w_i64 (by omega)]; rfl⟩
  · obtain rfl : i = l.length := by omega
    rw [List.take_length] at h3
    have hx : bits .xor .u32 ((crcR l : Nat) : Int) 4294967295 = ((crcN l : Nat) : Int) := by
      have := crcR_lt hv.2 l.length
      rw [List.take_length] at this
      exact bits_xor32 (b := 4294967295) this (by decide)
    simp (config := { implicitDefEqProofs := false }) only [↓GP, GQ, ↓awp_seq, ↓awp_block, C_ex, Nat.reduceBEq, acap, afieldAddr, aload, astore, abin, anum, astr, aun, isAggD, cond_true, cond_false, ↓reduceIte, C_P, C_G, isTuple, Value.cells, setL, ares, aresL, ares1, reduceCtorEq, Nat.reduceEqDiff, eq_self, Nat.reduceAdd, if_true, if_false, one, Nat.reduceLeDiff, undef, gsl, aextract, aindexAddr, amake, implies_true, forall_const, alen, abuiltin, anil, isC, Int.reduceEq, Int.reduceLT, Int.reduceLE, Int.reduceAdd, Int.reduceToNat, Int.reduceNeg, Nat.reduceMul, Nat.reduceSub, abuild, afill, Int.reduceBNe, Int.reduceBEq, h0, h3, h4, hvs, Try.underlying23, Try.underlying3, Try.underlying47, Nat.lt_irrefl, Int.ofNat_lt, decide_false, hx]
    exact hk
set_option maxRecDepth 10000 in
theorem Rfour_spec (st : St) (r : Hp) (x : Nat) (hx : x < 4294967296) (hO : Own st r) (k q : Value → St → Prop)
    (hk : ∀ b st', Own st' ((b, .cells (nl (out4 x)) 5 true) :: r) → k (.slice (some ⟨b, 0, none⟩) 4 4) st') : ACallF (C base w0 G) 47 [.int .u32 x] st k q := by
  refine ACallF.enter Try.func47 rfl (by kernel_rfl) ?_
  refine ACall.of (cx := C base w0 G) mixed Try.func47 rfl (by kernel_rfl) (by simp [Try.ntmps47]) ?_
  simp only [Try.results47]
  have e24 : IntKind.u32.wrap ((x : Int).tdiv 16777216) = ((x / 16777216 : Nat) : Int) := by rw [Int.tdiv_eq_ediv_of_nonneg (by omega), w_u32 (by omega)]; omega
  have e16 : IntKind.u32.wrap ((x : Int).tdiv 65536) = ((x / 65536 : Nat) : Int) := by rw [Int.tdiv_eq_ediv_of_nonneg (by omega), w_u32 (by omega)]; omega
  have e8 : IntKind.u32.wrap ((x : Int).tdiv 256) = ((x / 256 : Nat) : Int) := by rw [Int.tdiv_eq_ediv_of_nonneg (by omega), w_u32 (by omega)]; omega
  simp (config := { implicitDefEqProofs := false }) only [↓GP, GQ, ↓awp_seq, ↓awp_block, C_ex, Nat.reduceBEq, acap, afieldAddr, aload, astore, abin, anum, astr, aun, isAggD, cond_true, cond_false, ↓reduceIte, C_P, C_G, isTuple, Value.cells, setL, ares, aresL, ares1, reduceCtorEq, Nat.reduceEqDiff, eq_self, Nat.reduceAdd, if_true, if_false, one, Nat.reduceLeDiff, undef, gsl, aextract, aindexAddr, amake, implies_true, forall_const, alen, abuiltin, anil, isC, Int.reduceEq, Int.reduceLT, Int.reduceLE, Int.reduceAdd, Int.reduceToNat, Int.reduceNeg, Nat.reduceMul, Nat.reduceSub, abuild, afill, Int.reduceBNe, Int.reduceBEq, Try.underlying47, Try.underlying5, aconv, e24, e16, e8, w_u8n, build4]
  exact hk _ _ (hO.new _)
end Go.Proofs.Ytiooigkcliomlaa
/- The document's record of one letter. No conditions. -/
set_option linter.unusedVariables false
set_option linter.unusedSimpArgs false
namespace Go.Proofs.Ytiooigkcliomlaa
open Go Go.Abs Go.RowKit
variable {base : Nat} {w0 : World} {G : Nat}

def one64 (x : Nat) : List Nat := x :: List.replicate 63 0
theorem chunk_one (x : Nat) : chunkN [x] 0 = one64 x := by
  have hn : needN ([x] : List Nat).length = 1 := by unfold needN; simp
  unfold chunkN padN
  rw [hn]
  rfl
set_option maxHeartbeats 1000000 in
set_option maxRecDepth 10000 in
theorem Record_spec (st : St) (R r : Hp) (v : Value) (x g num : Nat) (hg : g < 4294967296) (hnum : num < 4294967296) (hv : Nb r v [x]) (hO : Own st (R ++ r)) (k q : Value → St → Prop)
    (hk : ∀ H ov u1 u2 st', Ps (H ++ r) ov [(u1, headL g num [x]), (u2, one64 x)] → Own st' (H ++ (R ++ r)) → k ov st') :
    ACallF (C base w0 G) 24 [.int .u32 g, .int .u32 num, v] st k q := by
  refine ACallF.enter Try.func24 rfl (by kernel_rfl) ?_
  obtain ⟨va, vc, hvs⟩ := hv.isSlice
  have hvs : v = .slice va 1 vc := hvs
  refine ACall.of (cx := C base w0 G) mixed Try.func24 rfl (by kernel_rfl) (by simp [Try.ntmps24]) ?_
  simp only [Try.results24]
  have w1 : IntKind.u32.wrap 1 = 1 := by decide
  simp (config := { implicitDefEqProofs := false }) only [↓GP, GQ, ↓awp_seq, ↓awp_block, C_ex, Nat.reduceBEq, acap, afieldAddr, aload, astore, abin, anum, astr, aun, isAggD, cond_true, cond_false, ↓reduceIte, C_P, C_G, isTuple, Value.cells, setL, ares, aresL, ares1, reduceCtorEq, Nat.reduceEqDiff, eq_self, Nat.reduceAdd, if_true, if_false, one, Nat.reduceLeDiff, undef, gsl, aextract, aindexAddr, amake, implies_true, forall_const, alen, abuiltin, anil, isC, Int.reduceEq, Int.reduceLT, Int.reduceLE, Int.reduceAdd, Int.reduceToNat, Int.reduceNeg, Nat.reduceMul, Nat.reduceSub, abuild, afill, Int.reduceBNe, Int.reduceBEq, hvs, Try.underlying23, Try.underlying3, Try.underlying47, aconv, w1, build1]
  have hO1 := hO.new (.cells [.int .u8 74] 5 true)
  refine Rfour_spec _ _ g hg hO1 _ _ fun b1 s1 hO2 => ?_
  simp (config := { implicitDefEqProofs := false }) only [↓GP, GQ, ↓awp_seq, ↓awp_block, C_ex, Nat.reduceBEq, acap, afieldAddr, aload, astore, abin, anum, astr, aun, isAggD, cond_true, cond_false, ↓reduceIte, C_P, C_G, isTuple, Value.cells, setL, ares, aresL, ares1, reduceCtorEq, Nat.reduceEqDiff, eq_self, Nat.reduceAdd, if_true, if_false, one, Nat.reduceLeDiff, undef, gsl, aextract, aindexAddr, amake, implies_true, forall_const, alen, abuiltin, anil, isC, Int.reduceEq, Int.reduceLT, Int.reduceLE, Int.reduceAdd, Int.reduceToNat, Int.reduceNeg, Nat.reduceMul, Nat.reduceSub, abuild, afill, Int.reduceBNe, Int.reduceBEq]
  have hO2' : Own s1 ([(st.n, Ob.cells (nl [74]) 5 true)] ++ ((b1, .cells (nl (out4 g)) 5 true) :: (R ++ r))) := hO2.perm (List.Perm.swap _ _ _)
  refine GVy.appendN (n := 1) (m := 4) (Cs := nl (out4 g)) Try.underlying23 (by rw [Try.underlying23]; rfl) asz5 azc5 aby5 (.inr ⟨st.n, rfl, rfl, rfl⟩) hO2' (asrc_whole (hO2.head) rfl) (by decide) rfl (nl_one _) (by decide) fun v2 h2 s2 hG2 hO2 => ?_
  have hO2 : Own s2 (h2 ++ (R ++ r)) := hO2.sub (List.Sublist.append_left (List.sublist_cons_self _ (R ++ r)) h2)
  rw [← nl_append] at hG2
  simp (config := { implicitDefEqProofs := false }) only [↓GP, GQ, ↓awp_seq, ↓awp_block, C_ex, Nat.reduceBEq, acap, afieldAddr, aload, astore, abin, anum, astr, aun, isAggD, cond_true, cond_false, ↓reduceIte, C_P, C_G, isTuple, Value.cells, setL, ares, aresL, ares1, reduceCtorEq, Nat.reduceEqDiff, eq_self, Nat.reduceAdd, if_true, if_false, one, Nat.reduceLeDiff, undef, gsl, aextract, aindexAddr, amake, implies_true, forall_const, alen, abuiltin, anil, isC, Int.reduceEq, Int.reduceLT, Int.reduceLE, Int.reduceAdd, Int.reduceToNat, Int.reduceNeg, Nat.reduceMul, Nat.reduceSub, abuild, afill, Int.reduceBNe, Int.reduceBEq, hvs, Try.underlying23, Try.underlying22, Try.underlying3, Try.underlying47, aconv, w1, build1]
  refine Rfour_spec s2 (h2 ++ (R ++ r)) num hnum hO2 _ _ fun b3 t3 hP3 => ?_
  simp (config := { implicitDefEqProofs := false }) only [↓GP, GQ, ↓awp_seq, ↓awp_block, C_ex, Nat.reduceBEq, acap, afieldAddr, aload, astore, abin, anum, astr, aun, isAggD, cond_true, cond_false, ↓reduceIte, C_P, C_G, isTuple, Value.cells, setL, ares, aresL, ares1, reduceCtorEq, Nat.reduceEqDiff, eq_self, Nat.reduceAdd, if_true, if_false, one, Nat.reduceLeDiff, undef, gsl, aextract, aindexAddr, amake, implies_true, forall_const, alen, abuiltin, anil, isC, Int.reduceEq, Int.reduceLT, Int.reduceLE, Int.reduceAdd, Int.reduceToNat, Int.reduceNeg, Nat.reduceMul, Nat.reduceSub, abuild, afill, Int.reduceBNe, Int.reduceBEq, hvs, Try.underlying23, Try.underlying22, Try.underlying3, Try.underlying47, aconv, w1, build1]
  refine GVy.appendN (m := 4) (Cs := nl (out4 num)) Try.underlying23 (by rw [Try.underlying23]; rfl) asz5 azc5 aby5 (.inl hG2.x) (hP3.perm (perm_front h2 _ _).symm) (asrc_whole hP3.head rfl) (by decide) rfl (nl_one _) (by decide) fun v3 h3 s3 hG3 hO3 => ?_
  have hO3 : Own s3 (h3 ++ (R ++ r)) := hO3.sub (List.Sublist.append_left (List.sublist_cons_self _ (R ++ r)) h3)
  rw [← nl_append] at hG3
  simp (config := { implicitDefEqProofs := false }) only [↓GP, GQ, ↓awp_seq, ↓awp_block, C_ex, Nat.reduceBEq, acap, afieldAddr, aload, astore, abin, anum, astr, aun, isAggD, cond_true, cond_false, ↓reduceIte, C_P, C_G, isTuple, Value.cells, setL, ares, aresL, ares1, reduceCtorEq, Nat.reduceEqDiff, eq_self, Nat.reduceAdd, if_true, if_false, one, Nat.reduceLeDiff, undef, gsl, aextract, aindexAddr, amake, implies_true, forall_const, alen, abuiltin, anil, isC, Int.reduceEq, Int.reduceLT, Int.reduceLE, Int.reduceAdd, Int.reduceToNat, Int.reduceNeg, Nat.reduceMul, Nat.reduceSub, abuild, afill, Int.reduceBNe, Int.reduceBEq, hvs, Try.underlying23, Try.underlying22, Try.underlying3, Try.underlying47, aconv, w1, build1]
  refine Rfour_spec s3 (h3 ++ (R ++ r)) ([x] : List Nat).length (by simp) hO3 _ _ fun b4 t4 hP4 => ?_
  simp (config := { implicitDefEqProofs := false }) only [↓GP, GQ, ↓awp_seq, ↓awp_block, C_ex, Nat.reduceBEq, acap, afieldAddr, aload, astore, abin, anum, astr, aun, isAggD, cond_true, cond_false, ↓reduceIte, C_P, C_G, isTuple, Value.cells, setL, ares, aresL, ares1, reduceCtorEq, Nat.reduceEqDiff, eq_self, Nat.reduceAdd, if_true, if_false, one, Nat.reduceLeDiff, undef, gsl, aextract, aindexAddr, amake, implies_true, forall_const, alen, abuiltin, anil, isC, Int.reduceEq, Int.reduceLT, Int.reduceLE, Int.reduceAdd, Int.reduceToNat, Int.reduceNeg, Nat.reduceMul, Nat.reduceSub, abuild, afill, Int.reduceBNe, Int.reduceBEq, hvs, Try.underlying23, Try.underlying22, Try.underlying3, Try.underlying47, aconv, w1, build1]
  refine GVy.appendN (m := 4) (Cs := nl (out4 ([x] : List Nat).length)) Try.underlying23 (by rw [Try.underlying23]; rfl) asz5 azc5 aby5 (.inl hG3.x) (hP4.perm (perm_front h3 _ _).symm) (asrc_whole hP4.head rfl) (by decide) rfl (nl_one _) (by decide) fun v4 h4 s4 hG4 hO4 => ?_
  have hO4 : Own s4 (h4 ++ (R ++ r)) := hO4.sub (List.Sublist.append_left (List.sublist_cons_self _ (R ++ r)) h4)
  rw [← nl_append] at hG4
  simp (config := { implicitDefEqProofs := false }) only [↓GP, GQ, ↓awp_seq, ↓awp_block, C_ex, Nat.reduceBEq, acap, afieldAddr, aload, astore, abin, anum, astr, aun, isAggD, cond_true, cond_false, ↓reduceIte, C_P, C_G, isTuple, Value.cells, setL, ares, aresL, ares1, reduceCtorEq, Nat.reduceEqDiff, eq_self, Nat.reduceAdd, if_true, if_false, one, Nat.reduceLeDiff, undef, gsl, aextract, aindexAddr, amake, implies_true, forall_const, alen, abuiltin, anil, isC, Int.reduceEq, Int.reduceLT, Int.reduceLE, Int.reduceAdd, Int.reduceToNat, Int.reduceNeg, Nat.reduceMul, Nat.reduceSub, abuild, afill, Int.reduceBNe, Int.reduceBEq, hvs, Try.underlying23, Try.underlying22, Try.underlying3, Try.underlying47, aconv, w1, build1]
  refine Rcrc_spec s4 (h4 ++ (R ++ r)) _ [x] (by rw [← hvs]; exact hv.sub fun e he => List.mem_append_right _ (List.mem_append_right _ he)) (by simp) hO4 _ _ ?_
  simp (config := { implicitDefEqProofs := false }) only [↓GP, GQ, ↓awp_seq, ↓awp_block, C_ex, Nat.reduceBEq, acap, afieldAddr, aload, astore, abin, anum, astr, aun, isAggD, cond_true, cond_false, ↓reduceIte, C_P, C_G, isTuple, Value.cells, setL, ares, aresL, ares1, reduceCtorEq, Nat.reduceEqDiff, eq_self, Nat.reduceAdd, if_true, if_false, one, Nat.reduceLeDiff, undef, gsl, aextract, aindexAddr, amake, implies_true, forall_const, alen, abuiltin, anil, isC, Int.reduceEq, Int.reduceLT, Int.reduceLE, Int.reduceAdd, Int.reduceToNat, Int.reduceNeg, Nat.reduceMul, Nat.reduceSub, abuild, afill, Int.reduceBNe, Int.reduceBEq, hvs, Try.underlying23, Try.underlying22, Try.underlying3, Try.underlying47, aconv, w1, build1]
  refine Rfour_spec s4 (h4 ++ (R ++ r)) (crcN [x]) (crcN_lt hv.2) hO4 _ _ fun b5 t5 hP5 => ?_
  simp (config := { implicitDefEqProofs := false }) only [↓GP, GQ, ↓awp_seq, ↓awp_block, C_ex, Nat.reduceBEq, acap, afieldAddr, aload, astore, abin, anum, astr, aun, isAggD, cond_true, cond_false, ↓reduceIte, C_P, C_G, isTuple, Value.cells, setL, ares, aresL, ares1, reduceCtorEq, Nat.reduceEqDiff, eq_self, Nat.reduceAdd, if_true, if_false, one, Nat.reduceLeDiff, undef, gsl, aextract, aindexAddr, amake, implies_true, forall_const, alen, abuiltin, anil, isC, Int.reduceEq, Int.reduceLT, Int.reduceLE, Int.reduceAdd, Int.reduceToNat, Int.reduceNeg, Nat.reduceMul, Nat.reduceSub, abuild, afill, Int.reduceBNe, Int.reduceBEq, hvs, Try.underlying23, Try.underlying22, Try.underlying3, Try.underlying47, aconv, w1, build1]
  refine GVy.appendN (m := 4) (Cs := nl (out4 (crcN [x]))) Try.underlying23 (by rw [Try.underlying23]; rfl) asz5 azc5 aby5 (.inl hG4.x) (hP5.perm (perm_front h4 _ _).symm) (asrc_whole hP5.head rfl) (by decide) rfl (nl_one _) (by decide) fun v5 h5 s5 hG5 hO5 => ?_
  have hO5 : Own s5 (h5 ++ (R ++ r)) := hO5.sub (List.Sublist.append_left (List.sublist_cons_self _ (R ++ r)) h5)
  rw [← nl_append] at hG5
  simp (config := { implicitDefEqProofs := false }) only [↓GP, GQ, ↓awp_seq, ↓awp_block, C_ex, Nat.reduceBEq, acap, afieldAddr, aload, astore, abin, anum, astr, aun, isAggD, cond_true, cond_false, ↓reduceIte, C_P, C_G, isTuple, Value.cells, setL, ares, aresL, ares1, reduceCtorEq, Nat.reduceEqDiff, eq_self, Nat.reduceAdd, if_true, if_false, one, Nat.reduceLeDiff, undef, gsl, aextract, aindexAddr, amake, implies_true, forall_const, alen, abuiltin, anil, isC, Int.reduceEq, Int.reduceLT, Int.reduceLE, Int.reduceAdd, Int.reduceToNat, Int.reduceNeg, Nat.reduceMul, Nat.reduceSub, abuild, afill, Int.reduceBNe, Int.reduceBEq, hvs, Try.underlying23, Try.underlying22, Try.underlying3, Try.underlying47, aconv, w1, build1]
  have hG5' : GVx v5 (nl (head17 g num [x] ++ List.replicate 0 0)) (17 + 0) 1 5 h5 := hG5.x
  refine ⟨fun m ρ s => ∃ (j : Nat) (v' : Value) (h : Hp), m = 46 - j ∧ j ≤ 46 ∧ ρ 2 = v ∧ ρ 7 = v' ∧ GVx v' (nl (head17 g num [x] ++ List.replicate j 0)) (17 + j) 1 5 h ∧ Own s (h ++ (R ++ r)), ⟨46, 0, v5, h5, rfl, by decide, hvs.symm, rfl, hG5', hO5⟩, ?_⟩
  rintro m ρ s ⟨j, v', h, rfl, hj, p2, p7, hG, hO⟩
  obtain ⟨a', c', hv'⟩ := hG.isSlice
  by_cases hj46 : j < 46
  · have hcmp : (((17 + j : Nat) : Int) < 63) := by omega
    simp (config := { implicitDefEqProofs := false }) only [↓GP, GQ, ↓awp_seq, ↓awp_block, C_ex, Nat.reduceBEq, acap, afieldAddr, aload, astore, abin, anum, astr, aun, isAggD, cond_true, cond_false, ↓reduceIte, C_P, C_G, isTuple, Value.cells, setL, ares, aresL, ares1, reduceCtorEq, Nat.reduceEqDiff, eq_self, Nat.reduceAdd, if_true, if_false, one, Nat.reduceLeDiff, undef, gsl, aextract, aindexAddr, amake, implies_true, forall_const, alen, abuiltin, anil, isC, Int.reduceEq, Int.reduceLT, Int.reduceLE, Int.reduceAdd, Int.reduceToNat, Int.reduceNeg, Nat.reduceMul, Nat.reduceSub, abuild, afill, Int.reduceBNe, Int.reduceBEq, p2, p7, hv', Try.underlying23, Try.underlying3, build1, hcmp, decide_true]
    rw [← hv']
    refine GVx.append1 (c := [.int .u8 0]) Try.underlying23 (by rw [Try.underlying23]; rfl) asz5 azc5 aby5 hG hO rfl rfl (by omega) fun v7 h7 s7 hG7 hO7 => ?_
    simp (config := { implicitDefEqProofs := false }) only [↓GP, GQ, ↓awp_seq, ↓awp_block, C_ex, Nat.reduceBEq, acap, afieldAddr, aload, astore, abin, anum, astr, aun, isAggD, cond_true, cond_false, ↓reduceIte, C_P, C_G, isTuple, Value.cells, setL, ares, aresL, ares1, reduceCtorEq, Nat.reduceEqDiff, eq_self, Nat.reduceAdd, if_true, if_false, one, Nat.reduceLeDiff, undef, gsl, aextract, aindexAddr, amake, implies_true, forall_const, alen, abuiltin, anil, isC, Int.reduceEq, Int.reduceLT, Int.reduceLE, Int.reduceAdd, Int.reduceToNat, Int.reduceNeg, Nat.reduceMul, Nat.reduceSub, abuild, afill, Int.reduceBNe, Int.reduceBEq, p2, p7]
    refine ⟨46 - (j + 1), by omega, j + 1, v7, h7, rfl, by omega, rfl, ?_, hO7⟩
    have e : nl (head17 g num [x] ++ List.replicate (j + 1) 0) = nl (head17 g num [x] ++ List.replicate j 0) ++ [.int .u8 0] := by
      rw [List.replicate_succ', ← List.append_assoc, nl_append]; rfl
    rw [e]
    exact hG7.x
  obtain rfl : j = 46 := by omega
  have hcmp : ¬ (((17 + 46 : Nat) : Int) < 63) := by decide
  simp (config := { implicitDefEqProofs := false }) only [↓GP, GQ, ↓awp_seq, ↓awp_block, C_ex, Nat.reduceBEq, acap, afieldAddr, aload, astore, abin, anum, astr, aun, isAggD, cond_true, cond_false, ↓reduceIte, C_P, C_G, isTuple, Value.cells, setL, ares, aresL, ares1, reduceCtorEq, Nat.reduceEqDiff, eq_self, Nat.reduceAdd, if_true, if_false, one, Nat.reduceLeDiff, undef, gsl, aextract, aindexAddr, amake, implies_true, forall_const, alen, abuiltin, anil, isC, Int.reduceEq, Int.reduceLT, Int.reduceLE, Int.reduceAdd, Int.reduceToNat, Int.reduceNeg, Nat.reduceMul, Nat.reduceSub, abuild, afill, Int.reduceBNe, Int.reduceBEq, p2, p7, hv', Try.underlying23, Try.underlying3, build1, hcmp, decide_false]
  rw [← hv']
  refine GVx.append1 (c := [.int .u8 165]) Try.underlying23 (by rw [Try.underlying23]; rfl) asz5 azc5 aby5 hG hO rfl rfl (by decide) fun v7 h7 s7 hG7 hO7 => ?_
  obtain ⟨a7, c7, hv7⟩ := hG7.x.isSlice
  have hG7 := hG7.x
  subst hv7
  have hG7' : GVx (.slice a7 64 c7) (nl (headL g num [x])) 64 1 5 h7 := by
    have e : nl (headL g num [x]) = nl (head17 g num [x] ++ List.replicate 46 0) ++ [.int .u8 165] := by rw [headL, nl_append]; rfl
    rw [e]
    exact hG7
  have hb1 := abuildSlice_one (st := s7) (v := .slice a7 64 c7) Try.underlying22 asz23 azc23 rfl rfl rfl (by decide)
  have hO8 := hO7.new (Ob.cells [.slice a7 64 c7] 23 true)
  simp (config := { implicitDefEqProofs := false }) only [↓GP, GQ, ↓awp_seq, ↓awp_block, C_ex, Nat.reduceBEq, acap, afieldAddr, aload, astore, abin, anum, astr, aun, isAggD, cond_true, cond_false, ↓reduceIte, C_P, C_G, isTuple, Value.cells, setL, ares, aresL, ares1, reduceCtorEq, Nat.reduceEqDiff, eq_self, Nat.reduceAdd, if_true, if_false, one, Nat.reduceLeDiff, undef, gsl, aextract, aindexAddr, amake, implies_true, forall_const, alen, abuiltin, anil, isC, Int.reduceEq, Int.reduceLT, Int.reduceLE, Int.reduceAdd, Int.reduceToNat, Int.reduceNeg, Nat.reduceMul, Nat.reduceSub, abuild, afill, Int.reduceBNe, Int.reduceBEq, p2, p7, hb1]
  generalize hs8 : St.new s7 _ = s8 at hO8 ⊢
  generalize hn8 : s7.n = n8 at *
  have hNh : ∀ (Z : Hp), Nb (h7 ++ (Z ++ r)) (.slice a7 64 c7) (headL g num [x]) := fun Z => hG7'.nb rfl (headL_lt _ _ _)
  refine ⟨fun m ρ s => (m = 1 ∧ ρ 2 = v ∧ ρ 8 = .slice (some ⟨n8, 0, none⟩) 1 1 ∧ ρ 9 = .int .i64 0 ∧ s = s8) ∨ (m = 0 ∧ ρ 2 = v ∧ ρ 9 = .int .i64 64 ∧ ∃ H ov u1 u2, ρ 8 = ov ∧ Ps (H ++ r) ov [(u1, headL g num [x]), (u2, one64 x)] ∧ Own s (H ++ (R ++ r))), ⟨1, .inl ⟨rfl, p2, rfl, rfl, rfl⟩⟩, ?_⟩
  clear p2 p7
  rintro m ρ s (⟨rfl, p2, p8, p9, rfl⟩ | ⟨rfl, p2, p9, H, ov, u1, u2, p8, hPo, hOo⟩)
  · obtain ⟨B, o, sp, cc, cs, ty, own, hvx, hmem, hget⟩ := hv.at (by simp)
    have hvx : v = .slice (some ⟨B, o, sp⟩) 1 cc := hvx
    have hg := hget 0 (by simp)
    have hg : cs[o + 0]? = some (.int .u8 (x : Nat)) := hg
    rw [hvs] at hvx
    injection hvx with e1 e2 e3
    subst e1 e3
    have hO9 := hO8.new (Ob.cells (zeros [.int .u8 0] 64) 5 true)
    rw [zeros_nl] at hO9
    simp (config := { implicitDefEqProofs := false }) only [↓GP, GQ, ↓awp_seq, ↓awp_block, C_ex, Nat.reduceBEq, acap, afieldAddr, aload, astore, abin, anum, astr, aun, isAggD, cond_true, cond_false, ↓reduceIte, C_P, C_G, isTuple, Value.cells, setL, ares, aresL, ares1, reduceCtorEq, Nat.reduceEqDiff, eq_self, Nat.reduceAdd, if_true, if_false, one, Nat.reduceLeDiff, undef, gsl, aextract, aindexAddr, amake, implies_true, forall_const, alen, abuiltin, anil, isC, Int.reduceEq, Int.reduceLT, Int.reduceLE, Int.reduceAdd, Int.reduceToNat, Int.reduceNeg, Nat.reduceMul, Nat.reduceSub, abuild, afill, Int.reduceBNe, Int.reduceBEq, p2, p8, p9, hvs, Try.underlying23, Try.underlying3, asz5, azc5, aby5, show (0 : Int) < 1 by decide, decide_true]
    rw [zeros_nl]
    generalize hz : s.n = z at hO9 ⊢
    generalize St.new s _ = s9 at hO9 ⊢
    refine ⟨by decide, fun m ρ s => ρ 2 = v ∧ ρ 8 = .slice (some ⟨n8, 0, none⟩) 1 1 ∧ ρ 9 = .int .i64 0 ∧ ρ 10 = .slice (some ⟨z, 0, none⟩) 64 64 ∧ ∃ i : Nat, m = 1 - i ∧ i ≤ 1 ∧ ρ 11 = .int .i64 i ∧ Own s ((z, Ob.cells (nl (if i = 0 then List.replicate 64 0 else one64 x)) 5 true) :: (n8, Ob.cells [.slice a7 64 c7] 23 true) :: (h7 ++ (R ++ r))), ⟨1, p2, p8, p9, rfl, 0, rfl, by decide, rfl, hO9⟩, ?_⟩
    clear p2 p8 p9 hO9
    rintro m ρ s' ⟨p2, p8, p9, p10, i, rfl, hi, p11, hO⟩
    by_cases hi0 : i = 0
    · subst hi0
      rw [if_pos rfl] at hO
      have hB := hO.get (b := B) (o := .cells cs ty own) (by simp [hmem])
      have hzb := hO.head
      have hOs := hO.set rfl (.cells (nl (one64 x)) 5 true) rfl
      have hset : (nl (List.replicate 64 0)).set 0 (.int .u8 (x : Nat)) = nl (one64 x) := rfl
      have z0 : IntKind.i64.wrap 0 = 0 := by decide
      have z1 : IntKind.i64.wrap (0 + 1) = 1 := by decide
      have hg0 : cs[o]? = some (.int .u8 (x : Nat)) := hg
      have hzs : (nl (List.replicate 64 0))[0]? = some (.int .u8 0) := rfl
      simp (config := { implicitDefEqProofs := false }) only [↓GP, GQ, ↓awp_seq, ↓awp_block, C_ex, Nat.reduceBEq, acap, afieldAddr, aload, astore, abin, anum, astr, aun, isAggD, cond_true, cond_false, ↓reduceIte, C_P, C_G, isTuple, Value.cells, setL, ares, aresL, ares1, reduceCtorEq, Nat.reduceEqDiff, eq_self, Nat.reduceAdd, if_true, if_false, one, Nat.reduceLeDiff, undef, gsl, aextract, aindexAddr, amake, implies_true, forall_const, alen, abuiltin, anil, isC, Int.reduceEq, Int.reduceLT, Int.reduceLE, Int.reduceAdd, Int.reduceToNat, Int.reduceNeg, Nat.reduceMul, Nat.reduceSub, abuild, afill, Int.reduceBNe, Int.reduceBEq, p2, p8, p9, p10, p11, hvs, hB, hzb, hg0, z0, hset, z1, Nat.mul_one, Try.underlying23, Try.underlying3, Try.underlying5, asz5, azc5, aby5, show (0 : Int) < 1 by decide, show (0 : Int) < 64 by decide, decide_true]
      exact ⟨by simp [nl, bl], 0, by omega, 1, rfl, by decide, rfl, by rw [if_neg (by decide)]; exact hOs⟩
    · obtain rfl : i = 1 := by omega
      rw [if_neg (by decide)] at hO
      have z1 : IntKind.i64.wrap 1 = 1 := by decide
      have hb2 := abuildSlice_one (st := s') (v := .slice (some ⟨z, 0, none⟩) 64 64) Try.underlying22 asz23 azc23 rfl rfl rfl (by decide)
      simp (config := { implicitDefEqProofs := false }) only [↓GP, GQ, ↓awp_seq, ↓awp_block, C_ex, Nat.reduceBEq, acap, afieldAddr, aload, astore, abin, anum, astr, aun, isAggD, cond_true, cond_false, ↓reduceIte, C_P, C_G, isTuple, Value.cells, setL, ares, aresL, ares1, reduceCtorEq, Nat.reduceEqDiff, eq_self, Nat.reduceAdd, if_true, if_false, one, Nat.reduceLeDiff, undef, gsl, aextract, aindexAddr, amake, implies_true, forall_const, alen, abuiltin, anil, isC, Int.reduceEq, Int.reduceLT, Int.reduceLE, Int.reduceAdd, Int.reduceToNat, Int.reduceNeg, Nat.reduceMul, Nat.reduceSub, abuild, afill, Int.reduceBNe, Int.reduceBEq, p2, p8, p9, p10, p11, hvs, hb2, z1, Try.underlying23, Try.underlying22, Try.underlying3, asz5, azc5, aby5, show ¬ (1 : Int) < 1 by decide, show (1 : Int) < 64 by decide, decide_true, decide_false]
      have hO10 : Own s' ([(n8, Ob.cells [.slice a7 64 c7] 23 true)] ++ ((z, Ob.cells (nl (one64 x)) 5 true) :: (h7 ++ (R ++ r)))) := hO.perm (List.Perm.swap _ _ _)
      refine GVy.appendK (n := 1) (m := 1) (c := [.slice (some ⟨z, 0, none⟩) 64 64]) Try.underlying22 (by rw [Try.underlying22]; rfl) asz23 azc23 aby23 (.inr ⟨n8, rfl, rfl, rfl⟩) hO10 rfl (by decide) rfl (by decide) fun v11 h11 s11 hG11 hO11 => ?_
      simp (config := { implicitDefEqProofs := false }) only [↓GP, GQ, ↓awp_seq, ↓awp_block, C_ex, Nat.reduceBEq, acap, afieldAddr, aload, astore, abin, anum, astr, aun, isAggD, cond_true, cond_false, ↓reduceIte, C_P, C_G, isTuple, Value.cells, setL, ares, aresL, ares1, reduceCtorEq, Nat.reduceEqDiff, eq_self, Nat.reduceAdd, if_true, if_false, one, Nat.reduceLeDiff, undef, gsl, aextract, aindexAddr, amake, implies_true, forall_const, alen, abuiltin, anil, isC, Int.reduceEq, Int.reduceLT, Int.reduceLE, Int.reduceAdd, Int.reduceToNat, Int.reduceNeg, Nat.reduceMul, Nat.reduceSub, abuild, afill, Int.reduceBNe, Int.reduceBEq, p2, p8, p9, p10, p11]
      have hO12 : Own s11 ((h11 ++ ((z, Ob.cells (nl (one64 x)) 5 true) :: h7)) ++ (R ++ r)) := by
        rw [List.append_assoc]; exact hO11
      have hPs : Ps (h11 ++ ((z, Ob.cells (nl (one64 x)) 5 true) :: (h7 ++ r))) v11 [(.slice a7 64 c7, headL g num [x]), (.slice (some ⟨z, 0, none⟩) 64 64, one64 x)] := (GVc.ps (P := Try.prog) (qs := [(.slice a7 64 c7, headL g num [x]), (.slice (some ⟨z, 0, none⟩) 64 64, one64 x)]) (ty := 23) hG11.c rfl asz23 fun y hy => by
        rcases List.mem_cons.1 hy with e | e
        · subst e
          exact (hNh []).sub fun e he => List.mem_cons_of_mem _ he
        · rw [List.mem_singleton] at e
          subst e
          exact nb_exact (l := one64 x) (c := 64) (List.mem_cons_self ..) (fun d hd => by
            rcases List.mem_cons.1 hd with e | e
            · rw [e]; exact hv.2 x (by simp)
            · rw [List.eq_of_mem_replicate e]; decide)).1
      exact ⟨0, by omega, .inr ⟨rfl, by rw [show IntKind.i64.wrap 64 = 64 by decide], h11 ++ ((z, Ob.cells (nl (one64 x)) 5 true) :: h7), v11, _, _, rfl, by rw [List.append_assoc]; exact hPs, hO12⟩⟩
  · simp (config := { implicitDefEqProofs := false }) only [↓GP, GQ, ↓awp_seq, ↓awp_block, C_ex, Nat.reduceBEq, acap, afieldAddr, aload, astore, abin, anum, astr, aun, isAggD, cond_true, cond_false, ↓reduceIte, C_P, C_G, isTuple, Value.cells, setL, ares, aresL, ares1, reduceCtorEq, Nat.reduceEqDiff, eq_self, Nat.reduceAdd, if_true, if_false, one, Nat.reduceLeDiff, undef, gsl, aextract, aindexAddr, amake, implies_true, forall_const, alen, abuiltin, anil, isC, Int.reduceEq, Int.reduceLT, Int.reduceLE, Int.reduceAdd, Int.reduceToNat, Int.reduceNeg, Nat.reduceMul, Nat.reduceSub, abuild, afill, Int.reduceBNe, Int.reduceBEq, p2, p8, p9, hvs, Try.underlying23, Try.underlying3, show ¬ (64 : Int) < 1 by decide, decide_false]
    exact hk H ov u1 u2 s hPo hOo
end Go.Proofs.Ytiooigkcliomlaa
/- What can't be opened; a record laid by hand. No conditions. -/
set_option linter.unusedVariables false
set_option linter.unusedSimpArgs false
namespace Go.Proofs.Ytiooigkcliomlaa
open Go Go.Abs Go.RowKit
variable {base : Nat} {w0 : World} {G : Nat}

theorem Open_nil (st : St) (k q : Value → St → Prop) (hk : k (.tuple #[.pointer none, .slice none 0 0, .slice none 0 0, .int .i64 1]) st) : ACallF (C base w0 G) 10 [.pointer none] st k q := by
  refine ACallF.enter Try.func10 rfl (by kernel_rfl) ?_
  refine ACall.of (cx := C base w0 G) mixed Try.func10 rfl (by kernel_rfl) (by simp [Try.ntmps10]) ?_
  simp only [Try.results10]
  simp (config := { implicitDefEqProofs := false }) only [↓GP, GQ, ↓awp_seq, ↓awp_block, C_ex, Nat.reduceBEq, acap, afieldAddr, aload, astore, abin, anum, astr, aun, isAggD, cond_true, cond_false, ↓reduceIte, C_P, C_G, isTuple, Value.cells, setL, ares, aresL, ares1, reduceCtorEq, Nat.reduceEqDiff, eq_self, Nat.reduceAdd, if_true, if_false, one, Nat.reduceLeDiff, undef, gsl, aextract, aindexAddr, amake, implies_true, forall_const, alen, abuiltin, anil, isC, Int.reduceEq, Int.reduceLT, Int.reduceLE, Int.reduceAdd, Int.reduceToNat, Int.reduceNeg, Nat.reduceMul, Nat.reduceSub, abuild, afill, Int.reduceBNe, Int.reduceBEq, Try.underlying26]
  exact hk
theorem Open_small (st : St) (r h : Hp) (p : Nat) (S : List (List Nat)) (L : List LN) (hD : DN p S L (-1) h) (hO : Own st (h ++ r)) (h4 : S.length < 4) (k q : Value → St → Prop) (hk : k (.tuple #[.pointer none, .slice none 0 0, .slice none 0 0, .int .i64 2]) st) : ACallF (C base w0 G) 10 [.pointer (some ⟨p, 0, none⟩)] st k q := by
  refine ACallF.enter Try.func10 rfl (by kernel_rfl) ?_
  refine ACall.of (cx := C base w0 G) mixed Try.func10 rfl (by kernel_rfl) (by simp [Try.ntmps10]) ?_
  simp only [Try.results10]
  simp (config := { implicitDefEqProofs := false }) only [↓GP, GQ, ↓awp_seq, ↓awp_block, C_ex, Nat.reduceBEq, acap, afieldAddr, aload, astore, abin, anum, astr, aun, isAggD, cond_true, cond_false, ↓reduceIte, C_P, C_G, isTuple, Value.cells, setL, ares, aresL, ares1, reduceCtorEq, Nat.reduceEqDiff, eq_self, Nat.reduceAdd, if_true, if_false, one, Nat.reduceLeDiff, undef, gsl, aextract, aindexAddr, amake, implies_true, forall_const, alen, abuiltin, anil, isC, Int.reduceEq, Int.reduceLT, Int.reduceLE, Int.reduceAdd, Int.reduceToNat, Int.reduceNeg, Nat.reduceMul, Nat.reduceSub, abuild, afill, Int.reduceBNe, Int.reduceBEq, Try.underlying26]
  refine SizeN st r h p S L (-1) hD hO _ _ ?_
  simp (config := { implicitDefEqProofs := false }) only [↓GP, GQ, ↓awp_seq, ↓awp_block, C_ex, Nat.reduceBEq, acap, afieldAddr, aload, astore, abin, anum, astr, aun, isAggD, cond_true, cond_false, ↓reduceIte, C_P, C_G, isTuple, Value.cells, setL, ares, aresL, ares1, reduceCtorEq, Nat.reduceEqDiff, eq_self, Nat.reduceAdd, if_true, if_false, one, Nat.reduceLeDiff, undef, gsl, aextract, aindexAddr, amake, implies_true, forall_const, alen, abuiltin, anil, isC, Int.reduceEq, Int.reduceLT, Int.reduceLE, Int.reduceAdd, Int.reduceToNat, Int.reduceNeg, Nat.reduceMul, Nat.reduceSub, abuild, afill, Int.reduceBNe, Int.reduceBEq, Try.underlying3, show (S.length : Int) < 4 by omega, decide_true]
  exact hk
theorem wrote_fresh {n g : Nat} {l : List Nat} (hn : 4 ≤ n) (hb : ∀ d ∈ l, d < 256) (hbl : l.length < 4294967296) (h0 : g ≠ 0) (hg : g < 4294967296) (hfit : 1 + needN l.length ≤ n / 2) : JI (wrote (noughts n) 0 g 0 l) 0 g [l] := by
  have hsec0 : ∀ s ∈ noughts n, Sec s := fun s hs => by rw [List.eq_of_mem_replicate hs]; exact nought_sec
  have hl : (noughts n).length = n := by simp [noughts]
  have hng : ∀ j, j < n → (noughts n).getD j [] = nought64 := fun j hj => by
    rw [noughts, List.getD_eq_getElem?_getD, List.getElem?_replicate, if_pos hj]; rfl
  have hw := wrote_getD (noughts n) 0 g 0 l (by rw [hl]; omega)
  have hwl := wrote_length (noughts n) 0 g 0 l
  have hsec := wrote_sec (g := g) (num := 0) (a := 0) hsec0 hb (by rw [hl]; omega)
  rw [hl] at hwl
  generalize wrote (noughts n) 0 g 0 l = T at *
  have hl1 := lay_one_length g l
  refine ⟨hsec, by decide, h0, hg, by simp, fun x hx => by simp at hx; subst hx; exact hbl, by rw [hwl]; exact hn, ?_, bad_noughts _, ?_⟩
  · refine list_ext ?_ fun j hj => ?_
    · rw [halfOf_length (by decide), List.length_append, noughts, List.length_replicate, hwl, hl1]; omega
    · rw [halfOf_length (by decide), hwl] at hj
      rw [halfOf_getD (by rw [hwl]; exact hj), hwl, Nat.zero_mul, Nat.zero_add, hw, lay_one]
      cases j with
      | zero => rfl
      | succ j =>
        rw [if_neg (by omega)]
        by_cases c3 : j < needN l.length
        · rw [if_pos (by omega), List.getD_eq_getElem?_getD, List.cons_append, List.getElem?_cons_succ, List.getElem?_append_left (by rw [chunks_length]; omega), chunks, List.getElem?_map, List.getElem?_range (by omega)]
          show _ = chunkN l j
          congr 1
        · rw [if_neg (by omega), hng _ (by omega), List.getD_eq_getElem?_getD, List.cons_append, List.getElem?_cons_succ, List.getElem?_append_right (by rw [chunks_length]; omega), noughts, List.getElem?_replicate, if_pos (by rw [chunks_length, List.length_cons, chunks_length]; omega)]
          rfl
  · rw [if_pos rfl]
    have e : halfOf T 1 = noughts (n / 2) := by
      refine list_ext (by rw [halfOf_length (by decide), hwl]; simp [noughts]) fun j hj => ?_
      rw [halfOf_length (by decide), hwl] at hj
      rw [halfOf_getD (by rw [hwl]; exact hj), hwl, hw, if_neg (by omega), if_neg (by omega), hng _ (by omega), noughts, List.getD_eq_getElem?_getD, List.getElem?_replicate, if_pos hj]
      rfl
    rw [e, halfM_bad (bad_noughts _)]
    exact Nat.zero_le _
theorem two_wrote (g x : Nat) : appN (noughts 8) [(0, headL g 0 [x]), (1, one64 x)] = wrote (noughts 8) 0 g 0 [x] := by
  have hn : needN ([x] : List Nat).length = 1 := by unfold needN; simp
  unfold wrote
  rw [hn]
  show appN (noughts 8) [(0, headL g 0 [x]), (1, one64 x)] = appN (appN (noughts 8) [(0 + 1 + 0, chunkN [x] 0)]) [(0, headL g 0 [x])]
  rw [chunk_one]
  rfl
theorem opens_two {g x : Nat} (hx : x < 256) (h0 : g ≠ 0) (hg : g < 4294967296) : Opens (appN (noughts 8) [(0, headL g 0 [x]), (1, one64 x)]) 0 g [[x]] := by
  have hn : needN ([x] : List Nat).length = 1 := by unfold needN; simp
  rw [two_wrote]
  exact (wrote_fresh (by decide) (by simpa using hx) (by simp) h0 hg (by rw [hn]; decide)).opens
end Go.Proofs.Ytiooigkcliomlaa
/- JournalBounds answers true over the abstract heap. No conditions. -/
set_option linter.unusedVariables false
set_option linter.unusedSimpArgs false
namespace Go.Proofs.Ytiooigkcliomlaa
open Go Go.Abs Go.RowKit
variable {base : Nat} {w0 : World} {G : Nat}

theorem nbz (z n : Nat) (R : Hp) : Nb ((z, Ob.cells (zeros [.int .u8 0] n) 5 true) :: R) (.slice (some ⟨z, 0, none⟩) n n) (List.replicate n 0) := by
  have := nb_exact (h := (z, Ob.cells (nl (List.replicate n 0)) 5 true) :: R) (b := z) (l := List.replicate n 0) (sp := none) (c := n) (ty := 5) (own := true) (List.mem_cons_self ..) (fun d hd => by rw [List.eq_of_mem_replicate hd]; decide)
  rw [List.length_replicate] at this
  rw [zeros_nl]
  exact this
set_option maxHeartbeats 4000000 in
set_option maxRecDepth 10000 in
theorem bounds_spec (st : St) (F : Hp) (n0 : Int) (g0 : Nat) (hg0 : g0 < 4294967296) (hO : Own st F) (k q : Value → St → Prop) (hk : ∀ st', k (.bool true) st') :
    ACall (C base w0 G) 5 [.int .i64 n0, .int .u32 g0] st k q := by
  obtain ⟨kk, hkk, hkl⟩ := gomod n0 50 (by decide) (by decide)
  have w1 : IntKind.i64.wrap (1 + (kk : Int)) = ((1 + kk : Nat) : Int) := by rw [w_i64 (by omega)]; omega
  have hmax : amm true (.int .u32 (g0 : Int)) [.int .u32 1] = some (.int .u32 (max g0 1 : Nat)) := by
    show some (Value.int .u32 (if (1 : Int) > (g0 : Int) then 1 else (g0 : Int))) = _
    congr 2
    split <;> omega
  have hgm : max g0 1 < 4294967296 := by omega
  have hgm0 : max g0 1 ≠ 0 := by omega
  generalize hgg : max g0 1 = g at *
  refine ACall.of (cx := C base w0 G) mixed Try.func5 rfl (by kernel_rfl) (by simp [Try.ntmps5]) ?_
  simp only [Try.results5]
  simp (config := { implicitDefEqProofs := false }) only [↓GP, GQ, ↓awp_seq, ↓awp_block, C_ex, Nat.reduceBEq, acap, afieldAddr, aload, astore, abin, anum, astr, aun, isAggD, cond_true, cond_false, ↓reduceIte, C_P, C_G, isTuple, Value.cells, setL, ares, aresL, ares1, reduceCtorEq, Nat.reduceEqDiff, eq_self, Nat.reduceAdd, if_true, if_false, one, Nat.reduceLeDiff, undef, gsl, aextract, aindexAddr, amake, implies_true, forall_const, alen, abuiltin, anil, isC, Int.reduceEq, Int.reduceLT, Int.reduceLE, Int.reduceAdd, Int.reduceToNat, Int.reduceNeg, Nat.reduceMul, Nat.reduceSub, abuild, afill, Int.reduceBNe, Int.reduceBEq]
  refine awake_spec st F hO _ _ fun s1 hO1 => ?_
  simp (config := { implicitDefEqProofs := false }) only [↓GP, GQ, ↓awp_seq, ↓awp_block, C_ex, Nat.reduceBEq, acap, afieldAddr, aload, astore, abin, anum, astr, aun, isAggD, cond_true, cond_false, ↓reduceIte, C_P, C_G, isTuple, Value.cells, setL, ares, aresL, ares1, reduceCtorEq, Nat.reduceEqDiff, eq_self, Nat.reduceAdd, if_true, if_false, one, Nat.reduceLeDiff, undef, gsl, aextract, aindexAddr, amake, implies_true, forall_const, alen, abuiltin, anil, isC, Int.reduceEq, Int.reduceLT, Int.reduceLE, Int.reduceAdd, Int.reduceToNat, Int.reduceNeg, Nat.reduceMul, Nat.reduceSub, abuild, afill, Int.reduceBNe, Int.reduceBEq, hkk, w1, Try.underlying3]
  refine NewN s1 _ 8 hO1 _ _ (fun h => absurd (by omega) h) fun p h2 s2 _ _ hD2 hO2 => ?_
  have hD2 : DN p (noughts 8) [] (-1) h2 := hD2
  simp (config := { implicitDefEqProofs := false }) only [↓GP, GQ, ↓awp_seq, ↓awp_block, C_ex, Nat.reduceBEq, acap, afieldAddr, aload, astore, abin, anum, astr, aun, isAggD, cond_true, cond_false, ↓reduceIte, C_P, C_G, isTuple, Value.cells, setL, ares, aresL, ares1, reduceCtorEq, Nat.reduceEqDiff, eq_self, Nat.reduceAdd, if_true, if_false, one, Nat.reduceLeDiff, undef, gsl, aextract, aindexAddr, amake, implies_true, forall_const, alen, abuiltin, anil, isC, Int.reduceEq, Int.reduceLT, Int.reduceLE, Int.reduceAdd, Int.reduceToNat, Int.reduceNeg, Nat.reduceMul, Nat.reduceSub, abuild, afill, Int.reduceBNe, Int.reduceBEq]
  refine NewN s2 _ 3 hO2 _ _ (fun h => absurd (by omega) h) fun p3 h3 s3 _ _ hD3 hO3 => ?_
  have hD3 : DN p3 (noughts 3) [] (-1) h3 := hD3
  have hb1 := abuildSlice_one (st := s3) (v := .int .u8 115) Try.underlying23 asz5 azc5 rfl rfl rfl (by decide)
  have hO4 := hO3.new (Ob.cells [.int .u8 115] 5 true)
  have hcv : aconv Try.prog (s3.new (Ob.cells [.int .u8 115] 5 true)) 23 23 (.slice (some ⟨s3.n, 0, none⟩) 1 1) = some (.slice (some ⟨s3.n, 0, none⟩) 1 1, s3.new (Ob.cells [.int .u8 115] 5 true)) := by
    simp [aconv, Try.underlying23, Try.underlying5, hO4.head, isU8]
  simp (config := { implicitDefEqProofs := false }) only [↓GP, GQ, ↓awp_seq, ↓awp_block, C_ex, Nat.reduceBEq, acap, afieldAddr, aload, astore, abin, anum, astr, aun, isAggD, cond_true, cond_false, ↓reduceIte, C_P, C_G, isTuple, Value.cells, setL, ares, aresL, ares1, reduceCtorEq, Nat.reduceEqDiff, eq_self, Nat.reduceAdd, if_true, if_false, one, Nat.reduceLeDiff, undef, gsl, aextract, aindexAddr, amake, implies_true, forall_const, alen, abuiltin, anil, isC, Int.reduceEq, Int.reduceLT, Int.reduceLE, Int.reduceAdd, Int.reduceToNat, Int.reduceNeg, Nat.reduceMul, Nat.reduceSub, abuild, afill, Int.reduceBNe, Int.reduceBEq, hb1, hcv, hmax]
  have hNs : Nb ((s3.n, Ob.cells [.int .u8 115] 5 true) :: F) (.slice (some ⟨s3.n, 0, none⟩) 1 1) [115] := nb_exact (l := [115]) (c := 1) (ty := 5) (own := true) (List.mem_cons_self ..) (by simp)
  have hO4' := hO4.perm (show List.Perm _ ((h3 ++ h2) ++ ((s3.n, Ob.cells [.int .u8 115] 5 true) :: F)) by simpa using perm_of [[(s3.n, Ob.cells [.int .u8 115] 5 true)], h3, h2, F] [0, 1, 2, 3] [1, 2, 0, 3] rfl)
  refine Record_spec _ (h3 ++ h2) _ _ 115 g 0 hgm (by decide) hNs hO4' _ _ fun H5 ov u1 u2 s5 hP5 hO5 => ?_
  generalize s3.n = n3 at *
  have hO6 : Own s5 (h2 ++ (h3 ++ (H5 ++ ((n3, Ob.cells [.int .u8 115] 5 true) :: F)))) := hO5.perm (by simpa using perm_of [H5, h3, h2, [(n3, Ob.cells [.int .u8 115] 5 true)], F] [0, 1, 2, 3, 4] [2, 1, 0, 3, 4] rfl)
  have hQ6 : ∀ e ∈ H5 ++ ((n3, Ob.cells [.int .u8 115] 5 true) :: F), e ∈ h3 ++ (H5 ++ ((n3, Ob.cells [.int .u8 115] 5 true) :: F)) := fun e he => List.mem_append_right _ he
  generalize (n3, Ob.cells [.int .u8 115] 5 true) :: F = F3 at *
  obtain ⟨B, o, sp, c2, cs, ty, own, hvx, hmem, hget⟩ := hP5.at (hO6.perm (show List.Perm _ ((h2 ++ h3) ++ (H5 ++ F3)) by simp) |>.right) (by simp)
  have hvx : ov = .slice (some ⟨B, o, sp⟩) 2 c2 := hvx
  have g1 : cs[o]? = some u1 := hget 0 _ rfl
  have g2 : cs[o + 1]? = some u2 := hget 1 _ rfl
  have hB5 := hO6.get (b := B) (o := .cells cs ty own) (by simp at hmem; simp [hmem])
  have hN1 := (hP5.2 (u1, headL g 0 [115]) (by simp)).sub hQ6
  have hN2 := (hP5.2 (u2, one64 115) (by simp)).sub hQ6
  simp (config := { implicitDefEqProofs := false }) only [↓GP, GQ, ↓awp_seq, ↓awp_block, C_ex, Nat.reduceBEq, acap, afieldAddr, aload, astore, abin, anum, astr, aun, isAggD, cond_true, cond_false, ↓reduceIte, C_P, C_G, isTuple, Value.cells, setL, ares, aresL, ares1, reduceCtorEq, Nat.reduceEqDiff, eq_self, Nat.reduceAdd, if_true, if_false, one, Nat.reduceLeDiff, undef, gsl, aextract, aindexAddr, amake, implies_true, forall_const, alen, abuiltin, anil, isC, Int.reduceEq, Int.reduceLT, Int.reduceLE, Int.reduceAdd, Int.reduceToNat, Int.reduceNeg, Nat.reduceMul, Nat.reduceSub, abuild, afill, Int.reduceBNe, Int.reduceBEq, Try.underlying3, Try.underlying22, Try.underlying23, Try.underlying26, Try.underlying27, Try.underlying30, asz23, asz5, azc5, aby5, hvx, hB5, g1, g2]
  refine WriteN s5 _ h2 p (noughts 8) [] (-1) 0 u1 _ hD2 hO6 hN1 (by decide) (by decide) _ _ (fun h => absurd ⟨by decide, by decide, rfl⟩ h) (fun _ _ _ h => absurd h (by decide)) fun h7 s7 _ _ _ _ hD7 hO7 => ?_
  have hB7 := hO7.get (b := B) (o := .cells cs ty own) (by simp at hmem; simp [hmem])
  simp (config := { implicitDefEqProofs := false }) only [↓GP, GQ, ↓awp_seq, ↓awp_block, C_ex, Nat.reduceBEq, acap, afieldAddr, aload, astore, abin, anum, astr, aun, isAggD, cond_true, cond_false, ↓reduceIte, C_P, C_G, isTuple, Value.cells, setL, ares, aresL, ares1, reduceCtorEq, Nat.reduceEqDiff, eq_self, Nat.reduceAdd, if_true, if_false, one, Nat.reduceLeDiff, undef, gsl, aextract, aindexAddr, amake, implies_true, forall_const, alen, abuiltin, anil, isC, Int.reduceEq, Int.reduceLT, Int.reduceLE, Int.reduceAdd, Int.reduceToNat, Int.reduceNeg, Nat.reduceMul, Nat.reduceSub, abuild, afill, Int.reduceBNe, Int.reduceBEq, Try.underlying3, Try.underlying22, Try.underlying23, Try.underlying26, Try.underlying27, Try.underlying30, asz23, asz5, azc5, aby5, hvx, hB7, g1, g2]
  refine WriteN s7 _ h7 p (noughts 8) [(0, headL g 0 [115])] (-1) 1 u2 _ hD7 hO7 hN2 (by decide) (by simp) _ _ (fun h => absurd ⟨by decide, by decide, rfl⟩ h) (fun _ _ _ h => absurd h (by decide)) fun h8 s8 _ _ _ _ hD8 hO8 => ?_
  have hD8 : DN p (noughts 8) [(0, headL g 0 [115]), (1, one64 115)] (-1) h8 := hD8
  simp (config := { implicitDefEqProofs := false }) only [↓GP, GQ, ↓awp_seq, ↓awp_block, C_ex, Nat.reduceBEq, acap, afieldAddr, aload, astore, abin, anum, astr, aun, isAggD, cond_true, cond_false, ↓reduceIte, C_P, C_G, isTuple, Value.cells, setL, ares, aresL, ares1, reduceCtorEq, Nat.reduceEqDiff, eq_self, Nat.reduceAdd, if_true, if_false, one, Nat.reduceLeDiff, undef, gsl, aextract, aindexAddr, amake, implies_true, forall_const, alen, abuiltin, anil, isC, Int.reduceEq, Int.reduceLT, Int.reduceLE, Int.reduceAdd, Int.reduceToNat, Int.reduceNeg, Nat.reduceMul, Nat.reduceSub, abuild, afill, Int.reduceBNe, Int.reduceBEq, Try.underlying3, Try.underlying22, Try.underlying23, Try.underlying26, Try.underlying27, Try.underlying30, asz23, asz5, azc5, aby5]
  refine OpenJ s8 _ h8 p (noughts 8) _ (opens_two (by decide) hgm0 hgm) hD8 hO8 (by decide) (by decide) (by simp) _ _ fun jp sv rv h9 H9 T9 s9 hJ9 hl9 hD9 hN9 hR9 hO9 => ?_
  have hl9 : T9.length = 8 := hl9
  simp (config := { implicitDefEqProofs := false }) only [↓GP, GQ, ↓awp_seq, ↓awp_block, C_ex, Nat.reduceBEq, acap, afieldAddr, aload, astore, abin, anum, astr, aun, isAggD, cond_true, cond_false, ↓reduceIte, C_P, C_G, isTuple, Value.cells, setL, ares, aresL, ares1, reduceCtorEq, Nat.reduceEqDiff, eq_self, Nat.reduceAdd, if_true, if_false, one, Nat.reduceLeDiff, undef, gsl, aextract, aindexAddr, amake, implies_true, forall_const, alen, abuiltin, anil, isC, Int.reduceEq, Int.reduceLT, Int.reduceLE, Int.reduceAdd, Int.reduceToNat, Int.reduceNeg, Nat.reduceMul, Nat.reduceSub, abuild, afill, Int.reduceBNe, Int.reduceBEq, Try.underlying3, Try.underlying22, Try.underlying23, Try.underlying26, Try.underlying27, Try.underlying30, asz23, asz5, azc5, aby5]
  refine Open_nil s9 _ _ ?_
  simp (config := { implicitDefEqProofs := false }) only [↓GP, GQ, ↓awp_seq, ↓awp_block, C_ex, Nat.reduceBEq, acap, afieldAddr, aload, astore, abin, anum, astr, aun, isAggD, cond_true, cond_false, ↓reduceIte, C_P, C_G, isTuple, Value.cells, setL, ares, aresL, ares1, reduceCtorEq, Nat.reduceEqDiff, eq_self, Nat.reduceAdd, if_true, if_false, one, Nat.reduceLeDiff, undef, gsl, aextract, aindexAddr, amake, implies_true, forall_const, alen, abuiltin, anil, isC, Int.reduceEq, Int.reduceLT, Int.reduceLE, Int.reduceAdd, Int.reduceToNat, Int.reduceNeg, Nat.reduceMul, Nat.reduceSub, abuild, afill, Int.reduceBNe, Int.reduceBEq, Try.underlying3, Try.underlying22, Try.underlying23, Try.underlying26, Try.underlying27, Try.underlying30, asz23, asz5, azc5, aby5]
  have hO10 : Own s9 (h3 ++ (JB jp p T9 0 g [[115]] false :: (h9 ++ (H9 ++ (H5 ++ F3))))) := hO9.perm (by simpa using perm_of [[JB jp p T9 0 g [[115]] false], h9, H9, h3, H5, F3] [0, 1, 2, 3, 4, 5] [3, 0, 1, 2, 4, 5] rfl)
  refine Open_small s9 _ h3 p3 (noughts 3) [] hD3 hO10 (by decide) _ _ ?_
  have hst := (hN9.sub (h' := JB jp p T9 0 g [[115]] false :: (h9 ++ (H9 ++ (h3 ++ (H5 ++ F3))))) (fun e he => by simp [he])).strP hO9
  have hE : strOf [(115 : Int)] = { data := #[115] } := rfl
  have hst : aconv Try.prog s9 23 9 sv = some (.string { data := #[115] }, s9) := hst
  simp (config := { implicitDefEqProofs := false }) only [↓GP, GQ, ↓awp_seq, ↓awp_block, C_ex, Nat.reduceBEq, acap, afieldAddr, aload, astore, abin, anum, astr, aun, isAggD, cond_true, cond_false, ↓reduceIte, C_P, C_G, isTuple, Value.cells, setL, ares, aresL, ares1, reduceCtorEq, Nat.reduceEqDiff, eq_self, Nat.reduceAdd, if_true, if_false, one, Nat.reduceLeDiff, undef, gsl, aextract, aindexAddr, amake, implies_true, forall_const, alen, abuiltin, anil, isC, Int.reduceEq, Int.reduceLT, Int.reduceLE, Int.reduceAdd, Int.reduceToNat, Int.reduceNeg, Nat.reduceMul, Nat.reduceSub, abuild, afill, Int.reduceBNe, Int.reduceBEq, Try.underlying3, Try.underlying22, Try.underlying23, Try.underlying26, Try.underlying27, Try.underlying30, asz23, asz5, azc5, aby5, hst, Try.underlying9, beq_self_eq_true]
  have hcg : aconv Try.prog s9 47 3 (.int .u32 (g : Int)) = some (.int .i64 (g : Int), s9) := by simp [aconv, Try.underlying47, Try.underlying3, w_i64 (x := (g : Int)) (by omega)]
  refine GenJ s9 jp p T9 0 g [[115]] false _ hO9 _ _ ?_
  have wb : IntKind.i64.wrap (262144 + ((1 + kk : Nat) : Int)) = ((262145 + kk : Nat) : Int) := by rw [w_i64 (by omega)]; omega
  have wt1 : ((262145 + kk : Nat) : Int).toNat = 262145 + kk := Int.toNat_natCast _
  simp (config := { implicitDefEqProofs := false }) only [↓GP, GQ, ↓awp_seq, ↓awp_block, C_ex, Nat.reduceBEq, acap, afieldAddr, aload, astore, abin, anum, astr, aun, isAggD, cond_true, cond_false, ↓reduceIte, C_P, C_G, isTuple, Value.cells, setL, ares, aresL, ares1, reduceCtorEq, Nat.reduceEqDiff, eq_self, Nat.reduceAdd, if_true, if_false, one, Nat.reduceLeDiff, undef, gsl, aextract, aindexAddr, amake, implies_true, forall_const, alen, abuiltin, anil, isC, Int.reduceEq, Int.reduceLT, Int.reduceLE, Int.reduceAdd, Int.reduceToNat, Int.reduceNeg, Nat.reduceMul, Nat.reduceSub, abuild, afill, Int.reduceBNe, Int.reduceBEq, Try.underlying3, Try.underlying22, Try.underlying23, Try.underlying26, Try.underlying27, Try.underlying30, Try.underlying47, asz23, asz5, azc5, aby5, hmax, hcg, wb, wt1]
  refine ⟨⟨by omega, by omega, by omega, by omega⟩, ?_⟩
  have hlay : (lay g [[115]]).length = 2 := by rw [lay_one_length]; have : needN ([115] : List Nat).length = 1 := by unfold needN; simp
                                               omega
  have hO11 := (hO9.new (Ob.cells (zeros [.int .u8 0] (262145 + kk)) 5 true)).perm (perm_jN _ _ _ _)
  have hn9 : T9.length / 2 = 4 := by omega
  refine AppendJ _ _ h9 jp p T9 0 g _ (-1) _ _ hJ9 hD9 hO11 (nbz _ _ _) ⟨by decide, by decide⟩ (by omega) (by rw [List.length_replicate]; omega) _ _ (fun _ => ?_) (fun h => absurd h (by rw [List.length_replicate]; omega)) (fun _ _ _ _ h => absurd h (by rw [List.length_replicate]; omega)) (fun _ _ _ _ h => absurd h (by rw [List.length_replicate]; omega))
  generalize hs11 : St.new s9 _ = s11 at hO11 ⊢
  simp (config := { implicitDefEqProofs := false }) only [↓GP, GQ, ↓awp_seq, ↓awp_block, C_ex, Nat.reduceBEq, acap, afieldAddr, aload, astore, abin, anum, astr, aun, isAggD, cond_true, cond_false, ↓reduceIte, C_P, C_G, isTuple, Value.cells, setL, ares, aresL, ares1, reduceCtorEq, Nat.reduceEqDiff, eq_self, Nat.reduceAdd, if_true, if_false, one, Nat.reduceLeDiff, undef, gsl, aextract, aindexAddr, amake, implies_true, forall_const, alen, abuiltin, anil, isC, Int.reduceEq, Int.reduceLT, Int.reduceLE, Int.reduceAdd, Int.reduceToNat, Int.reduceNeg, Nat.reduceMul, Nat.reduceSub, abuild, afill, Int.reduceBNe, Int.reduceBEq, Try.underlying3, Try.underlying22, Try.underlying23, Try.underlying26, Try.underlying27, Try.underlying30, Try.underlying47, asz23, asz5, azc5, aby5, wb, wt1]
  refine ⟨⟨by omega, by omega, by omega, by omega⟩, ?_⟩
  have hO12 := (hO11.new (Ob.cells (zeros [.int .u8 0] (262145 + kk)) 5 true)).perm (perm_jN _ _ _ _)
  refine CompactJ _ _ h9 jp p T9 0 g _ (-1) _ _ hJ9 hD9 hO12 (nbz _ _ _) ⟨by decide, by decide⟩ (by omega) (by rw [List.length_replicate]; omega) _ _ (fun _ => ?_) (fun h => absurd h (by rw [List.length_replicate]; omega)) (fun h => absurd h (by rw [List.length_replicate]; omega)) (fun _ _ _ _ h => absurd h (by rw [List.length_replicate]; omega)) (fun _ _ _ _ h => absurd h (by rw [List.length_replicate]; omega))
  generalize hs12 : St.new s11 _ = s12 at hO12 ⊢
  simp (config := { implicitDefEqProofs := false }) only [↓GP, GQ, ↓awp_seq, ↓awp_block, C_ex, Nat.reduceBEq, acap, afieldAddr, aload, astore, abin, anum, astr, aun, isAggD, cond_true, cond_false, ↓reduceIte, C_P, C_G, isTuple, Value.cells, setL, ares, aresL, ares1, reduceCtorEq, Nat.reduceEqDiff, eq_self, Nat.reduceAdd, if_true, if_false, one, Nat.reduceLeDiff, undef, gsl, aextract, aindexAddr, amake, implies_true, forall_const, alen, abuiltin, anil, isC, Int.reduceEq, Int.reduceLT, Int.reduceLE, Int.reduceAdd, Int.reduceToNat, Int.reduceNeg, Nat.reduceMul, Nat.reduceSub, abuild, afill, Int.reduceBNe, Int.reduceBEq, Try.underlying3, Try.underlying22, Try.underlying23, Try.underlying26, Try.underlying27, Try.underlying30, Try.underlying47, asz23, asz5, azc5, aby5, wb, wt1]
  refine Fits_spec s12 jp p (T9.length / 2) 0 g 1 (lay g [[115]]).length false _ hO12.head (by omega) (by omega) _ _ ?_
  have hf1 : fitsN ((262145 + kk : Nat) : Int) (T9.length / 2) (lay g [[115]]).length = false := by unfold fitsN; exact decide_eq_false (by omega)
  rw [hf1]
  simp (config := { implicitDefEqProofs := false }) only [↓GP, GQ, ↓awp_seq, ↓awp_block, C_ex, Nat.reduceBEq, acap, afieldAddr, aload, astore, abin, anum, astr, aun, isAggD, cond_true, cond_false, ↓reduceIte, C_P, C_G, isTuple, Value.cells, setL, ares, aresL, ares1, reduceCtorEq, Nat.reduceEqDiff, eq_self, Nat.reduceAdd, if_true, if_false, one, Nat.reduceLeDiff, undef, gsl, aextract, aindexAddr, amake, implies_true, forall_const, alen, abuiltin, anil, isC, Int.reduceEq, Int.reduceLT, Int.reduceLE, Int.reduceAdd, Int.reduceToNat, Int.reduceNeg, Nat.reduceMul, Nat.reduceSub, abuild, afill, Int.reduceBNe, Int.reduceBEq, Try.underlying3, Try.underlying22, Try.underlying23, Try.underlying26, Try.underlying27, Try.underlying30, Try.underlying47, asz23, asz5, azc5, aby5, wb, wt1]
  refine Fits_spec s12 jp p (T9.length / 2) 0 g 1 (lay g [[115]]).length false _ hO12.head (by omega) (by omega) _ _ ?_
  have hf2 : fitsN (IntKind.i64.wrap (0 - ((1 + kk : Nat) : Int))) (T9.length / 2) (lay g [[115]]).length = false := by
    rw [w_i64 (by omega)]
    unfold fitsN; exact decide_eq_false (by omega)
  rw [hf2]
  have wc : IntKind.i64.wrap (64 + ((1 + kk : Nat) : Int)) = ((65 + kk : Nat) : Int) := by rw [w_i64 (by omega)]; omega
  have wd : IntKind.i64.wrap (192 + ((1 + kk : Nat) : Int)) = ((193 + kk : Nat) : Int) := by rw [w_i64 (by omega)]; omega
  have wt2 : ((65 + kk : Nat) : Int).toNat = 65 + kk := Int.toNat_natCast _
  have wt3 : ((193 + kk : Nat) : Int).toNat = 193 + kk := Int.toNat_natCast _
  simp (config := { implicitDefEqProofs := false }) only [↓GP, GQ, ↓awp_seq, ↓awp_block, C_ex, Nat.reduceBEq, acap, afieldAddr, aload, astore, abin, anum, astr, aun, isAggD, cond_true, cond_false, ↓reduceIte, C_P, C_G, isTuple, Value.cells, setL, ares, aresL, ares1, reduceCtorEq, Nat.reduceEqDiff, eq_self, Nat.reduceAdd, if_true, if_false, one, Nat.reduceLeDiff, undef, gsl, aextract, aindexAddr, amake, implies_true, forall_const, alen, abuiltin, anil, isC, Int.reduceEq, Int.reduceLT, Int.reduceLE, Int.reduceAdd, Int.reduceToNat, Int.reduceNeg, Nat.reduceMul, Nat.reduceSub, abuild, afill, Int.reduceBNe, Int.reduceBEq, Try.underlying3, Try.underlying22, Try.underlying23, Try.underlying26, Try.underlying27, Try.underlying30, Try.underlying47, asz23, asz5, azc5, aby5, wc, wt2]
  refine ⟨⟨by omega, by omega, by omega, by omega⟩, ?_⟩
  have hO13 := (hO12.new (Ob.cells (zeros [.int .u8 0] (65 + kk)) 5 true)).perm (perm_jN _ _ _ _)
  refine AppendJ _ _ h9 jp p T9 0 g _ (-1) _ _ hJ9 hD9 hO13 (nbz _ _ _) ⟨by decide, by decide⟩ (by omega) (by rw [List.length_replicate]; omega) _ _ (fun h => absurd h (by rw [List.length_replicate]; omega)) (fun _ _ => ?_) (fun _ _ _ _ _ h => absurd h (by rw [List.length_replicate]; unfold needN; omega)) (fun _ _ _ _ _ h => absurd h (by rw [List.length_replicate]; unfold needN; omega))
  generalize hs13 : St.new s12 _ = s13 at hO13 ⊢
  simp (config := { implicitDefEqProofs := false }) only [↓GP, GQ, ↓awp_seq, ↓awp_block, C_ex, Nat.reduceBEq, acap, afieldAddr, aload, astore, abin, anum, astr, aun, isAggD, cond_true, cond_false, ↓reduceIte, C_P, C_G, isTuple, Value.cells, setL, ares, aresL, ares1, reduceCtorEq, Nat.reduceEqDiff, eq_self, Nat.reduceAdd, if_true, if_false, one, Nat.reduceLeDiff, undef, gsl, aextract, aindexAddr, amake, implies_true, forall_const, alen, abuiltin, anil, isC, Int.reduceEq, Int.reduceLT, Int.reduceLE, Int.reduceAdd, Int.reduceToNat, Int.reduceNeg, Nat.reduceMul, Nat.reduceSub, abuild, afill, Int.reduceBNe, Int.reduceBEq, Try.underlying3, Try.underlying22, Try.underlying23, Try.underlying26, Try.underlying27, Try.underlying30, Try.underlying47, asz23, asz5, azc5, aby5, wd, wt3]
  refine ⟨⟨by omega, by omega, by omega, by omega⟩, ?_⟩
  have hO14 := (hO13.new (Ob.cells (zeros [.int .u8 0] (193 + kk)) 5 true)).perm (perm_jN _ _ _ _)
  refine CompactJ _ _ h9 jp p T9 0 g _ (-1) _ _ hJ9 hD9 hO14 (nbz _ _ _) ⟨by decide, by decide⟩ (by omega) (by rw [List.length_replicate]; omega) _ _ (fun h => absurd h (by rw [List.length_replicate]; omega)) (fun _ _ => ?_) (fun _ h => absurd h (by rw [List.length_replicate]; unfold needN; omega)) (fun _ _ _ _ _ h => absurd h (by rw [List.length_replicate]; unfold needN; omega)) (fun _ _ _ _ _ h => absurd h (by rw [List.length_replicate]; unfold needN; omega))
  generalize hs14 : St.new s13 _ = s14 at hO14 ⊢
  have hb4 := abuildSlice_one (st := s14) (v := .int .u8 116) Try.underlying23 asz5 azc5 rfl rfl rfl (by decide)
  have hO15 := (hO14.new (Ob.cells [.int .u8 116] 5 true)).perm (perm_jN _ _ _ _)
  have hcv4 : aconv Try.prog (s14.new (Ob.cells [.int .u8 116] 5 true)) 23 23 (.slice (some ⟨s14.n, 0, none⟩) 1 1) = some (.slice (some ⟨s14.n, 0, none⟩) 1 1, s14.new (Ob.cells [.int .u8 116] 5 true)) := by
    have := (hO14.new (Ob.cells [.int .u8 116] 5 true)).head
    simp [aconv, Try.underlying23, Try.underlying5, this, isU8]
  simp (config := { implicitDefEqProofs := false }) only [↓GP, GQ, ↓awp_seq, ↓awp_block, C_ex, Nat.reduceBEq, acap, afieldAddr, aload, astore, abin, anum, astr, aun, isAggD, cond_true, cond_false, ↓reduceIte, C_P, C_G, isTuple, Value.cells, setL, ares, aresL, ares1, reduceCtorEq, Nat.reduceEqDiff, eq_self, Nat.reduceAdd, if_true, if_false, one, Nat.reduceLeDiff, undef, gsl, aextract, aindexAddr, amake, implies_true, forall_const, alen, abuiltin, anil, isC, Int.reduceEq, Int.reduceLT, Int.reduceLE, Int.reduceAdd, Int.reduceToNat, Int.reduceNeg, Nat.reduceMul, Nat.reduceSub, abuild, afill, Int.reduceBNe, Int.reduceBEq, Try.underlying3, Try.underlying22, Try.underlying23, Try.underlying26, Try.underlying27, Try.underlying30, Try.underlying47, asz23, asz5, azc5, aby5, hb4, hcv4]
  have hNt : ∀ R, Nb ((s14.n, Ob.cells [.int .u8 116] 5 true) :: R) (.slice (some ⟨s14.n, 0, none⟩) 1 1) [116] := fun R => nb_exact (l := [116]) (c := 1) (ty := 5) (own := true) (List.mem_cons_self ..) (by simp)
  have hn1 : needN ([116] : List Nat).length = 1 := by unfold needN; simp
  refine CompactJ _ _ h9 jp p T9 0 g _ (-1) _ _ hJ9 hD9 hO15 (hNt _) ⟨by decide, by decide⟩ (by omega) (by simp) _ _ (fun h => absurd h (by simp)) (fun _ h => absurd (by rw [hn1]; omega) h) (fun _ _ htop => ?_) (fun _ _ _ _ _ _ _ h => absurd rfl h) (fun fz' T2 h16 s16 _ _ hnt hsp hJ16 hl16 hD16 hO16 => ?_)
  · obtain rfl : g0 = 4294967295 := by omega
    simp (config := { implicitDefEqProofs := false }) only [↓GP, GQ, ↓awp_seq, ↓awp_block, C_ex, Nat.reduceBEq, acap, afieldAddr, aload, astore, abin, anum, astr, aun, isAggD, cond_true, cond_false, ↓reduceIte, C_P, C_G, isTuple, Value.cells, setL, ares, aresL, ares1, reduceCtorEq, Nat.reduceEqDiff, eq_self, Nat.reduceAdd, if_true, if_false, one, Nat.reduceLeDiff, undef, gsl, aextract, aindexAddr, amake, implies_true, forall_const, alen, abuiltin, anil, isC, Int.reduceEq, Int.reduceLT, Int.reduceLE, Int.reduceAdd, Int.reduceToNat, Int.reduceNeg, Nat.reduceMul, Nat.reduceSub, abuild, afill, Int.reduceBNe, Int.reduceBEq, Try.underlying3, Try.underlying22, Try.underlying23, Try.underlying26, Try.underlying27, Try.underlying30, Try.underlying47, asz23, asz5, azc5, aby5, beq_self_eq_true]
    refine GenJ _ jp p T9 0 g [[115]] false _ hO15 _ _ ?_
    subst htop
    simp (config := { implicitDefEqProofs := false }) only [↓GP, GQ, ↓awp_seq, ↓awp_block, C_ex, Nat.reduceBEq, acap, afieldAddr, aload, astore, abin, anum, astr, aun, isAggD, cond_true, cond_false, ↓reduceIte, C_P, C_G, isTuple, Value.cells, setL, ares, aresL, ares1, reduceCtorEq, Nat.reduceEqDiff, eq_self, Nat.reduceAdd, if_true, if_false, one, Nat.reduceLeDiff, undef, gsl, aextract, aindexAddr, amake, implies_true, forall_const, alen, abuiltin, anil, isC, Int.reduceEq, Int.reduceLT, Int.reduceLE, Int.reduceAdd, Int.reduceToNat, Int.reduceNeg, Nat.reduceMul, Nat.reduceSub, abuild, afill, Int.reduceBNe, Int.reduceBEq, Try.underlying3, Try.underlying22, Try.underlying23, Try.underlying26, Try.underlying27, Try.underlying30, Try.underlying47, asz23, asz5, azc5, aby5, beq_self_eq_true]
    exact hk _
  · have hcg2 : aconv Try.prog s16 47 3 (.int .u32 (g : Int)) = some (.int .i64 (g : Int), s16) := by simp [aconv, Try.underlying47, Try.underlying3, w_i64 (x := (g : Int)) (by omega)]
    have wg1 : IntKind.i64.wrap ((g : Int) + 1) = ((g + 1 : Nat) : Int) := by rw [w_i64 (by omega)]; omega
    simp (config := { implicitDefEqProofs := false }) only [↓GP, GQ, ↓awp_seq, ↓awp_block, C_ex, Nat.reduceBEq, acap, afieldAddr, aload, astore, abin, anum, astr, aun, isAggD, cond_true, cond_false, ↓reduceIte, C_P, C_G, isTuple, Value.cells, setL, ares, aresL, ares1, reduceCtorEq, Nat.reduceEqDiff, eq_self, Nat.reduceAdd, if_true, if_false, one, Nat.reduceLeDiff, undef, gsl, aextract, aindexAddr, amake, implies_true, forall_const, alen, abuiltin, anil, isC, Int.reduceEq, Int.reduceLT, Int.reduceLE, Int.reduceAdd, Int.reduceToNat, Int.reduceNeg, Nat.reduceMul, Nat.reduceSub, abuild, afill, Int.reduceBNe, Int.reduceBEq, Try.underlying3, Try.underlying22, Try.underlying23, Try.underlying26, Try.underlying27, Try.underlying30, Try.underlying47, asz23, asz5, azc5, aby5, beqF (show ¬ (g0 : Int) = 4294967295 by omega)]
    refine GenJ _ jp p T2 (1 - 0) (g + 1) [[116]] false _ hO16 _ _ ?_
    simp (config := { implicitDefEqProofs := false }) only [↓GP, GQ, ↓awp_seq, ↓awp_block, C_ex, Nat.reduceBEq, acap, afieldAddr, aload, astore, abin, anum, astr, aun, isAggD, cond_true, cond_false, ↓reduceIte, C_P, C_G, isTuple, Value.cells, setL, ares, aresL, ares1, reduceCtorEq, Nat.reduceEqDiff, eq_self, Nat.reduceAdd, if_true, if_false, one, Nat.reduceLeDiff, undef, gsl, aextract, aindexAddr, amake, implies_true, forall_const, alen, abuiltin, anil, isC, Int.reduceEq, Int.reduceLT, Int.reduceLE, Int.reduceAdd, Int.reduceToNat, Int.reduceNeg, Nat.reduceMul, Nat.reduceSub, abuild, afill, Int.reduceBNe, Int.reduceBEq, Try.underlying3, Try.underlying22, Try.underlying23, Try.underlying26, Try.underlying27, Try.underlying30, Try.underlying47, asz23, asz5, azc5, aby5, hmax, hcg2, wg1, beq_self_eq_true]
    exact hk _
end Go.Proofs.Ytiooigkcliomlaa
/- JournalBounds answers true for every input, and leaves what came in as it was. No conditions. -/
set_option linter.unusedVariables false
set_option linter.unusedSimpArgs false
namespace Go.Proofs.Ytiooigkcliomlaa
open Go Go.Abs Go.RowKit Go.ChangeShapes

theorem fit_int5 {w : World} {v : Value} (h : ArgFit Try.prog (st0 w) 3 v) : ∃ a, v = .int .i64 a := by
  obtain ⟨n, h⟩ := h
  rw [Try.underlying3] at h
  obtain ⟨a, e, _⟩ := fit_int' Try.underlying3 h
  exact ⟨a, (List.cons.inj (show [v] = [.int .i64 a] from e)).1⟩
theorem fit_u32 {w : World} {v : Value} (h : ArgFit Try.prog (st0 w) 47 v) : ∃ a : Nat, v = .int .u32 a ∧ a < 4294967296 := by
  obtain ⟨n, h⟩ := h
  rw [Try.underlying47] at h
  obtain ⟨a, e, h1, h2⟩ := fit_int' Try.underlying47 h
  have h1 : 0 ≤ a := by simpa [IntKind.min, IntKind.signed, IntKind.bits] using h1
  have h2 : a ≤ 4294967295 := by simpa [IntKind.max, IntKind.signed, IntKind.bits] using h2
  refine ⟨a.toNat, ?_, by omega⟩
  rw [Int.toNat_of_nonneg h1]
  exact (List.cons.inj (show [v] = [.int .u32 a] from e)).1
set_option maxRecDepth 100000 in
theorem bounds_lifted (os : Os) (started : os.Started) (H : Type) (enc : TypeId × Value → H) :
    ReturnsInHanded {} Try.checked os 5 .any (Rows.journalBoundsSpec.pre6 enc Try.prog Try.f5 Rows.journalBoundsRow.domain false) (Rows.journalBoundsSpec.post enc Try.prog Try.f5 false true false false) := by
  refine law_lift (C := Try.checked) (G := 0) (ex := fun t => false) (tb := 4) own started (by kernel_rfl) Try.func5 laidOut (by kernel_rfl) (by kernel_rfl) Try.underlying4 rfl (fun ds hd => ?_)
    (ChangeSpec.witness6 (enc := enc) (C := Try.checked) false ⟨#[], #[.int .i64 0, .int .u32 0], []⟩ 8 (by kernel_rfl) (by kernel_rfl) (by kernel_rfl) (by kernel_rfl)) (fun W args hn hf _ => ⟨Nat.zero_le _, ?_⟩)
  · rw [Try.params5] at hd
    obtain ⟨a, b, rfl⟩ : ∃ a b, ds = [a, b] := by
      match ds, hd with
      | [a, b], _ => exact ⟨a, b, rfl⟩
    rfl
  · rw [Try.params5] at hn hf
    obtain ⟨a, b, rfl⟩ : ∃ a b, args = #[a, b] := by
      obtain ⟨l⟩ := args
      match l, hn with
      | [a, b], _ => exact ⟨a, b, rfl⟩
    obtain ⟨m0, e0⟩ := fit_int5 (hf 0 3 a rfl rfl)
    obtain ⟨g0, e1, hg⟩ := fit_u32 (hf 1 47 b rfl rfl)
    simp only [List.map_cons, List.map_nil, e0, e1]
    exact bounds_spec _ _ m0 g0 hg (own_foreign W) _ _ fun _ => rfl

theorem journalBounds_holds : Rows.JournalBoundsSaid :=
  OpenClaim.holds_of_wide 5 Try.f5 rfl rfl rfl rfl rfl rfl rfl ⟨rfl, rfl, rfl, rfl, rfl⟩ rfl rfl rfl rfl rfl (by kernel_rfl) Try.func5 (by kernel_rfl)
    (of_decide_eq_true (by kernel_rfl)) (by unfold Func.isWrapper; first | (rw [if_pos (by decide +kernel)]; kernel_rfl) | (rw [if_neg (by decide +kernel)]; exact ⟨rfl, rfl⟩))
    (fun os started H enc _ => bounds_lifted os started H enc)
#print axioms journalBounds_holds
end Go.Proofs.Ytiooigkcliomlaa
