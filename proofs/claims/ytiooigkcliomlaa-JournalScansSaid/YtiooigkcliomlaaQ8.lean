/- JournalScans answers true over the abstract heap. No conditions. -/
import Derived.Test.YtiooigkcliomlaaQ7
import Derived.Test.YtiooigkcliomlaaQ6
import Derived.Test.YtiooigkcliomlaaQT
import Derived.Test.YtiooigkcliomlaaAbsL
set_option linter.unusedVariables false
set_option linter.unusedSimpArgs false
namespace Go.Proofs.Ytiooigkcliomlaa
open Go Go.Abs Go.RowKit
variable {base : Nat} {w0 : World} {G : Nat}

def nils' : Value := .slice none 0 0
def writesF (T : List (List Nat)) (i : Nat) : List LN := (List.range i).map fun j => (j, T.getD j [])
theorem writesF_succ (T : List (List Nat)) (i : Nat) : writesF T (i + 1) = writesF T i ++ [(i, T.getD i [])] := by
  unfold writesF; rw [List.range_succ, List.map_append]; rfl
theorem writesF_getD (S T : List (List Nat)) : ∀ i, i ≤ S.length → ∀ j, (appN S (writesF T i)).getD j [] = if j < i then T.getD j [] else S.getD j []
  | 0, _, j => by rw [if_neg (by omega)]; rfl
  | i + 1, h, j => by
    rw [writesF_succ, appN_append]
    show ((appN S (writesF T i)).set i (T.getD i [])).getD j [] = _
    rw [getD_set', appN_length, writesF_getD S T i (by omega)]
    by_cases e : i = j
    · subst e; rw [if_pos ⟨rfl, by omega⟩, if_pos (by omega)]
    · rw [if_neg fun h => e h.1]
      by_cases e2 : j < i
      · rw [if_pos e2, if_pos (by omega)]
      · rw [if_neg e2, if_neg (by omega)]
theorem writesF_all {T : List (List Nat)} {n : Nat} (hn : T.length = n) : appN (noughts n) (writesF T n) = T := by
  have hl : (noughts n).length = n := by simp [noughts]
  refine list_ext (by rw [appN_length, hl, hn]) fun j hj => ?_
  rw [appN_length, hl] at hj
  rw [writesF_getD _ _ _ (by omega), if_pos hj]
theorem scanM_len {T : List (List Nat)} (h8 : ∀ s ∈ T, ∀ d ∈ s, d < 256) : (scanM T).2.2.length ≤ T.length := by
  by_cases hc : T.length < 4 ∨ (T.any fun s => decide (s.length ≠ 64)) = true
  · unfold scanM; rw [if_pos hc]; simp
  · simp only [not_or] at hc
    have h64 : ∀ x ∈ T, x.length = 64 := by simpa using hc.2
    have hS : ∀ s ∈ T, Sec s := fun s hs => ⟨h64 s hs, h8 s hs⟩
    obtain ⟨a1, _, _, a4⟩ := halfM_facts (halfOf_sec hS 0)
    obtain ⟨b1, _, _, b4⟩ := halfM_facts (halfOf_sec hS 1)
    rw [halfOf_length (by decide)] at a1 b1
    rw [scanM_eq hS (by omega)]
    split
    · simp
    · split
      · simp only; omega
      · simp only; omega
set_option maxHeartbeats 4000000 in
set_option maxRecDepth 10000 in
theorem scans_spec (st : St) (F : Hp) (V : Value) (ps : List (Value × List Nat)) (hO : Own st F) (hP : Ps F V ps) (hS : Sl Try.prog F V 1) (hE : ∀ p ∈ ps, Sl Try.prog F p.1 1) (hpl : ps.length ≤ 9223372036854775807) (k q : Value → St → Prop) (hk : ∀ st', k (.bool true) st') :
    ACall (C base w0 G) 4 [V] st k q := by
  obtain ⟨va, vc, hV⟩ : ∃ a c, V = .slice a ps.length c := by
    obtain ⟨a, c, h, _⟩ := hP.1.isSlice
    rw [List.length_map] at h
    exact ⟨a, c, h⟩
  refine ACall.of (cx := C base w0 G) mixed Try.func4 rfl (by kernel_rfl) (by simp [Try.ntmps4]) ?_
  simp only [Try.results4]
  simp (config := { implicitDefEqProofs := false }) only [↓GP, GQ, ↓awp_seq, ↓awp_block, C_ex, Nat.reduceBEq, acap, afieldAddr, aload, astore, abin, anum, astr, aun, isAggD, cond_true, cond_false, ↓reduceIte, C_P, C_G, isTuple, Value.cells, setL, ares, aresL, ares1, reduceCtorEq, Nat.reduceEqDiff, eq_self, Nat.reduceAdd, if_true, if_false, one, Nat.reduceLeDiff, undef, gsl, aextract, aindexAddr, amake, implies_true, forall_const, alen, abuiltin, anil, isC, Int.reduceEq, Int.reduceLT, Int.reduceLE, Int.reduceAdd, Int.reduceToNat, Int.reduceNeg, Nat.reduceMul, Nat.reduceSub, abuild, afill, Int.reduceBNe, Int.reduceBEq]
  refine awake_spec st _ hO _ _ fun s1 hO1 => ?_
  by_cases h40 : 40 < ps.length
  · simp (config := { implicitDefEqProofs := false }) only [↓GP, GQ, ↓awp_seq, ↓awp_block, C_ex, Nat.reduceBEq, acap, afieldAddr, aload, astore, abin, anum, astr, aun, isAggD, cond_true, cond_false, ↓reduceIte, C_P, C_G, isTuple, Value.cells, setL, ares, aresL, ares1, reduceCtorEq, Nat.reduceEqDiff, eq_self, Nat.reduceAdd, if_true, if_false, one, Nat.reduceLeDiff, undef, gsl, aextract, aindexAddr, amake, implies_true, forall_const, alen, abuiltin, anil, isC, Int.reduceEq, Int.reduceLT, Int.reduceLE, Int.reduceAdd, Int.reduceToNat, Int.reduceNeg, Nat.reduceMul, Nat.reduceSub, abuild, afill, Int.reduceBNe, Int.reduceBEq, hV, Try.underlying22, Try.underlying3, show (ps.length : Int) > 40 by omega, decide_true]
    refine awake_spec s1 _ hO1 _ _ fun s2 hO2 => ?_
    simp (config := { implicitDefEqProofs := false }) only [↓GP, GQ, ↓awp_seq, ↓awp_block, C_ex, Nat.reduceBEq, acap, afieldAddr, aload, astore, abin, anum, astr, aun, isAggD, cond_true, cond_false, ↓reduceIte, C_P, C_G, isTuple, Value.cells, setL, ares, aresL, ares1, reduceCtorEq, Nat.reduceEqDiff, eq_self, Nat.reduceAdd, if_true, if_false, one, Nat.reduceLeDiff, undef, gsl, aextract, aindexAddr, amake, implies_true, forall_const, alen, abuiltin, anil, isC, Int.reduceEq, Int.reduceLT, Int.reduceLE, Int.reduceAdd, Int.reduceToNat, Int.reduceNeg, Nat.reduceMul, Nat.reduceSub, abuild, afill, Int.reduceBNe, Int.reduceBEq]
    exact hk _
  simp (config := { implicitDefEqProofs := false }) only [↓GP, GQ, ↓awp_seq, ↓awp_block, C_ex, Nat.reduceBEq, acap, afieldAddr, aload, astore, abin, anum, astr, aun, isAggD, cond_true, cond_false, ↓reduceIte, C_P, C_G, isTuple, Value.cells, setL, ares, aresL, ares1, reduceCtorEq, Nat.reduceEqDiff, eq_self, Nat.reduceAdd, if_true, if_false, one, Nat.reduceLeDiff, undef, gsl, aextract, aindexAddr, amake, implies_true, forall_const, alen, abuiltin, anil, isC, Int.reduceEq, Int.reduceLT, Int.reduceLE, Int.reduceAdd, Int.reduceToNat, Int.reduceNeg, Nat.reduceMul, Nat.reduceSub, abuild, afill, Int.reduceBNe, Int.reduceBEq, hV, Try.underlying22, Try.underlying3, show ¬ (ps.length : Int) > 40 by omega, decide_false]
  rw [← hV]
  refine ACallF.enter Try.func16 rfl (by kernel_rfl) (Scan_spec s1 F V ps hP hS hE (by omega) hO1 _ _ fun ov1 H1 s2 hR1 hO2 => ?_)
  simp (config := { implicitDefEqProofs := false }) only [↓GP, GQ, ↓awp_seq, ↓awp_block, C_ex, Nat.reduceBEq, acap, afieldAddr, aload, astore, abin, anum, astr, aun, isAggD, cond_true, cond_false, ↓reduceIte, C_P, C_G, isTuple, Value.cells, setL, ares, aresL, ares1, reduceCtorEq, Nat.reduceEqDiff, eq_self, Nat.reduceAdd, if_true, if_false, one, Nat.reduceLeDiff, undef, gsl, aextract, aindexAddr, amake, implies_true, forall_const, alen, abuiltin, anil, isC, Int.reduceEq, Int.reduceLT, Int.reduceLE, Int.reduceAdd, Int.reduceToNat, Int.reduceNeg, Nat.reduceMul, Nat.reduceSub, abuild, afill, Int.reduceBNe, Int.reduceBEq]
  have hsub1 : ∀ e ∈ F, e ∈ H1 ++ F := fun e he => List.mem_append_right _ he
  refine RScan_spec s2 (H1 ++ F) V ps (hP.sub hsub1) (hS.sub hsub1) (fun p hp => (hE p hp).sub hsub1) (by omega) hO2 _ _ fun ov2 H2 s3 hR2 hO3 => ?_
  obtain ⟨qs1, hq1, hP1, hS1⟩ := hR1
  obtain ⟨qs2, hq2, hP2, hS2⟩ := hR2
  have hqlen : qs1.length = qs2.length := by have := congrArg List.length (hq1.trans hq2.symm); simpa using this
  simp (config := { implicitDefEqProofs := false }) only [↓GP, GQ, ↓awp_seq, ↓awp_block, C_ex, Nat.reduceBEq, acap, afieldAddr, aload, astore, abin, anum, astr, aun, isAggD, cond_true, cond_false, ↓reduceIte, C_P, C_G, isTuple, Value.cells, setL, ares, aresL, ares1, reduceCtorEq, Nat.reduceEqDiff, eq_self, Nat.reduceAdd, if_true, if_false, one, Nat.reduceLeDiff, undef, gsl, aextract, aindexAddr, amake, implies_true, forall_const, alen, abuiltin, anil, isC, Int.reduceEq, Int.reduceLT, Int.reduceLE, Int.reduceAdd, Int.reduceToNat, Int.reduceNeg, Nat.reduceMul, Nat.reduceSub, abuild, afill, Int.reduceBNe, Int.reduceBEq, Try.underlying3, bne_self_eq_false]
  generalize hT : ps.map (·.2) = T at *
  have hTl : T.length = ps.length := by rw [← hT, List.length_map]
  have hrl : (scanM T).2.2.length ≤ T.length := scanM_len (by rw [← hT]; intro s hs d hd; obtain ⟨x, hx, rfl⟩ := List.mem_map.1 hs; exact (hP.2 x hx).2 d hd)
  refine Same_spec s3 _ ov1 ov2 qs1 qs2 (hP1.sub fun e he => by simp [he]) (hP2.sub fun e he => by simp [he]) (by have := congrArg List.length hq1; rw [List.length_map] at this; omega) hO3 _ _ ?_
  rw [hq1, hq2, decide_eq_true rfl]
  have hmax : amm true (.int .i64 (ps.length : Int)) [.int .i64 1] = some (.int .i64 (max ps.length 1 : Nat)) := by
    show some (Value.int .i64 (if (1 : Int) > (ps.length : Int) then 1 else (ps.length : Int))) = _
    congr 2
    split <;> omega
  simp (config := { implicitDefEqProofs := false }) only [↓GP, GQ, ↓awp_seq, ↓awp_block, C_ex, Nat.reduceBEq, acap, afieldAddr, aload, astore, abin, anum, astr, aun, isAggD, cond_true, cond_false, ↓reduceIte, C_P, C_G, isTuple, Value.cells, setL, ares, aresL, ares1, reduceCtorEq, Nat.reduceEqDiff, eq_self, Nat.reduceAdd, if_true, if_false, one, Nat.reduceLeDiff, undef, gsl, aextract, aindexAddr, amake, implies_true, forall_const, alen, abuiltin, anil, isC, Int.reduceEq, Int.reduceLT, Int.reduceLE, Int.reduceAdd, Int.reduceToNat, Int.reduceNeg, Nat.reduceMul, Nat.reduceSub, abuild, afill, Int.reduceBNe, Int.reduceBEq, Try.underlying3, Try.underlying22, hV, hmax]
  refine NewN s3 _ (max ps.length 1 : Nat) hO3 _ _ (fun h => absurd (by omega) h) fun p h4 s4 _ _ hD4 hO4 => ?_
  have hD4 : DN p (noughts (max ps.length 1)) [] (-1) h4 := hD4
  simp (config := { implicitDefEqProofs := false }) only [↓GP, GQ, ↓awp_seq, ↓awp_block, C_ex, Nat.reduceBEq, acap, afieldAddr, aload, astore, abin, anum, astr, aun, isAggD, cond_true, cond_false, ↓reduceIte, C_P, C_G, isTuple, Value.cells, setL, ares, aresL, ares1, reduceCtorEq, Nat.reduceEqDiff, eq_self, Nat.reduceAdd, if_true, if_false, one, Nat.reduceLeDiff, undef, gsl, aextract, aindexAddr, amake, implies_true, forall_const, alen, abuiltin, anil, isC, Int.reduceEq, Int.reduceLT, Int.reduceLE, Int.reduceAdd, Int.reduceToNat, Int.reduceNeg, Nat.reduceMul, Nat.reduceSub, abuild, afill, Int.reduceBNe, Int.reduceBEq]
  have hnl : (noughts (max ps.length 1)).length = max ps.length 1 := by simp [noughts]
  refine ⟨fun m ρ s => ∃ (i : Nat) (hd : Hp), m = ps.length - i ∧ i ≤ ps.length ∧ ρ 0 = V ∧ ρ 6 = .int .i64 (scanM T).1 ∧ ρ 7 = .int .i64 (scanM T).2.1 ∧ ρ 8 = ov2 ∧ ρ 9 = .pointer (some ⟨p, 0, none⟩) ∧ ρ 11 = .int .i64 i ∧ (∀ x ∈ ps.take i, x.2.length = 64) ∧ DN p (noughts (max ps.length 1)) (writesF T i) (-1) hd ∧ Own s (hd ++ (H2 ++ (H1 ++ F))),
    ⟨ps.length, 0, h4, rfl, Nat.zero_le _, rfl, rfl, rfl, rfl, rfl, rfl, by simp, hD4, hO4⟩, ?_⟩
  rintro m ρ s ⟨i, hd, rfl, hi, p0, p6, p7, p8, p9, p11, hall, hD, hOs⟩
  by_cases him : i < ps.length
  · obtain ⟨B, o, sp, c', cs, ty, own, hvx, hmem, hget⟩ := hP.at (hOs.perm (show List.Perm _ ((hd ++ (H2 ++ H1)) ++ F) by simp)).right (by intro e; rw [e] at him; simp at him)
    have hp : ps[i]? = some ps[i] := List.getElem?_eq_getElem him
    have hTi : T.getD i [] = ps[i].2 := by rw [← hT, List.getD_eq_getElem?_getD, List.getElem?_map, hp]; rfl
    generalize ps[i] = x at hp hTi
    obtain ⟨x1, xl⟩ := x
    have hTi : T.getD i [] = xl := hTi
    have hg := hget i (x1, xl) hp
    have hB := hOs.get (b := B) (o := .cells cs ty own) (by simp [hmem])
    have hNx := hP.2 (x1, xl) (List.mem_of_getElem? hp)
    obtain ⟨xa, xc, hx⟩ := hNx.isSlice
    have hx : x1 = .slice xa xl.length xc := hx
    subst hx
    by_cases h64 : xl.length = 64
    · simp (config := { implicitDefEqProofs := false }) only [↓GP, GQ, ↓awp_seq, ↓awp_block, C_ex, Nat.reduceBEq, acap, afieldAddr, aload, astore, abin, anum, astr, aun, isAggD, cond_true, cond_false, ↓reduceIte, C_P, C_G, isTuple, Value.cells, setL, ares, aresL, ares1, reduceCtorEq, Nat.reduceEqDiff, eq_self, Nat.reduceAdd, if_true, if_false, one, Nat.reduceLeDiff, undef, gsl, aextract, aindexAddr, amake, implies_true, forall_const, alen, abuiltin, anil, isC, Int.reduceEq, Int.reduceLT, Int.reduceLE, Int.reduceAdd, Int.reduceToNat, Int.reduceNeg, Nat.reduceMul, Nat.reduceSub, abuild, afill, Int.reduceBNe, Int.reduceBEq, p0, p6, p7, p8, p9, p11, hvx, hB, hg, asz23, Try.underlying22, Try.underlying23, Try.underlying3, Int.ofNat_lt, him, decide_true, bneF (show (xl.length : Int) = 64 by omega)]
      refine ⟨by omega, by omega, WriteN s _ hd p _ (writesF T i) (-1) i _ xl hD hOs (hNx.sub fun e he => by simp [he]) (by decide) (by simp [writesF]; omega) _ _ (fun h => absurd ⟨by omega, by rw [hnl]; omega, h64⟩ h) (fun _ _ _ h => absurd h (by decide)) fun h' s' _ _ _ _ hD' hO' => ?_⟩
      simp (config := { implicitDefEqProofs := false }) only [↓GP, GQ, ↓awp_seq, ↓awp_block, C_ex, Nat.reduceBEq, acap, afieldAddr, aload, astore, abin, anum, astr, aun, isAggD, cond_true, cond_false, ↓reduceIte, C_P, C_G, isTuple, Value.cells, setL, ares, aresL, ares1, reduceCtorEq, Nat.reduceEqDiff, eq_self, Nat.reduceAdd, if_true, if_false, one, Nat.reduceLeDiff, undef, gsl, aextract, aindexAddr, amake, implies_true, forall_const, alen, abuiltin, anil, isC, Int.reduceEq, Int.reduceLT, Int.reduceLE, Int.reduceAdd, Int.reduceToNat, Int.reduceNeg, Nat.reduceMul, Nat.reduceSub, abuild, afill, Int.reduceBNe, Int.reduceBEq, p0, p6, p7, p8, p9, p11, Try.underlying3]
      refine ⟨ps.length - (i + 1), by omega, i + 1, h', rfl, by omega, by rw [w_i64 (by omega)]; rfl, fun y hy => ?_, ?_, hO'⟩
      · rw [List.take_add_one, hp] at hy
        rcases List.mem_append.1 hy with h | h
        · exact hall y h
        · simp at h; subst h; exact h64
      · rw [writesF_succ, hTi]
        exact hD'
    · simp (config := { implicitDefEqProofs := false }) only [↓GP, GQ, ↓awp_seq, ↓awp_block, C_ex, Nat.reduceBEq, acap, afieldAddr, aload, astore, abin, anum, astr, aun, isAggD, cond_true, cond_false, ↓reduceIte, C_P, C_G, isTuple, Value.cells, setL, ares, aresL, ares1, reduceCtorEq, Nat.reduceEqDiff, eq_self, Nat.reduceAdd, if_true, if_false, one, Nat.reduceLeDiff, undef, gsl, aextract, aindexAddr, amake, implies_true, forall_const, alen, abuiltin, anil, isC, Int.reduceEq, Int.reduceLT, Int.reduceLE, Int.reduceAdd, Int.reduceToNat, Int.reduceNeg, Nat.reduceMul, Nat.reduceSub, abuild, afill, Int.reduceBNe, Int.reduceBEq, p0, p6, p7, p8, p9, p11, hvx, hB, hg, asz23, Try.underlying22, Try.underlying23, Try.underlying3, Int.ofNat_lt, him, decide_true, bneT (show ¬ (xl.length : Int) = 64 by omega)]
      exact ⟨by omega, hk _⟩
  obtain rfl : i = ps.length := by omega
  rw [List.take_length] at hall
  have hSec : ∀ s ∈ T, Sec s := by
    rw [← hT]
    intro s hs
    obtain ⟨x, hx, rfl⟩ := List.mem_map.1 hs
    exact ⟨hall x hx, (hP.2 x hx).2⟩
  simp (config := { implicitDefEqProofs := false }) only [↓GP, GQ, ↓awp_seq, ↓awp_block, C_ex, Nat.reduceBEq, acap, afieldAddr, aload, astore, abin, anum, astr, aun, isAggD, cond_true, cond_false, ↓reduceIte, C_P, C_G, isTuple, Value.cells, setL, ares, aresL, ares1, reduceCtorEq, Nat.reduceEqDiff, eq_self, Nat.reduceAdd, if_true, if_false, one, Nat.reduceLeDiff, undef, gsl, aextract, aindexAddr, amake, implies_true, forall_const, alen, abuiltin, anil, isC, Int.reduceEq, Int.reduceLT, Int.reduceLE, Int.reduceAdd, Int.reduceToNat, Int.reduceNeg, Nat.reduceMul, Nat.reduceSub, abuild, afill, Int.reduceBNe, Int.reduceBEq, p0, p6, p7, p8, p9, p11, hV, Try.underlying22, Try.underlying3, Int.ofNat_lt, Nat.lt_irrefl, decide_false]
  by_cases hl4 : ps.length < 4
  · refine Open_small s _ hd p _ (writesF T ps.length) hD hOs (by rw [hnl]; omega) _ _ ?_
    simp (config := { implicitDefEqProofs := false }) only [↓GP, GQ, ↓awp_seq, ↓awp_block, C_ex, Nat.reduceBEq, acap, afieldAddr, aload, astore, abin, anum, astr, aun, isAggD, cond_true, cond_false, ↓reduceIte, C_P, C_G, isTuple, Value.cells, setL, ares, aresL, ares1, reduceCtorEq, Nat.reduceEqDiff, eq_self, Nat.reduceAdd, if_true, if_false, one, Nat.reduceLeDiff, undef, gsl, aextract, aindexAddr, amake, implies_true, forall_const, alen, abuiltin, anil, isC, Int.reduceEq, Int.reduceLT, Int.reduceLE, Int.reduceAdd, Int.reduceToNat, Int.reduceNeg, Nat.reduceMul, Nat.reduceSub, abuild, afill, Int.reduceBNe, Int.reduceBEq, p0, p6, p7, p8, p9, p11, hV, Try.underlying22, Try.underlying27, Try.underlying30, Try.underlying3, show (ps.length : Int) < 4 by omega, decide_true, beq_self_eq_true]
    exact hk _
  have hmx : max ps.length 1 = ps.length := by omega
  rw [hmx] at hD
  have hop := open_facts hSec (by omega)
  refine Open_spec s _ hd p _ (writesF T ps.length) hD hOs (by simp [noughts]; omega) (by simp [noughts]; omega) (by simp [writesF]; omega) _ _ fun jp sv rv h5 H5 s5 hD5 hN5 hR5 hO5 => ?_
  rw [writesF_all hTl] at hD5 hN5 hR5 hO5
  rw [show (noughts ps.length).length = ps.length by simp [noughts]] at hO5
  generalize (openM T).1 = w at *
  generalize (openM T).2.1 = g at *
  generalize (openM T).2.2.1 = recs at *
  generalize (openM T).2.2.2.1 = e at *
  generalize (openM T).2.2.2.2 = T2 at *
  simp (config := { implicitDefEqProofs := false }) only [↓GP, GQ, C_ex, Nat.reduceBEq, acap, afieldAddr, aload, astore, abin, anum, astr, aun, isAggD, cond_true, cond_false, ↓reduceIte, C_P, C_G, isTuple, Value.cells, setL, ares, aresL, ares1, reduceCtorEq, Nat.reduceEqDiff, eq_self, Nat.reduceAdd, if_true, if_false, one, Nat.reduceLeDiff, undef, gsl, aextract, aindexAddr, amake, implies_true, forall_const, alen, abuiltin, anil, isC, Int.reduceEq, Int.reduceLT, Int.reduceLE, Int.reduceAdd, Int.reduceToNat, Int.reduceNeg, Nat.reduceMul, Nat.reduceSub, abuild, afill, Int.reduceBNe, Int.reduceBEq, p0, p6, p7, p8, p9, p11, hV, Try.underlying22, Try.underlying27, Try.underlying30, Try.underlying3, show ¬ (ps.length : Int) < 4 by omega, decide_false]
  rw [awp_seq, awp_seq]
  simp (config := { implicitDefEqProofs := false }) only [↓GP, GQ, C_ex, Nat.reduceBEq, acap, afieldAddr, aload, astore, abin, anum, astr, aun, isAggD, cond_true, cond_false, ↓reduceIte, C_P, C_G, isTuple, Value.cells, setL, ares, aresL, ares1, reduceCtorEq, Nat.reduceEqDiff, eq_self, Nat.reduceAdd, if_true, if_false, one, Nat.reduceLeDiff, undef, gsl, aextract, aindexAddr, amake, implies_true, forall_const, alen, abuiltin, anil, isC, Int.reduceEq, Int.reduceLT, Int.reduceLE, Int.reduceAdd, Int.reduceToNat, Int.reduceNeg, Nat.reduceMul, Nat.reduceSub, abuild, afill, Int.reduceBNe, Int.reduceBEq, p0, p6, p7, p8, p9, p11, hV, Try.underlying22, Try.underlying27, Try.underlying30, Try.underlying3, show ¬ (ps.length : Int) < 4 by omega, decide_false]
  have hO5 : Own s5 ((jp, jc p (ps.length / 2) w g recs.length e false) :: (h5 ++ (H5 ++ (H2 ++ (H1 ++ F))))) := hO5
  refine seq_cut (fun ρ s => ρ 0 = V ∧ ρ 6 = .int .i64 (w : Nat) ∧ ρ 7 = .int .i64 (g : Nat) ∧ ρ 9 = .pointer (some ⟨p, 0, none⟩) ∧ ρ 12 = .pointer (some ⟨jp, 0, none⟩) ∧ ρ 13 = sv ∧ ρ 14 = rv ∧ ρ 15 = .int .i64 0 ∧
    ∃ (v8 : Value) (qs8 : List (Value × List Nat)) (H8 : Hp), ρ 8 = v8 ∧ Ps (H8 ++ H2) v8 qs8 ∧ Sl Try.prog (H8 ++ H2) v8 1 ∧ qs8.map (·.2) = recs ∧ Own s (H8 ++ ((jp, jc p (ps.length / 2) w g recs.length e false) :: (h5 ++ (H5 ++ (H2 ++ (H1 ++ F))))))) ?_ ?_
  · have hsc := hop.scan
    by_cases hneg : (scanM T).1 < 0
    · rw [if_pos hneg] at hsc
      injection hsc with e1 e2
      injection e2 with e2 e3
      subst e1 e2 e3
      have hb1 := abuildSlice_one (st := s5) (v := .slice none 0 0) Try.underlying22 asz23 azc23 rfl rfl rfl (by decide)
      simp (config := { implicitDefEqProofs := false }) only [↓GP, GQ, ↓awp_seq, ↓awp_block, C_ex, Nat.reduceBEq, acap, afieldAddr, aload, astore, abin, anum, astr, aun, isAggD, cond_true, cond_false, ↓reduceIte, C_P, C_G, isTuple, Value.cells, setL, ares, aresL, ares1, reduceCtorEq, Nat.reduceEqDiff, eq_self, Nat.reduceAdd, if_true, if_false, one, Nat.reduceLeDiff, undef, gsl, aextract, aindexAddr, amake, implies_true, forall_const, alen, abuiltin, anil, isC, Int.reduceEq, Int.reduceLT, Int.reduceLE, Int.reduceAdd, Int.reduceToNat, Int.reduceNeg, Nat.reduceMul, Nat.reduceSub, abuild, afill, Int.reduceBNe, Int.reduceBEq, p0, p6, p7, p8, p9, Try.underlying3, hneg, decide_true, hb1]
      exact ⟨_, [(nils', [])], [(s5.n, Ob.cells [nils'] 23 true)], rfl, Ps.of (D := [nils']) (ps := [(nils', [])]) (c := 1) (own := true) (ty := 23) (by simp) rfl (fun x hx => by
        rw [List.mem_singleton] at hx
        subst hx
        exact nb_nil), .inr ⟨s5.n, 0, none, 1, 1, rfl, Nat.le_refl _, .inl rfl⟩, rfl, hO5.new _⟩
    · rw [if_neg hneg] at hsc
      obtain ⟨e1, e2, e3⟩ := hsc
      simp (config := { implicitDefEqProofs := false }) only [↓GP, GQ, ↓awp_seq, ↓awp_block, C_ex, Nat.reduceBEq, acap, afieldAddr, aload, astore, abin, anum, astr, aun, isAggD, cond_true, cond_false, ↓reduceIte, C_P, C_G, isTuple, Value.cells, setL, ares, aresL, ares1, reduceCtorEq, Nat.reduceEqDiff, eq_self, Nat.reduceAdd, if_true, if_false, one, Nat.reduceLeDiff, undef, gsl, aextract, aindexAddr, amake, implies_true, forall_const, alen, abuiltin, anil, isC, Int.reduceEq, Int.reduceLT, Int.reduceLE, Int.reduceAdd, Int.reduceToNat, Int.reduceNeg, Nat.reduceMul, Nat.reduceSub, abuild, afill, Int.reduceBNe, Int.reduceBEq, p0, p6, p7, p8, p9, Try.underlying3, hneg, decide_false]
      rw [e1, e2]
      exact ⟨rfl, rfl, ov2, qs2, [], rfl, hP2, hS2, hq2.trans e3, hO5⟩
  clear p0 p6 p7 p8 p9 p11
  rintro ρ s6 ⟨p0, p6, p7, p9, p12, p13, p14, p15, v8, qs8, H8, p8, hP8, hS8, hq8, hO6⟩
  have hne8 : qs8 ≠ [] := fun h => hop.ne (by rw [← hq8, h]; rfl)
  obtain ⟨qh, qt, hqc⟩ : ∃ a b, qs8 = a :: b := by
    cases qs8 with
    | nil => exact absurd rfl hne8
    | cons a b => exact ⟨a, b, rfl⟩
  have hh : recs.headD [] = qh.2 := by rw [← hq8, hqc]; rfl
  have htl : recs.tail = qt.map (·.2) := by rw [← hq8, hqc]; rfl
  have hqt : qt.length ≤ 1000 := by
    have h1 := hop.rl
    have h2 := hop.el
    have h3 := congrArg List.length hq8
    rw [List.length_map, hqc, List.length_cons] at h3
    omega
  have hsub8 : ∀ x ∈ H8 ++ H2, x ∈ H8 ++ ((jp, jc p (ps.length / 2) w g recs.length e false) :: (h5 ++ (H5 ++ (H2 ++ (H1 ++ F))))) := fun x hx => by
    rcases List.mem_append.1 hx with h | h <;> simp [h]
  have hP8' := hP8.sub hsub8
  obtain ⟨B, o, sp, c8, cs, ty, own, hv8, hmem, hget⟩ := hP8'.at hO6 hne8
  have hB8 := hO6.get hmem
  have g8 := hget 0 qh (by rw [hqc]; rfl)
  rw [Nat.add_zero] at g8
  have hj6 := hO6.get (b := jp) (o := jc p (ps.length / 2) w g recs.length e false) (by simp)
  have hst1 := (hN5.sub (h' := H8 ++ ((jp, jc p (ps.length / 2) w g recs.length e false) :: (h5 ++ (H5 ++ (H2 ++ (H1 ++ F)))))) (fun x hx => by simp [hx])).strP hO6
  have hNq := hP8'.2 qh (by rw [hqc]; simp)
  have hst2 := hNq.strP hO6
  rw [hh] at hst1
  obtain ⟨v9, hv9, hP9, _⟩ := hP8'.part (t := 22) (lo := some (.int .i64 1)) (hi := none) (l := 1) (r := qs8.length) (hS8.sub hsub8) hO6 Try.underlying22 asz23 (fun c hc => abounds_lo (lo := 1) (by rw [hqc]; simp) hc) (by rw [hqc]; simp) (Nat.le_refl _)
  have e9 : (qs8.drop 1).take (qs8.length - 1) = qt := by rw [hqc]; simp
  rw [e9] at hP9
  rw [awp_seq, awp_seq]
  simp (config := { implicitDefEqProofs := false }) only [↓GP, GQ, C_ex, Nat.reduceBEq, acap, afieldAddr, aload, astore, abin, anum, astr, aun, isAggD, cond_true, cond_false, ↓reduceIte, C_P, C_G, isTuple, Value.cells, setL, ares, aresL, ares1, reduceCtorEq, Nat.reduceEqDiff, eq_self, Nat.reduceAdd, if_true, if_false, one, Nat.reduceLeDiff, undef, gsl, aextract, aindexAddr, amake, implies_true, forall_const, alen, abuiltin, anil, isC, Int.reduceEq, Int.reduceLT, Int.reduceLE, Int.reduceAdd, Int.reduceToNat, Int.reduceNeg, Nat.reduceMul, Nat.reduceSub, abuild, afill, Int.reduceBNe, Int.reduceBEq, p0, p6, p7, p8, p9, p12, p13, p14, p15, Try.underlying3, Try.underlying9, Try.underlying22, Try.underlying23, Try.underlying27, Try.underlying30, asz23]
  refine ADraw.of [(0, false, []), (1, false, []), (2, false, []), (3, false, []), (4, false, []), (5, false, []), (6, false, []), (7, false, []), (9, false, []), (8, false, []), (10, false, []), (11, false, []), (12, false, []), (13, false, []), (14, false, []), (15, false, []), (16, false, []), (17, false, []), (18, false, []), (19, false, []), (20, false, []), (21, false, []), (22, false, []), (23, false, []), (24, false, []), (25, false, []), (26, false, []), (27, false, [])] [] [] (by kernel_rfl) ?_
  simp (config := { implicitDefEqProofs := false }) only [↓GP, GQ, ↓awp_seq, ↓awp_block, C_ex, Nat.reduceBEq, acap, afieldAddr, aload, astore, abin, anum, astr, aun, isAggD, cond_true, cond_false, ↓reduceIte, C_P, C_G, isTuple, Value.cells, setL, ares, aresL, ares1, reduceCtorEq, Nat.reduceEqDiff, eq_self, Nat.reduceAdd, if_true, if_false, one, Nat.reduceLeDiff, undef, gsl, aextract, aindexAddr, amake, implies_true, forall_const, alen, abuiltin, anil, isC, Int.reduceEq, Int.reduceLT, Int.reduceLE, Int.reduceAdd, Int.reduceToNat, Int.reduceNeg, Nat.reduceMul, Nat.reduceSub, abuild, afill, Int.reduceBNe, Int.reduceBEq, p0, p6, p7, p8, p9, p12, p13, p14, p15, Try.underlying3, Try.underlying9, Try.underlying22, Try.underlying23, Try.underlying27, Try.underlying30, asz23]
  refine Generation_spec s6 jp p (ps.length / 2) w g recs.length e false hj6 _ _ ?_
  simp (config := { implicitDefEqProofs := false }) only [↓GP, GQ, ↓awp_seq, ↓awp_block, C_ex, Nat.reduceBEq, acap, afieldAddr, aload, astore, abin, anum, astr, aun, isAggD, cond_true, cond_false, ↓reduceIte, C_P, C_G, isTuple, Value.cells, setL, ares, aresL, ares1, reduceCtorEq, Nat.reduceEqDiff, eq_self, Nat.reduceAdd, if_true, if_false, one, Nat.reduceLeDiff, undef, gsl, aextract, aindexAddr, amake, implies_true, forall_const, alen, abuiltin, anil, isC, Int.reduceEq, Int.reduceLT, Int.reduceLE, Int.reduceAdd, Int.reduceToNat, Int.reduceNeg, Nat.reduceMul, Nat.reduceSub, abuild, afill, Int.reduceBNe, Int.reduceBEq, p0, p6, p7, p8, p9, p12, p13, p14, p15, Try.underlying3, Try.underlying9, Try.underlying22, Try.underlying23, Try.underlying27, Try.underlying30, asz23, bne_self_eq_false, hst1, hst2, beq_self_eq_true, hv8, hB8, g8]
  refine ⟨by have := List.length_pos_iff.2 hne8; omega, ?_⟩
  rw [← hv8, hv9]
  simp (config := { implicitDefEqProofs := false }) only [↓GP, GQ, ↓awp_seq, ↓awp_block, C_ex, Nat.reduceBEq, acap, afieldAddr, aload, astore, abin, anum, astr, aun, isAggD, cond_true, cond_false, ↓reduceIte, C_P, C_G, isTuple, Value.cells, setL, ares, aresL, ares1, reduceCtorEq, Nat.reduceEqDiff, eq_self, Nat.reduceAdd, if_true, if_false, one, Nat.reduceLeDiff, undef, gsl, aextract, aindexAddr, amake, implies_true, forall_const, alen, abuiltin, anil, isC, Int.reduceEq, Int.reduceLT, Int.reduceLE, Int.reduceAdd, Int.reduceToNat, Int.reduceNeg, Nat.reduceMul, Nat.reduceSub, abuild, afill, Int.reduceBNe, Int.reduceBEq, p0, p6, p7, p8, p9, p12, p13, p14, p15, Try.underlying3, Try.underlying9, Try.underlying22, Try.underlying23, Try.underlying27, Try.underlying30, asz23]
  obtain ⟨qs5, hq5, hP5, _⟩ := hR5
  have hq5t : qs5.map (·.2) = qt.map (·.2) := hq5.trans htl
  have hq5l : qs5.length ≤ 1000 := by have := congrArg List.length hq5t; rw [List.length_map, List.length_map] at this; omega
  refine Same_spec s6 _ rv v9 qs5 qt (hP5.sub fun x hx => by simp [hx]) hP9 (by omega) hO6 _ _ ?_
  rw [decide_eq_true hq5t]
  have whf : IntKind.i64.wrap ((ps.length : Int).tdiv 2) = ((ps.length / 2 : Nat) : Int) := by rw [Int.tdiv_eq_ediv_of_nonneg (by omega), w_i64 (by omega)]; omega
  simp (config := { implicitDefEqProofs := false }) only [↓GP, GQ, ↓awp_seq, ↓awp_block, C_ex, Nat.reduceBEq, acap, afieldAddr, aload, astore, abin, anum, astr, aun, isAggD, cond_true, cond_false, ↓reduceIte, C_P, C_G, isTuple, Value.cells, setL, ares, aresL, ares1, reduceCtorEq, Nat.reduceEqDiff, eq_self, Nat.reduceAdd, if_true, if_false, one, Nat.reduceLeDiff, undef, gsl, aextract, aindexAddr, amake, implies_true, forall_const, alen, abuiltin, anil, isC, Int.reduceEq, Int.reduceLT, Int.reduceLE, Int.reduceAdd, Int.reduceToNat, Int.reduceNeg, Nat.reduceMul, Nat.reduceSub, abuild, afill, Int.reduceBNe, Int.reduceBEq, p0, p6, p7, p8, p9, p12, p13, p14, p15, Try.underlying3, Try.underlying9, Try.underlying22, Try.underlying23, Try.underlying27, Try.underlying30, asz23, hV, whf]
  have hO7 : Own s6 (h5 ++ (H8 ++ ((jp, jc p (ps.length / 2) w g recs.length e false) :: (H5 ++ (H2 ++ (H1 ++ F)))))) := hO6.perm (by simpa using perm_of [H8, [(jp, jc p (ps.length / 2) w g recs.length e false)], h5, H5, H2, H1, F] [0, 1, 2, 3, 4, 5, 6] [2, 0, 1, 3, 4, 5, 6] rfl)
  have hlen2 := hop.len
  refine sectors_spec s6 _ h5 p T2 hD5 hO7 (by omega) _ _ fun nv nq H9 s9 hSc hq9 hO9 => ?_
  obtain ⟨hPn, hSn, hEn⟩ := hSc
  have hnq : nq.length = ps.length := by have := congrArg List.length hq9; rw [List.length_map] at this; omega
  have hhf : T.length / 2 = ps.length / 2 := by rw [hTl]
  have hwm : w * (ps.length / 2) ≤ 1 * (ps.length / 2) := Nat.mul_le_mul_right _ hop.hw
  have hw1 : w ≤ 1 := hop.hw
  have hww : (w + 1) * (ps.length / 2) = w * (ps.length / 2) + ps.length / 2 := by rw [Nat.add_mul, Nat.one_mul]
  have wa : IntKind.i64.wrap ((w : Int) * ((ps.length / 2 : Nat) : Int)) = ((w * (ps.length / 2) : Nat) : Int) := by rw [← Int.natCast_mul, w_i64 (by omega)]
  have wb1 : IntKind.i64.wrap ((w : Int) + 1) = ((w + 1 : Nat) : Int) := by rw [w_i64 (by omega)]; omega
  have wc1 : IntKind.i64.wrap (((w + 1 : Nat) : Int) * ((ps.length / 2 : Nat) : Int)) = (((w + 1) * (ps.length / 2) : Nat) : Int) := by rw [← Int.natCast_mul, w_i64 (by omega)]
  have hsub9 : ∀ x ∈ H9, x ∈ H9 ++ (h5 ++ (H8 ++ ((jp, jc p (ps.length / 2) w g recs.length e false) :: (H5 ++ (H2 ++ (H1 ++ F)))))) := fun x hx => List.mem_append_left _ hx
  obtain ⟨vh, hvh, hPh, hSh⟩ := (hPn.sub hsub9).part (t := 22) (lo := some (.int .i64 (w * (ps.length / 2) : Nat))) (hi := some (.int .i64 ((w + 1) * (ps.length / 2) : Nat))) (l := w * (ps.length / 2)) (r := (w + 1) * (ps.length / 2)) (hSn.sub hsub9) hO9 Try.underlying22 asz23 (fun c hc => abounds_lohi (by omega) (by omega)) (by omega) (by omega)
  have ewh : (w + 1) * (ps.length / 2) - w * (ps.length / 2) = ps.length / 2 := by omega
  rw [ewh] at hPh
  have hmaph : ((nq.drop (w * (ps.length / 2))).take (ps.length / 2)).map (·.2) = halfOf T2 w := by
    rw [List.map_take, List.map_drop, hq9]; unfold halfOf; rw [hlen2, hhf]
  simp (config := { implicitDefEqProofs := false }) only [↓GP, GQ, ↓awp_seq, ↓awp_block, C_ex, Nat.reduceBEq, acap, afieldAddr, aload, astore, abin, anum, astr, aun, isAggD, cond_true, cond_false, ↓reduceIte, C_P, C_G, isTuple, Value.cells, setL, ares, aresL, ares1, reduceCtorEq, Nat.reduceEqDiff, eq_self, Nat.reduceAdd, if_true, if_false, one, Nat.reduceLeDiff, undef, gsl, aextract, aindexAddr, amake, implies_true, forall_const, alen, abuiltin, anil, isC, Int.reduceEq, Int.reduceLT, Int.reduceLE, Int.reduceAdd, Int.reduceToNat, Int.reduceNeg, Nat.reduceMul, Nat.reduceSub, abuild, afill, Int.reduceBNe, Int.reduceBEq, p0, p6, p7, p8, p9, p12, p13, p14, p15, Try.underlying3, Try.underlying9, Try.underlying22, Try.underlying23, Try.underlying27, Try.underlying30, asz23, wa, wb1, wc1, hvh]
  refine Rhalf_spec s9 _ vh _ ⟨hPh, hSh, fun x hx => ⟨(hEn x (List.mem_of_mem_drop (List.mem_of_mem_take hx))).1.sub hsub9, (hEn x (List.mem_of_mem_drop (List.mem_of_mem_take hx))).2⟩⟩ (by rw [List.length_take]; omega) hO9 _ _ fun gv H10 s10 hR10 hO10 => ?_
  rw [hmaph] at hR10 ⊢
  rw [hop.has] at hR10
  rw [hop.ends]
  obtain ⟨qs10, hq10, hP10, _⟩ := hR10
  simp (config := { implicitDefEqProofs := false }) only [↓GP, GQ, ↓awp_seq, ↓awp_block, C_ex, Nat.reduceBEq, acap, afieldAddr, aload, astore, abin, anum, astr, aun, isAggD, cond_true, cond_false, ↓reduceIte, C_P, C_G, isTuple, Value.cells, setL, ares, aresL, ares1, reduceCtorEq, Nat.reduceEqDiff, eq_self, Nat.reduceAdd, if_true, if_false, one, Nat.reduceLeDiff, undef, gsl, aextract, aindexAddr, amake, implies_true, forall_const, alen, abuiltin, anil, isC, Int.reduceEq, Int.reduceLT, Int.reduceLE, Int.reduceAdd, Int.reduceToNat, Int.reduceNeg, Nat.reduceMul, Nat.reduceSub, abuild, afill, Int.reduceBNe, Int.reduceBEq, p0, p6, p7, p8, p9, p12, p13, p14, p15, Try.underlying3, Try.underlying9, Try.underlying22, Try.underlying23, Try.underlying27, Try.underlying30, asz23]
  have hr10 : recs.length ≤ 1000 := by have := hop.rl; have := hop.el; omega
  refine Same_spec s10 _ gv v8 qs10 qs8 (hP10.sub fun x hx => by simp [hx]) (hP8'.sub fun x hx => by simp at hx ⊢; rcases hx with h | h | h | h | h | h | h <;> simp [h]) (by have := congrArg List.length hq10; rw [List.length_map] at this; omega) hO10 _ _ ?_
  rw [hq10, hq8, decide_eq_true rfl]
  simp (config := { implicitDefEqProofs := false }) only [↓GP, GQ, ↓awp_seq, ↓awp_block, C_ex, Nat.reduceBEq, acap, afieldAddr, aload, astore, abin, anum, astr, aun, isAggD, cond_true, cond_false, ↓reduceIte, C_P, C_G, isTuple, Value.cells, setL, ares, aresL, ares1, reduceCtorEq, Nat.reduceEqDiff, eq_self, Nat.reduceAdd, if_true, if_false, one, Nat.reduceLeDiff, undef, gsl, aextract, aindexAddr, amake, implies_true, forall_const, alen, abuiltin, anil, isC, Int.reduceEq, Int.reduceLT, Int.reduceLE, Int.reduceAdd, Int.reduceToNat, Int.reduceNeg, Nat.reduceMul, Nat.reduceSub, abuild, afill, Int.reduceBNe, Int.reduceBEq, p0, p6, p7, p8, p9, p12, p13, p14, p15, Try.underlying3, Try.underlying9, Try.underlying22, Try.underlying23, Try.underlying27, Try.underlying30, asz23]
  have hj10 := hO10.get (b := jp) (o := jc p (ps.length / 2) w g recs.length e false) (by simp)
  have hel : e ≤ ps.length / 2 := by have := hop.el; omega
  refine Left_spec s10 jp p (ps.length / 2) w g recs.length e false hj10 hel (by omega) _ _ ?_
  have wle : IntKind.i64.wrap (((ps.length / 2 : Nat) : Int) - (e : Int)) = ((ps.length / 2 - e : Nat) : Int) := by rw [w_i64 (by omega)]; omega
  simp (config := { implicitDefEqProofs := false }) only [↓GP, GQ, ↓awp_seq, ↓awp_block, C_ex, Nat.reduceBEq, acap, afieldAddr, aload, astore, abin, anum, astr, aun, isAggD, cond_true, cond_false, ↓reduceIte, C_P, C_G, isTuple, Value.cells, setL, ares, aresL, ares1, reduceCtorEq, Nat.reduceEqDiff, eq_self, Nat.reduceAdd, if_true, if_false, one, Nat.reduceLeDiff, undef, gsl, aextract, aindexAddr, amake, implies_true, forall_const, alen, abuiltin, anil, isC, Int.reduceEq, Int.reduceLT, Int.reduceLE, Int.reduceAdd, Int.reduceToNat, Int.reduceNeg, Nat.reduceMul, Nat.reduceSub, abuild, afill, Int.reduceBNe, Int.reduceBEq, p0, p6, p7, p8, p9, p12, p13, p14, p15, Try.underlying3, Try.underlying9, Try.underlying22, Try.underlying23, Try.underlying27, Try.underlying30, asz23, wle, bne_self_eq_false]
  have hO11 : Own s10 (h5 ++ (H10 ++ (H9 ++ (H8 ++ ((jp, jc p (ps.length / 2) w g recs.length e false) :: (H5 ++ (H2 ++ (H1 ++ F)))))))) := hO10.perm (by simpa using perm_of [H10, H9, h5, H8, [(jp, jc p (ps.length / 2) w g recs.length e false)], H5, H2, H1, F] [0, 1, 2, 3, 4, 5, 6, 7, 8] [2, 0, 1, 3, 4, 5, 6, 7, 8] rfl)
  refine WaitingN s10 _ h5 p T2 [] (-1) hD5 hO11 _ _ ?_
  have wst : IntKind.i64.wrap (((w * (ps.length / 2) : Nat) : Int) + (e : Int)) = ((w * (ps.length / 2) + e : Nat) : Int) := by rw [w_i64 (by omega)]; omega
  have hz0 : ((([] : List LN).length : Nat) : Int) = 0 := rfl
  simp (config := { implicitDefEqProofs := false }) only [↓GP, GQ, ↓awp_seq, ↓awp_block, C_ex, Nat.reduceBEq, acap, afieldAddr, aload, astore, abin, anum, astr, aun, isAggD, cond_true, cond_false, ↓reduceIte, C_P, C_G, isTuple, Value.cells, setL, ares, aresL, ares1, reduceCtorEq, Nat.reduceEqDiff, eq_self, Nat.reduceAdd, if_true, if_false, one, Nat.reduceLeDiff, undef, gsl, aextract, aindexAddr, amake, implies_true, forall_const, alen, abuiltin, anil, isC, Int.reduceEq, Int.reduceLT, Int.reduceLE, Int.reduceAdd, Int.reduceToNat, Int.reduceNeg, Nat.reduceMul, Nat.reduceSub, abuild, afill, Int.reduceBNe, Int.reduceBEq, p0, p6, p7, p8, p9, p12, p13, p14, p15, Try.underlying3, Try.underlying9, Try.underlying22, Try.underlying23, Try.underlying27, Try.underlying30, asz23, hz0, bne_self_eq_false, wa, wst]
  have hFR : ∀ x ∈ F, x ∈ H10 ++ (H9 ++ (h5 ++ (H8 ++ ((jp, jc p (ps.length / 2) w g recs.length e false) :: (H5 ++ (H2 ++ (H1 ++ F))))))) := fun x hx => by simp [hx]
  have hPnR := hPn.sub (h' := H10 ++ (H9 ++ (h5 ++ (H8 ++ ((jp, jc p (ps.length / 2) w g recs.length e false) :: (H5 ++ (H2 ++ (H1 ++ F)))))))) fun x hx => by simp [hx]
  have hPR := hP.sub hFR
  generalize H10 ++ (H9 ++ (h5 ++ (H8 ++ ((jp, jc p (ps.length / 2) w g recs.length e false) :: (H5 ++ (H2 ++ (H1 ++ F))))))) = R at *
  have hnget : ∀ i x, nq[i]? = some x → T2.getD i [] = x.2 := fun i x h => by rw [← hq9, List.getD_eq_getElem?_getD, List.getElem?_map, h]; rfl
  have hnsl : ∃ a c, nv = .slice a nq.length c := by
    obtain ⟨a, c, h, _⟩ := hPn.1.isSlice
    rw [List.length_map] at h
    exact ⟨a, c, h⟩
  refine ⟨fun m ρ s => ∃ (i : Nat) (X : Hp), m = (w + 1) * (ps.length / 2) - i ∧ w * (ps.length / 2) + e ≤ i ∧ i ≤ (w + 1) * (ps.length / 2) ∧ ρ 0 = V ∧ ρ 6 = .int .i64 (w : Nat) ∧ ρ 16 = .int .i64 (ps.length / 2 : Nat) ∧ ρ 17 = nv ∧ ρ 21 = .int .i64 i ∧ Own s (X ++ R), ⟨_, w * (ps.length / 2) + e, [], rfl, Nat.le_refl _, by omega, p0, p6, rfl, rfl, rfl, hO10⟩, ?_⟩
  clear p0 p6 p7 p8 p9 p12 p13 p14 p15 hst1 hst2
  rintro m ρ s ⟨i, X, rfl, hi1, hi2, p0, p6, p16, p17, p21, hOX⟩
  have hXs : ∀ x ∈ R, x ∈ X ++ R := fun x hx => List.mem_append_right _ hx
  by_cases hilt : i < (w + 1) * (ps.length / 2)
  · obtain ⟨Bn, on, spn, cn, csn, tyn, ownn, hvn, hmn, hgn⟩ := (hPnR.sub hXs).at hOX (by intro h; rw [h] at hnq; simp at hnq; omega)
    have hp : nq[i]? = some nq[i] := List.getElem?_eq_getElem (by omega)
    generalize nq[i] = x at hp
    have gx := hgn i x hp
    have hBn := hOX.get hmn
    have hxn : x.2 = nought64 := by
      rw [← hnget i x hp]
      have := hop.nought (i - w * (T.length / 2)) (by rw [hhf]; omega) (by rw [hhf]; omega)
      rw [hhf] at this
      rwa [show w * (ps.length / 2) + (i - w * (ps.length / 2)) = i by omega] at this
    have hNx := (hPnR.2 x (List.mem_of_getElem? hp)).sub hXs
    rw [hxn] at hNx
    simp (config := { implicitDefEqProofs := false }) only [↓GP, GQ, ↓awp_seq, ↓awp_block, C_ex, Nat.reduceBEq, acap, afieldAddr, aload, astore, abin, anum, astr, aun, isAggD, cond_true, cond_false, ↓reduceIte, C_P, C_G, isTuple, Value.cells, setL, ares, aresL, ares1, reduceCtorEq, Nat.reduceEqDiff, eq_self, Nat.reduceAdd, if_true, if_false, one, Nat.reduceLeDiff, undef, gsl, aextract, aindexAddr, amake, implies_true, forall_const, alen, abuiltin, anil, isC, Int.reduceEq, Int.reduceLT, Int.reduceLE, Int.reduceAdd, Int.reduceToNat, Int.reduceNeg, Nat.reduceMul, Nat.reduceSub, abuild, afill, Int.reduceBNe, Int.reduceBEq, p0, p6, p16, p17, Try.underlying3, Try.underlying9, Try.underlying22, Try.underlying23, asz23, p21, wb1, wc1, show (i : Int) < (((w + 1) * (ps.length / 2) : Nat) : Int) by omega, decide_true]
    refine ADraw.of [(0, false, []), (1, false, []), (2, false, []), (3, true, []), (4, true, []), (5, false, [3, 4]), (6, false, []), (7, false, [])] [3, 4] [(3, 5), (4, 5)] (by kernel_rfl) ?_
    have hOz := hOX.new (Ob.cells (zeros [.int .u8 0] 64) 5 true)
    have hsz : aconv Try.prog _ 23 9 (.slice (some ⟨s.n, 0, none⟩) 64 64) = some (.string (strOf (nought64.map fun n : Nat => (n : Int))), _) := (nbz s.n 64 (X ++ R)).strP hOz
    have hsx := hNx.strP hOX
    have hsx2 := (hNx.sub fun y hy => List.mem_cons_of_mem (s.n, Ob.cells (zeros [.int .u8 0] 64) 5 true) hy).strP hOz
    have hfr := hOX.fresh hmn
    simp (config := { implicitDefEqProofs := false }) only [↓GP, GQ, ↓awp_seq, ↓awp_block, C_ex, Nat.reduceBEq, acap, afieldAddr, aload, astore, abin, anum, astr, aun, isAggD, cond_true, cond_false, ↓reduceIte, C_P, C_G, isTuple, Value.cells, setL, ares, aresL, ares1, reduceCtorEq, Nat.reduceEqDiff, eq_self, Nat.reduceAdd, if_true, if_false, one, Nat.reduceLeDiff, undef, gsl, aextract, aindexAddr, amake, implies_true, forall_const, alen, abuiltin, anil, isC, Int.reduceEq, Int.reduceLT, Int.reduceLE, Int.reduceAdd, Int.reduceToNat, Int.reduceNeg, Nat.reduceMul, Nat.reduceSub, abuild, afill, Int.reduceBNe, Int.reduceBEq, p0, p6, p16, p17, Try.underlying3, Try.underlying9, Try.underlying22, Try.underlying23, asz23, p21, asz5, azc5, aby5, hvn, hBn, gx, hsx, hsx2, hsz, hfr, beq_self_eq_true]
    exact ⟨by omega, by decide, (w + 1) * (ps.length / 2) - (i + 1), by omega, i + 1, (s.n, Ob.cells (zeros [.int .u8 0] 64) 5 true) :: X, rfl, by omega, by omega, by rw [w_i64 (by omega)]; rfl, hOz⟩
  · obtain rfl : i = (w + 1) * (ps.length / 2) := by omega
    simp (config := { implicitDefEqProofs := false }) only [↓GP, GQ, ↓awp_seq, ↓awp_block, C_ex, Nat.reduceBEq, acap, afieldAddr, aload, astore, abin, anum, astr, aun, isAggD, cond_true, cond_false, ↓reduceIte, C_P, C_G, isTuple, Value.cells, setL, ares, aresL, ares1, reduceCtorEq, Nat.reduceEqDiff, eq_self, Nat.reduceAdd, if_true, if_false, one, Nat.reduceLeDiff, undef, gsl, aextract, aindexAddr, amake, implies_true, forall_const, alen, abuiltin, anil, isC, Int.reduceEq, Int.reduceLT, Int.reduceLE, Int.reduceAdd, Int.reduceToNat, Int.reduceNeg, Nat.reduceMul, Nat.reduceSub, abuild, afill, Int.reduceBNe, Int.reduceBEq, p0, p6, p16, p17, Try.underlying3, Try.underlying9, Try.underlying22, Try.underlying23, asz23, p21, wb1, wc1, Int.ofNat_lt, Nat.lt_irrefl, decide_false]
    have wa2 : IntKind.i64.wrap ((w : Int) * ((ps.length / 2 : Nat) : Int)) = ((w * (ps.length / 2) : Nat) : Int) := wa
    refine ⟨fun m ρ s => ∃ i : Nat, m = ps.length - i ∧ i ≤ ps.length ∧ ρ 0 = V ∧ ρ 6 = .int .i64 (w : Nat) ∧ ρ 16 = .int .i64 (ps.length / 2 : Nat) ∧ ρ 17 = nv ∧ ρ 22 = .int .i64 i ∧ Own s (X ++ R), ⟨_, 0, rfl, Nat.zero_le _, p0, p6, p16, p17, rfl, hOX⟩, ?_⟩
    clear p0 p6 p16 p17 p21 hOX
    rintro m ρ s ⟨i, rfl, hi, p0, p6, p16, p17, p22, hOX⟩
    by_cases hil : i < ps.length
    · obtain ⟨Bn, on, spn, cn, csn, tyn, ownn, hvn, hmn, hgn⟩ := (hPnR.sub hXs).at hOX (by intro h; rw [h] at hnq; simp at hnq; omega)
      obtain ⟨Bl, ol, spl, cl, csl, tyl, ownl, hvl, hml, hgl⟩ := (hPR.sub hXs).at hOX (by intro h; rw [h] at hil; simp at hil)
      have hp : nq[i]? = some nq[i] := List.getElem?_eq_getElem (by omega)
      have hp2 : ps[i]? = some ps[i] := List.getElem?_eq_getElem (by omega)
      generalize nq[i] = x at hp
      generalize ps[i] = y at hp2
      have gx := hgn i x hp
      have gy := hgl i y hp2
      have hBn := hOX.get hmn
      have hBl := hOX.get hml
      have hNx := (hPnR.2 x (List.mem_of_getElem? hp)).sub hXs
      have hNy := (hPR.2 y (List.mem_of_getElem? hp2)).sub hXs
      have hsx := hNx.strP hOX
      have hsy := hNy.strP hOX
      have hyT : T.getD i [] = y.2 := by rw [← hT, List.getD_eq_getElem?_getD, List.getElem?_map, hp2]; rfl
      by_cases hout : i < w * (ps.length / 2) ∨ (w + 1) * (ps.length / 2) ≤ i
      · have hxy : x.2 = y.2 := by
          have := hop.other i (by rw [hhf]; exact hout)
          rw [hyT, hnget i x hp] at this
          exact this
        rw [hxy] at hsx
        by_cases h1 : i < w * (ps.length / 2)
        · simp (config := { implicitDefEqProofs := false }) only [↓GP, GQ, ↓awp_seq, ↓awp_block, C_ex, Nat.reduceBEq, acap, afieldAddr, aload, astore, abin, anum, astr, aun, isAggD, cond_true, cond_false, ↓reduceIte, C_P, C_G, isTuple, Value.cells, setL, ares, aresL, ares1, reduceCtorEq, Nat.reduceEqDiff, eq_self, Nat.reduceAdd, if_true, if_false, one, Nat.reduceLeDiff, undef, gsl, aextract, aindexAddr, amake, implies_true, forall_const, alen, abuiltin, anil, isC, Int.reduceEq, Int.reduceLT, Int.reduceLE, Int.reduceAdd, Int.reduceToNat, Int.reduceNeg, Nat.reduceMul, Nat.reduceSub, abuild, afill, Int.reduceBNe, Int.reduceBEq, p0, p6, p16, p17, Try.underlying3, Try.underlying9, Try.underlying22, Try.underlying23, asz23, p22, wa2, wb1, wc1, hV, Int.ofNat_lt, hil, h1, decide_true]
          refine ADraw.of [(0, false, []), (1, false, []), (2, false, []), (3, false, []), (4, false, []), (5, false, []), (6, false, []), (7, false, []), (8, false, []), (9, false, []), (10, false, []), (11, false, []), (12, false, []), (13, false, []), (14, false, []), (15, false, []), (16, false, []), (17, false, []), (18, false, []), (19, false, []), (20, false, []), (21, false, []), (22, false, []), (23, false, []), (24, false, []), (25, false, [])] [] [] (by kernel_rfl) ?_
          simp (config := { implicitDefEqProofs := false }) only [↓GP, GQ, ↓awp_seq, ↓awp_block, C_ex, Nat.reduceBEq, acap, afieldAddr, aload, astore, abin, anum, astr, aun, isAggD, cond_true, cond_false, ↓reduceIte, C_P, C_G, isTuple, Value.cells, setL, ares, aresL, ares1, reduceCtorEq, Nat.reduceEqDiff, eq_self, Nat.reduceAdd, if_true, if_false, one, Nat.reduceLeDiff, undef, gsl, aextract, aindexAddr, amake, implies_true, forall_const, alen, abuiltin, anil, isC, Int.reduceEq, Int.reduceLT, Int.reduceLE, Int.reduceAdd, Int.reduceToNat, Int.reduceNeg, Nat.reduceMul, Nat.reduceSub, abuild, afill, Int.reduceBNe, Int.reduceBEq, p0, p6, p16, p17, Try.underlying3, Try.underlying9, Try.underlying22, Try.underlying23, asz23, p22, wa2, wb1, wc1, hvl, hvn, hBn, hBl, gx, gy, hsx, hsy, beq_self_eq_true, bne_self_eq_false, Int.ofNat_lt, h1, decide_true]
          exact ⟨by omega, by omega, ps.length - (i + 1), by omega, i + 1, rfl, by omega, by rw [w_i64 (by omega)]; rfl, hOX⟩
        · have h2 : (w + 1) * (ps.length / 2) ≤ i := by omega
          simp (config := { implicitDefEqProofs := false }) only [↓GP, GQ, ↓awp_seq, ↓awp_block, C_ex, Nat.reduceBEq, acap, afieldAddr, aload, astore, abin, anum, astr, aun, isAggD, cond_true, cond_false, ↓reduceIte, C_P, C_G, isTuple, Value.cells, setL, ares, aresL, ares1, reduceCtorEq, Nat.reduceEqDiff, eq_self, Nat.reduceAdd, if_true, if_false, one, Nat.reduceLeDiff, undef, gsl, aextract, aindexAddr, amake, implies_true, forall_const, alen, abuiltin, anil, isC, Int.reduceEq, Int.reduceLT, Int.reduceLE, Int.reduceAdd, Int.reduceToNat, Int.reduceNeg, Nat.reduceMul, Nat.reduceSub, abuild, afill, Int.reduceBNe, Int.reduceBEq, p0, p6, p16, p17, Try.underlying3, Try.underlying9, Try.underlying22, Try.underlying23, asz23, p22, wa2, wb1, wc1, hV, Int.ofNat_lt, hil, h1, decide_true, decide_false]
          refine ADraw.of [(0, false, []), (1, false, []), (2, false, []), (3, false, []), (4, false, []), (5, false, []), (6, false, []), (7, false, []), (8, false, []), (9, false, []), (10, false, []), (11, false, []), (12, false, []), (13, false, []), (14, false, []), (15, false, []), (16, false, []), (17, false, []), (18, false, []), (19, false, []), (20, false, []), (21, false, []), (22, false, []), (23, false, []), (24, false, []), (25, false, [])] [] [] (by kernel_rfl) ?_
          simp (config := { implicitDefEqProofs := false }) only [↓GP, GQ, ↓awp_seq, ↓awp_block, C_ex, Nat.reduceBEq, acap, afieldAddr, aload, astore, abin, anum, astr, aun, isAggD, cond_true, cond_false, ↓reduceIte, C_P, C_G, isTuple, Value.cells, setL, ares, aresL, ares1, reduceCtorEq, Nat.reduceEqDiff, eq_self, Nat.reduceAdd, if_true, if_false, one, Nat.reduceLeDiff, undef, gsl, aextract, aindexAddr, amake, implies_true, forall_const, alen, abuiltin, anil, isC, Int.reduceEq, Int.reduceLT, Int.reduceLE, Int.reduceAdd, Int.reduceToNat, Int.reduceNeg, Nat.reduceMul, Nat.reduceSub, abuild, afill, Int.reduceBNe, Int.reduceBEq, p0, p6, p16, p17, Try.underlying3, Try.underlying9, Try.underlying22, Try.underlying23, asz23, p22, wa2, wb1, wc1, hvl, hvn, hBn, hBl, gx, gy, hsx, hsy, beq_self_eq_true, bne_self_eq_false, Int.ofNat_lt, h1, ge_iff_le, Int.ofNat_le, h2, decide_true, decide_false]
          exact ⟨by omega, by omega, ps.length - (i + 1), by omega, i + 1, rfl, by omega, by rw [w_i64 (by omega)]; rfl, hOX⟩
      · have h1 : ¬ i < w * (ps.length / 2) := by omega
        have h2 : ¬ (w + 1) * (ps.length / 2) ≤ i := by omega
        simp (config := { implicitDefEqProofs := false }) only [↓GP, GQ, ↓awp_seq, ↓awp_block, C_ex, Nat.reduceBEq, acap, afieldAddr, aload, astore, abin, anum, astr, aun, isAggD, cond_true, cond_false, ↓reduceIte, C_P, C_G, isTuple, Value.cells, setL, ares, aresL, ares1, reduceCtorEq, Nat.reduceEqDiff, eq_self, Nat.reduceAdd, if_true, if_false, one, Nat.reduceLeDiff, undef, gsl, aextract, aindexAddr, amake, implies_true, forall_const, alen, abuiltin, anil, isC, Int.reduceEq, Int.reduceLT, Int.reduceLE, Int.reduceAdd, Int.reduceToNat, Int.reduceNeg, Nat.reduceMul, Nat.reduceSub, abuild, afill, Int.reduceBNe, Int.reduceBEq, p0, p6, p16, p17, Try.underlying3, Try.underlying9, Try.underlying22, Try.underlying23, asz23, p22, wa2, wb1, wc1, hV, Int.ofNat_lt, hil, h1, decide_true, decide_false]
        refine ADraw.of [(0, false, []), (1, false, []), (2, false, []), (3, false, []), (4, false, []), (5, false, []), (6, false, []), (7, false, []), (8, false, []), (9, false, []), (10, false, []), (11, false, []), (12, false, []), (13, false, []), (14, false, []), (15, false, []), (16, false, []), (17, false, []), (18, false, []), (19, false, []), (20, false, []), (21, false, []), (22, false, []), (23, false, []), (24, false, []), (25, false, [])] [] [] (by kernel_rfl) ?_
        simp (config := { implicitDefEqProofs := false }) only [↓GP, GQ, ↓awp_seq, ↓awp_block, C_ex, Nat.reduceBEq, acap, afieldAddr, aload, astore, abin, anum, astr, aun, isAggD, cond_true, cond_false, ↓reduceIte, C_P, C_G, isTuple, Value.cells, setL, ares, aresL, ares1, reduceCtorEq, Nat.reduceEqDiff, eq_self, Nat.reduceAdd, if_true, if_false, one, Nat.reduceLeDiff, undef, gsl, aextract, aindexAddr, amake, implies_true, forall_const, alen, abuiltin, anil, isC, Int.reduceEq, Int.reduceLT, Int.reduceLE, Int.reduceAdd, Int.reduceToNat, Int.reduceNeg, Nat.reduceMul, Nat.reduceSub, abuild, afill, Int.reduceBNe, Int.reduceBEq, p0, p6, p16, p17, Try.underlying3, Try.underlying9, Try.underlying22, Try.underlying23, asz23, p22, wa2, wb1, wc1, hvl, hvn, hBn, hBl, gx, gy, hsx, hsy, beq_self_eq_true, bne_self_eq_false, Int.ofNat_lt, h1, ge_iff_le, Int.ofNat_le, h2, decide_true, decide_false]
        exact ⟨ps.length - (i + 1), by omega, i + 1, rfl, by omega, by rw [w_i64 (by omega)]; rfl, hOX⟩
    · obtain rfl : i = ps.length := by omega
      simp (config := { implicitDefEqProofs := false }) only [↓GP, GQ, ↓awp_seq, ↓awp_block, C_ex, Nat.reduceBEq, acap, afieldAddr, aload, astore, abin, anum, astr, aun, isAggD, cond_true, cond_false, ↓reduceIte, C_P, C_G, isTuple, Value.cells, setL, ares, aresL, ares1, reduceCtorEq, Nat.reduceEqDiff, eq_self, Nat.reduceAdd, if_true, if_false, one, Nat.reduceLeDiff, undef, gsl, aextract, aindexAddr, amake, implies_true, forall_const, alen, abuiltin, anil, isC, Int.reduceEq, Int.reduceLT, Int.reduceLE, Int.reduceAdd, Int.reduceToNat, Int.reduceNeg, Nat.reduceMul, Nat.reduceSub, abuild, afill, Int.reduceBNe, Int.reduceBEq, p0, p6, p16, p17, Try.underlying3, Try.underlying9, Try.underlying22, Try.underlying23, asz23, p22, hV, Int.ofNat_lt, Nat.lt_irrefl, decide_false]
      exact hk _
end Go.Proofs.Ytiooigkcliomlaa
/- JournalScans answers true for every input, and leaves what came in as it was. No conditions. -/
set_option linter.unusedVariables false
set_option linter.unusedSimpArgs false
namespace Go.Proofs.Ytiooigkcliomlaa
open Go Go.Abs Go.RowKit Go.ChangeShapes

theorem fit_sl {st : St} {t e : TypeId} {n : Nat} {v : Value} {h : Hp} (hu : Try.prog.underlying t = some (.slice e)) (hz : Try.prog.cellsOf e ≠ 0) (hf : Fit Try.prog st n t [v]) : Sl Try.prog h v 1 := by
  cases n with
  | zero => exact hf.elim
  | succ n =>
    unfold Fit at hf
    rw [hu] at hf
    simp only at hf
    rcases hf with hf | hf | ⟨B, off, len, cap, hf, hl, _⟩
    · exact absurd hf hz
    · injection hf with hf
      exact .inl hf
    · injection hf with hf
      exact .inr ⟨B, off, none, len, cap, hf, hl, .inl rfl⟩
theorem fit_secs {w : World} {v : Value} (h : ArgFit Try.prog (st0 w) 22 v) : ∃ ps, Ps (foreign w) v ps ∧ ps.length ≤ maxLen ∧ Sl Try.prog (foreign w) v 1 ∧ ∀ p ∈ ps, Sl Try.prog (foreign w) p.1 1 := by
  obtain ⟨n, h⟩ := h
  rw [Try.underlying22] at h
  have hsl : Sl Try.prog (foreign w) v 1 := fit_sl Try.underlying22 (by rw [cof23]; decide) h
  obtain ⟨v', xs, e, hr, hlen, m, hf⟩ := fit_slice' (sz := 0) Try.underlying22 (by kernel_rfl) h
  injection e with e _
  subst e
  have : ∃ ps : List (Value × List Nat), xs = ps.map (fun p => [p.1]) ∧ ∀ p ∈ ps, Nb (foreign w) p.1 p.2 ∧ Sl Try.prog (foreign w) p.1 1 := by
    clear hr hlen
    induction xs with
    | nil => exact ⟨[], rfl, fun p hp => by simp at hp⟩
    | cons x xs ih =>
      obtain ⟨ps, e1, e2⟩ := ih fun y hy => hf y (List.mem_cons_of_mem _ hy)
      have hfx := hf x (List.mem_cons_self ..)
      obtain ⟨u, l, rfl, hb⟩ := fit_nb hfx
      refine ⟨(u, l) :: ps, by rw [e1]; rfl, fun p hp => ?_⟩
      rcases List.mem_cons.1 hp with rfl | hp
      · exact ⟨hb.1, fit_sl Try.underlying23 (by rw [cof5]; decide) hfx⟩
      · exact e2 p hp
  obtain ⟨ps, rfl, hp⟩ := this
  exact ⟨ps, ⟨hr, fun p h => (hp p h).1⟩, by simpa using hlen, hsl, fun p h => (hp p h).2⟩
set_option maxRecDepth 100000 in
theorem scans_lifted (os : Os) (started : os.Started) (H : Type) (enc : TypeId × Value → H) :
    ReturnsInHanded {} Try.checked os 4 .any (Rows.journalScansSpec.pre6 enc Try.prog Try.f4 Rows.journalScansRow.domain false) (Rows.journalScansSpec.post enc Try.prog Try.f4 false true false false) := by
  refine law_lift (C := Try.checked) (G := 0) (ex := fun t => false) (tb := 4) own started (by kernel_rfl) Try.func4 laidOut (by kernel_rfl) (by kernel_rfl) Try.underlying4 rfl (fun ds hd => ?_)
    (ChangeSpec.witness6 (enc := enc) (C := Try.checked) false ⟨#[], #[.slice none 0 0], []⟩ 8 (by kernel_rfl) (by kernel_rfl) (by kernel_rfl) (by kernel_rfl)) (fun W args hn hf _ => ⟨Nat.zero_le _, ?_⟩)
  · rw [Try.params4] at hd
    obtain ⟨a, rfl⟩ : ∃ a, ds = [a] := by
      match ds, hd with
      | [a], _ => exact ⟨a, rfl⟩
    rfl
  · rw [Try.params4] at hn hf
    obtain ⟨a, rfl⟩ : ∃ a, args = #[a] := by
      obtain ⟨l⟩ := args
      match l, hn with
      | [a], _ => exact ⟨a, rfl⟩
    obtain ⟨ps, hps, hpl, hsl, hel⟩ := fit_secs (hf 0 22 a rfl rfl)
    have hm : maxLen ≤ 9223372036854775807 := by decide
    simp only [List.map_cons, List.map_nil]
    exact scans_spec _ _ _ ps (own_foreign W) hps hsl hel (Nat.le_trans hpl hm) _ _ fun _ => rfl

theorem journalScans_holds : Rows.JournalScansSaid :=
  OpenClaim.holds_of_wide 4 Try.f4 rfl rfl rfl rfl rfl rfl rfl ⟨rfl, rfl, rfl, rfl, rfl⟩ rfl rfl rfl rfl rfl (by kernel_rfl) Try.func4 (by kernel_rfl)
    (of_decide_eq_true (by kernel_rfl)) (by unfold Func.isWrapper; first | (rw [if_pos (by decide +kernel)]; kernel_rfl) | (rw [if_neg (by decide +kernel)]; exact ⟨rfl, rfl⟩))
    (fun os started H enc _ => scans_lifted os started H enc)
#print axioms journalScans_holds
end Go.Proofs.Ytiooigkcliomlaa
