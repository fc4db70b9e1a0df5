/- JournalTorn answers true over the abstract heap. No conditions. -/
import Derived.Test.YtiooigkcliomlaaJ28
set_option linter.unusedVariables false
set_option linter.unusedSimpArgs false
namespace Go.Proofs.Ytiooigkcliomlaa
open Go Go.Abs Go.RowKit
variable {base : Nat} {w0 : World} {G : Nat}

theorem gomod (x m : Int) (h : 0 < m) (h2 : m ≤ 1000) : ∃ n : Nat, (IntKind.i64.wrap (x.tmod m + m)).tmod m = n ∧ (n : Int) < m := by
  have h3 := Int.lt_tmod_of_pos x h
  have h4 := Int.tmod_lt_of_pos x h
  rw [w_i64 (by omega)]
  have h5 := Int.tmod_nonneg m (show 0 ≤ x.tmod m + m by omega)
  have h6 := Int.tmod_lt_of_pos (x.tmod m + m) h
  exact ⟨((x.tmod m + m).tmod m).toNat, by omega, by omega⟩
theorem WFail.small {T : List (List Nat)} {a g num : Nat} {l : List Nat} {S' : List (List Nat)} {L' : List LN} (h : WFail T a g num l S' L') (hm : needN l.length ≤ 5000) : L'.length ≤ 5000 ∧ S'.length = T.length := by
  rcases h with ⟨rfl, j, hj, rfl⟩ | ⟨rfl, rfl | rfl⟩
  · exact ⟨by rw [payF_length]; omega, rfl⟩
  · exact ⟨by simp, appN_length _ _⟩
  · exact ⟨by simp, appN_length _ _⟩
/-- A record more, and what a crash leaves. -/
theorem AppendT (st : St) (r h : Hp) (jp p : Nat) (T : List (List Nat)) (w g : Nat) (recs : List (List Nat)) (fz : Int) (bv : Value) (l : List Nat) (hJ : JI T w g recs) (hD : DN p T [] fz h) (hO : Own st (JB jp p T w g recs false :: (h ++ r))) (hb : Nb r bv l) (hfz : FZ fz)
    (hS : T.length ≤ 1500) (hl : l.length ≤ 262144) (hfit : 1 + needN l.length ≤ T.length / 2 - (lay g recs).length) (k q : Value → St → Prop)
    (hk : ∀ (f : Int) S' L' fz' o h' st', L'.length ≤ 5000 → S'.length = T.length → (∀ a c, ∃ recs', Opens (crashN S' L' a c) w g recs' ∧ (recs' = recs ∧ f = 50 ∨ recs' = recs ++ [l])) → DN p S' L' fz' h' → Own st' ((jp, o) :: (h' ++ r)) → k (.int .i64 f) st') :
    ACallF (C base w0 G) 11 [.pointer (some ⟨jp, 0, none⟩), bv] st k q := by
  have he := hJ.end_le
  have hwm : w * (T.length / 2) ≤ 1 * (T.length / 2) := Nat.mul_le_mul_right _ hJ.hw
  refine AppendJ st r h jp p T w g recs fz bv l hJ hD hO hb hfz hS (by omega) k q (fun h => absurd h (by omega)) (fun _ h => absurd hfit h) (fun S' L' h' st' _ _ _ hF hD' hO' => ?_) (fun fz' T2 h' st' _ _ _ hJ2 hl2 _ _ hD' hO' => ?_)
  · obtain ⟨s1, s2⟩ := hF.small (by omega)
    refine hk 50 S' L' 0 _ h' st' s1 s2 (fun a c => ?_) hD' hO'
    rcases fail_left hJ.sec hb.2 (by omega) (hJ.nought (Nat.le_refl _) (by omega)) hF (.inl ⟨a, c, rfl⟩) with hL | hL
    · obtain ⟨tail, ht⟩ := hJ.left hfit hL
      exact ⟨recs, ht.opens, .inl ⟨rfl, rfl⟩⟩
    · rw [hL]
      exact ⟨_, (hJ.wrote hb.2 (by omega) hfit).1.opens, .inr rfl⟩
  · exact hk 0 T2 [] fz' _ h' st' (by decide) hl2 (fun a c => by rw [crashN_none]; exact ⟨_, hJ2.opens, .inr rfl⟩) hD' hO'
set_option maxHeartbeats 2000000 in
set_option maxRecDepth 10000 in
theorem torn_spec (st : St) (F : Hp) (V U : Value) (ps : List (Value × List Nat)) (b : List Nat) (c0 c1 c2 : Int) (hO : Own st F) (hP : Ps F V ps) (hb : Nb F U b) (hpl : ps.length ≤ 9223372036854775807) (hbl : b.length ≤ 9223372036854775807) (k q : Value → St → Prop) (hk : ∀ st', k (.bool true) st') :
    ACall (C base w0 G) 3 [V, U, .agg #[.int .i64 c0, .int .i64 c1, .int .i64 c2]] st k q := by
  obtain ⟨va, vc, hV⟩ : ∃ a c, V = .slice a ps.length c := by
    obtain ⟨a, c, h, _⟩ := hP.1.isSlice
    rw [List.length_map] at h
    exact ⟨a, c, h⟩
  obtain ⟨ua, uc, hU⟩ := hb.isSlice
  refine ACall.of (cx := C base w0 G) mixed Try.func3 rfl (by kernel_rfl) (by simp [Try.ntmps3]) ?_
  simp only [Try.results3]
  have hO1 : Own _ ((st.n, Ob.cells [.int .i64 c0, .int .i64 c1, .int .i64 c2] 24 true) :: F) := hO.new _
  simp (config := { implicitDefEqProofs := false }) only [↓GP, GQ, ↓awp_seq, ↓awp_block, C_ex, Nat.reduceBEq, acap, afieldAddr, aload, astore, abin, anum, astr, aun, isAggD, cond_true, cond_false, ↓reduceIte, C_P, C_G, isTuple, Value.cells, setL, ares, aresL, ares1, reduceCtorEq, Nat.reduceEqDiff, eq_self, Nat.reduceAdd, if_true, if_false, one, Nat.reduceLeDiff, undef, gsl, aextract, aindexAddr, amake, implies_true, forall_const, alen, abuiltin, anil, isC, Int.reduceEq, Int.reduceLT, Int.reduceLE, Int.reduceAdd, Int.reduceToNat, Int.reduceNeg, Nat.reduceMul, Nat.reduceSub, abuild, afill, Int.reduceBNe, Int.reduceBEq, abox, asz24]
  generalize hc5 : st.n = c5 at *
  generalize hs1 : St.new st _ = s1 at hO1 ⊢
  refine awake_spec s1 _ hO1 _ _ fun s2 hO2 => ?_
  by_cases h6 : 6 < ps.length
  · simp (config := { implicitDefEqProofs := false }) only [↓GP, GQ, ↓awp_seq, ↓awp_block, C_ex, Nat.reduceBEq, acap, afieldAddr, aload, astore, abin, anum, astr, aun, isAggD, cond_true, cond_false, ↓reduceIte, C_P, C_G, isTuple, Value.cells, setL, ares, aresL, ares1, reduceCtorEq, Nat.reduceEqDiff, eq_self, Nat.reduceAdd, if_true, if_false, one, Nat.reduceLeDiff, undef, gsl, aextract, aindexAddr, amake, implies_true, forall_const, alen, abuiltin, anil, isC, Int.reduceEq, Int.reduceLT, Int.reduceLE, Int.reduceAdd, Int.reduceToNat, Int.reduceNeg, Nat.reduceMul, Nat.reduceSub, abuild, afill, Int.reduceBNe, Int.reduceBEq, hV, hU, Try.underlying22, Try.underlying23, Try.underlying3, show (ps.length : Int) > 6 by omega, decide_true]
    refine awake_spec s2 _ hO2 _ _ fun s3 hO3 => ?_
    simp (config := { implicitDefEqProofs := false }) only [↓GP, GQ, ↓awp_seq, ↓awp_block, C_ex, Nat.reduceBEq, acap, afieldAddr, aload, astore, abin, anum, astr, aun, isAggD, cond_true, cond_false, ↓reduceIte, C_P, C_G, isTuple, Value.cells, setL, ares, aresL, ares1, reduceCtorEq, Nat.reduceEqDiff, eq_self, Nat.reduceAdd, if_true, if_false, one, Nat.reduceLeDiff, undef, gsl, aextract, aindexAddr, amake, implies_true, forall_const, alen, abuiltin, anil, isC, Int.reduceEq, Int.reduceLT, Int.reduceLE, Int.reduceAdd, Int.reduceToNat, Int.reduceNeg, Nat.reduceMul, Nat.reduceSub, abuild, afill, Int.reduceBNe, Int.reduceBEq]
    exact hk _
  by_cases h5 : 500 < b.length
  · simp (config := { implicitDefEqProofs := false }) only [↓GP, GQ, ↓awp_seq, ↓awp_block, C_ex, Nat.reduceBEq, acap, afieldAddr, aload, astore, abin, anum, astr, aun, isAggD, cond_true, cond_false, ↓reduceIte, C_P, C_G, isTuple, Value.cells, setL, ares, aresL, ares1, reduceCtorEq, Nat.reduceEqDiff, eq_self, Nat.reduceAdd, if_true, if_false, one, Nat.reduceLeDiff, undef, gsl, aextract, aindexAddr, amake, implies_true, forall_const, alen, abuiltin, anil, isC, Int.reduceEq, Int.reduceLT, Int.reduceLE, Int.reduceAdd, Int.reduceToNat, Int.reduceNeg, Nat.reduceMul, Nat.reduceSub, abuild, afill, Int.reduceBNe, Int.reduceBEq, hV, hU, Try.underlying22, Try.underlying23, Try.underlying3, show ¬ (ps.length : Int) > 6 by omega, show (b.length : Int) > 500 by omega, decide_true, decide_false]
    refine awake_spec s2 _ hO2 _ _ fun s3 hO3 => ?_
    simp (config := { implicitDefEqProofs := false }) only [↓GP, GQ, ↓awp_seq, ↓awp_block, C_ex, Nat.reduceBEq, acap, afieldAddr, aload, astore, abin, anum, astr, aun, isAggD, cond_true, cond_false, ↓reduceIte, C_P, C_G, isTuple, Value.cells, setL, ares, aresL, ares1, reduceCtorEq, Nat.reduceEqDiff, eq_self, Nat.reduceAdd, if_true, if_false, one, Nat.reduceLeDiff, undef, gsl, aextract, aindexAddr, amake, implies_true, forall_const, alen, abuiltin, anil, isC, Int.reduceEq, Int.reduceLT, Int.reduceLE, Int.reduceAdd, Int.reduceToNat, Int.reduceNeg, Nat.reduceMul, Nat.reduceSub, abuild, afill, Int.reduceBNe, Int.reduceBEq]
    exact hk _
  simp (config := { implicitDefEqProofs := false }) only [↓GP, GQ, ↓awp_seq, ↓awp_block, C_ex, Nat.reduceBEq, acap, afieldAddr, aload, astore, abin, anum, astr, aun, isAggD, cond_true, cond_false, ↓reduceIte, C_P, C_G, isTuple, Value.cells, setL, ares, aresL, ares1, reduceCtorEq, Nat.reduceEqDiff, eq_self, Nat.reduceAdd, if_true, if_false, one, Nat.reduceLeDiff, undef, gsl, aextract, aindexAddr, amake, implies_true, forall_const, alen, abuiltin, anil, isC, Int.reduceEq, Int.reduceLT, Int.reduceLE, Int.reduceAdd, Int.reduceToNat, Int.reduceNeg, Nat.reduceMul, Nat.reduceSub, abuild, afill, Int.reduceBNe, Int.reduceBEq, hV, hU, Try.underlying22, Try.underlying23, Try.underlying3, show ¬ (ps.length : Int) > 6 by omega, show ¬ (b.length : Int) > 500 by omega, decide_true, decide_false]
  refine NewN s2 _ 120 hO2 _ _ (fun h => absurd (by omega) h) fun p h3 s3 _ _ hD3 hO3 => ?_
  have hD3 : DN p (noughts 120) [] (-1) h3 := hD3
  simp (config := { implicitDefEqProofs := false }) only [↓GP, GQ, ↓awp_seq, ↓awp_block, C_ex, Nat.reduceBEq, acap, afieldAddr, aload, astore, abin, anum, astr, aun, isAggD, cond_true, cond_false, ↓reduceIte, C_P, C_G, isTuple, Value.cells, setL, ares, aresL, ares1, reduceCtorEq, Nat.reduceEqDiff, eq_self, Nat.reduceAdd, if_true, if_false, one, Nat.reduceLeDiff, undef, gsl, aextract, aindexAddr, amake, implies_true, forall_const, alen, abuiltin, anil, isC, Int.reduceEq, Int.reduceLT, Int.reduceLE, Int.reduceAdd, Int.reduceToNat, Int.reduceNeg, Nat.reduceMul, Nat.reduceSub, abuild, afill, Int.reduceBNe, Int.reduceBEq]
  refine OpenJ s3 _ h3 p (noughts 120) [] (opens_fresh (by decide)) hD3 hO3 (by decide) (by decide) (by decide) _ _ fun jp sv rv h4 H4 T4 s4 hJ4 hl4 hD4 hN4 hR4 hO4 => ?_
  have hl4 : T4.length = 120 := hl4
  simp (config := { implicitDefEqProofs := false }) only [↓GP, GQ, ↓awp_seq, ↓awp_block, C_ex, Nat.reduceBEq, acap, afieldAddr, aload, astore, abin, anum, astr, aun, isAggD, cond_true, cond_false, ↓reduceIte, C_P, C_G, isTuple, Value.cells, setL, ares, aresL, ares1, reduceCtorEq, Nat.reduceEqDiff, eq_self, Nat.reduceAdd, if_true, if_false, one, Nat.reduceLeDiff, undef, gsl, aextract, aindexAddr, amake, implies_true, forall_const, alen, abuiltin, anil, isC, Int.reduceEq, Int.reduceLT, Int.reduceLE, Int.reduceAdd, Int.reduceToNat, Int.reduceNeg, Nat.reduceMul, Nat.reduceSub, abuild, afill, Int.reduceBNe, Int.reduceBEq, Try.underlying30, Try.underlying27]
  refine ⟨fun m ρ s => ∃ (i : Nat) (T : List (List Nat)) (hd X : Hp), m = ps.length - i ∧ i ≤ ps.length ∧ ρ 0 = V ∧ ρ 1 = U ∧ ρ 5 = .pointer (some ⟨c5, 0, none⟩) ∧ ρ 7 = .pointer (some ⟨p, 0, none⟩) ∧ ρ 9 = .pointer (some ⟨jp, 0, none⟩) ∧ ρ 13 = .int .i64 i ∧
    JI T 0 1 ([[]] ++ (ps.map (·.2)).take i) ∧ T.length = 120 ∧ (lay 1 ([[]] ++ (ps.map (·.2)).take i)).length ≤ 1 + 6 * i ∧ DN p T [] (-1) hd ∧ Own s (JB jp p T 0 1 ([[]] ++ (ps.map (·.2)).take i) false :: (hd ++ (X ++ ((c5, Ob.cells [.int .i64 c0, .int .i64 c1, .int .i64 c2] 24 true) :: F)))),
    ⟨ps.length, 0, T4, h4, H4, rfl, Nat.zero_le _, rfl, rfl, rfl, rfl, rfl, rfl, hJ4, hl4, by show (lay 1 [[]]).length ≤ _; decide, hD4, hO4⟩, ?_⟩
  rintro m ρ s ⟨i, T, hd, X, rfl, hi, p0, p1, p5, p7, p9, p13, hJ, hTl, hlay, hD, hO⟩
  by_cases him : i < ps.length
  · obtain ⟨B, o, sp, c, cs, ty, own, hvx, hmem, hget⟩ := hP.at (hO.sub (show F.Sublist _ from List.Sublist.cons _ ((List.Sublist.cons _ (List.Sublist.refl F)).trans ((List.sublist_append_right X _).trans (List.sublist_append_right hd _))))) (by intro e; rw [e] at him; simp at him)
    have hp : ps[i]? = some ps[i] := List.getElem?_eq_getElem him
    generalize ps[i] = x at hp
    have hg := hget i x hp
    have hB := hO.get (b := B) (o := .cells cs ty own) (by simp [hmem])
    have hNx := hP.2 x (List.mem_of_getElem? hp)
    obtain ⟨xa, xc, hx⟩ := hNx.isSlice
    have htk : (ps.map (·.2)).take (i + 1) = (ps.map (·.2)).take i ++ [x.2] := by rw [List.take_add_one, List.getElem?_map, hp]; rfl
    by_cases h300 : 300 < x.2.length
    · simp (config := { implicitDefEqProofs := false }) only [↓GP, GQ, ↓awp_seq, ↓awp_block, C_ex, Nat.reduceBEq, acap, afieldAddr, aload, astore, abin, anum, astr, aun, isAggD, cond_true, cond_false, ↓reduceIte, C_P, C_G, isTuple, Value.cells, setL, ares, aresL, ares1, reduceCtorEq, Nat.reduceEqDiff, eq_self, Nat.reduceAdd, if_true, if_false, one, Nat.reduceLeDiff, undef, gsl, aextract, aindexAddr, amake, implies_true, forall_const, alen, abuiltin, anil, isC, Int.reduceEq, Int.reduceLT, Int.reduceLE, Int.reduceAdd, Int.reduceToNat, Int.reduceNeg, Nat.reduceMul, Nat.reduceSub, abuild, afill, Int.reduceBNe, Int.reduceBEq, p0, p1, p5, p7, p9, p13, hvx, hB, hg, hx, asz23, Try.underlying22, Try.underlying23, Try.underlying3, Int.ofNat_lt, him, decide_true, show (x.2.length : Int) > 300 by omega]
      exact ⟨by omega, by omega, hk _⟩
    · simp (config := { implicitDefEqProofs := false }) only [↓GP, GQ, ↓awp_seq, ↓awp_block, C_ex, Nat.reduceBEq, acap, afieldAddr, aload, astore, abin, anum, astr, aun, isAggD, cond_true, cond_false, ↓reduceIte, C_P, C_G, isTuple, Value.cells, setL, ares, aresL, ares1, reduceCtorEq, Nat.reduceEqDiff, eq_self, Nat.reduceAdd, if_true, if_false, one, Nat.reduceLeDiff, undef, gsl, aextract, aindexAddr, amake, implies_true, forall_const, alen, abuiltin, anil, isC, Int.reduceEq, Int.reduceLT, Int.reduceLE, Int.reduceAdd, Int.reduceToNat, Int.reduceNeg, Nat.reduceMul, Nat.reduceSub, abuild, afill, Int.reduceBNe, Int.reduceBEq, p0, p1, p5, p7, p9, p13, hvx, hB, hg, hx, asz23, Try.underlying22, Try.underlying23, Try.underlying3, Int.ofNat_lt, him, decide_true, show ¬ (x.2.length : Int) > 300 by omega, decide_false]
      rw [← hx]
      refine ⟨by omega, by omega, AppendJ s _ hd jp p T 0 1 _ (-1) x.1 x.2 hJ hD hO (hNx.sub fun e he => by simp [he]) ⟨by decide, by decide⟩ (by omega) (by omega) _ _ (fun h => absurd h (by omega)) (fun _ h => absurd (by rw [hTl]; unfold needN; omega) h) (fun _ _ _ _ _ _ h => absurd rfl h) (fun fz' T2 h' s' _ _ hsp hJ2 hl2 _ hlay2 hD2 hO2 => ?_)⟩
      obtain rfl := hsp.2.1 rfl
      simp (config := { implicitDefEqProofs := false }) only [↓GP, GQ, ↓awp_seq, ↓awp_block, C_ex, Nat.reduceBEq, acap, afieldAddr, aload, astore, abin, anum, astr, aun, isAggD, cond_true, cond_false, ↓reduceIte, C_P, C_G, isTuple, Value.cells, setL, ares, aresL, ares1, reduceCtorEq, Nat.reduceEqDiff, eq_self, Nat.reduceAdd, if_true, if_false, one, Nat.reduceLeDiff, undef, gsl, aextract, aindexAddr, amake, implies_true, forall_const, alen, abuiltin, anil, isC, Int.reduceEq, Int.reduceLT, Int.reduceLE, Int.reduceAdd, Int.reduceToNat, Int.reduceNeg, Nat.reduceMul, Nat.reduceSub, abuild, afill, Int.reduceBNe, Int.reduceBEq, p0, p1, p5, p7, p9, p13, Try.underlying3, Try.underlying27]
      rw [List.append_assoc, ← htk] at hJ2 hO2 hlay2
      refine ⟨ps.length - (i + 1), by omega, i + 1, T2, h', X, rfl, by omega, by rw [w_i64 (by omega)]; rfl, hJ2, by omega, ?_, hD2, hO2⟩
      refine Nat.le_trans (Nat.le_of_eq hlay2) ?_
      unfold needN; omega
  · obtain rfl : i = ps.length := by omega
    have htl : (ps.map (·.2)).take ps.length = ps.map (·.2) := List.take_of_length_le (by simp)
    rw [htl] at hJ hlay hO
    have hB5 := hO.get (b := c5) (o := Ob.cells [.int .i64 c0, .int .i64 c1, .int .i64 c2] 24 true) (by simp)
    obtain ⟨kk, hkk, hkl⟩ := gomod c0 14 (by decide) (by decide)
    simp (config := { implicitDefEqProofs := false }) only [↓GP, GQ, ↓awp_seq, ↓awp_block, C_ex, Nat.reduceBEq, acap, afieldAddr, aload, astore, abin, anum, astr, aun, isAggD, cond_true, cond_false, ↓reduceIte, C_P, C_G, isTuple, Value.cells, setL, ares, aresL, ares1, reduceCtorEq, Nat.reduceEqDiff, eq_self, Nat.reduceAdd, if_true, if_false, one, Nat.reduceLeDiff, undef, gsl, aextract, aindexAddr, amake, implies_true, forall_const, alen, abuiltin, anil, isC, Int.reduceEq, Int.reduceLT, Int.reduceLE, Int.reduceAdd, Int.reduceToNat, Int.reduceNeg, Nat.reduceMul, Nat.reduceSub, abuild, afill, Int.reduceBNe, Int.reduceBEq, p0, p1, p5, p7, p9, p13, Try.underlying22, Try.underlying23, Try.underlying24, Try.underlying3, Try.underlying27, Try.underlying30, asz3, hV, hB5, hkk, Int.ofNat_lt, Nat.lt_irrefl, decide_false]
    refine FuseN s (JB jp p T 0 1 ([[]] ++ ps.map (·.2)) false :: (X ++ ((c5, Ob.cells [.int .i64 c0, .int .i64 c1, .int .i64 c2] 24 true) :: F))) hd p T [] (-1) kk hD (hO.perm (perm_front hd _ _).symm) _ _ fun h7 s7 hD7 hO7 => ?_
    rw [if_neg (by omega)] at hD7
    simp (config := { implicitDefEqProofs := false }) only [↓GP, GQ, ↓awp_seq, ↓awp_block, C_ex, Nat.reduceBEq, acap, afieldAddr, aload, astore, abin, anum, astr, aun, isAggD, cond_true, cond_false, ↓reduceIte, C_P, C_G, isTuple, Value.cells, setL, ares, aresL, ares1, reduceCtorEq, Nat.reduceEqDiff, eq_self, Nat.reduceAdd, if_true, if_false, one, Nat.reduceLeDiff, undef, gsl, aextract, aindexAddr, amake, implies_true, forall_const, alen, abuiltin, anil, isC, Int.reduceEq, Int.reduceLT, Int.reduceLE, Int.reduceAdd, Int.reduceToNat, Int.reduceNeg, Nat.reduceMul, Nat.reduceSub, abuild, afill, Int.reduceBNe, Int.reduceBEq, p0, p1, p5, p7, p9, p13, Try.underlying22, Try.underlying23, Try.underlying24, Try.underlying3, Try.underlying27, Try.underlying30, asz3]
    refine AppendT s7 _ h7 jp p T 0 1 _ kk U b hJ hD7 (hO7.perm (perm_front h7 _ _)) (hb.sub fun e he => by simp [he]) ⟨by omega, by omega⟩ (by omega) (by omega) (by rw [hTl]; unfold needN; omega) _ _ fun f S' L' fz' o h8 s8 hL8 hS8 hcr hD8 hO8 => ?_
    have hB8 := hO8.get (b := c5) (o := Ob.cells [.int .i64 c0, .int .i64 c1, .int .i64 c2] 24 true) (by simp)
    simp (config := { implicitDefEqProofs := false }) only [↓GP, GQ, ↓awp_seq, ↓awp_block, C_ex, Nat.reduceBEq, acap, afieldAddr, aload, astore, abin, anum, astr, aun, isAggD, cond_true, cond_false, ↓reduceIte, C_P, C_G, isTuple, Value.cells, setL, ares, aresL, ares1, reduceCtorEq, Nat.reduceEqDiff, eq_self, Nat.reduceAdd, if_true, if_false, one, Nat.reduceLeDiff, undef, gsl, aextract, aindexAddr, amake, implies_true, forall_const, alen, abuiltin, anil, isC, Int.reduceEq, Int.reduceLT, Int.reduceLE, Int.reduceAdd, Int.reduceToNat, Int.reduceNeg, Nat.reduceMul, Nat.reduceSub, abuild, afill, Int.reduceBNe, Int.reduceBEq, p0, p1, p5, p7, p9, p13, Try.underlying22, Try.underlying23, Try.underlying24, Try.underlying3, Try.underlying27, Try.underlying30, asz3, hB8]
    refine CrashN s8 _ h8 p S' L' fz' c1 c2 hD8 (hO8.perm (perm_front h8 _ _).symm) (by omega) _ _ fun h9 s9 hD9 hO9 => ?_
    obtain ⟨recs', hop, hrr⟩ := hcr c1 c2
    simp (config := { implicitDefEqProofs := false }) only [↓GP, GQ, ↓awp_seq, ↓awp_block, C_ex, Nat.reduceBEq, acap, afieldAddr, aload, astore, abin, anum, astr, aun, isAggD, cond_true, cond_false, ↓reduceIte, C_P, C_G, isTuple, Value.cells, setL, ares, aresL, ares1, reduceCtorEq, Nat.reduceEqDiff, eq_self, Nat.reduceAdd, if_true, if_false, one, Nat.reduceLeDiff, undef, gsl, aextract, aindexAddr, amake, implies_true, forall_const, alen, abuiltin, anil, isC, Int.reduceEq, Int.reduceLT, Int.reduceLE, Int.reduceAdd, Int.reduceToNat, Int.reduceNeg, Nat.reduceMul, Nat.reduceSub, abuild, afill, Int.reduceBNe, Int.reduceBEq, p0, p1, p5, p7, p9, p13, Try.underlying22, Try.underlying23, Try.underlying24, Try.underlying3, Try.underlying27, Try.underlying30, asz3]
    refine OpenJ s9 _ h9 p (crashN S' L' c1 c2) [] hop hD9 hO9 (by rw [crashN_length]; omega) (by rw [crashN_length]; omega) (by decide) _ _ fun jp6 sv6 rv6 h6 H6 T6 s6 hJ6 hl6 hD6 hN6 hR6 hO6 => ?_
    simp (config := { implicitDefEqProofs := false }) only [↓GP, GQ, ↓awp_seq, ↓awp_block, C_ex, Nat.reduceBEq, acap, afieldAddr, aload, astore, abin, anum, astr, aun, isAggD, cond_true, cond_false, ↓reduceIte, C_P, C_G, isTuple, Value.cells, setL, ares, aresL, ares1, reduceCtorEq, Nat.reduceEqDiff, eq_self, Nat.reduceAdd, if_true, if_false, one, Nat.reduceLeDiff, undef, gsl, aextract, aindexAddr, amake, implies_true, forall_const, alen, abuiltin, anil, isC, Int.reduceEq, Int.reduceLT, Int.reduceLE, Int.reduceAdd, Int.reduceToNat, Int.reduceNeg, Nat.reduceMul, Nat.reduceSub, abuild, afill, Int.reduceBNe, Int.reduceBEq, p0, p1, p5, p7, p9, p13, Try.underlying22, Try.underlying23, Try.underlying24, Try.underlying3, Try.underlying27, Try.underlying30, asz3]
    obtain ⟨qs6, hq6, hP6, _⟩ := hR6
    have hP6' := hP6.sub (h' := JB jp6 p T6 0 1 recs' false :: (h6 ++ (H6 ++ ((jp, o) :: (X ++ ((c5, Ob.cells [.int .i64 c0, .int .i64 c1, .int .i64 c2] 24 true) :: F)))))) (fun e he => by simp [he])
    have hPF := hP.sub (h' := JB jp6 p T6 0 1 recs' false :: (h6 ++ (H6 ++ ((jp, o) :: (X ++ ((c5, Ob.cells [.int .i64 c0, .int .i64 c1, .int .i64 c2] 24 true) :: F)))))) (fun e he => by simp [he])
    have hql : qs6.length ≤ 1500 := by
      have h1 := congrArg List.length hq6
      have h2 := hJ6.end_le
      have h3 : recs'.length ≤ (lay 1 recs').length := layF_ge 1 0 recs'
      rw [crashN_length] at hl6
      rw [List.length_map, List.length_tail] at h1
      omega
    refine Same_spec s6 _ rv6 V qs6 ps hP6' hPF (by omega) hO6 _ _ ?_
    rw [hq6]
    rcases hrr with ⟨rfl, rfl⟩ | rfl
    · have e1 : ([[]] ++ ps.map (fun x : Value × List Nat => x.2)).tail = ps.map (fun x : Value × List Nat => x.2) := rfl
      rw [decide_eq_true e1]
      simp (config := { implicitDefEqProofs := false }) only [↓GP, GQ, ↓awp_seq, ↓awp_block, C_ex, Nat.reduceBEq, acap, afieldAddr, aload, astore, abin, anum, astr, aun, isAggD, cond_true, cond_false, ↓reduceIte, C_P, C_G, isTuple, Value.cells, setL, ares, aresL, ares1, reduceCtorEq, Nat.reduceEqDiff, eq_self, Nat.reduceAdd, if_true, if_false, one, Nat.reduceLeDiff, undef, gsl, aextract, aindexAddr, amake, implies_true, forall_const, alen, abuiltin, anil, isC, Int.reduceEq, Int.reduceLT, Int.reduceLE, Int.reduceAdd, Int.reduceToNat, Int.reduceNeg, Nat.reduceMul, Nat.reduceSub, abuild, afill, Int.reduceBNe, Int.reduceBEq, p0, p1, p5, p7, p9, p13, Try.underlying22, Try.underlying23, Try.underlying24, Try.underlying3, Try.underlying27, Try.underlying30, asz3]
      exact hk _
    · have hne : ¬ (([[]] ++ ps.map (fun x : Value × List Nat => x.2) ++ [b]).tail = ps.map (fun x : Value × List Nat => x.2)) := fun e => by
        have := congrArg List.length e
        simp at this
      rw [decide_eq_false hne]
      simp (config := { implicitDefEqProofs := false }) only [↓GP, GQ, ↓awp_seq, ↓awp_block, C_ex, Nat.reduceBEq, acap, afieldAddr, aload, astore, abin, anum, astr, aun, isAggD, cond_true, cond_false, ↓reduceIte, C_P, C_G, isTuple, Value.cells, setL, ares, aresL, ares1, reduceCtorEq, Nat.reduceEqDiff, eq_self, Nat.reduceAdd, if_true, if_false, one, Nat.reduceLeDiff, undef, gsl, aextract, aindexAddr, amake, implies_true, forall_const, alen, abuiltin, anil, isC, Int.reduceEq, Int.reduceLT, Int.reduceLE, Int.reduceAdd, Int.reduceToNat, Int.reduceNeg, Nat.reduceMul, Nat.reduceSub, abuild, afill, Int.reduceBNe, Int.reduceBEq, p0, p1, p5, p7, p9, p13, Try.underlying22, Try.underlying23, Try.underlying24, Try.underlying3, Try.underlying27, Try.underlying30, asz3]
      refine with_spec s6 _ V U ps b hPF (hb.sub fun e he => by simp [he]) (by omega) (by omega) hO6 _ _ fun H10 ov qs10 s10 hP10 hq10 hO10 => ?_
      simp (config := { implicitDefEqProofs := false }) only [↓GP, GQ, ↓awp_seq, ↓awp_block, C_ex, Nat.reduceBEq, acap, afieldAddr, aload, astore, abin, anum, astr, aun, isAggD, cond_true, cond_false, ↓reduceIte, C_P, C_G, isTuple, Value.cells, setL, ares, aresL, ares1, reduceCtorEq, Nat.reduceEqDiff, eq_self, Nat.reduceAdd, if_true, if_false, one, Nat.reduceLeDiff, undef, gsl, aextract, aindexAddr, amake, implies_true, forall_const, alen, abuiltin, anil, isC, Int.reduceEq, Int.reduceLT, Int.reduceLE, Int.reduceAdd, Int.reduceToNat, Int.reduceNeg, Nat.reduceMul, Nat.reduceSub, abuild, afill, Int.reduceBNe, Int.reduceBEq, p0, p1, p5, p7, p9, p13, Try.underlying22, Try.underlying23, Try.underlying24, Try.underlying3, Try.underlying27, Try.underlying30, asz3]
      refine Same_spec s10 _ rv6 ov qs6 qs10 (hP6'.sub fun e he => List.mem_append_right _ he) hP10 (by omega) hO10 _ _ ?_
      have e1 : ([[]] ++ ps.map (fun x : Value × List Nat => x.2) ++ [b]).tail = ps.map (fun x : Value × List Nat => x.2) ++ [b] := rfl
      rw [hq6, hq10, decide_eq_true e1]
      simp (config := { implicitDefEqProofs := false }) only [↓GP, GQ, ↓awp_seq, ↓awp_block, C_ex, Nat.reduceBEq, acap, afieldAddr, aload, astore, abin, anum, astr, aun, isAggD, cond_true, cond_false, ↓reduceIte, C_P, C_G, isTuple, Value.cells, setL, ares, aresL, ares1, reduceCtorEq, Nat.reduceEqDiff, eq_self, Nat.reduceAdd, if_true, if_false, one, Nat.reduceLeDiff, undef, gsl, aextract, aindexAddr, amake, implies_true, forall_const, alen, abuiltin, anil, isC, Int.reduceEq, Int.reduceLT, Int.reduceLE, Int.reduceAdd, Int.reduceToNat, Int.reduceNeg, Nat.reduceMul, Nat.reduceSub, abuild, afill, Int.reduceBNe, Int.reduceBEq, p0, p1, p5, p7, p9, p13, Try.underlying22, Try.underlying23, Try.underlying24, Try.underlying3, Try.underlying27, Try.underlying30, asz3]
      exact hk _
end Go.Proofs.Ytiooigkcliomlaa
