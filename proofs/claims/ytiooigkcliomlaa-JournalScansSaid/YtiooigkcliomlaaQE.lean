/- JournalTorn answers true over the abstract heap. No conditions. -/
import Derived.Test.YtiooigkcliomlaaQD
set_option linter.unusedVariables false
set_option linter.unusedSimpArgs false
namespace Go.Proofs.Ytiooigkcliomlaa
open Go Go.Abs Go.RowKit
variable {base : Nat} {w0 : World} {G : Nat}

theorem gomod (x m : Int) (h : 0 < m) (h2 : m ≤ 1000) : ∃ n : Nat, (IntKind.i64.wrap (x.tmod m + m)).tmod m = n ∧ (n : Int) < m := by
  have h3 := Int.lt_tmod_of_pos x h
  have h4 := Int.tmod_lt_of_pos x h
  rw [w_i64 (by omega)]
  have h5 := Int.tmod_nonneg m (show 0 ≤ x.tmod m + m by omega)
  have h6 := Int.tmod_lt_of_pos (x.tmod m + m) h
  exact ⟨((x.tmod m + m).tmod m).toNat, by omega, by omega⟩
theorem WFail.small {T : List (List Nat)} {a g num : Nat} {l : List Nat} {S' : List (List Nat)} {L' : List LN} (h : WFail T a g num l S' L') (hm : needN l.length ≤ 5000) : L'.length ≤ 5000 ∧ S'.length = T.length := by
  rcases h with ⟨rfl, j, hj, rfl⟩ | ⟨rfl, rfl | rfl⟩
  · exact ⟨by rw [payF_length]; omega, rfl⟩
  · exact ⟨by simp, appN_length _ _⟩
  · exact ⟨by simp, appN_length _ _⟩
/-- A record more, and what a crash leaves. -/
theorem AppendT (st : St) (r h : Hp) (jp p : Nat) (T : List (List Nat)) (w g : Nat) (recs : List (List Nat)) (fz : Int) (bv : Value) (l : List Nat) (hJ : JI T w g recs) (hD : DN p T [] fz h) (hO : Own st (JB jp p T w g recs false :: (h ++ r))) (hb : Nb r bv l) (hfz : FZ fz)
    (hS : T.length ≤ 1500) (hl : l.length ≤ 262144) (hfit : 1 + needN l.length ≤ T.length / 2 - (lay g recs).length) (k q : Value → St → Prop)
    (hk : ∀ (f : Int) S' L' fz' o h' st', L'.length ≤ 5000 → S'.length = T.length → (∀ a c, ∃ recs', Opens (crashN S' L' a c) w g recs' ∧ (recs' = recs ∧ f = 50 ∨ recs' = recs ++ [l])) → DN p S' L' fz' h' → Own st' ((jp, o) :: (h' ++ r)) → k (.int .i64 f) st') :
    ACallF (C base w0 G) 11 [.pointer (some ⟨jp, 0, none⟩), bv] st k q := by
  have he := hJ.end_le
  have hwm : w * (T.length / 2) ≤ 1 * (T.length / 2) := Nat.mul_le_mul_right _ hJ.hw
  refine AppendJ st r h jp p T w g recs fz bv l hJ hD hO hb hfz hS (by omega) k q (fun h => absurd h (by omega)) (fun _ h => absurd hfit h) (fun S' L' h' st' _ _ _ hF hD' hO' => ?_) (fun fz' T2 h' st' _ _ _ hJ2 hl2 _ _ hD' hO' => ?_)
  · obtain ⟨s1, s2⟩ := hF.small (by omega)
    refine hk 50 S' L' 0 _ h' st' s1 s2 (fun a c => ?_) hD' hO'
    rcases fail_left hJ.sec hb.2 (by omega) (hJ.nought (Nat.le_refl _) (by omega)) hF (.inl ⟨a, c, rfl⟩) with hL | hL
    · obtain ⟨tail, ht⟩ := hJ.left hfit hL
      exact ⟨recs, ht.opens, .inl ⟨rfl, rfl⟩⟩
    · rw [hL]
      exact ⟨_, (hJ.wrote hb.2 (by omega) hfit).1.opens, .inr rfl⟩
  · exact hk 0 T2 [] fz' _ h' st' (by decide) hl2 (fun a c => by rw [crashN_none]; exact ⟨_, hJ2.opens, .inr rfl⟩) hD' hO'
set_option maxHeartbeats 2000000 in
set_option maxRecDepth 10000 in
theorem torn_spec (st : St) (F : Hp) (V U : Value) (ps : List (Value × List Nat)) (b : List Nat) (c0 c1 c2 : Int) (hO : Own st F) (hP : Ps F V ps) (hb : Nb F U b) (hpl : ps.length ≤ 9223372036854775807) (hbl : b.length ≤ 9223372036854775807) (k q : Value → St → Prop) (hk : ∀ st', k (.bool true) st') :
    ACall (C base w0 G) 3 [V, U, .agg #[.int .i64 c0, .int .i64 c1, .int .i64 c2]] st k q := by
  obtain ⟨va, vc, hV⟩ : ∃ a c, V = .slice a ps.length c := by
    obtain ⟨a, c, h, _⟩ := hP.1.isSlice
    rw [List.length_map] at h
    exact ⟨a, c, h⟩
  obtain ⟨ua, uc, hU⟩ := hb.isSlice
  refine ACall.of (cx := C base w0 G) mixed Try.func3 rfl (by kernel_rfl) (by simp [Try.ntmps3]) ?_
  simp only [Try.results3]
  have hO1 : Own _ ((st.n, Ob.cells [.int .i64 c0, .int .i64 c1, .int .i64 c2] 24 true) :: F) := hO.new _
  simp (config := { implicitDefEqProofs := false }) only [↓GP, GQ, ↓awp_seq, ↓awp_block, C_ex, Nat.reduceBEq, acap, afieldAddr, aload, astore, abin, anum, astr, aun, isAggD, cond_true, cond_false, ↓reduceIte, C_P, C_G, isTuple, Value.cells, setL, ares, aresL, ares1, reduceCtorEq, Nat.reduceEqDiff, eq_self, Nat.reduceAdd, if_true, if_false, one, Nat.reduceLeDiff, undef, gsl, aextract, aindexAddr, amake, implies_true, forall_const, alen, abuiltin, anil, isC, Int.reduceEq, Int.reduceLT, Int.reduceLE, Int.reduceAdd, Int.reduceToNat, Int.reduceNeg, Nat.reduceMul, Nat.reduceSub, abuild, afill, Int.reduceBNe, Int.reduceBEq, abox, asz24]
  generalize hc5 : st.n = c5 at *
  generalize hs1 : St.new st _ = s1 at hO1 ⊢
  refine awake_spec s1 _ hO1 _ _ fun s2 hO2 => ?_
  by_cases h6 : 6 < ps.length
  · simp (config := { implicitDefEqProofs := false }) only [↓GP, GQ, ↓awp_seq, ↓awp_block, C_ex, Nat.reduceBEq, acap, afieldAddr, aload, astore, abin, anum, astr, aun, isAggD, cond_true, cond_false, ↓reduceIte, C_P, C_G, isTuple, Value.cells, setL, ares, aresL, ares1, reduceCtorEq, Nat.reduceEqDiff, eq_self, Nat.reduceAdd, if_true, if_false, one, Nat.reduceLeDiff, undef, gsl, aextract, aindexAddr, amake, implies_true, forall_const, alen, abuiltin, anil, isC, Int.reduceEq, Int.reduceLT, Int.reduceLE, Int.reduceAdd, Int.reduceToNat, Int.reduceNeg, Nat.reduceMul, Nat.reduceSub, abuild, afill, Int.reduceBNe, Int.reduceBEq, hV, hU, Try.underlying22, Try.underlying23, Try.underlying3, show (ps.length : Int) > 6 by omega, decide_true]
    refine awake_spec s2 _ hO2 _ _ fun s3 hO3 => ?_
    simp (config := { implicitDefEqProofs := false }) only [↓GP, GQ, ↓awp_seq, ↓awp_block, C_ex, Nat.reduceBEq, acap, afieldAddr, aload, astore, abin, anum, astr, aun, isAggD, cond_true, cond_false, ↓reduceIte, C_P, C_G, isTuple, Value.cells, setL, ares, aresL, ares1, reduceCtorEq, Nat.reduceEqDiff, eq_self, Nat.reduceAdd, if_true, if_false, one, Nat.reduceLeDiff, undef, gsl, aextract, aindexAddr, amake, implies_true, forall_const, alen, abuiltin, anil, isC, Int.reduceEq, Int.reduceLT, Int.reduceLE, Int.reduceAdd, Int.reduceToNat, Int.reduceNeg, Nat.reduceMul, Nat.reduceSub, abuild, afill, Int.reduceBNe, Int.reduceBEq]
    exact hk _
  by_cases h5 : 500 < b.length
  · simp (config := { implicitDefEqProofs := false }) only [↓GP, GQ, ↓awp_seq, ↓awp_block, C_ex, Nat.reduceBEq, acap, afieldAddr, aload, astore, abin, anum, astr, aun, isAggD, cond_true, cond_false, ↓reduceIte, C_P, C_G, isTuple, Value.cells, setL, ares, aresL, ares1, reduceCtorEq, Nat.reduceEqDiff, eq_self, Nat.reduceAdd, if_true, if_false, one, Nat.reduceLeDiff, undef, gsl, aextract, aindexAddr, amake, implies_true, forall_const, alen, abuiltin, anil, isC, Int.reduceEq, Int.reduceLT, Int.reduceLE, Int.reduceAdd, Int.reduceToNat, Int.reduceNeg, Nat.reduceMul, Nat.reduceSub, abuild, afill, Int.reduceBNe, Int.reduceBEq, hV, hU, Try.underlying22, Try.underlying23, Try.underlying3, show ¬ (ps.length : Int) > 6 by omega, show (b.length : Int) > 500 by omega, decide_true, decide_false]
    refine awake_spec s2 _ hO2 _ _ fun s3 hO3 => ?_
    simp (config := { implicitDefEqProofs := false }) only [↓GP, GQ, ↓awp_seq, ↓awp_block, C_ex, Nat.reduceBEq, acap, afieldAddr, aload, astore, abin, anum, astr, aun, isAggD, cond_true, cond_false, ↓reduceIte, C_P, C_G, isTuple, Value.cells, setL, ares, aresL, ares1, reduceCtorEq, Nat.reduceEqDiff, eq_self, Nat.reduceAdd, if_true, if_false, one, Nat.reduceLeDiff, undef, gsl, aextract, aindexAddr, amake, implies_true, forall_const, alen, abuiltin, anil, isC, Int.reduceEq, Int.reduceLT, Int.reduceLE, Int.reduceAdd, Int.reduceToNat, Int.reduceNeg, Nat.reduceMul, Nat.reduceSub, abuild, afill, Int.reduceBNe, Int.reduceBEq]
    exact hk _
  simp (config := { implicitDefEqProofs := false }) only [↓GP, GQ, ↓awp_seq, ↓awp_block, C_ex, Nat.reduceBEq, acap, afieldAddr, aload, astore, abin, anum, astr, aun, isAggD, cond_true, cond_false, ↓reduceIte, C_P, C_G, isTuple, Value.cells, setL, ares, aresL, ares1, reduceCtorEq, Nat.reduceEqDiff, eq_self, Nat.reduceAdd, if_true, if_false, one, Nat.reduceLeDiff, undef, gsl, aextract, aindexAddr, amake, implies_true, forall_const, alen, abuiltin, anil, isC, Int.reduceEq, Int.reduceLT, Int.reduceLE, Int.reduceAdd, Int.reduceToNat, Int.reduceNeg, Nat.reduceMul, Nat.reduceSub, abuild, afill, Int.reduceBNe, Int.reduceBEq, hV, hU, Try.underlying22, Try.underlying23, Try.underlying3, show ¬ (ps.length : Int) > 6 by omega, show ¬ (b.length : Int) > 500 by omega, decide_true, decide_false]
  refine NewN s2 _ 120 hO2 _ _ (fun h => absurd (by omega) h) fun p h3 s3 _ _ hD3 hO3 => ?_
  have hD3 : DN p (noughts 120) [] (-1) h3 := hD3
  simp (config := { implicitDefEqProofs := false }) only [↓GP, GQ, ↓awp_seq, ↓awp_block, C_ex, Nat.reduceBEq, acap, afieldAddr, aload, astore, abin, anum, astr, aun, isAggD, cond_true, cond_false, ↓reduceIte, C_P, C_G, isTuple, Value.cells, setL, ares, aresL, ares1, reduceCtorEq, Nat.reduceEqDiff, eq_self, Nat.reduceAdd, if_true, if_false, one, Nat.reduceLeDiff, undef, gsl, aextract, aindexAddr, amake, implies_true, forall_const, alen, abuiltin, anil, isC, Int.reduceEq, Int.reduceLT, Int.reduceLE, Int.reduceAdd, Int.reduceToNat, Int.reduceNeg, Nat.reduceMul, Nat.reduceSub, abuild, afill, Int.reduceBNe, Int.reduceBEq]
  refine OpenJ s3 _ h3 p (noughts 120) [] (opens_fresh (by decide)) hD3 hO3 (by decide) (by decide) (by decide) _ _ fun jp sv rv h4 H4 T4 s4 hJ4 hl4 hD4 hN4 hR4 hO4 => ?_
  have hl4 : T4.length = 120 := hl4
  simp (config := { implicitDefEqProofs := false }) only [↓GP, GQ, ↓awp_seq, ↓awp_block, C_ex, Nat.reduceBEq, acap, afieldAddr, aload, astore, abin, anum, astr, aun, isAggD, cond_true, cond_false, ↓reduceIte, C_P, C_G, isTuple, Value.cells, setL, ares, aresL, ares1, reduceCtorEq, Nat.reduceEqDiff, eq_self, Nat.reduceAdd, if_true, if_false, one, Nat.reduceLeDiff, undef, gsl, aextract, aindexAddr, amake, implies_true, forall_const, alen, abuiltin, anil, isC, Int.reduceEq, Int.reduceLT, Int.reduceLE, Int.reduceAdd, Int.reduceToNat, Int.reduceNeg, Nat.reduceMul, Nat.reduceSub, abuild, afill, Int.reduceBNe, Int.reduceBEq, Try.underlying30, Try.underlying27]
  refine ⟨fun m ρ s => ∃ (i : Nat) (T : List (List Nat)) (hd X : Hp), m = ps.length - i ∧ i ≤ ps.length ∧ ρ 0 = V ∧ ρ 1 = U ∧ ρ 5 = .pointer (some ⟨c5, 0, none⟩) ∧ ρ 7 = .pointer (some ⟨p, 0, none⟩) ∧ ρ 9 = .pointer (some ⟨jp, 0, none⟩) ∧ ρ 13 = .int .i64 i ∧
    JI T 0 1 ([[]] ++ (ps.map (·.2)).take i) ∧ T.length = 120 ∧ (lay 1 ([[]] ++ (ps.map (·.2)).take i)).length ≤ 1 + 6 * i ∧ DN p T [] (-1) hd ∧ Own s (JB jp p T 0 1 ([[]] ++ (ps.map (·.2)).take i) false :: (hd ++ (X ++ ((c5, Ob.cells [.int .i64 c0, .int .i64 c1, .int .i64 c2] 24 true) :: F)))),
    ⟨ps.length, 0, T4, h4, H4, rfl, Nat.zero_le _, rfl, rfl, rfl, rfl, rfl, rfl, hJ4, hl4, by show (lay 1 [[]]).length ≤ _; decide, hD4, hO4⟩, ?_⟩
  rintro m ρ s ⟨i, T, hd, X, rfl, hi, p0, p1, p5, p7, p9, p13, hJ, hTl, hlay, hD, hO⟩
  by_cases him : i < ps.length
  · obtain ⟨B, o, sp, c, cs, ty, own, hvx, hmem, hget⟩ := hP.at (hO.sub (show F.Sublist _ from List.Sublist.cons _ ((List.Sublist.cons _ (List.Sublist.refl F)).trans ((List.sublist_append_right X _).trans (List.sublist_append_right hd _))))) (by intro e; rw [e] at him; simp at him)
    have hp : ps[i]? = some ps[i] := List.getElem?_eq_getElem him
    generalize ps[i] = x at hp
    have hg := hget i x hp
    have hB := hO.get (b := B) (o := .cells cs ty own) (by simp [hmem])
    have hNx := hP.2 x (List.mem_of_getElem? hp)
    obtain ⟨xa, xc, hx⟩ := hNx.isSlice
    have htk : (ps.map (·.2)).take (i + 1) = (ps.map (·.2)).take i ++ [x.2] := by rw [List.take_add_one, List.getElem?_map, hp]; rfl
    by_cases h300 : 300 < x.2.length
    · simp (config := { implicitDefEqProofs := false }) only [↓GP, GQ, ↓awp_seq, ↓awp_block, C_ex, Nat.reduceBEq, acap, afieldAddr, aload, astore, abin, anum, astr, aun, isAggD, cond_true, cond_false, ↓reduceIte, C_P, C_G, isTuple, Value.cells, setL, ares, aresL, ares1, reduceCtorEq, Nat.reduceEqDiff, eq_self, Nat.reduceAdd, if_true, if_false, one, Nat.reduceLeDiff, undef, gsl, aextract, aindexAddr, amake, implies_true, forall_const, alen, abuiltin, anil, isC, Int.reduceEq, Int.reduceLT, Int.reduceLE, Int.reduceAdd, Int.reduceToNat, Int.reduceNeg, Nat.reduceMul, Nat.reduceSub, abuild, afill, Int.reduceBNe, Int.reduceBEq, p0, p1, p5, p7, p9, p13, hvx, hB, hg, hx, asz23, Try.underlying22, Try.underlying23, Try.underlying3, Int.ofNat_lt, him, decide_true, show (x.2.length : Int) > 300 by omega]
      exact ⟨by omega, by omega, hk _⟩
    · simp (config := { implicitDefEqProofs := false }) only [↓GP, GQ, ↓awp_seq, ↓awp_block, C_ex, Nat.reduceBEq, acap, afieldAddr, aload, astore, abin, anum, astr, aun, isAggD, cond_true, cond_false, ↓reduceIte, C_P, C_G, isTuple, Value.cells, setL, ares, aresL, ares1, reduceCtorEq, Nat.reduceEqDiff, eq_self, Nat.reduceAdd, if_true, if_false, one, Nat.reduceLeDiff, undef, gsl, aextract, aindexAddr, amake, implies_true, forall_const, alen, abuiltin, anil, isC, Int.reduceEq, Int.reduceLT, Int.reduceLE, Int.reduceAdd, Int.reduceToNat, Int.reduceNeg, Nat.reduceMul, Nat.reduceSub, abuild, afill, Int.reduceBNe, Int.reduceBEq, p0, p1, p5, p7, p9, p13, hvx, hB, hg, hx, asz23, Try.underlying22, Try.underlying23, Try.underlying3, Int.ofNat_lt, him, decide_true, show ¬ (x.2.length : Int) > 300 by omega, decide_false]
      rw [← hx]
      refine ⟨by omega, by omega, AppendJ s _ hd jp p T 0 1 _ (-1) x.1 x.2 hJ hD hO (hNx.sub fun e he => by simp [he]) ⟨by decide, by decide⟩ (by omega) (by omega) _ _ (fun h => absurd h (by omega)) (fun _ h => absurd (by rw [hTl]; unfold needN; omega) h) (fun _ _ _ _ _ _ h => absurd rfl h) (fun fz' T2 h' s' _ _ hsp hJ2 hl2 _ hlay2 hD2 hO2 => ?_)⟩
      obtain rfl := hsp.2.1 rfl
      simp (config := { implicitDefEqProofs := false }) only [↓GP, GQ, ↓awp_seq, ↓awp_block, C_ex, Nat.reduceBEq, acap, afieldAddr, aload, astore, abin, anum, astr, aun, isAggD, cond_true, cond_false, ↓reduceIte, C_P, C_G, isTuple, Value.cells, setL, ares, aresL, ares1, reduceCtorEq, Nat.reduceEqDiff, eq_self, Nat.reduceAdd, if_true, if_false, one, Nat.reduceLeDiff, undef, gsl, aextract, aindexAddr, amake, implies_true, forall_const, alen, abuiltin, anil, isC, Int.reduceEq, Int.reduceLT, Int.reduceLE, Int.reduceAdd, Int.reduceToNat, Int.reduceNeg, Nat.reduceMul, Nat.reduceSub, abuild, afill, Int.reduceBNe, Int.reduceBEq, p0, p1, p5, p7, p9, p13, Try.underlying3, Try.underlying27]
      rw [List.append_assoc, ← htk] at hJ2 hO2 hlay2
      refine ⟨ps.length - (i + 1), by omega, i + 1, T2, h', X, rfl, by omega, by rw [w_i64 (by omega)]; rfl, hJ2, by omega, ?_, hD2, hO2⟩
      refine Nat.le_trans (Nat.le_of_eq hlay2) ?_
      unfold needN; omega
  · obtain rfl : i = ps.length := by omega
    have htl : (ps.map (·.2)).take ps.length = ps.map (·.2) := List.take_of_length_le (by simp)
    rw [htl] at hJ hlay hO
    have hB5 := hO.get (b := c5) (o := Ob.cells [.int .i64 c0, .int .i64 c1, .int .i64 c2] 24 true) (by simp)
    obtain ⟨kk, hkk, hkl⟩ := gomod c0 14 (by decide) (by decide)
    simp (config := { implicitDefEqProofs := false }) only [↓GP, GQ, ↓awp_seq, ↓awp_block, C_ex, Nat.reduceBEq, acap, afieldAddr, aload, astore, abin, anum, astr, aun, isAggD, cond_true, cond_false, ↓reduceIte, C_P, C_G, isTuple, Value.cells, setL, ares, aresL, ares1, reduceCtorEq, Nat.reduceEqDiff, eq_self, Nat.reduceAdd, if_true, if_false, one, Nat.reduceLeDiff, undef, gsl, aextract, aindexAddr, amake, implies_true, forall_const, alen, abuiltin, anil, isC, Int.reduceEq, Int.reduceLT, Int.reduceLE, Int.reduceAdd, Int.reduceToNat, Int.reduceNeg, Nat.reduceMul, Nat.reduceSub, abuild, afill, Int.reduceBNe, Int.reduceBEq, p0, p1, p5, p7, p9, p13, Try.underlying22, Try.underlying23, Try.underlying24, Try.underlying3, Try.underlying27, Try.underlying30, asz3, hV, hB5, hkk, Int.ofNat_lt, Nat.lt_irrefl, decide_false]
    refine FuseN s (JB jp p T 0 1 ([[]] ++ ps.map (·.2)) false :: (X ++ ((c5, Ob.cells [.int .i64 c0, .int .i64 c1, .int .i64 c2] 24 true) :: F))) hd p T [] (-1) kk hD (hO.perm (perm_front hd _ _).symm) _ _ fun h7 s7 hD7 hO7 => ?_
    rw [if_neg (by omega)] at hD7
    simp (config := { implicitDefEqProofs := false }) only [↓GP, GQ, ↓awp_seq, ↓awp_block, C_ex, Nat.reduceBEq, acap, afieldAddr, aload, astore, abin, anum, astr, aun, isAggD, cond_true, cond_false, ↓reduceIte, C_P, C_G, isTuple, Value.cells, setL, ares, aresL, ares1, reduceCtorEq, Nat.reduceEqDiff, eq_self, Nat.reduceAdd, if_true, if_false, one, Nat.reduceLeDiff, undef, gsl, aextract, aindexAddr, amake, implies_true, forall_const, alen, abuiltin, anil, isC, Int.reduceEq, Int.reduceLT, Int.reduceLE, Int.reduceAdd, Int.reduceToNat, Int.reduceNeg, Nat.reduceMul, Nat.reduceSub, abuild, afill, Int.reduceBNe, Int.reduceBEq, p0, p1, p5, p7, p9, p13, Try.underlying22, Try.underlying23, Try.underlying24, Try.underlying3, Try.underlying27, Try.underlying30, asz3]
    refine AppendT s7 _ h7 jp p T 0 1 _ kk U b hJ hD7 (hO7.perm (perm_front h7 _ _)) (hb.sub fun e he => by simp [he]) ⟨by omega, by omega⟩ (by omega) (by omega) (by rw [hTl]; unfold needN; omega) _ _ fun f S' L' fz' o h8 s8 hL8 hS8 hcr hD8 hO8 => ?_
    have hB8 := hO8.get (b := c5) (o := Ob.cells [.int .i64 c0, .int .i64 c1, .int .i64 c2] 24 true) (by simp)
    simp (config := { implicitDefEqProofs := false }) only [↓GP, GQ, ↓awp_seq, ↓awp_block, C_ex, Nat.reduceBEq, acap, afieldAddr, aload, astore, abin, anum, astr, aun, isAggD, cond_true, cond_false, ↓reduceIte, C_P, C_G, isTuple, Value.cells, setL, ares, aresL, ares1, reduceCtorEq, Nat.reduceEqDiff, eq_self, Nat.reduceAdd, if_true, if_false, one, Nat.reduceLeDiff, undef, gsl, aextract, aindexAddr, amake, implies_true, forall_const, alen, abuiltin, anil, isC, Int.reduceEq, Int.reduceLT, Int.reduceLE, Int.reduceAdd, Int.reduceToNat, Int.reduceNeg, Nat.reduceMul, Nat.reduceSub, abuild, afill, Int.reduceBNe, Int.reduceBEq, p0, p1, p5, p7, p9, p13, Try.underlying22, Try.underlying23, Try.underlying24, Try.underlying3, Try.underlying27, Try.underlying30, asz3, hB8]
    refine CrashN s8 _ h8 p S' L' fz' c1 c2 hD8 (hO8.perm (perm_front h8 _ _).symm) (by omega) _ _ fun h9 s9 hD9 hO9 => ?_
    obtain ⟨recs', hop, hrr⟩ := hcr c1 c2
    simp (config := { implicitDefEqProofs := false }) only [↓GP, GQ, ↓awp_seq, ↓awp_block, C_ex, Nat.reduceBEq, acap, afieldAddr, aload, astore, abin, anum, astr, aun, isAggD, cond_true, cond_false, ↓reduceIte, C_P, C_G, isTuple, Value.cells, setL, ares, aresL, ares1, reduceCtorEq, Nat.reduceEqDiff, eq_self, Nat.reduceAdd, if_true, if_false, one, Nat.reduceLeDiff, undef, gsl, aextract, aindexAddr, amake, implies_true, forall_const, alen, abuiltin, anil, isC, Int.reduceEq, Int.reduceLT, Int.reduceLE, Int.reduceAdd, Int.reduceToNat, Int.reduceNeg, Nat.reduceMul, Nat.reduceSub, abuild, afill, Int.reduceBNe, Int.reduceBEq, p0, p1, p5, p7, p9, p13, Try.underlying22, Try.underlying23, Try.underlying24, Try.underlying3, Try.underlying27, Try.underlying30, asz3]
    refine OpenJ s9 _ h9 p (crashN S' L' c1 c2) [] hop hD9 hO9 (by rw [crashN_length]; omega) (by rw [crashN_length]; omega) (by decide) _ _ fun jp6 sv6 rv6 h6 H6 T6 s6 hJ6 hl6 hD6 hN6 hR6 hO6 => ?_
    simp (config := { implicitDefEqProofs := false }) only [↓GP, GQ, ↓awp_seq, ↓awp_block, C_ex, Nat.reduceBEq, acap, afieldAddr, aload, astore, abin, anum, astr, aun, isAggD, cond_true, cond_false, ↓reduceIte, C_P, C_G, isTuple, Value.cells, setL, ares, aresL, ares1, reduceCtorEq, Nat.reduceEqDiff, eq_self, Nat.reduceAdd, if_true, if_false, one, Nat.reduceLeDiff, undef, gsl, aextract, aindexAddr, amake, implies_true, forall_const, alen, abuiltin, anil, isC, Int.reduceEq, Int.reduceLT, Int.reduceLE, Int.reduceAdd, Int.reduceToNat, Int.reduceNeg, Nat.reduceMul, Nat.reduceSub, abuild, afill, Int.reduceBNe, Int.reduceBEq, p0, p1, p5, p7, p9, p13, Try.underlying22, Try.underlying23, Try.underlying24, Try.underlying3, Try.underlying27, Try.underlying30, asz3]
    obtain ⟨qs6, hq6, hP6, _⟩ := hR6
    have hP6' := hP6.sub (h' := JB jp6 p T6 0 1 recs' false :: (h6 ++ (H6 ++ ((jp, o) :: (X ++ ((c5, Ob.cells [.int .i64 c0, .int .i64 c1, .int .i64 c2] 24 true) :: F)))))) (fun e he => by simp [he])
    have hPF := hP.sub (h' := JB jp6 p T6 0 1 recs' false :: (h6 ++ (H6 ++ ((jp, o) :: (X ++ ((c5, Ob.cells [.int .i64 c0, .int .i64 c1, .int .i64 c2] 24 true) :: F)))))) (fun e he => by simp [he])
    have hql : qs6.length ≤ 1500 := by
      have h1 := congrArg List.length hq6
      have h2 := hJ6.end_le
      have h3 : recs'.length ≤ (lay 1 recs').length := layF_ge 1 0 recs'
      rw [crashN_length] at hl6
      rw [List.length_map, List.length_tail] at h1
      omega
    refine Same_spec s6 _ rv6 V qs6 ps hP6' hPF (by omega) hO6 _ _ ?_
    rw [hq6]
    rcases hrr with ⟨rfl, rfl⟩ | rfl
    · have e1 : ([[]] ++ ps.map (fun x : Value × List Nat => x.2)).tail = ps.map (fun x : Value × List Nat => x.2) := rfl
      rw [decide_eq_true e1]
      simp (config := { implicitDefEqProofs := false }) only [↓GP, GQ, ↓awp_seq, ↓awp_block, C_ex, Nat.reduceBEq, acap, afieldAddr, aload, astore, abin, anum, astr, aun, isAggD, cond_true, cond_false, ↓reduceIte, C_P, C_G, isTuple, Value.cells, setL, ares, aresL, ares1, reduceCtorEq, Nat.reduceEqDiff, eq_self, Nat.reduceAdd, if_true, if_false, one, Nat.reduceLeDiff, undef, gsl, aextract, aindexAddr, amake, implies_true, forall_const, alen, abuiltin, anil, isC, Int.reduceEq, Int.reduceLT, Int.reduceLE, Int.reduceAdd, Int.reduceToNat, Int.reduceNeg, Nat.reduceMul, Nat.reduceSub, abuild, afill, Int.reduceBNe, Int.reduceBEq, p0, p1, p5, p7, p9, p13, Try.underlying22, Try.underlying23, Try.underlying24, Try.underlying3, Try.underlying27, Try.underlying30, asz3]
      exact hk _
    · have hne : ¬ (([[]] ++ ps.map (fun x : Value × List Nat => x.2) ++ [b]).tail = ps.map (fun x : Value × List Nat => x.2)) := fun e => by
        have := congrArg List.length e
        simp at this
      rw [decide_eq_false hne]
      simp (config := { implicitDefEqProofs := false }) only [↓GP, GQ, ↓awp_seq, ↓awp_block, C_ex, Nat.reduceBEq, acap, afieldAddr, aload, astore, abin, anum, astr, aun, isAggD, cond_true, cond_false, ↓reduceIte, C_P, C_G, isTuple, Value.cells, setL, ares, aresL, ares1, reduceCtorEq, Nat.reduceEqDiff, eq_self, Nat.reduceAdd, if_true, if_false, one, Nat.reduceLeDiff, undef, gsl, aextract, aindexAddr, amake, implies_true, forall_const, alen, abuiltin, anil, isC, Int.reduceEq, Int.reduceLT, Int.reduceLE, Int.reduceAdd, Int.reduceToNat, Int.reduceNeg, Nat.reduceMul, Nat.reduceSub, abuild, afill, Int.reduceBNe, Int.reduceBEq, p0, p1, p5, p7, p9, p13, Try.underlying22, Try.underlying23, Try.underlying24, Try.underlying3, Try.underlying27, Try.underlying30, asz3]
      refine with_spec s6 _ V U ps b hPF (hb.sub fun e he => by simp [he]) (by omega) (by omega) hO6 _ _ fun H10 ov qs10 s10 hP10 hq10 hO10 => ?_
      simp (config := { implicitDefEqProofs := false }) only [↓GP, GQ, ↓awp_seq, ↓awp_block, C_ex, Nat.reduceBEq, acap, afieldAddr, aload, astore, abin, anum, astr, aun, isAggD, cond_true, cond_false, ↓reduceIte, C_P, C_G, isTuple, Value.cells, setL, ares, aresL, ares1, reduceCtorEq, Nat.reduceEqDiff, eq_self, Nat.reduceAdd, if_true, if_false, one, Nat.reduceLeDiff, undef, gsl, aextract, aindexAddr, amake, implies_true, forall_const, alen, abuiltin, anil, isC, Int.reduceEq, Int.reduceLT, Int.reduceLE, Int.reduceAdd, Int.reduceToNat, Int.reduceNeg, Nat.reduceMul, Nat.reduceSub, abuild, afill, Int.reduceBNe, Int.reduceBEq, p0, p1, p5, p7, p9, p13, Try.underlying22, Try.underlying23, Try.underlying24, Try.underlying3, Try.underlying27, Try.underlying30, asz3]
      refine Same_spec s10 _ rv6 ov qs6 qs10 (hP6'.sub fun e he => List.mem_append_right _ he) hP10 (by omega) hO10 _ _ ?_
      have e1 : ([[]] ++ ps.map (fun x : Value × List Nat => x.2) ++ [b]).tail = ps.map (fun x : Value × List Nat => x.2) ++ [b] := rfl
      rw [hq6, hq10, decide_eq_true e1]
      simp (config := { implicitDefEqProofs := false }) only [↓GP, GQ, ↓awp_seq, ↓awp_block, C_ex, Nat.reduceBEq, acap, afieldAddr, aload, astore, abin, anum, astr, aun, isAggD, cond_true, cond_false, ↓reduceIte, C_P, C_G, isTuple, Value.cells, setL, ares, aresL, ares1, reduceCtorEq, Nat.reduceEqDiff, eq_self, Nat.reduceAdd, if_true, if_false, one, Nat.reduceLeDiff, undef, gsl, aextract, aindexAddr, amake, implies_true, forall_const, alen, abuiltin, anil, isC, Int.reduceEq, Int.reduceLT, Int.reduceLE, Int.reduceAdd, Int.reduceToNat, Int.reduceNeg, Nat.reduceMul, Nat.reduceSub, abuild, afill, Int.reduceBNe, Int.reduceBEq, p0, p1, p5, p7, p9, p13, Try.underlying22, Try.underlying23, Try.underlying24, Try.underlying3, Try.underlying27, Try.underlying30, asz3]
      exact hk _
end Go.Proofs.Ytiooigkcliomlaa
/- A snapshot on the other half, or its remains; plain facts. No conditions. -/
set_option linter.unusedVariables false
set_option linter.unusedSimpArgs false
namespace Go.Proofs.Ytiooigkcliomlaa
open Go Go.Abs Go.RowKit

theorem halfOf_bad {T : List (List Nat)} {w : Nat} (hw : w ≤ 1) (h4 : 4 ≤ T.length) (h : (T.getD (w * (T.length / 2)) []).getD 0 0 ≠ 74 ∨ (T.getD (w * (T.length / 2)) []).getD 63 0 ≠ 165) : Bad (halfOf T w) := by
  have e : (halfOf T w).headD [] = T.getD (w * (T.length / 2)) [] := by
    have := halfOf_getD (T := T) (w := w) (j := 0) (by omega)
    rw [Nat.add_zero] at this
    rw [← this, List.headD_eq_head?_getD, List.getD_eq_getElem?_getD, List.head?_eq_getElem?]
  unfold Bad
  rw [e]
  exact h
/-- The other half is changed: the winner stays. -/
theorem JI.change {T T2 : List (List Nat)} {w g : Nat} {recs : List (List Nat)} (h : JI T w g recs) (hl : T2.length = T.length) (hs : ∀ s ∈ T2, Sec s) (hsame : ∀ j, j < T.length / 2 → T2.getD (w * (T.length / 2) + j) [] = T.getD (w * (T.length / 2) + j) [])
    (ho : halfOf T2 (1 - w) = halfOf T (1 - w) ∨ Bad (halfOf T2 (1 - w))) : JI T2 w g recs := by
  have hw := h.hw
  have hh : halfOf T2 w = halfOf T w := halfOf_same hw hl hsame
  refine ⟨hs, hw, h.g0, h.glt, h.ne, h.len, by rw [hl]; exact h.n4, by rw [hh, hl]; exact h.lay, bad_noughts _, ?_⟩
  have hoth := h.other
  have hg := h.g0
  rcases Nat.lt_or_ge 0 w with h1 | h1
  · obtain rfl : w = 1 := by omega
    rw [if_neg (by decide)] at hoth ⊢
    rcases ho with e | e
    · rw [show 1 - 1 = 0 from rfl] at e; rw [e]; exact hoth
    · rw [halfM_bad e]; show 0 < g; omega
  · obtain rfl : w = 0 := by omega
    rw [if_pos rfl] at hoth ⊢
    rcases ho with e | e
    · rw [show 1 - 0 = 1 from rfl] at e; rw [e]; exact hoth
    · rw [halfM_bad e]; show 0 ≤ g; omega
theorem noughtF_snd (S : List (List Nat)) (all : Bool) (a : Nat) : ∀ k, ∀ x ∈ noughtF S all a k, x.2 = nought64 ∧ a ≤ x.1
  | 0 => fun x hx => by simp [noughtF] at hx
  | k + 1 => fun x hx => by
    rw [noughtF] at hx
    rcases List.mem_append.1 hx with e | e
    · exact noughtF_snd S all a k x e
    · split at e
      · simp at e; subst e; exact ⟨rfl, by simp⟩
      · simp at e
theorem noughtF_fit {S : List (List Nat)} {all : Bool} {a k : Nat} (h : a + k ≤ S.length) : FitL S.length (noughtF S all a k) := fun x hx => by
  have h1 := noughtF_lt S all a k x hx
  rw [(noughtF_snd S all a k x hx).1]
  exact ⟨by omega, nought_sec⟩
theorem noughtF_head {S : List (List Nat)} {a : Nat} (h : S.getD a [] ≠ nought64) : ∀ k, ∃ rest, noughtF S false a (k + 1) = (a, nought64) :: rest ∧ ∀ x ∈ rest, a < x.1
  | 0 => ⟨[], by rw [noughtF, if_pos (.inr h)]; rfl, by simp⟩
  | k + 1 => by
    obtain ⟨rest, h1, h2⟩ := noughtF_head h k
    rw [noughtF, h1]
    refine ⟨rest ++ (if false = true ∨ S.getD (a + (k + 1)) [] ≠ nought64 then [(a + (k + 1), nought64)] else []), rfl, fun x hx => ?_⟩
    rcases List.mem_append.1 hx with e | e
    · exact h2 x e
    · split at e
      · simp at e; subst e; simp only; omega
      · simp at e
theorem noughtF_skip {S : List (List Nat)} {a : Nat} (h : S.getD a [] = nought64) : ∀ k, ∀ x ∈ noughtF S false a k, x.1 ≠ a
  | 0 => fun x hx => by simp [noughtF] at hx
  | k + 1 => fun x hx => by
    rw [noughtF] at hx
    rcases List.mem_append.1 hx with e | e
    · exact noughtF_skip h k x e
    · split at e
      · rename_i hc
        simp at e
        subst e
        simp only
        intro e
        have hk : k = 0 := by omega
        subst hk
        rw [Nat.add_zero] at hc
        rcases hc with hc | hc
        · cases hc
        · exact hc h
      · simp at e
theorem nought_0 : (nought64 : List Nat).getD 0 0 ≠ 74 := by decide
/-- Noughts on the other half, or some of them. -/
theorem JI.noughts {T T2 : List (List Nat)} {w g : Nat} {recs : List (List Nat)} {j : Nat} (h : JI T w g recs) (hj : j ≤ T.length / 2)
    (h2 : (∃ a c, T2 = crashN T (noughtF T false ((1 - w) * (T.length / 2)) j) a c) ∨ T2 = appN T (noughtF T false ((1 - w) * (T.length / 2)) j)) : JI T2 w g recs := by
  have hw := h.hw
  have hn4 := h.n4
  have hwm : w * (T.length / 2) ≤ 1 * (T.length / 2) := Nat.mul_le_mul_right _ hw
  have hom : (1 - w) * (T.length / 2) ≤ 1 * (T.length / 2) := Nat.mul_le_mul_right _ (by omega)
  have hfit := noughtF_fit (S := T) (all := false) (a := (1 - w) * (T.length / 2)) (k := j) (by omega)
  have hout : ∀ i, i < T.length / 2 → ∀ x ∈ noughtF T false ((1 - w) * (T.length / 2)) j, x.1 ≠ w * (T.length / 2) + i := fun i hi x hx e => by
    have h1 := noughtF_lt T false _ _ x hx
    have h3 := (noughtF_snd T false _ _ x hx).2
    rcases Nat.lt_or_ge 0 w with h4 | h4
    · obtain rfl : w = 1 := by omega
      simp only [show 1 - 1 = 0 from rfl, Nat.zero_mul, Nat.one_mul] at *
      omega
    · obtain rfl : w = 0 := by omega
      simp only [show 1 - 0 = 1 from rfl, Nat.zero_mul, Nat.one_mul] at *
      omega
  have hlen : T2.length = T.length := by
    rcases h2 with ⟨a, c, rfl⟩ | rfl
    · exact crashN_length _ _ _ _
    · exact appN_length _ _
  have hsec : ∀ s ∈ T2, Sec s := by
    rcases h2 with ⟨a, c, rfl⟩ | rfl
    · exact crashN_sec h.sec hfit _ _
    · exact appN_sec h.sec hfit
  refine h.change hlen hsec (fun i hi => ?_) ?_
  · rcases h2 with ⟨a, c, rfl⟩ | rfl
    · exact crashN_getD_other (hout i hi)
    · exact appN_getD_other (hout i hi)
  · generalize hb : (1 - w) * (T.length / 2) = b at *
    have bad : (T2.getD b []).getD 0 0 ≠ 74 → Bad (halfOf T2 (1 - w)) := fun e => halfOf_bad (by omega) (by omega) (.inl (by rw [hlen, hb]; exact e))
    by_cases h0 : T.getD b [] = nought64
    · refine .inr (bad ?_)
      have hsk := noughtF_skip h0 j
      have : T2.getD b [] = nought64 := by
        rcases h2 with ⟨a, c, rfl⟩ | rfl
        · rw [crashN_getD_other hsk, h0]
        · rw [appN_getD_other hsk, h0]
      rw [this]
      exact nought_0
    · cases j with
      | zero =>
        refine .inl ?_
        have : T2 = T := by
          rcases h2 with ⟨a, c, rfl⟩ | rfl
          · exact crashN_none _ _ _
          · rfl
        rw [this]
      | succ j =>
        obtain ⟨rest, hr, hrest⟩ := noughtF_head h0 j
        rw [hr] at h2
        have happ : ∀ M : List LN, (∀ x ∈ M, b < x.1) → (appN T ((b, nought64) :: M)).getD b [] = nought64 := fun M hM => by
          show (appN (T.set b nought64) M).getD b [] = _
          rw [appN_getD_other fun x hx e => by have := hM x hx; omega, getD_set', if_pos ⟨rfl, by omega⟩]
        rcases h2 with ⟨a, c, rfl⟩ | rfl
        · have hcr : crashN T ((b, nought64) :: rest) a c = T ∨ ((crashN T ((b, nought64) :: rest) a c).getD b []).getD 0 0 ≠ 74 := by
            unfold crashN
            cases hk : kp a ((b, nought64) :: rest).length with
            | zero =>
              show T.set b (nought64.take (kp c 64) ++ (T.getD b []).drop (kp c 64)) = T ∨ _
              have hc := kp_le c 64
              by_cases hc0 : kp c 64 = 0
              · refine .inl ?_
                rw [hc0]
                simp only [List.take_zero, List.drop_zero, List.nil_append]
                refine list_ext (by simp) fun i hi => ?_
                rw [getD_set']
                split
                · rename_i e; rw [e.1]
                · rfl
              · refine .inr ?_
                show ((T.set b (nought64.take (kp c 64) ++ (T.getD b []).drop (kp c 64))).getD b []).getD 0 0 ≠ 74
                rw [getD_set', if_pos ⟨rfl, by omega⟩, getD_take_drop (by simp [nought64]) (getD_sec h.sec (by omega)).1 _ _ hc (by decide), if_pos (by omega)]
                exact nought_0
            | succ m =>
              refine .inr ?_
              have h5 : (appN T (((b, nought64) :: rest).take (m + 1))).getD b [] = nought64 := happ _ fun x hx => hrest x (List.mem_of_mem_take hx)
              show (List.getD (match ((b, nought64) :: rest).drop (m + 1) with | [] => _ | x :: _ => _) b []).getD 0 0 ≠ 74
              split
              · rw [h5]; exact nought_0
              · rename_i x r hd
                have hx : x ∈ rest := List.mem_of_mem_drop (i := m) (by rw [List.drop_succ_cons] at hd; rw [hd]; simp)
                rw [getD_set', if_neg fun e => by have := hrest x hx; omega, h5]
                exact nought_0
          rcases hcr with e | e
          · exact .inl (by rw [e])
          · exact .inr (bad e)
        · refine .inr (bad ?_)
          rw [happ rest hrest]
          exact nought_0
end Go.Proofs.Ytiooigkcliomlaa
/- A snapshot on the other half, or its remains. No conditions. -/
set_option linter.unusedVariables false
set_option linter.unusedSimpArgs false
namespace Go.Proofs.Ytiooigkcliomlaa
open Go Go.Abs Go.RowKit
variable {base : Nat} {w0 : World} {G : Nat}

/-- The other half's sectors. -/
theorem JI.apart {T : List (List Nat)} {w g : Nat} {recs : List (List Nat)} (h : JI T w g recs) {i m : Nat} (hi : i < T.length / 2) (hm : 1 + m ≤ T.length / 2) : ¬ ((1 - w) * (T.length / 2) ≤ w * (T.length / 2) + i ∧ w * (T.length / 2) + i ≤ (1 - w) * (T.length / 2) + m) := by
  have hw := h.hw
  rcases Nat.lt_or_ge 0 w with h1 | h1
  · obtain rfl : w = 1 := by omega
    rw [show 1 - 1 = 0 from rfl]
    omega
  · obtain rfl : w = 0 := by omega
    rw [show 1 - 0 = 1 from rfl]
    omega
theorem lay_one (g : Nat) (l : List Nat) : lay g [l] = headL g 0 l :: chunks l := by
  unfold lay
  simp [layF]
theorem lay_one_length (g : Nat) (l : List Nat) : (lay g [l]).length = 1 + needN l.length := by
  rw [lay_one, List.length_cons, chunks_length]; omega
theorem JI.snap {T : List (List Nat)} {w g : Nat} {recs : List (List Nat)} {l : List Nat} (h : JI T w g recs) (hn : ∀ j, j < T.length / 2 → T.getD ((1 - w) * (T.length / 2) + j) [] = nought64) (hb : ∀ d ∈ l, d < 256) (hbl : l.length < 4294967296) (hg : g + 1 < 4294967296) (hfit : 1 + needN l.length ≤ T.length / 2) :
    JI (Go.Proofs.Ytiooigkcliomlaa.wrote T ((1 - w) * (T.length / 2)) (g + 1) 0 l) (1 - w) (g + 1) [l] := by
  have hw := h.hw
  have hom : (1 - w) * (T.length / 2) ≤ 1 * (T.length / 2) := Nat.mul_le_mul_right _ (by omega)
  have hin : (1 - w) * (T.length / 2) + needN l.length < T.length := by omega
  have hgd := wrote_getD T ((1 - w) * (T.length / 2)) (g + 1) 0 l hin
  have hlen := wrote_length T ((1 - w) * (T.length / 2)) (g + 1) 0 l
  have hsec := wrote_sec (g := g + 1) (num := 0) h.sec hb hin
  generalize Go.Proofs.Ytiooigkcliomlaa.wrote T ((1 - w) * (T.length / 2)) (g + 1) 0 l = T2 at *
  have hsame : halfOf T2 w = halfOf T w := halfOf_same hw hlen fun j hj => by
    have ha := h.apart hj hfit
    rw [hgd, if_neg (fun e => ha ⟨by omega, by omega⟩), if_neg (fun e => ha ⟨by omega, by omega⟩)]
  have hl1 := lay_one_length (g + 1) l
  refine ⟨hsec, by omega, by omega, hg, by simp, fun x hx => by simp at hx; subst hx; exact hbl, by rw [hlen]; exact h.n4, ?_, bad_noughts _, ?_⟩
  · refine list_ext ?_ fun j hj => ?_
    · rw [halfOf_length (by omega), List.length_append, Go.Proofs.Ytiooigkcliomlaa.noughts, List.length_replicate, hlen, hl1]; omega
    · rw [halfOf_length (by omega), hlen] at hj
      rw [halfOf_getD (by rw [hlen]; exact hj), hlen, hgd, lay_one]
      cases j with
      | zero => rw [Nat.add_zero, if_pos rfl]; rfl
      | succ j =>
        rw [if_neg (by omega)]
        by_cases c3 : j < needN l.length
        · rw [if_pos (by omega), List.getD_eq_getElem?_getD, List.cons_append, List.getElem?_cons_succ, List.getElem?_append_left (by rw [chunks_length]; omega), chunks, List.getElem?_map, List.getElem?_range (by omega)]
          show _ = chunkN l j
          congr 1; omega
        · rw [if_neg (by omega), hn _ hj, List.getD_eq_getElem?_getD, List.cons_append, List.getElem?_cons_succ, List.getElem?_append_right (by rw [chunks_length]; omega), Go.Proofs.Ytiooigkcliomlaa.noughts, List.getElem?_replicate, if_pos (by rw [chunks_length, List.length_cons, chunks_length]; omega)]
          rfl
  · have hh := h.half
    rcases Nat.lt_or_ge 0 w with h1 | h1
    · obtain rfl : w = 1 := by omega
      rw [if_pos (by rfl), hsame, hh]
      simp only; omega
    · obtain rfl : w = 0 := by omega
      rw [if_neg (by decide), hsame, hh]
      simp only; omega
/-- What a compaction that failed leaves. -/
theorem JI.snapfail {T T2 S' : List (List Nat)} {L' : List LN} {w g : Nat} {recs : List (List Nat)} {l : List Nat} (h : JI T w g recs) (hn : ∀ j, j < T.length / 2 → T.getD ((1 - w) * (T.length / 2) + j) [] = nought64) (hb : ∀ d ∈ l, d < 256) (hbl : l.length < 4294967296) (hg : g + 1 < 4294967296) (hfit : 1 + needN l.length ≤ T.length / 2)
    (hF : WFail T ((1 - w) * (T.length / 2)) (g + 1) 0 l S' L') (h2 : (∃ a c, T2 = crashN S' L' a c) ∨ T2 = appN S' L') : JI T2 w g recs ∨ JI T2 (1 - w) (g + 1) [l] := by
  have hw := h.hw
  have hn4 := h.n4
  have hom : (1 - w) * (T.length / 2) ≤ 1 * (T.length / 2) := Nat.mul_le_mul_right _ (by omega)
  have h0 := hn 0 (by omega)
  rw [Nat.add_zero] at h0
  rcases fail_left h.sec hb (by omega) h0 hF h2 with hL | hL
  · refine .inl (h.change hL.len hL.sec (fun j hj => hL.same _ (h.apart hj hfit)) (.inr (halfOf_bad (by omega) (by rw [hL.len]; exact hn4) (.inr ?_))))
    rw [hL.len]
    exact hL.bad
  · rw [hL]
    exact .inr (h.snap hn hb hbl hg hfit)
theorem CompactJ (st : St) (r h : Hp) (jp p : Nat) (T : List (List Nat)) (w g : Nat) (recs : List (List Nat)) (fz : Int) (bv : Value) (l : List Nat) (hJ : JI T w g recs) (hD : DN p T [] fz h) (hO : Own st (JB jp p T w g recs false :: (h ++ r))) (hb : Nb r bv l) (hfz : FZ fz)
    (hS : T.length ≤ 1500) (hl : l.length ≤ 1000000000) (k q : Value → St → Prop)
    (hlong : 262144 < l.length → k (.int .i64 12) st)
    (hfull : l.length ≤ 262144 → ¬ (1 + needN l.length ≤ T.length / 2) → k (.int .i64 51) st)
    (htop : l.length ≤ 262144 → 1 + needN l.length ≤ T.length / 2 → g = 4294967295 → k (.int .i64 52) st)
    (hpow : ∀ S' L' h' st', l.length ≤ 262144 → 1 + needN l.length ≤ T.length / 2 → g ≠ 4294967295 → fz ≠ -1 → S'.length = T.length → L'.length ≤ 5000 →
      (∀ T2, (∃ a c, T2 = crashN S' L' a c) ∨ T2 = appN S' L' → JI T2 w g recs ∨ JI T2 (1 - w) (g + 1) [l]) → DN p S' L' 0 h' → Own st' (JB jp p T w g recs true :: (h' ++ r)) → k (.int .i64 50) st')
    (hok : ∀ fz' T2 h' st', l.length ≤ 262144 → 1 + needN l.length ≤ T.length / 2 → g ≠ 4294967295 → Spent fz fz' → JI T2 (1 - w) (g + 1) [l] → T2.length = T.length → DN p T2 [] fz' h' → Own st' (JB jp p T2 (1 - w) (g + 1) [l] false :: (h' ++ r)) → k (.int .i64 0) st') :
    ACallF (C base w0 G) 25 [.pointer (some ⟨jp, 0, none⟩), bv] st k q := by
  have hw := hJ.hw
  have hn4 := hJ.n4
  have hgl := hJ.glt
  have hom : (1 - w) * (T.length / 2) ≤ 1 * (T.length / 2) := Nat.mul_le_mul_right _ (by omega)
  have hJ1 : JI (appN T (noughtF T false ((1 - w) * (T.length / 2)) (T.length / 2))) w g recs := hJ.noughts (Nat.le_refl _) (.inr rfl)
  have hl1 := appN_length T (noughtF T false ((1 - w) * (T.length / 2)) (T.length / 2))
  have hn1 : ∀ j, j < T.length / 2 → (appN T (noughtF T false ((1 - w) * (T.length / 2)) (T.length / 2))).getD ((1 - w) * (T.length / 2) + j) [] = nought64 := fun j hj => by
    rw [nought_getD T false _ _ (by omega), if_pos (by omega)]
  refine Compact_spec st r h jp p (T.length / 2) w g recs.length (lay g recs).length false T [] fz bv l hD hO hb (fun _ => rfl) hfz (by omega) (by omega) hw hgl hl k q hlong hfull htop (fun _ _ _ h => by cases h)
    (fun j h' st' a1 a2 a3 _ a5 a6 a7 a8 => ?_) (fun S' L' h' st' a1 a2 a3 _ a5 a6 a7 a8 => ?_) (fun fz' h' st' a1 a2 a3 _ a5 a6 a7 => ?_)
  · refine hpow _ _ h' st' a1 a2 a3 a5 rfl (by have := noughtF_length T false ((1 - w) * (T.length / 2)) j; omega) (fun T2 h2 => .inl (hJ.noughts a6 h2)) a7 ?_
    exact a8
  · obtain ⟨s1, s2⟩ := WFail.small a6 (by unfold needN; omega)
    generalize appN T (noughtF T false ((1 - w) * (T.length / 2)) (T.length / 2)) = T1 at *
    refine hpow _ _ h' st' a1 a2 a3 a5 (by rw [s2, hl1]) s1 (fun T2 h2 => JI.snapfail hJ1 (by rw [hl1]; exact hn1) hb.2 (by omega) (by omega) (by rw [hl1]; exact a2) (by rw [hl1]; exact a6) h2) a7 a8
  · have h3 := hJ1.snap (l := l) (by rw [hl1]; exact hn1) hb.2 (by omega) (by omega) (by rw [hl1]; exact a2)
    rw [hl1] at h3
    refine hok fz' _ h' st' a1 a2 a3 a5 h3 (by rw [wrote_length, hl1]) a6 ?_
    unfold JB
    rw [wrote_length, hl1, lay_one_length]
    exact a7
end Go.Proofs.Ytiooigkcliomlaa
