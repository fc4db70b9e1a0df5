/- A disk made anew; lists of bytes that are the same; one more. No conditions. -/
import Derived.Test.YtiooigkcliomlaaJ26
set_option linter.unusedVariables false
set_option linter.unusedSimpArgs false
namespace Go.Proofs.Ytiooigkcliomlaa
open Go Go.Abs Go.RowKit
variable {base : Nat} {w0 : World} {G : Nat}

/-- A disk with no record, opened: one that is empty. -/
theorem fresh {n : Nat} (hn : 4 ≤ n) : ∃ T1, openM (noughts n) = (0, 1, [[]], 1, T1) ∧ JI T1 0 1 [[]] ∧ T1.length = n ∧ (lay 1 [[]]).length = 1 := by
  have hsec : ∀ s ∈ noughts n, Sec s := fun s hs => by rw [List.eq_of_mem_replicate hs]; exact nought_sec
  have hl : (noughts n).length = n := by simp [noughts]
  have hh : ∀ w, w ≤ 1 → halfOf (noughts n) w = noughts (n / 2) := fun w hw => by
    have : w * (n / 2) ≤ 1 * (n / 2) := Nat.mul_le_mul_right _ hw
    unfold halfOf noughts
    rw [List.length_replicate, List.drop_replicate, List.take_replicate, Nat.min_eq_left (by omega)]
  have hb : halfM (noughts (n / 2)) = (0, [], 0) := halfM_bad (bad_noughts _)
  have hs : scanM (noughts n) = (-1, 0, []) := by
    rw [scanM_eq hsec (by rw [hl]; exact hn), hh 0 (by decide), hh 1 (by decide), hb, if_pos ⟨rfl, rfl⟩]
  unfold openM
  rw [hs]
  simp only [show ((-1 : Int) < 0) by decide, if_true, hl]
  have hN := nought_getD (noughts n) true 0 (n / 2) (by rw [hl]; omega)
  have hNl := appN_length (noughts n) (noughtF (noughts n) true 0 (n / 2))
  rw [hl] at hNl
  have hA : appN (noughts n) (noughtF (noughts n) true 0 (n / 2)) = noughts n := by
    refine list_ext (by rw [hNl, hl]) fun j hj => ?_
    rw [hN]
    split
    · rw [noughts, List.getD_eq_getElem?_getD, List.getElem?_replicate, if_pos (by omega)]; rfl
    · rfl
  rw [hA]
  have hm : needN ([] : List Nat).length = 0 := rfl
  have hw := wrote_getD (noughts n) 0 1 0 [] (by rw [hm, hl]; omega)
  have hwl := wrote_length (noughts n) 0 1 0 []
  have hws := wrote_sec (g := 1) (num := 0) (a := 0) (l := []) hsec (by simp) (by rw [hm, hl]; omega)
  generalize Go.Proofs.Ytiooigkcliomlaa.wrote (noughts n) 0 1 0 [] = T1 at *
  rw [hl] at hwl
  have hng : ∀ j, j < n → (noughts n).getD j [] = nought64 := fun j hj => by
    rw [noughts, List.getD_eq_getElem?_getD, List.getElem?_replicate, if_pos hj]; rfl
  refine ⟨T1, rfl, ⟨hws, by decide, by decide, by decide, by simp, by simp, by rw [hwl]; exact hn, ?_, bad_noughts _, ?_⟩, hwl, rfl⟩
  · refine list_ext ?_ fun j hj => ?_
    · rw [halfOf_length (by decide), List.length_append, noughts, List.length_replicate, hwl]
      show _ = 1 + (_ - 1)
      omega
    · rw [halfOf_length (by decide), hwl] at hj
      rw [halfOf_getD (by rw [hwl]; exact hj), hwl, Nat.zero_mul, Nat.zero_add, hw]
      cases j with
      | zero => rfl
      | succ j =>
        rw [if_neg (by omega), if_neg (by rw [hm]; omega), hng _ (by omega)]
        show nought64 = (noughts (n / 2 - 1)).getD j []
        rw [noughts, List.getD_eq_getElem?_getD, List.getElem?_replicate, if_pos (by omega)]; rfl
  · rw [if_pos rfl]
    have e : halfOf T1 1 = noughts (n / 2) := by
      rw [← hh 1 (by decide)]
      refine halfOf_same (by decide) (by rw [hwl, hl]) fun j hj => ?_
      rw [hl] at hj ⊢
      rw [hw, if_neg (by omega), if_neg (by rw [hm]; omega)]
    rw [e, hb]
    decide
set_option maxRecDepth 10000 in
theorem Same_spec (st : St) (r : Hp) (v v' : Value) (ps ps' : List (Value × List Nat)) (hP : Ps r v ps) (hP' : Ps r v' ps') (hl : ps.length ≤ 1000000000) (hO : Own st r) (k q : Value → St → Prop)
    (hk : k (.bool (decide (ps.map (·.2) = ps'.map (·.2)))) st) : ACallF (C base w0 G) 14 [v, v'] st k q := by
  refine ACallF.enter Try.func14 rfl (by kernel_rfl) ?_
  have isl : ∀ {v : Value} {ps : List (Value × List Nat)}, Ps r v ps → ∃ a c, v = .slice a ps.length c := fun hP => by
    obtain ⟨a, c, h, _⟩ := hP.1.isSlice
    rw [List.length_map] at h
    exact ⟨a, c, h⟩
  obtain ⟨a, c, hvs⟩ := isl hP
  obtain ⟨a', c', hvs'⟩ := isl hP'
  refine ACall.of (cx := C base w0 G) mixed Try.func14 rfl (by kernel_rfl) (by simp [Try.ntmps14]) ?_
  simp only [Try.results14]
  by_cases hll : ps.length = ps'.length
  case neg =>
    rw [decide_eq_false fun e => hll (by have := congrArg List.length e; simpa using this)] at hk
    simp (config := { implicitDefEqProofs := false }) only [↓GP, GQ, ↓awp_seq, ↓awp_block, C_ex, Nat.reduceBEq, acap, afieldAddr, aload, astore, abin, anum, astr, aun, isAggD, cond_true, cond_false, ↓reduceIte, C_P, C_G, isTuple, Value.cells, setL, ares, aresL, ares1, reduceCtorEq, Nat.reduceEqDiff, eq_self, Nat.reduceAdd, if_true, if_false, one, Nat.reduceLeDiff, undef, gsl, aextract, aindexAddr, amake, implies_true, forall_const, alen, abuiltin, anil, isC, Int.reduceEq, Int.reduceLT, Int.reduceLE, Int.reduceAdd, Int.reduceToNat, Int.reduceNeg, Nat.reduceMul, Nat.reduceSub, abuild, afill, Int.reduceBNe, Int.reduceBEq, hvs, hvs', Try.underlying22, Try.underlying3, bneT (show ¬ (ps.length : Int) = (ps'.length : Int) by omega)]
    exact hk
  simp (config := { implicitDefEqProofs := false }) only [↓GP, GQ, ↓awp_seq, ↓awp_block, C_ex, Nat.reduceBEq, acap, afieldAddr, aload, astore, abin, anum, astr, aun, isAggD, cond_true, cond_false, ↓reduceIte, C_P, C_G, isTuple, Value.cells, setL, ares, aresL, ares1, reduceCtorEq, Nat.reduceEqDiff, eq_self, Nat.reduceAdd, if_true, if_false, one, Nat.reduceLeDiff, undef, gsl, aextract, aindexAddr, amake, implies_true, forall_const, alen, abuiltin, anil, isC, Int.reduceEq, Int.reduceLT, Int.reduceLE, Int.reduceAdd, Int.reduceToNat, Int.reduceNeg, Nat.reduceMul, Nat.reduceSub, abuild, afill, Int.reduceBNe, Int.reduceBEq, hvs, hvs', Try.underlying22, Try.underlying3]
  refine ⟨fun h => absurd h (by omega), fun _ => ⟨fun m ρ s => ∃ i : Nat, m = ps.length - i ∧ i ≤ ps.length ∧ ρ 0 = v ∧ ρ 1 = v' ∧ ρ 5 = .int .i64 i ∧ (∀ j, j < i → (ps.map (·.2)).getD j [] = (ps'.map (·.2)).getD j []) ∧ s = st, ⟨ps.length, 0, rfl, Nat.zero_le _, hvs.symm, hvs'.symm, rfl, fun j hj => absurd hj (Nat.not_lt_zero _), rfl⟩, ?_⟩⟩
  rintro m ρ s ⟨i, rfl, hi, h0, h1, h5, hE, rfl⟩
  by_cases him : i < ps.length
  · obtain ⟨B, o, sp, c2, cs, ty, own, hvx, hmem, hget⟩ := hP.at hO (by intro e; rw [e] at him; simp at him)
    obtain ⟨B', o', sp', c2', cs', ty', own', hvx', hmem', hget'⟩ := hP'.at hO (by intro e; rw [e] at hll; simp at hll; rw [hll] at him; simp at him)
    have hp : ps[i]? = some ps[i] := List.getElem?_eq_getElem him
    have hp' : ps'[i]? = some (ps'[i]'(by omega)) := List.getElem?_eq_getElem (by omega)
    generalize ps[i] = p at hp
    generalize ps'[i]'(by omega) = p' at hp'
    have g := hget i p hp
    have g' := hget' i p' hp'
    have hB := hO.get hmem
    have hB' := hO.get hmem'
    have hN := hP.2 p (List.mem_of_getElem? hp)
    have hN' := hP'.2 p' (List.mem_of_getElem? hp')
    have d1 : (ps.map (·.2)).getD i [] = p.2 := by rw [List.getD_eq_getElem?_getD, List.getElem?_map, hp]; rfl
    have d2 : (ps'.map (·.2)).getD i [] = p'.2 := by rw [List.getD_eq_getElem?_getD, List.getElem?_map, hp']; rfl
    simp (config := { implicitDefEqProofs := false }) only [↓GP, GQ, ↓awp_seq, ↓awp_block, C_ex, Nat.reduceBEq, acap, afieldAddr, aload, astore, abin, anum, astr, aun, isAggD, cond_true, cond_false, ↓reduceIte, C_P, C_G, isTuple, Value.cells, setL, ares, aresL, ares1, reduceCtorEq, Nat.reduceEqDiff, eq_self, Nat.reduceAdd, if_true, if_false, one, Nat.reduceLeDiff, undef, gsl, aextract, aindexAddr, amake, implies_true, forall_const, alen, abuiltin, anil, isC, Int.reduceEq, Int.reduceLT, Int.reduceLE, Int.reduceAdd, Int.reduceToNat, Int.reduceNeg, Nat.reduceMul, Nat.reduceSub, abuild, afill, Int.reduceBNe, Int.reduceBEq, h0, h1, h5, hvx, hvx', Try.underlying22, Try.underlying3, Int.ofNat_lt, him, decide_true]
    refine ADraw.of [(0, false, []), (1, false, []), (2, false, []), (3, false, []), (4, false, []), (5, false, []), (6, false, []), (7, false, []), (8, false, []), (9, false, []), (10, false, [])] [] [] (by kernel_rfl) ?_
    simp (config := { implicitDefEqProofs := false }) only [↓GP, GQ, ↓awp_seq, ↓awp_block, C_ex, Nat.reduceBEq, acap, afieldAddr, aload, astore, abin, anum, astr, aun, isAggD, cond_true, cond_false, ↓reduceIte, C_P, C_G, isTuple, Value.cells, setL, ares, aresL, ares1, reduceCtorEq, Nat.reduceEqDiff, eq_self, Nat.reduceAdd, if_true, if_false, one, Nat.reduceLeDiff, undef, gsl, aextract, aindexAddr, amake, implies_true, forall_const, alen, abuiltin, anil, isC, Int.reduceEq, Int.reduceLT, Int.reduceLE, Int.reduceAdd, Int.reduceToNat, Int.reduceNeg, Nat.reduceMul, Nat.reduceSub, abuild, afill, Int.reduceBNe, Int.reduceBEq, h0, h1, h5, hvx, hvx', Try.underlying22, Try.underlying23, Try.underlying9, asz23, hB, hB', g, g', hN.strP hO, hN'.strP hO, strOf_eq hN.2 hN'.2]
    refine ⟨by omega, by omega, fun he => ⟨ps.length - (i + 1), by omega, i + 1, rfl, by omega, by rw [w_i64 (by omega)]; rfl, fun j hj => ?_⟩, fun he => ?_⟩
    · by_cases hji : j < i
      · exact hE j hji
      · obtain rfl : j = i := by omega
        rw [d1, d2, he]
    · rw [decide_eq_false fun e => he (by rw [← d1, ← d2, e])] at hk
      exact hk
  · obtain rfl : i = ps.length := by omega
    simp (config := { implicitDefEqProofs := false }) only [↓GP, GQ, ↓awp_seq, ↓awp_block, C_ex, Nat.reduceBEq, acap, afieldAddr, aload, astore, abin, anum, astr, aun, isAggD, cond_true, cond_false, ↓reduceIte, C_P, C_G, isTuple, Value.cells, setL, ares, aresL, ares1, reduceCtorEq, Nat.reduceEqDiff, eq_self, Nat.reduceAdd, if_true, if_false, one, Nat.reduceLeDiff, undef, gsl, aextract, aindexAddr, amake, implies_true, forall_const, alen, abuiltin, anil, isC, Int.reduceEq, Int.reduceLT, Int.reduceLE, Int.reduceAdd, Int.reduceToNat, Int.reduceNeg, Nat.reduceMul, Nat.reduceSub, abuild, afill, Int.reduceBNe, Int.reduceBEq, h0, h1, h5, hvs, Try.underlying22, Try.underlying3, Int.ofNat_lt, Nat.lt_irrefl, decide_false]
    rw [decide_eq_true (list_ext (by simp [hll]) fun j hj => hE j (by simpa using hj))] at hk
    exact hk
set_option maxRecDepth 10000 in
theorem with_spec (st : St) (r : Hp) (v bv : Value) (ps : List (Value × List Nat)) (b : List Nat) (hP : Ps r v ps) (hb : Nb r bv b) (hl : ps.length ≤ 100000000) (hbl : b.length ≤ 100000000) (hO : Own st r) (k q : Value → St → Prop)
    (hk : ∀ H ov qs st', Ps (H ++ r) ov qs → qs.map (·.2) = ps.map (·.2) ++ [b] → Own st' (H ++ r) → k ov st') : ACallF (C base w0 G) 15 [v, bv] st k q := by
  refine ACallF.enter Try.func15 rfl (by kernel_rfl) ?_
  refine ACall.of (cx := C base w0 G) mixed Try.func15 rfl (by kernel_rfl) (by simp [Try.ntmps15]) ?_
  simp only [Try.results15]
  simp (config := { implicitDefEqProofs := false }) only [↓GP, GQ, ↓awp_seq, ↓awp_block, C_ex, Nat.reduceBEq, acap, afieldAddr, aload, astore, abin, anum, astr, aun, isAggD, cond_true, cond_false, ↓reduceIte, C_P, C_G, isTuple, Value.cells, setL, ares, aresL, ares1, reduceCtorEq, Nat.reduceEqDiff, eq_self, Nat.reduceAdd, if_true, if_false, one, Nat.reduceLeDiff, undef, gsl, aextract, aindexAddr, amake, implies_true, forall_const, alen, abuiltin, anil, isC, Int.reduceEq, Int.reduceLT, Int.reduceLE, Int.reduceAdd, Int.reduceToNat, Int.reduceNeg, Nat.reduceMul, Nat.reduceSub, abuild, afill, Int.reduceBNe, Int.reduceBEq]
  refine GVc.append (cs := []) (n := 0) (hg := []) (m := ps.length) (Cs := ps.map (·.1)) Try.underlying22 (by rw [Try.underlying22]; rfl) asz23 azc23 aby23 GVc.nil (show Own st ([] ++ r) from hO) (hP.src hO) (by simp) hP.one (by omega) fun v2 h2 s2 hG2 hO2 => ?_
  have hOe := hO2.new (.cells [] 5 true)
  have hbs : Nb ((s2.n, .cells [] 5 true) :: (h2 ++ r)) bv b := hb.sub fun e he => by simp [he]
  simp (config := { implicitDefEqProofs := false }) only [↓GP, GQ, ↓awp_seq, ↓awp_block, C_ex, Nat.reduceBEq, acap, afieldAddr, aload, astore, abin, anum, astr, aun, isAggD, cond_true, cond_false, ↓reduceIte, C_P, C_G, isTuple, Value.cells, setL, ares, aresL, ares1, reduceCtorEq, Nat.reduceEqDiff, eq_self, Nat.reduceAdd, if_true, if_false, one, Nat.reduceLeDiff, undef, gsl, aextract, aindexAddr, amake, implies_true, forall_const, alen, abuiltin, anil, isC, Int.reduceEq, Int.reduceLT, Int.reduceLE, Int.reduceAdd, Int.reduceToNat, Int.reduceNeg, Nat.reduceMul, Nat.reduceSub, abuild, afill, Int.reduceBNe, Int.reduceBEq, abuildSlice_none (st := s2) Try.underlying23 asz5 azc5]
  refine GVc.append (cs := []) (n := 0) (hg := [(s2.n, .cells [] 5 true)]) (m := b.length) (Cs := nl b) Try.underlying23 (by rw [Try.underlying23]; rfl) asz5 azc5 aby5 (.inr (.inl ⟨s2.n, rfl, rfl, rfl, rfl⟩)) hOe (hbs.src hOe) (by rw [nl_length, Nat.mul_one]) (nl_one _) (by omega) fun v3 h3 s3 hG3 hO3 => ?_
  rw [Nat.zero_add] at hG3
  rw [List.nil_append] at hG3
  obtain ⟨a3, c3, hv3⟩ := hG3.isSlice
  have hb1 := abuildSlice_one (st := s3) (v := .slice a3 b.length c3) Try.underlying22 asz23 azc23 rfl rfl rfl (by decide)
  have hO3' : Own s3 (h2 ++ (h3 ++ r)) := hO3.perm (by simpa using perm_of [h3, h2, r] [0, 1, 2] [1, 0, 2] rfl)
  rw [List.nil_append, Nat.zero_add] at hG2
  simp (config := { implicitDefEqProofs := false }) only [↓GP, GQ, ↓awp_seq, ↓awp_block, C_ex, Nat.reduceBEq, acap, afieldAddr, aload, astore, abin, anum, astr, aun, isAggD, cond_true, cond_false, ↓reduceIte, C_P, C_G, isTuple, Value.cells, setL, ares, aresL, ares1, reduceCtorEq, Nat.reduceEqDiff, eq_self, Nat.reduceAdd, if_true, if_false, one, Nat.reduceLeDiff, undef, gsl, aextract, aindexAddr, amake, implies_true, forall_const, alen, abuiltin, anil, isC, Int.reduceEq, Int.reduceLT, Int.reduceLE, Int.reduceAdd, Int.reduceToNat, Int.reduceNeg, Nat.reduceMul, Nat.reduceSub, abuild, afill, Int.reduceBNe, Int.reduceBEq, hv3, hb1]
  refine GVc.append1 (c := [.slice a3 b.length c3]) Try.underlying22 (by rw [Try.underlying22]; rfl) asz23 azc23 aby23 hG2 hO3' rfl rfl (by omega) fun v7 h7 s7 hG7 hO7 => ?_
  simp (config := { implicitDefEqProofs := false }) only [↓GP, GQ, ↓awp_seq, ↓awp_block, C_ex, Nat.reduceBEq, acap, afieldAddr, aload, astore, abin, anum, astr, aun, isAggD, cond_true, cond_false, ↓reduceIte, C_P, C_G, isTuple, Value.cells, setL, ares, aresL, ares1, reduceCtorEq, Nat.reduceEqDiff, eq_self, Nat.reduceAdd, if_true, if_false, one, Nat.reduceLeDiff, undef, gsl, aextract, aindexAddr, amake, implies_true, forall_const, alen, abuiltin, anil, isC, Int.reduceEq, Int.reduceLT, Int.reduceLE, Int.reduceAdd, Int.reduceToNat, Int.reduceNeg, Nat.reduceMul, Nat.reduceSub, abuild, afill, Int.reduceBNe, Int.reduceBEq]
  have hG7' : GVc v7 ((ps ++ [(v3, b)]).map (·.1)) (ps ++ [(v3, b)]).length 1 23 h7 := by
    rw [List.map_append, List.length_append, List.map_singleton, hv3]
    exact hG7
  refine hk (h7 ++ h3) v7 (ps ++ [(v3, b)]) s7 ?_ (by simp) (by rw [List.append_assoc]; exact hO7)
  rw [List.append_assoc]
  refine (hG7'.ps rfl asz23 fun x hx => ?_).1
  rcases List.mem_append.1 hx with e | e
  · exact (hP.2 x e).sub fun e he => List.mem_append_right _ he
  · simp only [List.mem_singleton] at e
    subst e
    exact hG3.nb rfl hb.2
end Go.Proofs.Ytiooigkcliomlaa
