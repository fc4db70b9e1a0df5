/- JournalTwice answers true over the abstract heap. No conditions. -/
import Derived.Test.YtiooigkcliomlaaQE
import Derived.Test.YtiooigkcliomlaaQT
import Derived.Test.YtiooigkcliomlaaAbsL
set_option linter.unusedVariables false
set_option linter.unusedSimpArgs false
namespace Go.Proofs.Ytiooigkcliomlaa
open Go Go.Abs Go.RowKit
variable {base : Nat} {w0 : World} {G : Nat}

theorem perm_jA (a : Nat × Ob) (h A r : Hp) : List.Perm (a :: (h ++ (A ++ r))) (A ++ (a :: (h ++ r))) := by simpa using perm_of [[a], h, A, r] [0, 1, 2, 3] [2, 0, 1, 3] rfl
theorem GenJ (st : St) (jp p : Nat) (T : List (List Nat)) (w g : Nat) (recs : List (List Nat)) (pl : Bool) (r : Hp) (hO : Own st (JB jp p T w g recs pl :: r)) (k q : Value → St → Prop) (hk : k (.int .i64 g) st) : ACallF (C base w0 G) 19 [.pointer (some ⟨jp, 0, none⟩)] st k q :=
  Generation_spec st jp p (T.length / 2) w g recs.length (lay g recs).length pl hO.head k q hk
theorem LeftJ (st : St) (jp p : Nat) (T : List (List Nat)) (w g : Nat) (recs : List (List Nat)) (pl : Bool) (r : Hp) (hl : (lay g recs).length ≤ T.length / 2) (hS : T.length ≤ 5000) (hO : Own st (JB jp p T w g recs pl :: r)) (k q : Value → St → Prop) (hk : k (.int .i64 (T.length / 2 - (lay g recs).length : Nat)) st) : ACallF (C base w0 G) 22 [.pointer (some ⟨jp, 0, none⟩)] st k q :=
  Left_spec st jp p (T.length / 2) w g recs.length (lay g recs).length pl hO.head hl (by omega) k q hk
theorem perm_mid (h : Hp) (a b : Nat × Ob) (r : Hp) : List.Perm (a :: b :: (h ++ r)) (h ++ (a :: b :: r)) := by simpa using perm_of [[a], [b], h, r] [0, 1, 2, 3] [2, 0, 1, 3] rfl
theorem perm_jN (a b : Nat × Ob) (h r : Hp) : List.Perm (a :: b :: (h ++ r)) (b :: (h ++ (a :: r))) := by simpa using perm_of [[a], [b], h, r] [0, 1, 2, 3] [1, 2, 0, 3] rfl
set_option maxHeartbeats 2000000 in
set_option maxRecDepth 10000 in
theorem twice_spec (st : St) (F : Hp) (V : Value) (ps : List (Value × List Nat)) (t : Int) (hO : Own st F) (hP : Ps F V ps) (hpl : ps.length ≤ 9223372036854775807) (k q : Value → St → Prop) (hk : ∀ st', k (.bool true) st') :
    ACall (C base w0 G) 6 [V, .int .i64 t] st k q := by
  obtain ⟨va, vc, hV⟩ : ∃ a c, V = .slice a ps.length c := by
    obtain ⟨a, c, h, _⟩ := hP.1.isSlice
    rw [List.length_map] at h
    exact ⟨a, c, h⟩
  obtain ⟨kk, hkk, hkl⟩ := gomod t 5 (by decide) (by decide)
  refine ACall.of (cx := C base w0 G) mixed Try.func6 rfl (by kernel_rfl) (by simp [Try.ntmps6]) ?_
  simp only [Try.results6]
  simp (config := { implicitDefEqProofs := false }) only [↓GP, GQ, ↓awp_seq, ↓awp_block, C_ex, Nat.reduceBEq, acap, afieldAddr, aload, astore, abin, anum, astr, aun, isAggD, cond_true, cond_false, ↓reduceIte, C_P, C_G, isTuple, Value.cells, setL, ares, aresL, ares1, reduceCtorEq, Nat.reduceEqDiff, eq_self, Nat.reduceAdd, if_true, if_false, one, Nat.reduceLeDiff, undef, gsl, aextract, aindexAddr, amake, implies_true, forall_const, alen, abuiltin, anil, isC, Int.reduceEq, Int.reduceLT, Int.reduceLE, Int.reduceAdd, Int.reduceToNat, Int.reduceNeg, Nat.reduceMul, Nat.reduceSub, abuild, afill, Int.reduceBNe, Int.reduceBEq]
  refine awake_spec st _ hO _ _ fun s2 hO2 => ?_
  by_cases h5 : 5 < ps.length
  · simp (config := { implicitDefEqProofs := false }) only [↓GP, GQ, ↓awp_seq, ↓awp_block, C_ex, Nat.reduceBEq, acap, afieldAddr, aload, astore, abin, anum, astr, aun, isAggD, cond_true, cond_false, ↓reduceIte, C_P, C_G, isTuple, Value.cells, setL, ares, aresL, ares1, reduceCtorEq, Nat.reduceEqDiff, eq_self, Nat.reduceAdd, if_true, if_false, one, Nat.reduceLeDiff, undef, gsl, aextract, aindexAddr, amake, implies_true, forall_const, alen, abuiltin, anil, isC, Int.reduceEq, Int.reduceLT, Int.reduceLE, Int.reduceAdd, Int.reduceToNat, Int.reduceNeg, Nat.reduceMul, Nat.reduceSub, abuild, afill, Int.reduceBNe, Int.reduceBEq, hV, Try.underlying22, Try.underlying23, Try.underlying3, show (ps.length : Int) > 5 by omega, decide_true]
    refine awake_spec s2 _ hO2 _ _ fun s3 hO3 => ?_
    simp (config := { implicitDefEqProofs := false }) only [↓GP, GQ, ↓awp_seq, ↓awp_block, C_ex, Nat.reduceBEq, acap, afieldAddr, aload, astore, abin, anum, astr, aun, isAggD, cond_true, cond_false, ↓reduceIte, C_P, C_G, isTuple, Value.cells, setL, ares, aresL, ares1, reduceCtorEq, Nat.reduceEqDiff, eq_self, Nat.reduceAdd, if_true, if_false, one, Nat.reduceLeDiff, undef, gsl, aextract, aindexAddr, amake, implies_true, forall_const, alen, abuiltin, anil, isC, Int.reduceEq, Int.reduceLT, Int.reduceLE, Int.reduceAdd, Int.reduceToNat, Int.reduceNeg, Nat.reduceMul, Nat.reduceSub, abuild, afill, Int.reduceBNe, Int.reduceBEq]
    exact hk _
  simp (config := { implicitDefEqProofs := false }) only [↓GP, GQ, ↓awp_seq, ↓awp_block, C_ex, Nat.reduceBEq, acap, afieldAddr, aload, astore, abin, anum, astr, aun, isAggD, cond_true, cond_false, ↓reduceIte, C_P, C_G, isTuple, Value.cells, setL, ares, aresL, ares1, reduceCtorEq, Nat.reduceEqDiff, eq_self, Nat.reduceAdd, if_true, if_false, one, Nat.reduceLeDiff, undef, gsl, aextract, aindexAddr, amake, implies_true, forall_const, alen, abuiltin, anil, isC, Int.reduceEq, Int.reduceLT, Int.reduceLE, Int.reduceAdd, Int.reduceToNat, Int.reduceNeg, Nat.reduceMul, Nat.reduceSub, abuild, afill, Int.reduceBNe, Int.reduceBEq, hV, Try.underlying22, Try.underlying23, Try.underlying3, show ¬ (ps.length : Int) > 5 by omega, decide_false]
  refine NewN s2 _ 200 hO2 _ _ (fun h => absurd (by omega) h) fun p h3 s3 _ _ hD3 hO3 => ?_
  have hD3 : DN p (noughts 200) [] (-1) h3 := hD3
  simp (config := { implicitDefEqProofs := false }) only [↓GP, GQ, ↓awp_seq, ↓awp_block, C_ex, Nat.reduceBEq, acap, afieldAddr, aload, astore, abin, anum, astr, aun, isAggD, cond_true, cond_false, ↓reduceIte, C_P, C_G, isTuple, Value.cells, setL, ares, aresL, ares1, reduceCtorEq, Nat.reduceEqDiff, eq_self, Nat.reduceAdd, if_true, if_false, one, Nat.reduceLeDiff, undef, gsl, aextract, aindexAddr, amake, implies_true, forall_const, alen, abuiltin, anil, isC, Int.reduceEq, Int.reduceLT, Int.reduceLE, Int.reduceAdd, Int.reduceToNat, Int.reduceNeg, Nat.reduceMul, Nat.reduceSub, abuild, afill, Int.reduceBNe, Int.reduceBEq]
  refine OpenJ s3 _ h3 p (noughts 200) [] (opens_fresh (by decide)) hD3 hO3 (by decide) (by decide) (by decide) _ _ fun jp sv rv h4 H4 T4 s4 hJ4 hl4 hD4 hN4 hR4 hO4 => ?_
  have hl4 : T4.length = 200 := hl4
  simp (config := { implicitDefEqProofs := false }) only [↓GP, GQ, ↓awp_seq, ↓awp_block, C_ex, Nat.reduceBEq, acap, afieldAddr, aload, astore, abin, anum, astr, aun, isAggD, cond_true, cond_false, ↓reduceIte, C_P, C_G, isTuple, Value.cells, setL, ares, aresL, ares1, reduceCtorEq, Nat.reduceEqDiff, eq_self, Nat.reduceAdd, if_true, if_false, one, Nat.reduceLeDiff, undef, gsl, aextract, aindexAddr, amake, implies_true, forall_const, alen, abuiltin, anil, isC, Int.reduceEq, Int.reduceLT, Int.reduceLE, Int.reduceAdd, Int.reduceToNat, Int.reduceNeg, Nat.reduceMul, Nat.reduceSub, abuild, afill, Int.reduceBNe, Int.reduceBEq, Try.underlying30, Try.underlying27]
  refine ⟨fun m ρ s => ∃ (i : Nat) (T : List (List Nat)) (hd hA X : Hp) (A : Value), m = ps.length - i ∧ i ≤ ps.length ∧ ρ 0 = V ∧ ρ 1 = .int .i64 t ∧ ρ 5 = .pointer (some ⟨p, 0, none⟩) ∧ ρ 7 = .pointer (some ⟨jp, 0, none⟩) ∧ ρ 11 = A ∧ ρ 12 = .int .i64 i ∧
    GVc A ((ps.take i).map (·.1)) i 1 23 hA ∧ JI T 0 1 ([[]] ++ (ps.map (·.2)).take i) ∧ T.length = 200 ∧ (lay 1 ([[]] ++ (ps.map (·.2)).take i)).length ≤ 1 + 6 * i ∧ DN p T [] (-1) hd ∧ Own s (JB jp p T 0 1 ([[]] ++ (ps.map (·.2)).take i) false :: (hd ++ (hA ++ (X ++ F)))),
    ⟨ps.length, 0, T4, h4, [], H4, .slice none 0 0, rfl, Nat.zero_le _, rfl, rfl, rfl, rfl, rfl, rfl, GVc.nil, hJ4, hl4, by show (lay 1 [[]]).length ≤ _; decide, hD4, hO4⟩, ?_⟩
  rintro m ρ s ⟨i, T, hd, hA, X, A, rfl, hi, p0, p1, p5, p7, p11, p12, hG, hJ, hTl, hlay, hD, hO⟩
  by_cases him : i < ps.length
  · obtain ⟨B, o, sp, c, cs, ty, own, hvx, hmem, hget⟩ := hP.at (hO.sub (show F.Sublist _ from List.Sublist.cons _ ((((List.Sublist.refl F).trans (List.sublist_append_right X _)).trans (List.sublist_append_right hA _)).trans (List.sublist_append_right hd _)))) (by intro e; rw [e] at him; simp at him)
    have hp : ps[i]? = some ps[i] := List.getElem?_eq_getElem him
    generalize ps[i] = x at hp
    obtain ⟨x1, xl⟩ := x
    have hg := hget i (x1, xl) hp
    have hB := hO.get (b := B) (o := .cells cs ty own) (by simp [hmem])
    have hNx := hP.2 (x1, xl) (List.mem_of_getElem? hp)
    obtain ⟨xa, xc, hx⟩ := hNx.isSlice
    have hx : x1 = .slice xa xl.length xc := hx
    subst hx
    have hg : cs[o + i]? = some (.slice xa xl.length xc) := hg
    have hNx : Nb F (.slice xa xl.length xc) xl := hNx
    have htk : (ps.map (·.2)).take (i + 1) = (ps.map (·.2)).take i ++ [xl] := by rw [List.take_add_one, List.getElem?_map, hp]; rfl
    have htk1 : (ps.take (i + 1)).map (·.1) = (ps.take i).map (·.1) ++ [.slice xa xl.length xc] := by rw [List.take_add_one, hp]; simp
    by_cases h300 : 300 < xl.length
    · simp (config := { implicitDefEqProofs := false }) only [↓GP, GQ, ↓awp_seq, ↓awp_block, C_ex, Nat.reduceBEq, acap, afieldAddr, aload, astore, abin, anum, astr, aun, isAggD, cond_true, cond_false, ↓reduceIte, C_P, C_G, isTuple, Value.cells, setL, ares, aresL, ares1, reduceCtorEq, Nat.reduceEqDiff, eq_self, Nat.reduceAdd, if_true, if_false, one, Nat.reduceLeDiff, undef, gsl, aextract, aindexAddr, amake, implies_true, forall_const, alen, abuiltin, anil, isC, Int.reduceEq, Int.reduceLT, Int.reduceLE, Int.reduceAdd, Int.reduceToNat, Int.reduceNeg, Nat.reduceMul, Nat.reduceSub, abuild, afill, Int.reduceBNe, Int.reduceBEq, p0, p1, p5, p7, p11, p12, hvx, hB, hg, asz23, Try.underlying22, Try.underlying23, Try.underlying3, Int.ofNat_lt, him, decide_true, show (xl.length : Int) > 300 by omega]
      exact ⟨by omega, by omega, hk _⟩
    · simp (config := { implicitDefEqProofs := false }) only [↓GP, GQ, ↓awp_seq, ↓awp_block, C_ex, Nat.reduceBEq, acap, afieldAddr, aload, astore, abin, anum, astr, aun, isAggD, cond_true, cond_false, ↓reduceIte, C_P, C_G, isTuple, Value.cells, setL, ares, aresL, ares1, reduceCtorEq, Nat.reduceEqDiff, eq_self, Nat.reduceAdd, if_true, if_false, one, Nat.reduceLeDiff, undef, gsl, aextract, aindexAddr, amake, implies_true, forall_const, alen, abuiltin, anil, isC, Int.reduceEq, Int.reduceLT, Int.reduceLE, Int.reduceAdd, Int.reduceToNat, Int.reduceNeg, Nat.reduceMul, Nat.reduceSub, abuild, afill, Int.reduceBNe, Int.reduceBEq, p0, p1, p5, p7, p11, p12, hvx, hB, hg, asz23, Try.underlying22, Try.underlying23, Try.underlying3, Int.ofNat_lt, him, decide_true, show ¬ (xl.length : Int) > 300 by omega, decide_false]
      refine ⟨by omega, by omega, AppendJ s _ hd jp p T 0 1 _ (-1) _ xl hJ hD hO (hNx.sub fun e he => by simp [he]) ⟨by decide, by decide⟩ (by omega) (by omega) _ _ (fun h => absurd h (by omega)) (fun _ h => absurd (by rw [hTl]; unfold needN; omega) h) (fun _ _ _ _ _ _ h => absurd rfl h) (fun fz' T2 h' s' _ _ hsp hJ2 hl2 _ hlay2 hD2 hO2 => ?_)⟩
      obtain rfl := hsp.2.1 rfl
      rw [List.append_assoc, ← htk] at hJ2 hO2 hlay2
      have hB2 := hO2.get (b := B) (o := .cells cs ty own) (by simp [hmem])
      have hb1 := abuildSlice_one (st := s') (v := .slice xa xl.length xc) Try.underlying22 asz23 azc23 rfl rfl rfl (by decide)
      simp (config := { implicitDefEqProofs := false }) only [↓GP, GQ, ↓awp_seq, ↓awp_block, C_ex, Nat.reduceBEq, acap, afieldAddr, aload, astore, abin, anum, astr, aun, isAggD, cond_true, cond_false, ↓reduceIte, C_P, C_G, isTuple, Value.cells, setL, ares, aresL, ares1, reduceCtorEq, Nat.reduceEqDiff, eq_self, Nat.reduceAdd, if_true, if_false, one, Nat.reduceLeDiff, undef, gsl, aextract, aindexAddr, amake, implies_true, forall_const, alen, abuiltin, anil, isC, Int.reduceEq, Int.reduceLT, Int.reduceLE, Int.reduceAdd, Int.reduceToNat, Int.reduceNeg, Nat.reduceMul, Nat.reduceSub, abuild, afill, Int.reduceBNe, Int.reduceBEq, p0, p1, p5, p7, p11, p12, hvx, hB2, hg, asz23, hb1, Try.underlying22, Try.underlying23, Try.underlying3, Try.underlying27]
      have hO3 : Own s' (hA ++ (JB jp p T2 0 1 ([[]] ++ (ps.map (·.2)).take (i + 1)) false :: (h' ++ (X ++ F)))) := hO2.perm (perm_jA _ _ _ _)
      refine ⟨by omega, GVc.append1 (c := [.slice xa xl.length xc]) Try.underlying22 (by rw [Try.underlying22]; rfl) asz23 azc23 aby23 hG hO3 rfl rfl (by omega) fun v7 h7 s7 hG7 hO7 => ?_⟩
      simp (config := { implicitDefEqProofs := false }) only [↓GP, GQ, ↓awp_seq, ↓awp_block, C_ex, Nat.reduceBEq, acap, afieldAddr, aload, astore, abin, anum, astr, aun, isAggD, cond_true, cond_false, ↓reduceIte, C_P, C_G, isTuple, Value.cells, setL, ares, aresL, ares1, reduceCtorEq, Nat.reduceEqDiff, eq_self, Nat.reduceAdd, if_true, if_false, one, Nat.reduceLeDiff, undef, gsl, aextract, aindexAddr, amake, implies_true, forall_const, alen, abuiltin, anil, isC, Int.reduceEq, Int.reduceLT, Int.reduceLE, Int.reduceAdd, Int.reduceToNat, Int.reduceNeg, Nat.reduceMul, Nat.reduceSub, abuild, afill, Int.reduceBNe, Int.reduceBEq, p0, p1, p5, p7, p11, p12, Try.underlying22, Try.underlying23, Try.underlying3, Try.underlying27]
      refine ⟨ps.length - (i + 1), by omega, i + 1, T2, h', h7, X, v7, rfl, by omega, rfl, by rw [w_i64 (by omega)]; rfl, by rw [htk1]; exact hG7, hJ2, by omega, ?_, hD2, hO7.perm (perm_jA _ _ _ _).symm⟩
      refine Nat.le_trans (Nat.le_of_eq hlay2) ?_
      unfold needN; omega
  · obtain rfl : i = ps.length := by omega
    have htl : (ps.map (·.2)).take ps.length = ps.map (·.2) := List.take_of_length_le (by simp)
    rw [htl] at hJ hlay hO
    rw [List.take_of_length_le (Nat.le_refl _)] at hG
    simp (config := { implicitDefEqProofs := false }) only [↓GP, GQ, ↓awp_seq, ↓awp_block, C_ex, Nat.reduceBEq, acap, afieldAddr, aload, astore, abin, anum, astr, aun, isAggD, cond_true, cond_false, ↓reduceIte, C_P, C_G, isTuple, Value.cells, setL, ares, aresL, ares1, reduceCtorEq, Nat.reduceEqDiff, eq_self, Nat.reduceAdd, if_true, if_false, one, Nat.reduceLeDiff, undef, gsl, aextract, aindexAddr, amake, implies_true, forall_const, alen, abuiltin, anil, isC, Int.reduceEq, Int.reduceLT, Int.reduceLE, Int.reduceAdd, Int.reduceToNat, Int.reduceNeg, Nat.reduceMul, Nat.reduceSub, abuild, afill, Int.reduceBNe, Int.reduceBEq, p0, p1, p5, p7, p11, p12, hV, hkk, Try.underlying22, Try.underlying23, Try.underlying3, Int.ofNat_lt, Nat.lt_irrefl, decide_false]
    have hPA := (hG.ps (h := X ++ F) rfl asz23 fun x hx => (hP.2 x hx).sub fun e he => List.mem_append_right _ he).1
    refine ⟨fun m ρ s => ∃ (i w : Nat) (recs T : List (List Nat)) (hd Y : Hp) (A : Value) (qs : List (Value × List Nat)), m = kk - i ∧ i ≤ kk ∧ ρ 5 = .pointer (some ⟨p, 0, none⟩) ∧ ρ 7 = .pointer (some ⟨jp, 0, none⟩) ∧ ρ 11 = A ∧ ρ 13 = .int .i64 kk ∧ ρ 14 = .int .i64 i ∧
      recs.tail = qs.map (·.2) ∧ recs.headD [] = (if i = 0 then [] else [i - 1]) ∧ (i ≠ 0 → recs = [[i - 1]]) ∧ Ps Y A qs ∧ JI T w (i + 1) recs ∧ T.length = 200 ∧ DN p T [] (-1) hd ∧ Own s (JB jp p T w (i + 1) recs false :: (hd ++ Y)),
      ⟨kk, 0, 0, _, T, hd, _, A, ps, rfl, Nat.zero_le _, p5, p7, p11, rfl, rfl, rfl, rfl, fun h => absurd rfl h, hPA, hJ, hTl, hD, hO⟩, ?_⟩
    rintro m ρ s ⟨i, w, recs, T, hd, Y, A, qs, rfl, hi, p5, p7, p11, p13, p14, ht1, ht2, ht3, hPs, hJ, hTl, hD, hO⟩
    by_cases hik : i < kk
    · have w8 : IntKind.u8.wrap (i : Int) = (i : Int) := by rw [w_u8n, Nat.mod_eq_of_lt (by omega)]
      have hb1 := abuildSlice_one (st := s) (v := .int .u8 i) Try.underlying23 asz5 azc5 rfl rfl rfl (by decide)
      have hc8 : aconv Try.prog s 3 5 (.int .i64 i) = some (.int .u8 i, s) := by simp [aconv, Try.underlying3, Try.underlying5, w8]
      simp (config := { implicitDefEqProofs := false }) only [↓GP, GQ, ↓awp_seq, ↓awp_block, C_ex, Nat.reduceBEq, acap, afieldAddr, aload, astore, abin, anum, astr, aun, isAggD, cond_true, cond_false, ↓reduceIte, C_P, C_G, isTuple, Value.cells, setL, ares, aresL, ares1, reduceCtorEq, Nat.reduceEqDiff, eq_self, Nat.reduceAdd, if_true, if_false, one, Nat.reduceLeDiff, undef, gsl, aextract, aindexAddr, amake, implies_true, forall_const, alen, abuiltin, anil, isC, Int.reduceEq, Int.reduceLT, Int.reduceLE, Int.reduceAdd, Int.reduceToNat, Int.reduceNeg, Nat.reduceMul, Nat.reduceSub, abuild, afill, Int.reduceBNe, Int.reduceBEq, p5, p7, p11, p13, p14, hc8, hb1, Try.underlying22, Try.underlying23, Try.underlying3, Int.ofNat_lt, hik, decide_true]
      have hO1 : Own _ (JB jp p T w (i + 1) recs false :: (hd ++ ((s.n, Ob.cells [.int .u8 (i : Int)] 5 true) :: Y))) := (hO.new (Ob.cells [.int .u8 i] 5 true)).perm (perm_jN _ _ _ _)
      have hNi : Nb ((s.n, Ob.cells [.int .u8 (i : Int)] 5 true) :: Y) (.slice (some ⟨s.n, 0, none⟩) 1 1) [i] := nb_exact (l := [i]) (c := 1) (ty := 5) (own := true) (List.mem_cons_self ..) (by simp; omega)
      have n1 : needN ([i] : List Nat).length = 1 := by unfold needN; simp
      refine CompactJ _ _ hd jp p T w (i + 1) recs (-1) _ [i] hJ hD hO1 hNi ⟨by decide, by decide⟩ (by omega) (by simp) _ _ (fun h => absurd h (by simp)) (fun _ h => absurd (by rw [hTl, n1]; omega) h) (fun _ _ h => absurd h (by omega)) (fun _ _ _ _ _ _ _ h => absurd rfl h) (fun fz' T2 h' s' _ _ _ hsp hJ2 hl2 hD2 hO2 => ?_)
      obtain rfl := hsp.2.1 rfl
      simp (config := { implicitDefEqProofs := false }) only [↓GP, GQ, ↓awp_seq, ↓awp_block, C_ex, Nat.reduceBEq, acap, afieldAddr, aload, astore, abin, anum, astr, aun, isAggD, cond_true, cond_false, ↓reduceIte, C_P, C_G, isTuple, Value.cells, setL, ares, aresL, ares1, reduceCtorEq, Nat.reduceEqDiff, eq_self, Nat.reduceAdd, if_true, if_false, one, Nat.reduceLeDiff, undef, gsl, aextract, aindexAddr, amake, implies_true, forall_const, alen, abuiltin, anil, isC, Int.reduceEq, Int.reduceLT, Int.reduceLE, Int.reduceAdd, Int.reduceToNat, Int.reduceNeg, Nat.reduceMul, Nat.reduceSub, abuild, afill, Int.reduceBNe, Int.reduceBEq, p5, p7, p11, p13, p14, Try.underlying27, Try.underlying3]
      have w2 : IntKind.i64.wrap ((i : Int) + 2) = ((i + 1 + 1 : Nat) : Int) := by rw [w_i64 (by omega)]; omega
      refine GenJ s' jp p T2 (1 - w) (i + 1 + 1) [[i]] false _ hO2 _ _ ?_
      simp (config := { implicitDefEqProofs := false }) only [↓GP, GQ, ↓awp_seq, ↓awp_block, C_ex, Nat.reduceBEq, acap, afieldAddr, aload, astore, abin, anum, astr, aun, isAggD, cond_true, cond_false, ↓reduceIte, C_P, C_G, isTuple, Value.cells, setL, ares, aresL, ares1, reduceCtorEq, Nat.reduceEqDiff, eq_self, Nat.reduceAdd, if_true, if_false, one, Nat.reduceLeDiff, undef, gsl, aextract, aindexAddr, amake, implies_true, forall_const, alen, abuiltin, anil, isC, Int.reduceEq, Int.reduceLT, Int.reduceLE, Int.reduceAdd, Int.reduceToNat, Int.reduceNeg, Nat.reduceMul, Nat.reduceSub, abuild, afill, Int.reduceBNe, Int.reduceBEq, p5, p7, p11, p13, p14, w2, Try.underlying27, Try.underlying3]
      have hl98 : T2.length / 2 - (lay (i + 1 + 1) [[i]]).length = 98 := by rw [lay_one_length, hl2, hTl, n1]
      refine LeftJ s' jp p T2 (1 - w) (i + 1 + 1) [[i]] false _ (by rw [lay_one_length, hl2, hTl, n1]; omega) (by omega) hO2 _ _ ?_
      rw [hl98]
      simp (config := { implicitDefEqProofs := false }) only [↓GP, GQ, ↓awp_seq, ↓awp_block, C_ex, Nat.reduceBEq, acap, afieldAddr, aload, astore, abin, anum, astr, aun, isAggD, cond_true, cond_false, ↓reduceIte, C_P, C_G, isTuple, Value.cells, setL, ares, aresL, ares1, reduceCtorEq, Nat.reduceEqDiff, eq_self, Nat.reduceAdd, if_true, if_false, one, Nat.reduceLeDiff, undef, gsl, aextract, aindexAddr, amake, implies_true, forall_const, alen, abuiltin, anil, isC, Int.reduceEq, Int.reduceLT, Int.reduceLE, Int.reduceAdd, Int.reduceToNat, Int.reduceNeg, Nat.reduceMul, Nat.reduceSub, abuild, afill, Int.reduceBNe, Int.reduceBEq, p5, p7, p11, p13, p14, Try.underlying27, Try.underlying3]
      exact ⟨kk - (i + 1), by omega, i + 1, 1 - w, [[i]], T2, h', (s.n, Ob.cells [.int .u8 (i : Int)] 5 true) :: Y, .slice none 0 0, [], rfl, by omega, rfl, by rw [w_i64 (by omega)]; rfl, rfl, by rw [if_neg (by omega)]; rfl, fun _ => rfl, ⟨.inl ⟨rfl, .inl rfl⟩, fun p hp => by simp at hp⟩, hJ2, by omega, hD2, hO2⟩
    · obtain rfl : i = kk := by omega
      have hle := hJ.end_le
      simp (config := { implicitDefEqProofs := false }) only [↓GP, GQ, ↓awp_seq, ↓awp_block, C_ex, Nat.reduceBEq, acap, afieldAddr, aload, astore, abin, anum, astr, aun, isAggD, cond_true, cond_false, ↓reduceIte, C_P, C_G, isTuple, Value.cells, setL, ares, aresL, ares1, reduceCtorEq, Nat.reduceEqDiff, eq_self, Nat.reduceAdd, if_true, if_false, one, Nat.reduceLeDiff, undef, gsl, aextract, aindexAddr, amake, implies_true, forall_const, alen, abuiltin, anil, isC, Int.reduceEq, Int.reduceLT, Int.reduceLE, Int.reduceAdd, Int.reduceToNat, Int.reduceNeg, Nat.reduceMul, Nat.reduceSub, abuild, afill, Int.reduceBNe, Int.reduceBEq, p5, p7, p11, p13, p14, Try.underlying3, Int.ofNat_lt, Nat.lt_irrefl, decide_false]
      refine LeftJ s jp p T w (i + 1) recs false _ (by omega) (by omega) hO _ _ ?_
      simp (config := { implicitDefEqProofs := false }) only [↓GP, GQ, ↓awp_seq, ↓awp_block, C_ex, Nat.reduceBEq, acap, afieldAddr, aload, astore, abin, anum, astr, aun, isAggD, cond_true, cond_false, ↓reduceIte, C_P, C_G, isTuple, Value.cells, setL, ares, aresL, ares1, reduceCtorEq, Nat.reduceEqDiff, eq_self, Nat.reduceAdd, if_true, if_false, one, Nat.reduceLeDiff, undef, gsl, aextract, aindexAddr, amake, implies_true, forall_const, alen, abuiltin, anil, isC, Int.reduceEq, Int.reduceLT, Int.reduceLE, Int.reduceAdd, Int.reduceToNat, Int.reduceNeg, Nat.reduceMul, Nat.reduceSub, abuild, afill, Int.reduceBNe, Int.reduceBEq, p5, p7, p11, p13, p14, Try.underlying3]
      refine ⟨fun m ρ s => ∃ (j : Nat) (T : List (List Nat)) (hd Z : Hp), m = 3 - j ∧ j ≤ 3 ∧ ρ 5 = .pointer (some ⟨p, 0, none⟩) ∧ ρ 11 = A ∧ ρ 13 = .int .i64 i ∧ ρ 15 = .int .i64 (200 / 2 - (lay (i + 1) recs).length : Nat) ∧ ρ 16 = .int .i64 j ∧
        Ps Z A qs ∧ JI T w (i + 1) recs ∧ T.length = 200 ∧ DN p T [] (-1) hd ∧ Own s (hd ++ Z), ⟨3, 0, T, hd, JB jp p T w (i + 1) recs false :: Y, rfl, Nat.zero_le _, p5, p11, p13, by rw [hTl]; rfl, rfl, hPs.sub fun e he => List.mem_cons_of_mem _ he, hJ, hTl, hD, hO.perm (perm_front hd _ _).symm⟩, ?_⟩
      clear hPs hJ hTl hD hO hle
      rintro m ρ s ⟨j, T, hd, Z, rfl, hj, p5, p11, p13, p15, p16, hPs, hJ, hTl, hD, hO⟩
      by_cases hj3 : j < 3
      · simp (config := { implicitDefEqProofs := false }) only [↓GP, GQ, ↓awp_seq, ↓awp_block, C_ex, Nat.reduceBEq, acap, afieldAddr, aload, astore, abin, anum, astr, aun, isAggD, cond_true, cond_false, ↓reduceIte, C_P, C_G, isTuple, Value.cells, setL, ares, aresL, ares1, reduceCtorEq, Nat.reduceEqDiff, eq_self, Nat.reduceAdd, if_true, if_false, one, Nat.reduceLeDiff, undef, gsl, aextract, aindexAddr, amake, implies_true, forall_const, alen, abuiltin, anil, isC, Int.reduceEq, Int.reduceLT, Int.reduceLE, Int.reduceAdd, Int.reduceToNat, Int.reduceNeg, Nat.reduceMul, Nat.reduceSub, abuild, afill, Int.reduceBNe, Int.reduceBEq, p5, p11, p13, p15, p16, Try.underlying3, show (j : Int) < 3 by omega, decide_true]
        refine OpenJ s _ hd p T [] hJ.opens hD hO (by omega) (by omega) (by decide) _ _ fun jp6 sv6 rv6 h6 H6 T6 s6 hJ6 hl6 hD6 hN6 hR6 hO6 => ?_
        have hle := hJ6.end_le
        rw [hl6, hTl] at hle
        simp (config := { implicitDefEqProofs := false }) only [↓GP, GQ, ↓awp_seq, ↓awp_block, C_ex, Nat.reduceBEq, acap, afieldAddr, aload, astore, abin, anum, astr, aun, isAggD, cond_true, cond_false, ↓reduceIte, C_P, C_G, isTuple, Value.cells, setL, ares, aresL, ares1, reduceCtorEq, Nat.reduceEqDiff, eq_self, Nat.reduceAdd, if_true, if_false, one, Nat.reduceLeDiff, undef, gsl, aextract, aindexAddr, amake, implies_true, forall_const, alen, abuiltin, anil, isC, Int.reduceEq, Int.reduceLT, Int.reduceLE, Int.reduceAdd, Int.reduceToNat, Int.reduceNeg, Nat.reduceMul, Nat.reduceSub, abuild, afill, Int.reduceBNe, Int.reduceBEq, p5, p11, p13, p15, p16, Try.underlying30, Try.underlying27]
        refine LeftJ s6 jp6 p T6 w (i + 1) recs false _ (by omega) (by omega) hO6 _ _ ?_
        rw [hl6, hTl]
        simp (config := { implicitDefEqProofs := false }) only [↓GP, GQ, ↓awp_seq, ↓awp_block, C_ex, Nat.reduceBEq, acap, afieldAddr, aload, astore, abin, anum, astr, aun, isAggD, cond_true, cond_false, ↓reduceIte, C_P, C_G, isTuple, Value.cells, setL, ares, aresL, ares1, reduceCtorEq, Nat.reduceEqDiff, eq_self, Nat.reduceAdd, if_true, if_false, one, Nat.reduceLeDiff, undef, gsl, aextract, aindexAddr, amake, implies_true, forall_const, alen, abuiltin, anil, isC, Int.reduceEq, Int.reduceLT, Int.reduceLE, Int.reduceAdd, Int.reduceToNat, Int.reduceNeg, Nat.reduceMul, Nat.reduceSub, abuild, afill, Int.reduceBNe, Int.reduceBEq, p5, p11, p13, p15, p16, Try.underlying3]
        refine GenJ s6 jp6 p T6 w (i + 1) recs false _ hO6 _ _ ?_
        have w1 : IntKind.i64.wrap ((i : Int) + 1) = ((i + 1 : Nat) : Int) := by rw [w_i64 (by omega)]; omega
        simp (config := { implicitDefEqProofs := false }) only [↓GP, GQ, ↓awp_seq, ↓awp_block, C_ex, Nat.reduceBEq, acap, afieldAddr, aload, astore, abin, anum, astr, aun, isAggD, cond_true, cond_false, ↓reduceIte, C_P, C_G, isTuple, Value.cells, setL, ares, aresL, ares1, reduceCtorEq, Nat.reduceEqDiff, eq_self, Nat.reduceAdd, if_true, if_false, one, Nat.reduceLeDiff, undef, gsl, aextract, aindexAddr, amake, implies_true, forall_const, alen, abuiltin, anil, isC, Int.reduceEq, Int.reduceLT, Int.reduceLE, Int.reduceAdd, Int.reduceToNat, Int.reduceNeg, Nat.reduceMul, Nat.reduceSub, abuild, afill, Int.reduceBNe, Int.reduceBEq, p5, p11, p13, p15, p16, w1, Try.underlying3]
        obtain ⟨qs6, hq6, hP6, _⟩ := hR6
        have hP6' := hP6.sub (h' := JB jp6 p T6 w (i + 1) recs false :: (h6 ++ (H6 ++ Z))) (fun e he => by simp [he])
        have hqe : qs6.map (·.2) = qs.map (·.2) := by rw [hq6, ht1]
        refine Same_spec s6 _ rv6 A qs6 qs hP6' (hPs.sub fun e he => by simp [he]) (by
          have h1 := congrArg List.length hq6
          have h3 : recs.length ≤ (lay (i + 1) recs).length := layF_ge _ 0 recs
          rw [List.length_map, List.length_tail] at h1
          omega) hO6 _ _ ?_
        rw [decide_eq_true hqe]
        by_cases hi0 : i = 0
        · subst hi0
          obtain ⟨sa, sc, hsv⟩ := hN6.isSlice
          rw [ht2] at hsv
          have hsv : sv6 = .slice sa 0 sc := hsv
          simp (config := { implicitDefEqProofs := false }) only [↓GP, GQ, ↓awp_seq, ↓awp_block, C_ex, Nat.reduceBEq, acap, afieldAddr, aload, astore, abin, anum, astr, aun, isAggD, cond_true, cond_false, ↓reduceIte, C_P, C_G, isTuple, Value.cells, setL, ares, aresL, ares1, reduceCtorEq, Nat.reduceEqDiff, eq_self, Nat.reduceAdd, if_true, if_false, one, Nat.reduceLeDiff, undef, gsl, aextract, aindexAddr, amake, implies_true, forall_const, alen, abuiltin, anil, isC, Int.reduceEq, Int.reduceLT, Int.reduceLE, Int.reduceAdd, Int.reduceToNat, Int.reduceNeg, Nat.reduceMul, Nat.reduceSub, abuild, afill, Int.reduceBNe, Int.reduceBEq, p5, p11, p13, p15, p16, hsv, Try.underlying3, Try.underlying23, show ¬ (0 : Int) > 0 by omega, decide_false]
          exact ⟨3 - (j + 1), by omega, j + 1, T6, h6, _, rfl, by omega, by rw [w_i64 (by omega)]; rfl, hPs.sub fun e he => List.mem_cons_of_mem _ (List.mem_append_right H6 he), hJ6, by omega, hD6, hO6.perm (perm_front h6 _ _).symm⟩
        · rw [ht2, if_neg hi0] at hN6
          have hN6' := hN6.sub (h' := JB jp6 p T6 w (i + 1) recs false :: (h6 ++ (H6 ++ Z))) (fun e he => by simp [he])
          have ws : IntKind.i64.wrap ((i : Int) - 1) = ((i - 1 : Nat) : Int) := by rw [w_i64 (by omega)]; omega
          have w8 : IntKind.u8.wrap ((i - 1 : Nat) : Int) = ((i - 1 : Nat) : Int) := by rw [w_u8n, Nat.mod_eq_of_lt (by omega)]
          have hc8 : aconv Try.prog s6 3 5 (.int .i64 (i - 1 : Nat)) = some (.int .u8 (i - 1 : Nat), s6) := by simp [aconv, Try.underlying3, Try.underlying5, w8]
          have hb1 := abuildSlice_one (st := s6) (v := .int .u8 (i - 1 : Nat)) Try.underlying23 asz5 azc5 rfl rfl rfl (by decide)
          have hO7 := hO6.new (Ob.cells [.int .u8 (i - 1 : Nat)] 5 true)
          have hNi : Nb ((s6.n, Ob.cells [.int .u8 (i - 1 : Nat)] 5 true) :: (JB jp6 p T6 w (i + 1) recs false :: (h6 ++ (H6 ++ Z)))) (.slice (some ⟨s6.n, 0, none⟩) 1 1) [i - 1] := nb_exact (l := [i - 1]) (c := 1) (ty := 5) (own := true) (List.mem_cons_self ..) (by simp; omega)
          simp (config := { implicitDefEqProofs := false }) only [↓GP, GQ, ↓awp_seq, ↓awp_block, C_ex, Nat.reduceBEq, acap, afieldAddr, aload, astore, abin, anum, astr, aun, isAggD, cond_true, cond_false, ↓reduceIte, C_P, C_G, isTuple, Value.cells, setL, ares, aresL, ares1, reduceCtorEq, Nat.reduceEqDiff, eq_self, Nat.reduceAdd, if_true, if_false, one, Nat.reduceLeDiff, undef, gsl, aextract, aindexAddr, amake, implies_true, forall_const, alen, abuiltin, anil, isC, Int.reduceEq, Int.reduceLT, Int.reduceLE, Int.reduceAdd, Int.reduceToNat, Int.reduceNeg, Nat.reduceMul, Nat.reduceSub, abuild, afill, Int.reduceBNe, Int.reduceBEq, p5, p11, p13, p15, p16, hN6'.strP hO6, ws, hc8, hb1, hNi.strP hO7, Try.underlying3, Try.underlying9, show (i : Int) > 0 by omega, decide_true, beqF (show ¬ (i : Int) = 0 by omega), beq_self_eq_true]
          exact ⟨3 - (j + 1), by omega, j + 1, T6, h6, _, rfl, by omega, by rw [w_i64 (by omega)]; rfl, hPs.sub fun e he => List.mem_cons_of_mem _ (List.mem_cons_of_mem _ (List.mem_append_right H6 he)), hJ6, by omega, hD6, hO7.perm (perm_mid h6 _ _ _)⟩
      · obtain rfl : j = 3 := by omega
        simp (config := { implicitDefEqProofs := false }) only [↓GP, GQ, ↓awp_seq, ↓awp_block, C_ex, Nat.reduceBEq, acap, afieldAddr, aload, astore, abin, anum, astr, aun, isAggD, cond_true, cond_false, ↓reduceIte, C_P, C_G, isTuple, Value.cells, setL, ares, aresL, ares1, reduceCtorEq, Nat.reduceEqDiff, eq_self, Nat.reduceAdd, if_true, if_false, one, Nat.reduceLeDiff, undef, gsl, aextract, aindexAddr, amake, implies_true, forall_const, alen, abuiltin, anil, isC, Int.reduceEq, Int.reduceLT, Int.reduceLE, Int.reduceAdd, Int.reduceToNat, Int.reduceNeg, Nat.reduceMul, Nat.reduceSub, abuild, afill, Int.reduceBNe, Int.reduceBEq, p5, p11, p13, p15, p16, Try.underlying3, show ¬ ((3 : Nat) : Int) < 3 by omega, decide_false]
        exact hk _
end Go.Proofs.Ytiooigkcliomlaa
/- JournalTwice answers true for every input, and leaves what came in as it was. No conditions. -/
set_option linter.unusedVariables false
set_option linter.unusedSimpArgs false
namespace Go.Proofs.Ytiooigkcliomlaa
open Go Go.Abs Go.RowKit Go.ChangeShapes

theorem fit_int1 {w : World} {v : Value} (h : ArgFit Try.prog (st0 w) 3 v) : ∃ a, v = .int .i64 a := by
  obtain ⟨n, h⟩ := h
  rw [Try.underlying3] at h
  obtain ⟨a, e, _⟩ := fit_int' Try.underlying3 h
  exact ⟨a, (List.cons.inj (show [v] = [.int .i64 a] from e)).1⟩
set_option maxRecDepth 100000 in
theorem twice_lifted (os : Os) (started : os.Started) (H : Type) (enc : TypeId × Value → H) :
    ReturnsInHanded {} Try.checked os 6 .any (Rows.journalTwiceSpec.pre6 enc Try.prog Try.f6 Rows.journalTwiceRow.domain false) (Rows.journalTwiceSpec.post enc Try.prog Try.f6 false true false false) := by
  refine law_lift (C := Try.checked) (G := 0) (ex := fun t => false) (tb := 4) own started (by kernel_rfl) Try.func6 laidOut (by kernel_rfl) (by kernel_rfl) Try.underlying4 rfl (fun ds hd => ?_)
    (ChangeSpec.witness6 (enc := enc) (C := Try.checked) false ⟨#[], #[.slice none 0 0, .int .i64 0], []⟩ 8 (by kernel_rfl) (by kernel_rfl) (by kernel_rfl) (by kernel_rfl)) (fun W args hn hf _ => ⟨Nat.zero_le _, ?_⟩)
  · rw [Try.params6] at hd
    obtain ⟨a, b, rfl⟩ : ∃ a b, ds = [a, b] := by
      match ds, hd with
      | [a, b], _ => exact ⟨a, b, rfl⟩
    rfl
  · rw [Try.params6] at hn hf
    obtain ⟨a, b, rfl⟩ : ∃ a b, args = #[a, b] := by
      obtain ⟨l⟩ := args
      match l, hn with
      | [a, b], _ => exact ⟨a, b, rfl⟩
    obtain ⟨ps, hps, hpl, _⟩ := fit_ps (hf 0 22 a rfl rfl)
    obtain ⟨x, hx⟩ := fit_int1 (hf 1 3 b rfl rfl)
    have hm : maxLen ≤ 9223372036854775807 := by decide
    simp only [List.map_cons, List.map_nil, hx]
    exact twice_spec _ _ _ ps x (own_foreign W) hps (Nat.le_trans hpl hm) _ _ fun _ => rfl

theorem journalTwice_holds : Rows.JournalTwiceSaid :=
  OpenClaim.holds_of_wide 6 Try.f6 rfl rfl rfl rfl rfl rfl rfl ⟨rfl, rfl, rfl, rfl, rfl⟩ rfl rfl rfl rfl rfl (by kernel_rfl) Try.func6 (by kernel_rfl)
    (of_decide_eq_true (by kernel_rfl)) (by unfold Func.isWrapper; first | (rw [if_pos (by decide +kernel)]; kernel_rfl) | (rw [if_neg (by decide +kernel)]; exact ⟨rfl, rfl⟩))
    (fun os started H enc _ => twice_lifted os started H enc)
#print axioms journalTwice_holds
end Go.Proofs.Ytiooigkcliomlaa
