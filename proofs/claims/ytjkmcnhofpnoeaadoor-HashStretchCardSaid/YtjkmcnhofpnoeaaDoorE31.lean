/- HashEqual answers true over the abstract heap. No conditions. -/
import Derived.Test.YtjkmcnhofpnoeaaDoorE30
import Derived.Test.YtjkmcnhofpnoeaaDoorE22
set_option linter.unusedVariables false
set_option linter.unusedSimpArgs false
namespace Go.Proofs.YtjkmcnhofpnoeaaDoor
open Go Go.Abs Go.RowKit
variable {base : Nat} {w0 : World} {G : Nat}

theorem Nb.strE {st : St} {h : Hp} {v : Value} {l : List Nat} (hb : Nb h v l) (hO : Own st h) : aconv Tryd.prog st 23 9 v = some (.string (strOf (l.map fun n : Nat => (n : Int))), st) := by
  obtain ⟨a, c, e⟩ := hb.isSlice
  exact aconv_str (hb.src hO) ⟨_, _, _, e⟩
theorem nb_take {h : Hp} {b : Nat} {l : List Nat} {sp : Option Nat} {c n : Nat} (hm : (b, Ob.cells (nl l) 5 true) ∈ h) (hl : ∀ d ∈ l, d < 256) (hn : n ≤ l.length) : Nb h (.slice (some ⟨b, 0, sp⟩) n c) (l.take n) := by
  have hlen : (l.take n).length = n := by rw [List.length_take, Nat.min_eq_left hn]
  refine ⟨.inr ⟨b, 0, sp, c, nl l, 5, true, by rw [List.length_map, hlen], hm, ?_⟩, fun d hd => hl d (List.mem_of_mem_take hd)⟩
  rw [List.length_map, hlen, cut, if_pos (by rw [nl_length]; omega), List.drop_zero, nl_take]
  rfl
theorem outS_take {pw sa : List Nat} {rounds : Nat} {n : Nat} : ∀ c d, c ≤ d → n ≤ 32 * c → (outS pw sa rounds d).take n = (outS pw sa rounds c).take n
  | c, d, h, hn => by
    induction d with
    | zero => obtain rfl : c = 0 := by omega
              rfl
    | succ d ih =>
      by_cases hc : c = d + 1
      · rw [hc]
      · rw [outS, List.take_append_of_le_length (by rw [outS_length]; omega)]
        exact ih (by omega)
set_option maxRecDepth 10000 in
theorem HEqual_spec (st : St) (r : Hp) (av bv : Value) (a b : List Nat) (ha : Nb r av a) (hb : Nb r bv b) (hla : a.length ≤ 100000) (hO : Own st r) (k q : Value → St → Prop) (hk : k (.bool (decide (a = b))) st) :
    ACall (C base w0 G) 17 [av, bv] st k q := by
  refine ACall.of (cx := C base w0 G) mixed Tryd.func17 rfl (by kernel_rfl) (by simp [Tryd.ntmps17]) ?_
  simp only [Tryd.results17]
  simp (config := { implicitDefEqProofs := false }) only [↓GP, GQ, ↓awp_seq, ↓awp_block, C_ex, Nat.reduceBEq, acap, afieldAddr, aload, astore, abin, anum, astr, aun, isAggD, cond_true, cond_false, ↓reduceIte, C_P, C_G, isTuple, Value.cells, setL, ares, aresL, ares1, reduceCtorEq, Nat.reduceEqDiff, eq_self, Nat.reduceAdd, if_true, if_false, one, Nat.reduceLeDiff, undef, gsl, aextract, aindexAddr, amake, implies_true, forall_const, alen, abuiltin, anil, isC, Int.reduceEq, Int.reduceLT, Int.reduceLE, Int.reduceAdd, Int.reduceToNat, Int.reduceNeg, Nat.reduceMul, Nat.reduceSub, abuild, afill, Int.reduceBNe, Int.reduceBEq]
  refine ACallF.enter Tryd.func28 rfl (by kernel_rfl) (Equal_spec st r av bv a b ha hb hla hO _ _ ?_)
  simp (config := { implicitDefEqProofs := false }) only [↓GP, GQ, ↓awp_seq, ↓awp_block, C_ex, Nat.reduceBEq, acap, afieldAddr, aload, astore, abin, anum, astr, aun, isAggD, cond_true, cond_false, ↓reduceIte, C_P, C_G, isTuple, Value.cells, setL, ares, aresL, ares1, reduceCtorEq, Nat.reduceEqDiff, eq_self, Nat.reduceAdd, if_true, if_false, one, Nat.reduceLeDiff, undef, gsl, aextract, aindexAddr, amake, implies_true, forall_const, alen, abuiltin, anil, isC, Int.reduceEq, Int.reduceLT, Int.reduceLE, Int.reduceAdd, Int.reduceToNat, Int.reduceNeg, Nat.reduceMul, Nat.reduceSub, abuild, afill, Int.reduceBNe, Int.reduceBEq]
  exact hk
set_option maxHeartbeats 800000 in
set_option maxRecDepth 10000 in
theorem equal_spec (st : St) (r : Hp) (av bv : Value) (a b : List Nat) (z : Int) (ok : Bool) {kt : TypeId} (ha : Nb r av a) (hb : Nb r bv b) (hK : (0, .cells (wl ks0) kt ok) ∈ r) (hO : Own st r) (k q : Value → St → Prop)
    (hk : ∀ st', k (.bool true) st') :
    ACall (C base w0 1) 7 [av, bv, .int .i64 z] st k q := by
  refine ACall.of (cx := C base w0 1) mixed Tryd.func7 rfl (by kernel_rfl) (by simp [Tryd.ntmps7]) ?_
  simp only [Tryd.results7]
  obtain ⟨aa, ca, has⟩ := ha.isSlice
  obtain ⟨ab, cb, hbs⟩ := hb.isSlice
  simp (config := { implicitDefEqProofs := false }) only [↓GP, GQ, ↓awp_seq, ↓awp_block, C_ex, Nat.reduceBEq, acap, afieldAddr, aload, astore, abin, anum, astr, aun, isAggD, cond_true, cond_false, ↓reduceIte, C_P, C_G, isTuple, Value.cells, setL, ares, aresL, ares1, reduceCtorEq, Nat.reduceEqDiff, eq_self, Nat.reduceAdd, if_true, if_false, one, Nat.reduceLeDiff, undef, gsl, aextract, aindexAddr, amake, implies_true, forall_const, alen, abuiltin, anil, isC, Int.reduceEq, Int.reduceLT, Int.reduceLE, Int.reduceAdd, Int.reduceToNat, Int.reduceNeg, Nat.reduceMul, Nat.reduceSub, abuild, afill, Int.reduceBNe, Int.reduceBEq]
  refine ACallF.enter Tryd.func9 rfl (by kernel_rfl) (awake_spec st r ok hK hO _ _ fun s1 hO1 => ?_)
  by_cases hal : 200 < a.length
  · simp (config := { implicitDefEqProofs := false }) only [↓GP, GQ, ↓awp_seq, ↓awp_block, C_ex, Nat.reduceBEq, acap, afieldAddr, aload, astore, abin, anum, astr, aun, isAggD, cond_true, cond_false, ↓reduceIte, C_P, C_G, isTuple, Value.cells, setL, ares, aresL, ares1, reduceCtorEq, Nat.reduceEqDiff, eq_self, Nat.reduceAdd, if_true, if_false, one, Nat.reduceLeDiff, undef, gsl, aextract, aindexAddr, amake, implies_true, forall_const, alen, abuiltin, anil, isC, Int.reduceEq, Int.reduceLT, Int.reduceLE, Int.reduceAdd, Int.reduceToNat, Int.reduceNeg, Nat.reduceMul, Nat.reduceSub, abuild, afill, Int.reduceBNe, Int.reduceBEq, has, Tryd.underlying23, show (a.length : Int) > 200 by omega, decide_true]
    refine ACallF.enter Tryd.func9 rfl (by kernel_rfl) (awake_spec s1 r ok hK hO1 _ _ fun s2 hO2 => ?_)
    simp (config := { implicitDefEqProofs := false }) only [↓GP, GQ, ↓awp_seq, ↓awp_block, C_ex, Nat.reduceBEq, acap, afieldAddr, aload, astore, abin, anum, astr, aun, isAggD, cond_true, cond_false, ↓reduceIte, C_P, C_G, isTuple, Value.cells, setL, ares, aresL, ares1, reduceCtorEq, Nat.reduceEqDiff, eq_self, Nat.reduceAdd, if_true, if_false, one, Nat.reduceLeDiff, undef, gsl, aextract, aindexAddr, amake, implies_true, forall_const, alen, abuiltin, anil, isC, Int.reduceEq, Int.reduceLT, Int.reduceLE, Int.reduceAdd, Int.reduceToNat, Int.reduceNeg, Nat.reduceMul, Nat.reduceSub, abuild, afill, Int.reduceBNe, Int.reduceBEq]
    exact hk _
  by_cases hbl : 200 < b.length
  · simp (config := { implicitDefEqProofs := false }) only [↓GP, GQ, ↓awp_seq, ↓awp_block, C_ex, Nat.reduceBEq, acap, afieldAddr, aload, astore, abin, anum, astr, aun, isAggD, cond_true, cond_false, ↓reduceIte, C_P, C_G, isTuple, Value.cells, setL, ares, aresL, ares1, reduceCtorEq, Nat.reduceEqDiff, eq_self, Nat.reduceAdd, if_true, if_false, one, Nat.reduceLeDiff, undef, gsl, aextract, aindexAddr, amake, implies_true, forall_const, alen, abuiltin, anil, isC, Int.reduceEq, Int.reduceLT, Int.reduceLE, Int.reduceAdd, Int.reduceToNat, Int.reduceNeg, Nat.reduceMul, Nat.reduceSub, abuild, afill, Int.reduceBNe, Int.reduceBEq, has, hbs, Tryd.underlying23, show ¬ (a.length : Int) > 200 by omega, show (b.length : Int) > 200 by omega, decide_true, decide_false]
    refine ACallF.enter Tryd.func9 rfl (by kernel_rfl) (awake_spec s1 r ok hK hO1 _ _ fun s2 hO2 => ?_)
    simp (config := { implicitDefEqProofs := false }) only [↓GP, GQ, ↓awp_seq, ↓awp_block, C_ex, Nat.reduceBEq, acap, afieldAddr, aload, astore, abin, anum, astr, aun, isAggD, cond_true, cond_false, ↓reduceIte, C_P, C_G, isTuple, Value.cells, setL, ares, aresL, ares1, reduceCtorEq, Nat.reduceEqDiff, eq_self, Nat.reduceAdd, if_true, if_false, one, Nat.reduceLeDiff, undef, gsl, aextract, aindexAddr, amake, implies_true, forall_const, alen, abuiltin, anil, isC, Int.reduceEq, Int.reduceLT, Int.reduceLE, Int.reduceAdd, Int.reduceToNat, Int.reduceNeg, Nat.reduceMul, Nat.reduceSub, abuild, afill, Int.reduceBNe, Int.reduceBEq]
    exact hk _
  simp (config := { implicitDefEqProofs := false }) only [↓GP, GQ, ↓awp_seq, ↓awp_block, C_ex, Nat.reduceBEq, acap, afieldAddr, aload, astore, abin, anum, astr, aun, isAggD, cond_true, cond_false, ↓reduceIte, C_P, C_G, isTuple, Value.cells, setL, ares, aresL, ares1, reduceCtorEq, Nat.reduceEqDiff, eq_self, Nat.reduceAdd, if_true, if_false, one, Nat.reduceLeDiff, undef, gsl, aextract, aindexAddr, amake, implies_true, forall_const, alen, abuiltin, anil, isC, Int.reduceEq, Int.reduceLT, Int.reduceLE, Int.reduceAdd, Int.reduceToNat, Int.reduceNeg, Nat.reduceMul, Nat.reduceSub, abuild, afill, Int.reduceBNe, Int.reduceBEq, has, hbs, Tryd.underlying23, show ¬ (a.length : Int) > 200 by omega, show ¬ (b.length : Int) > 200 by omega, decide_true, decide_false]
  obtain ⟨κ, hκ, hκ1, hκ2⟩ : ∃ κ : Nat, IntKind.i64.wrap (1 + (IntKind.i64.wrap (z.tmod 64 + 64)).tmod 64) = (κ : Int) ∧ 1 ≤ κ ∧ κ ≤ 64 := by
    have h1 := Int.tmod_lt_of_pos z (show (0 : Int) < 64 by decide)
    have h2 : -64 < z.tmod 64 := by
      have := Int.lt_tmod_of_pos z (show (0 : Int) < 64 by decide)
      omega
    have e1 : IntKind.i64.wrap (z.tmod 64 + 64) = z.tmod 64 + 64 := w_i64 (by omega)
    rw [e1]
    have h3 := Int.tmod_lt_of_pos (z.tmod 64 + 64) (show (0 : Int) < 64 by decide)
    have h4 := Int.tmod_nonneg 64 (show 0 ≤ z.tmod 64 + 64 by omega)
    rw [w_i64 (by omega)]
    exact ⟨(1 + (z.tmod 64 + 64).tmod 64).toNat, by omega, by omega, by omega⟩
  rw [hκ, ← has, ← hbs]
  refine ACallF.enter Tryd.func15 rfl (by kernel_rfl) (Stretch_spec s1 r av bv a b 2 κ ok ha hb (by omega) (by omega) (by decide) (by decide) hκ1 hκ2 hK hO1 _ _ fun B1 c1 s2 hc1 hs1 hO2 => ?_)
  have hin2 : ∀ e ∈ r, e ∈ (B1, Ob.cells (nl (outS a b 2 c1)) 5 true) :: r := fun e he => List.mem_cons_of_mem _ he
  simp (config := { implicitDefEqProofs := false }) only [↓GP, GQ, ↓awp_seq, ↓awp_block, C_ex, Nat.reduceBEq, acap, afieldAddr, aload, astore, abin, anum, astr, aun, isAggD, cond_true, cond_false, ↓reduceIte, C_P, C_G, isTuple, Value.cells, setL, ares, aresL, ares1, reduceCtorEq, Nat.reduceEqDiff, eq_self, Nat.reduceAdd, if_true, if_false, one, Nat.reduceLeDiff, undef, gsl, aextract, aindexAddr, amake, implies_true, forall_const, alen, abuiltin, anil, isC, Int.reduceEq, Int.reduceLT, Int.reduceLE, Int.reduceAdd, Int.reduceToNat, Int.reduceNeg, Nat.reduceMul, Nat.reduceSub, abuild, afill, Int.reduceBNe, Int.reduceBEq]
  refine ACallF.enter Tryd.func15 rfl (by kernel_rfl) (Stretch_spec s2 _ av bv a b 2 64 ok (ha.sub hin2) (hb.sub hin2) (by omega) (by omega) (by decide) (by decide) (by decide) (by decide) (hin2 _ hK) hO2 _ _ fun B2 c2 s3 hc2 hs2 hO3 => ?_)
  obtain rfl : c2 = 2 := by omega
  simp (config := { implicitDefEqProofs := false }) only [↓GP, GQ, ↓awp_seq, ↓awp_block, C_ex, Nat.reduceBEq, acap, afieldAddr, aload, astore, abin, anum, astr, aun, isAggD, cond_true, cond_false, ↓reduceIte, C_P, C_G, isTuple, Value.cells, setL, ares, aresL, ares1, reduceCtorEq, Nat.reduceEqDiff, eq_self, Nat.reduceAdd, if_true, if_false, one, Nat.reduceLeDiff, undef, gsl, aextract, aindexAddr, amake, implies_true, forall_const, alen, abuiltin, anil, isC, Int.reduceEq, Int.reduceLT, Int.reduceLE, Int.reduceAdd, Int.reduceToNat, Int.reduceNeg, Nat.reduceMul, Nat.reduceSub, abuild, afill, Int.reduceBNe, Int.reduceBEq]
  refine ADraw.of [(0, false, []), (1, false, []), (3, false, []), (4, true, []), (5, false, []), (6, true, []), (7, false, []), (2, false, [4, 6]), (8, false, []), (9, false, []), (10, false, []), (11, false, []), (12, false, []), (13, false, []), (14, false, []), (15, false, []), (16, false, []), (17, false, []), (18, false, []), (19, false, []), (20, false, []), (21, false, []), (22, false, []), (23, false, []), (24, false, []), (25, false, []), (26, false, []), (27, false, []), (28, false, []), (29, false, []), (30, false, []), (31, false, []), (32, false, []), (33, false, []), (34, false, []), (35, false, []), (36, false, []), (37, false, []), (38, false, []), (39, false, []), (40, false, []), (41, false, []), (42, false, [])] [4, 6] [(4, 2), (6, 2)] (by kernel_rfl) ?_
  simp (config := { implicitDefEqProofs := false }) only [↓GP, GQ, ↓awp_seq, ↓awp_block, C_ex, Nat.reduceBEq, acap, afieldAddr, aload, astore, abin, anum, astr, aun, isAggD, cond_true, cond_false, ↓reduceIte, C_P, C_G, isTuple, Value.cells, setL, ares, aresL, ares1, reduceCtorEq, Nat.reduceEqDiff, eq_self, Nat.reduceAdd, if_true, if_false, one, Nat.reduceLeDiff, undef, gsl, aextract, aindexAddr, amake, implies_true, forall_const, alen, abuiltin, anil, isC, Int.reduceEq, Int.reduceLT, Int.reduceLE, Int.reduceAdd, Int.reduceToNat, Int.reduceNeg, Nat.reduceMul, Nat.reduceSub, abuild, afill, Int.reduceBNe, Int.reduceBEq]
  have hin3 : ∀ e ∈ r, e ∈ (B2, Ob.cells (nl (outS a b 2 2)) 5 true) :: (B1, Ob.cells (nl (outS a b 2 c1)) 5 true) :: r := fun e he => List.mem_cons_of_mem _ (List.mem_cons_of_mem _ he)
  have ha3 := ha.sub hin3
  have hb3 := hb.sub hin3
  have hx3 := nb_take (h := (B2, Ob.cells (nl (outS a b 2 2)) 5 true) :: (B1, Ob.cells (nl (outS a b 2 c1)) 5 true) :: r) (b := B1) (l := outS a b 2 c1) (sp := none) (c := κ) (n := κ) (by simp) (outS_lt _ _ _ _) (by rw [outS_length]; exact hs1)
  have hy3 := nb_take (h := (B2, Ob.cells (nl (outS a b 2 2)) 5 true) :: (B1, Ob.cells (nl (outS a b 2 c1)) 5 true) :: r) (b := B2) (l := outS a b 2 2) (sp := none) (c := 64) (n := κ) (by simp) (outS_lt _ _ _ _) (by rw [outS_length]; omega)
  rw [← outS_take c1 2 hc1 hs1] at hx3
  generalize (B2, Ob.cells (nl (outS a b 2 2)) 5 true) :: (B1, Ob.cells (nl (outS a b 2 c1)) 5 true) :: r = R at *
  simp (config := { implicitDefEqProofs := false }) only [↓GP, GQ, ↓awp_seq, ↓awp_block, C_ex, Nat.reduceBEq, acap, afieldAddr, aload, astore, abin, anum, astr, aun, isAggD, cond_true, cond_false, ↓reduceIte, C_P, C_G, isTuple, Value.cells, setL, ares, aresL, ares1, reduceCtorEq, Nat.reduceEqDiff, eq_self, Nat.reduceAdd, if_true, if_false, one, Nat.reduceLeDiff, undef, gsl, aextract, aindexAddr, amake, implies_true, forall_const, alen, abuiltin, anil, isC, Int.reduceEq, Int.reduceLT, Int.reduceLE, Int.reduceAdd, Int.reduceToNat, Int.reduceNeg, Nat.reduceMul, Nat.reduceSub, abuild, afill, Int.reduceBNe, Int.reduceBEq, ha3.strE hO3, hb3.strE hO3, Tryd.underlying9]
  refine ACallF.enter Tryd.func17 rfl (by kernel_rfl) (HEqual_spec s3 R av bv a b ha3 hb3 (by omega) hO3 _ _ ?_)
  simp (config := { implicitDefEqProofs := false }) only [↓GP, GQ, ↓awp_seq, ↓awp_block, C_ex, Nat.reduceBEq, acap, afieldAddr, aload, astore, abin, anum, astr, aun, isAggD, cond_true, cond_false, ↓reduceIte, C_P, C_G, isTuple, Value.cells, setL, ares, aresL, ares1, reduceCtorEq, Nat.reduceEqDiff, eq_self, Nat.reduceAdd, if_true, if_false, one, Nat.reduceLeDiff, undef, gsl, aextract, aindexAddr, amake, implies_true, forall_const, alen, abuiltin, anil, isC, Int.reduceEq, Int.reduceLT, Int.reduceLE, Int.reduceAdd, Int.reduceToNat, Int.reduceNeg, Nat.reduceMul, Nat.reduceSub, abuild, afill, Int.reduceBNe, Int.reduceBEq, ha3.strE hO3, hb3.strE hO3, Tryd.underlying9, Tryd.underlying4, strOf_eq ha3.2 hb3.2, beq_self_eq_true]
  refine ACallF.enter Tryd.func17 rfl (by kernel_rfl) (HEqual_spec s3 R av av a a ha3 ha3 (by omega) hO3 _ _ ?_)
  have hsl : aslice Tryd.prog s3 23 (.slice (some ⟨B2, 0, none⟩) 64 64) none (some (.int .i64 κ)) none = some (.slice (some ⟨B2, 0, none⟩) κ 64) := by
    rw [aslice_exact Tryd.underlying23 asz5 (abounds_hi (len := 64) (cap := 64) hκ2)]
    rfl
  simp (config := { implicitDefEqProofs := false }) only [↓GP, GQ, ↓awp_seq, ↓awp_block, C_ex, Nat.reduceBEq, acap, afieldAddr, aload, astore, abin, anum, astr, aun, isAggD, cond_true, cond_false, ↓reduceIte, C_P, C_G, isTuple, Value.cells, setL, ares, aresL, ares1, reduceCtorEq, Nat.reduceEqDiff, eq_self, Nat.reduceAdd, if_true, if_false, one, Nat.reduceLeDiff, undef, gsl, aextract, aindexAddr, amake, implies_true, forall_const, alen, abuiltin, anil, isC, Int.reduceEq, Int.reduceLT, Int.reduceLE, Int.reduceAdd, Int.reduceToNat, Int.reduceNeg, Nat.reduceMul, Nat.reduceSub, abuild, afill, Int.reduceBNe, Int.reduceBEq, Tryd.underlying23, Tryd.underlying39, Tryd.underlying3, Tryd.underlying9, hsl, hx3.strE hO3, hy3.strE hO3, decide_true, beq_self_eq_true]
  exact hk _
end Go.Proofs.YtjkmcnhofpnoeaaDoor
