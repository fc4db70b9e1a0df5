/- The walk of LoginDumps. No conditions. -/
import Derived.Test.YthohmdkibkompaaDoorLoginR
import Derived.Test.YthohmdkibkompaaDoorLoginJ
set_option linter.unusedVariables false
set_option linter.unusedSimpArgs false
namespace Go.Proofs.YthohmdkibkompaaDoor
open Go Go.Abs Go.RowKit
variable {base : Nat} {w0 : World} {G : Nat}

def ChgT (x : Chg) : Prop := Bt x.a ∧ Bt x.b ∧ -9223372036854775808 ≤ x.n ∧ -9223372036854775808 ≤ x.m ∧ x.m ≤ 9223372036854775807
def ChgS (x : Chg) : Prop := x.a.length ≤ 200 ∧ x.b.length ≤ 200 ∧ x.n < 1152921504606846976
theorem cl_of {cs : List Chg} {v : Value} {n : Nat} {g r : Hp} (hn : n = cs.length) (hG : GVx v (chgL cs) n 7 36 g) : CL' (g ++ r) v cs :=
  GVx.rws (rows := cs.map Chg.cells) (fun x hx => by obtain ⟨c, _, rfl⟩ := List.mem_map.1 hx; rfl) (by simpa using hn) hG
theorem cutA {a b c d e f g h i j k : Value} : cut [a, b, c, d, e, f, g, h, i, j, k] 0 11 = some [a, b, c, d, e, f, g, h, i, j, k] := rfl
theorem tryF_len {U : Rul} {key : List Nat} {c : Int} {F : Fails} {L : List Ses} {name : List Nat} {good : Bool} {now : Int} : (tryF U key c F L name good now).1.length ≤ 3 := by
  unfold tryF okC
  split
  · simp
  split
  · simp
  split
  · simp
  split
  · simp
  · show ((if (gF F name).1 > 0 then [mkC 2 name [] 0 0] else []) ++ _ : List Chg).length ≤ 3
    split <;> simp
set_option maxHeartbeats 4000000 in
set_option maxRecDepth 10000 in
theorem LoginDumps_spec (st : St) (r : Hp) (U : Rul) (cv : Value) (cs : List Chg) (ac : AskA) (ok : Bool) {kt : TypeId} (hcv : CL' r cv cs) (hct : ∀ x ∈ cs, ChgT x) (ha1 : Bt ac.name) (ha2 : Bt ac.c.a) (hT : TabOk w0) (hK : (0, .cells (wl ks0) kt ok) ∈ r) (hO : Own st r) (k q : Value → St → Prop) (hk : ∀ st', k (.bool true) st') :
    ACall (C base w0 4) 6 [.agg U.cells.toArray, cv, .agg ac.cells.toArray] st k q := by
  obtain ⟨ta, tc, htv, _⟩ := hcv.isSlice
  rw [List.length_map] at htv
  refine ACall.of (cx := C base w0 4) mixed Tryd.func6 rfl (by kernel_rfl) (by simp [Tryd.ntmps6]) ?_
  simp only [Tryd.results6]
  have hO1 := (hO.new (.cells U.cells 23 true)).new (.cells ac.cells 47 true)
  simp (config := { implicitDefEqProofs := false }) only [↓GP, ↓GM, GQ, abuiltinX, ↓awp_seq, ↓awp_block, C_ex, Nat.reduceBEq, acap, afieldAddr, aload, astore, abin, anum, astr, aun, isAggD, cond_true, cond_false, ↓reduceIte, C_P, C_G, isTuple, Value.cells, setL, ares, aresL, ares1, reduceCtorEq, Nat.reduceEqDiff, eq_self, Nat.reduceAdd, if_true, if_false, Go.Abs.one, Nat.reduceLeDiff, undef, gsl, aextract, aindexAddr, amake, implies_true, forall_const, alen, abuiltin, anil, isC, Int.reduceEq, Int.reduceLT, Int.reduceLE, Int.reduceAdd, Int.reduceToNat, Int.reduceNeg, Nat.reduceMul, Nat.reduceSub, abuild, afill, Int.reduceBNe, Int.reduceBEq, abox, Rul.cells, AskA.cells]
  have eA : (st.new (.cells U.cells 23 true)).n = st.n + 1 := rfl
  rw [eA] at hO1
  generalize st.n + 1 = A at *
  generalize st.n = T at *
  generalize hR1 : (A, Ob.cells ac.cells 47 true) :: (T, Ob.cells U.cells 23 true) :: r = R1 at *
  have hK1 : (0, Ob.cells (wl ks0) kt ok) ∈ R1 := by rw [← hR1]; simp [hK]
  have hT1 : (T, Ob.cells U.cells 23 true) ∈ R1 := by rw [← hR1]; simp
  have hA1 : (A, Ob.cells ac.cells 47 true) ∈ R1 := by rw [← hR1]; simp
  have hc1 : CL' R1 cv cs := hcv.sub fun e he => by rw [← hR1]; simp [he]
  refine ACallF.enter Tryd.func7 rfl (by kernel_rfl) (Lawake_spec _ _ ok hT hK1 hO1 _ _ fun s1 hs1 => ?_)
  have hcT : s1.H T = some (.cells [.int .i64 U.tries, .int .i64 U.lock, .int .i64 U.life, .int .i64 U.most] 23 true) := hs1.get hT1
  simp (config := { implicitDefEqProofs := false }) only [↓GP, ↓GM, GQ, abuiltinX, ↓awp_seq, ↓awp_block, C_ex, Nat.reduceBEq, acap, afieldAddr, aload, astore, abin, anum, astr, aun, isAggD, cond_true, cond_false, ↓reduceIte, C_P, C_G, isTuple, Value.cells, setL, ares, aresL, ares1, reduceCtorEq, Nat.reduceEqDiff, eq_self, Nat.reduceAdd, if_true, if_false, Go.Abs.one, Nat.reduceLeDiff, undef, gsl, aextract, aindexAddr, amake, implies_true, forall_const, alen, abuiltin, anil, isC, Int.reduceEq, Int.reduceLT, Int.reduceLE, Int.reduceAdd, Int.reduceToNat, Int.reduceNeg, Nat.reduceMul, Nat.reduceSub, abuild, afill, Int.reduceBNe, Int.reduceBEq, Bool.not_true, hcT, asz23, Tryd.underlying23, cut4, Option.map_some]
  refine ACallF.enter Tryd.func8 rfl (by kernel_rfl) (RRight_spec s1 _ U hs1 _ _ fun s2 hs2 => ?_)
  have done : ∀ (s : St) (k' q' : Value → St → Prop), Own s R1 → (∀ s', k' (.bool true) s') → ACallF (C base w0 4) 7 [] s k' q' := fun s k' q' hs hk' =>
    ACallF.enter Tryd.func7 rfl (by kernel_rfl) (Lawake_spec s _ ok hT hK1 hs _ _ fun s' _ => hk' s')
  cases hU : U.ok with
  | false =>
    simp (config := { implicitDefEqProofs := false }) only [↓GP, ↓GM, GQ, abuiltinX, ↓awp_seq, ↓awp_block, C_ex, Nat.reduceBEq, acap, afieldAddr, aload, astore, abin, anum, astr, aun, isAggD, cond_true, cond_false, ↓reduceIte, C_P, C_G, isTuple, Value.cells, setL, ares, aresL, ares1, reduceCtorEq, Nat.reduceEqDiff, eq_self, Nat.reduceAdd, if_true, if_false, Go.Abs.one, Nat.reduceLeDiff, undef, gsl, aextract, aindexAddr, amake, implies_true, forall_const, alen, abuiltin, anil, isC, Int.reduceEq, Int.reduceLT, Int.reduceLE, Int.reduceAdd, Int.reduceToNat, Int.reduceNeg, Nat.reduceMul, Nat.reduceSub, abuild, afill, Int.reduceBNe, Int.reduceBEq, Bool.not_false]
    refine done s2 _ _ hs2 fun s' => ?_
    simp (config := { implicitDefEqProofs := false }) only [↓GP, ↓GM, GQ, abuiltinX, ↓awp_seq, ↓awp_block, C_ex, Nat.reduceBEq, acap, afieldAddr, aload, astore, abin, anum, astr, aun, isAggD, cond_true, cond_false, ↓reduceIte, C_P, C_G, isTuple, Value.cells, setL, ares, aresL, ares1, reduceCtorEq, Nat.reduceEqDiff, eq_self, Nat.reduceAdd, if_true, if_false, Go.Abs.one, Nat.reduceLeDiff, undef, gsl, aextract, aindexAddr, amake, implies_true, forall_const, alen, abuiltin, anil, isC, Int.reduceEq, Int.reduceLT, Int.reduceLE, Int.reduceAdd, Int.reduceToNat, Int.reduceNeg, Nat.reduceMul, Nat.reduceSub, abuild, afill, Int.reduceBNe, Int.reduceBEq]
    exact hk s'
  | true =>
  by_cases hn0 : cs.length > 60
  · simp (config := { implicitDefEqProofs := false }) only [↓GP, ↓GM, GQ, abuiltinX, ↓awp_seq, ↓awp_block, C_ex, Nat.reduceBEq, acap, afieldAddr, aload, astore, abin, anum, astr, aun, isAggD, cond_true, cond_false, ↓reduceIte, C_P, C_G, isTuple, Value.cells, setL, ares, aresL, ares1, reduceCtorEq, Nat.reduceEqDiff, eq_self, Nat.reduceAdd, if_true, if_false, Go.Abs.one, Nat.reduceLeDiff, undef, gsl, aextract, aindexAddr, amake, implies_true, forall_const, alen, abuiltin, anil, isC, Int.reduceEq, Int.reduceLT, Int.reduceLE, Int.reduceAdd, Int.reduceToNat, Int.reduceNeg, Nat.reduceMul, Nat.reduceSub, abuild, afill, Int.reduceBNe, Int.reduceBEq, Bool.not_true, htv, Tryd.underlying31, show ((cs.length : Int) > 60) = True by simp; omega, decide_true]
    refine done s2 _ _ hs2 fun s' => ?_
    simp (config := { implicitDefEqProofs := false }) only [↓GP, ↓GM, GQ, abuiltinX, ↓awp_seq, ↓awp_block, C_ex, Nat.reduceBEq, acap, afieldAddr, aload, astore, abin, anum, astr, aun, isAggD, cond_true, cond_false, ↓reduceIte, C_P, C_G, isTuple, Value.cells, setL, ares, aresL, ares1, reduceCtorEq, Nat.reduceEqDiff, eq_self, Nat.reduceAdd, if_true, if_false, Go.Abs.one, Nat.reduceLeDiff, undef, gsl, aextract, aindexAddr, amake, implies_true, forall_const, alen, abuiltin, anil, isC, Int.reduceEq, Int.reduceLT, Int.reduceLE, Int.reduceAdd, Int.reduceToNat, Int.reduceNeg, Nat.reduceMul, Nat.reduceSub, abuild, afill, Int.reduceBNe, Int.reduceBEq]
    exact hk s'
  have hcA : s2.H A = some (.cells [.int .i64 ac.kind, .int .i64 ac.now, .string (str ac.name), .bool ac.good, .int .i64 ac.c.k, .string (str ac.c.a), .string (str ac.c.b), .string (str ac.c.c), .string (str ac.c.d), .int .i64 ac.c.n, .int .i64 ac.c.m] 47 true) := hs2.get hA1
  simp (config := { implicitDefEqProofs := false }) only [↓GP, ↓GM, GQ, abuiltinX, ↓awp_seq, ↓awp_block, C_ex, Nat.reduceBEq, acap, afieldAddr, aload, astore, abin, anum, astr, aun, isAggD, cond_true, cond_false, ↓reduceIte, C_P, C_G, isTuple, Value.cells, setL, ares, aresL, ares1, reduceCtorEq, Nat.reduceEqDiff, eq_self, Nat.reduceAdd, if_true, if_false, Go.Abs.one, Nat.reduceLeDiff, undef, gsl, aextract, aindexAddr, amake, implies_true, forall_const, alen, abuiltin, anil, isC, Int.reduceEq, Int.reduceLT, Int.reduceLE, Int.reduceAdd, Int.reduceToNat, Int.reduceNeg, Nat.reduceMul, Nat.reduceSub, abuild, afill, Int.reduceBNe, Int.reduceBEq, Bool.not_true, htv, Tryd.underlying31, show ((cs.length : Int) > 60) = False by simp; omega, decide_false, hcA, asz47, Tryd.underlying47, cutA, Option.map_some]
  refine ACallF.enter Tryd.func15 rfl (by kernel_rfl) (LSmall_spec s2 _ ac hs2 _ _ fun s3 hs3 => ?_)
  cases hsm : ac.small with
  | false =>
    simp (config := { implicitDefEqProofs := false }) only [↓GP, ↓GM, GQ, abuiltinX, ↓awp_seq, ↓awp_block, C_ex, Nat.reduceBEq, acap, afieldAddr, aload, astore, abin, anum, astr, aun, isAggD, cond_true, cond_false, ↓reduceIte, C_P, C_G, isTuple, Value.cells, setL, ares, aresL, ares1, reduceCtorEq, Nat.reduceEqDiff, eq_self, Nat.reduceAdd, if_true, if_false, Go.Abs.one, Nat.reduceLeDiff, undef, gsl, aextract, aindexAddr, amake, implies_true, forall_const, alen, abuiltin, anil, isC, Int.reduceEq, Int.reduceLT, Int.reduceLE, Int.reduceAdd, Int.reduceToNat, Int.reduceNeg, Nat.reduceMul, Nat.reduceSub, abuild, afill, Int.reduceBNe, Int.reduceBEq, Bool.not_false]
    refine done s3 _ _ hs3 fun s' => ?_
    simp (config := { implicitDefEqProofs := false }) only [↓GP, ↓GM, GQ, abuiltinX, ↓awp_seq, ↓awp_block, C_ex, Nat.reduceBEq, acap, afieldAddr, aload, astore, abin, anum, astr, aun, isAggD, cond_true, cond_false, ↓reduceIte, C_P, C_G, isTuple, Value.cells, setL, ares, aresL, ares1, reduceCtorEq, Nat.reduceEqDiff, eq_self, Nat.reduceAdd, if_true, if_false, Go.Abs.one, Nat.reduceLeDiff, undef, gsl, aextract, aindexAddr, amake, implies_true, forall_const, alen, abuiltin, anil, isC, Int.reduceEq, Int.reduceLT, Int.reduceLE, Int.reduceAdd, Int.reduceToNat, Int.reduceNeg, Nat.reduceMul, Nat.reduceSub, abuild, afill, Int.reduceBNe, Int.reduceBEq]
    exact hk s'
  | true =>
  have hU' := of_decide_eq_true hU
  have hcT : s3.H T = some (.cells [.int .i64 U.tries, .int .i64 U.lock, .int .i64 U.life, .int .i64 U.most] 23 true) := hs3.get hT1
  have hs4 := hs3.new (.cells [.int .u8 107] 5 true)
  simp (config := { implicitDefEqProofs := false }) only [↓GP, ↓GM, GQ, abuiltinX, ↓awp_seq, ↓awp_block, C_ex, Nat.reduceBEq, acap, afieldAddr, aload, astore, abin, anum, astr, aun, isAggD, cond_true, cond_false, ↓reduceIte, C_P, C_G, isTuple, Value.cells, setL, ares, aresL, ares1, reduceCtorEq, Nat.reduceEqDiff, eq_self, Nat.reduceAdd, if_true, if_false, Go.Abs.one, Nat.reduceLeDiff, undef, gsl, aextract, aindexAddr, amake, implies_true, forall_const, alen, abuiltin, anil, isC, Int.reduceEq, Int.reduceLT, Int.reduceLE, Int.reduceAdd, Int.reduceToNat, Int.reduceNeg, Nat.reduceMul, Nat.reduceSub, abuild, afill, Int.reduceBNe, Int.reduceBEq, Bool.not_true, hcT, asz23, Tryd.underlying23, cut4, Option.map_some, build1k, kconv hs4.head]
  refine ACallF.enter Tryd.func9 rfl (by kernel_rfl) (LNew_spec _ _ U kk _ hU nb_k (by decide) hs4 _ _ fun D h s5 hD hs5 => ?_)
  have hcT : s5.H T = some (.cells [.int .i64 U.tries, .int .i64 U.lock, .int .i64 U.life, .int .i64 U.most] 23 true) := hs5.get (List.mem_append_right _ (List.mem_cons_of_mem _ hT1))
  have hs6 := hs5.new (.cells [.int .u8 107] 5 true)
  simp (config := { implicitDefEqProofs := false }) only [↓GP, ↓GM, GQ, abuiltinX, ↓awp_seq, ↓awp_block, C_ex, Nat.reduceBEq, acap, afieldAddr, aload, astore, abin, anum, astr, aun, isAggD, cond_true, cond_false, ↓reduceIte, C_P, C_G, isTuple, Value.cells, setL, ares, aresL, ares1, reduceCtorEq, Nat.reduceEqDiff, eq_self, Nat.reduceAdd, if_true, if_false, Go.Abs.one, Nat.reduceLeDiff, undef, gsl, aextract, aindexAddr, amake, implies_true, forall_const, alen, abuiltin, anil, isC, Int.reduceEq, Int.reduceLT, Int.reduceLE, Int.reduceAdd, Int.reduceToNat, Int.reduceNeg, Nat.reduceMul, Nat.reduceSub, abuild, afill, Int.reduceBNe, Int.reduceBEq, Bool.not_true, hcT, asz23, Tryd.underlying23, cut4, Option.map_some, build1k, kconv hs6.head]
  refine ACallF.enter Tryd.func9 rfl (by kernel_rfl) (LNew_spec _ _ U kk _ hU nb_k (by decide) hs6 _ _ fun E h2 s7 hE hs7 => ?_)
  generalize hB1 : (s3.n, Ob.cells [Value.int .u8 107] 5 true) = B1 at *
  generalize hB2 : (s5.n, Ob.cells [Value.int .u8 107] 5 true) = B2 at *
  have hs8 : Own s7 (h ++ (h2 ++ (B2 :: B1 :: R1))) := hs7.perm (by simpa using perm_of [h2, [B2], h, [B1], R1] [0, 1, 2, 3, 4] [2, 0, 1, 3, 4] rfl)
  generalize hR : B2 :: B1 :: R1 = R at *
  have hKR : (0, Ob.cells (wl ks0) kt ok) ∈ R := by rw [← hR]; simp [hK1]
  have hAR : (A, Ob.cells ac.cells 47 true) ∈ R := by rw [← hR]; simp [hA1]
  have hcR : CL' R cv cs := hc1.sub fun e he => by rw [← hR]; simp [he]
  simp (config := { implicitDefEqProofs := false }) only [↓GP, ↓GM, GQ, abuiltinX, ↓awp_seq, ↓awp_block, C_ex, Nat.reduceBEq, acap, afieldAddr, aload, astore, abin, anum, astr, aun, isAggD, cond_true, cond_false, ↓reduceIte, C_P, C_G, isTuple, Value.cells, setL, ares, aresL, ares1, reduceCtorEq, Nat.reduceEqDiff, eq_self, Nat.reduceAdd, if_true, if_false, Go.Abs.one, Nat.reduceLeDiff, undef, gsl, aextract, aindexAddr, amake, implies_true, forall_const, alen, abuiltin, anil, isC, Int.reduceEq, Int.reduceLT, Int.reduceLE, Int.reduceAdd, Int.reduceToNat, Int.reduceNeg, Nat.reduceMul, Nat.reduceSub, abuild, afill, Int.reduceBNe, Int.reduceBEq, Tryd.underlying27, Option.isNone]
  refine ⟨fun m ρ s => ∃ i : Nat, m = cs.length - i ∧ i ≤ cs.length ∧ (∀ x ∈ cs.take i, ChgS x) ∧ ρ 1 = cv ∧ ρ 3 = .pointer (some ⟨T, 0, none⟩) ∧ ρ 5 = .pointer (some ⟨A, 0, none⟩) ∧ ρ 7 = .pointer (some ⟨D, 0, none⟩) ∧ ρ 9 = .pointer (some ⟨E, 0, none⟩) ∧ ρ 11 = .int .i64 i ∧ Own s (h ++ (h2 ++ R)),
    ⟨_, 0, rfl, Nat.zero_le _, (fun x hx => (by simp at hx)), (by first | rfl | exact htv.symm), rfl, rfl, rfl, rfl, rfl, hs8⟩, ?_⟩
  clear hs1 hs2 hs3 hs4 hs5 hs6 hs7 hs8 hcT hcA hO1 hO
  rintro _ ρ s ⟨i, rfl, hi, hcs, h1, h3, h5, h7, h9, h11, hs⟩
  by_cases him : i < cs.length
  · obtain ⟨x, o, sp, c', ccs, ty, own, hvx, hmem, hcut⟩ := hcR.mem (i := i) (l := (cs[i]).cells) (by simp [him])
    rw [List.length_map] at hvx
    have hcx := hs.get (List.mem_append_right h (List.mem_append_right h2 hmem))
    have g1 := cut_get hcut (j := 1) (by decide)
    have g2 := cut_get hcut (j := 2) (by decide)
    have g5 := cut_get hcut (j := 5) (by decide)
    unfold Chg.cells at g1 g2 g5
    simp only [List.getElem?_cons_zero, List.getElem?_cons_succ] at g1 g2 g5
    have htk : cs.take (i + 1) = cs.take i ++ [cs[i]] := by rw [List.take_add_one, List.getElem?_eq_getElem him]; rfl
    have w1 : IntKind.i64.wrap ((i : Int) + 1) = ((i + 1 : Nat) : Int) := by rw [w_i64 (by omega)]; rfl
    generalize cs[i] = X at *
    by_cases c1 : X.a.length ≤ 200
    case neg =>
      simp (config := { implicitDefEqProofs := false }) only [↓GP, ↓GM, GQ, abuiltinX, ↓awp_seq, ↓awp_block, C_ex, Nat.reduceBEq, acap, afieldAddr, aload, astore, abin, anum, astr, aun, isAggD, cond_true, cond_false, ↓reduceIte, C_P, C_G, isTuple, Value.cells, setL, ares, aresL, ares1, reduceCtorEq, Nat.reduceEqDiff, eq_self, Nat.reduceAdd, if_true, if_false, Go.Abs.one, Nat.reduceLeDiff, undef, gsl, aextract, aindexAddr, amake, implies_true, forall_const, alen, abuiltin, anil, isC, Int.reduceEq, Int.reduceLT, Int.reduceLE, Int.reduceAdd, Int.reduceToNat, Int.reduceNeg, Nat.reduceMul, Nat.reduceSub, abuild, afill, Int.reduceBNe, Int.reduceBEq, h1, h3, h5, h7, h9, h11, hvx, him, Int.ofNat_lt, decide_true, decide_false, hcx, g1, g2, g5, afo36_1, afo36_2, afo36_5, asz36, asz3, asz9, Tryd.underlying3, Tryd.underlying9, Tryd.underlying31, str_size, show ((X.a.length : Int) > 200) = True by simp; omega]
      exact ⟨by omega, hk s⟩
    by_cases c2 : X.b.length ≤ 200
    case neg =>
      simp (config := { implicitDefEqProofs := false }) only [↓GP, ↓GM, GQ, abuiltinX, ↓awp_seq, ↓awp_block, C_ex, Nat.reduceBEq, acap, afieldAddr, aload, astore, abin, anum, astr, aun, isAggD, cond_true, cond_false, ↓reduceIte, C_P, C_G, isTuple, Value.cells, setL, ares, aresL, ares1, reduceCtorEq, Nat.reduceEqDiff, eq_self, Nat.reduceAdd, if_true, if_false, Go.Abs.one, Nat.reduceLeDiff, undef, gsl, aextract, aindexAddr, amake, implies_true, forall_const, alen, abuiltin, anil, isC, Int.reduceEq, Int.reduceLT, Int.reduceLE, Int.reduceAdd, Int.reduceToNat, Int.reduceNeg, Nat.reduceMul, Nat.reduceSub, abuild, afill, Int.reduceBNe, Int.reduceBEq, h1, h3, h5, h7, h9, h11, hvx, him, Int.ofNat_lt, decide_true, decide_false, hcx, g1, g2, g5, afo36_1, afo36_2, afo36_5, asz36, asz3, asz9, Tryd.underlying3, Tryd.underlying9, Tryd.underlying31, str_size, show ((X.a.length : Int) > 200) = False by simp; omega, show ((X.b.length : Int) > 200) = True by simp; omega]
      exact ⟨by omega, by omega, hk s⟩
    by_cases c3 : X.n < 1152921504606846976
    case neg =>
      simp (config := { implicitDefEqProofs := false }) only [↓GP, ↓GM, GQ, abuiltinX, ↓awp_seq, ↓awp_block, C_ex, Nat.reduceBEq, acap, afieldAddr, aload, astore, abin, anum, astr, aun, isAggD, cond_true, cond_false, ↓reduceIte, C_P, C_G, isTuple, Value.cells, setL, ares, aresL, ares1, reduceCtorEq, Nat.reduceEqDiff, eq_self, Nat.reduceAdd, if_true, if_false, Go.Abs.one, Nat.reduceLeDiff, undef, gsl, aextract, aindexAddr, amake, implies_true, forall_const, alen, abuiltin, anil, isC, Int.reduceEq, Int.reduceLT, Int.reduceLE, Int.reduceAdd, Int.reduceToNat, Int.reduceNeg, Nat.reduceMul, Nat.reduceSub, abuild, afill, Int.reduceBNe, Int.reduceBEq, h1, h3, h5, h7, h9, h11, hvx, him, Int.ofNat_lt, decide_true, decide_false, hcx, g1, g2, g5, afo36_1, afo36_2, afo36_5, asz36, asz3, asz9, Tryd.underlying3, Tryd.underlying9, Tryd.underlying31, str_size, show ((X.a.length : Int) > 200) = False by simp; omega, show ((X.b.length : Int) > 200) = False by simp; omega, show (X.n ≥ 1152921504606846976) = True by simp; omega]
      exact ⟨by omega, by omega, by omega, hk s⟩
    simp (config := { implicitDefEqProofs := false }) only [↓GP, ↓GM, GQ, abuiltinX, ↓awp_seq, ↓awp_block, C_ex, Nat.reduceBEq, acap, afieldAddr, aload, astore, abin, anum, astr, aun, isAggD, cond_true, cond_false, ↓reduceIte, C_P, C_G, isTuple, Value.cells, setL, ares, aresL, ares1, reduceCtorEq, Nat.reduceEqDiff, eq_self, Nat.reduceAdd, if_true, if_false, Go.Abs.one, Nat.reduceLeDiff, undef, gsl, aextract, aindexAddr, amake, implies_true, forall_const, alen, abuiltin, anil, isC, Int.reduceEq, Int.reduceLT, Int.reduceLE, Int.reduceAdd, Int.reduceToNat, Int.reduceNeg, Nat.reduceMul, Nat.reduceSub, abuild, afill, Int.reduceBNe, Int.reduceBEq, h1, h3, h5, h7, h9, h11, hvx, him, Int.ofNat_lt, decide_true, decide_false, hcx, g1, g2, g5, afo36_1, afo36_2, afo36_5, asz36, asz3, asz9, Tryd.underlying3, Tryd.underlying9, Tryd.underlying31, str_size, show ((X.a.length : Int) > 200) = False by simp; omega, show ((X.b.length : Int) > 200) = False by simp; omega, show (X.n ≥ 1152921504606846976) = False by simp; omega, w1]
    refine ⟨by omega, by omega, by omega, cs.length - (i + 1), by omega, i + 1, rfl, by omega, fun x hx => ?_, rfl, hs⟩
    rw [htk] at hx
    rcases List.mem_append.1 hx with hx | hx
    · exact hcs x hx
    · rw [List.mem_singleton.1 hx]; exact ⟨c1, c2, c3⟩
  · obtain rfl : i = cs.length := by omega
    rw [List.take_length] at hcs
    simp (config := { implicitDefEqProofs := false }) only [↓GP, ↓GM, GQ, abuiltinX, ↓awp_seq, ↓awp_block, C_ex, Nat.reduceBEq, acap, afieldAddr, aload, astore, abin, anum, astr, aun, isAggD, cond_true, cond_false, ↓reduceIte, C_P, C_G, isTuple, Value.cells, setL, ares, aresL, ares1, reduceCtorEq, Nat.reduceEqDiff, eq_self, Nat.reduceAdd, if_true, if_false, Go.Abs.one, Nat.reduceLeDiff, undef, gsl, aextract, aindexAddr, amake, implies_true, forall_const, alen, abuiltin, anil, isC, Int.reduceEq, Int.reduceLT, Int.reduceLE, Int.reduceAdd, Int.reduceToNat, Int.reduceNeg, Nat.reduceMul, Nat.reduceSub, abuild, afill, Int.reduceBNe, Int.reduceBEq, h1, h3, h5, h7, h9, h11, htv, Int.ofNat_lt, Nat.lt_irrefl, decide_false, Tryd.underlying31]
    have hcok : ∀ x ∈ cs, x.ok := fun x hx => by
      have h1 := hct x hx
      have h2 := hcs x hx
      exact ⟨h1.1, h1.2.1, h1.2.2.1, by have := h2.2.2; omega, h1.2.2.2.1, h1.2.2.2.2⟩
    have hd0 : (⟨0, [], []⟩ : DS).ok := ⟨fun x hx => (by cases hx), by show (-9223372036854775808 : Int) ≤ 0; decide, by show (0 : Int) ≤ 1152921504606846976; decide⟩
    rw [← htv]
    refine ACallF.enter Tryd.func11 rfl (by kernel_rfl) (LApply_spec s (h2 ++ R) h D U kk ⟨0, [], []⟩ cv cs hd0 hcok (by show 0 + cs.length ≤ 100000; omega) hD (hcR.sub fun e he => List.mem_append_right h2 he) hs _ _ fun h' s2 hD' hs2 => ?_)
    have hdi : DI (apL ⟨0, [], []⟩ cs) := DI.apL (DI.nil 0) fun x hx => ⟨hcok x hx, (hcs x hx).1⟩
    have hdk : (apL ⟨0, [], []⟩ cs).ok := apL_ok hd0 hcok
    have hdL : (apL ⟨0, [], []⟩ cs).L.length ≤ 60 := Nat.le_trans apL_len (by show 0 + cs.length ≤ 60; omega)
    have hdF : (apL ⟨0, [], []⟩ cs).F.length ≤ 60 := Nat.le_trans apL_lenF (by show 0 + cs.length ≤ 60; omega)
    generalize apL ⟨0, [], []⟩ cs = d at *
    simp (config := { implicitDefEqProofs := false }) only [↓GP, ↓GM, GQ, abuiltinX, ↓awp_seq, ↓awp_block, C_ex, Nat.reduceBEq, acap, afieldAddr, aload, astore, abin, anum, astr, aun, isAggD, cond_true, cond_false, ↓reduceIte, C_P, C_G, isTuple, Value.cells, setL, ares, aresL, ares1, reduceCtorEq, Nat.reduceEqDiff, eq_self, Nat.reduceAdd, if_true, if_false, Go.Abs.one, Nat.reduceLeDiff, undef, gsl, aextract, aindexAddr, amake, implies_true, forall_const, alen, abuiltin, anil, isC, Int.reduceEq, Int.reduceLT, Int.reduceLE, Int.reduceAdd, Int.reduceToNat, Int.reduceNeg, Nat.reduceMul, Nat.reduceSub, abuild, afill, Int.reduceBNe, Int.reduceBEq, h1, h3, h5, h7, h9, h11]
    refine ACallF.enter Tryd.func16 rfl (by kernel_rfl) (LDump_spec s2 (h2 ++ R) h' D U kk d (by omega) (by omega) (fun x hx => Nat.le_trans (hdi.each x hx).2.2 (by decide)) hD' hs2 _ _ fun K v g s3 hK hG hs3 => ?_)
    obtain ⟨va, vc, hvs⟩ := hG.isSlice
    have hdl := dump_len hK
    have hdo := dump_ok hdk hdi hK
    have hs4 : Own s3 (h2 ++ (g ++ (h' ++ R))) := hs3.perm (by simpa using perm_of [g, h', h2, R] [0, 1, 2, 3] [2, 0, 1, 3] rfl)
    have hcl : CL' (g ++ (h' ++ R)) v (dumpL d K) := cl_of rfl hG
    simp (config := { implicitDefEqProofs := false }) only [↓GP, ↓GM, GQ, abuiltinX, ↓awp_seq, ↓awp_block, C_ex, Nat.reduceBEq, acap, afieldAddr, aload, astore, abin, anum, astr, aun, isAggD, cond_true, cond_false, ↓reduceIte, C_P, C_G, isTuple, Value.cells, setL, ares, aresL, ares1, reduceCtorEq, Nat.reduceEqDiff, eq_self, Nat.reduceAdd, if_true, if_false, Go.Abs.one, Nat.reduceLeDiff, undef, gsl, aextract, aindexAddr, amake, implies_true, forall_const, alen, abuiltin, anil, isC, Int.reduceEq, Int.reduceLT, Int.reduceLE, Int.reduceAdd, Int.reduceToNat, Int.reduceNeg, Nat.reduceMul, Nat.reduceSub, abuild, afill, Int.reduceBNe, Int.reduceBEq, h1, h3, h5, h7, h9, h11]
    refine ACallF.enter Tryd.func11 rfl (by kernel_rfl) (LApply_spec s3 (g ++ (h' ++ R)) h2 E U kk ⟨0, [], []⟩ v (dumpL d K) hd0 hdo (by show 0 + _ ≤ 100000; omega) hE hcl hs4 _ _ fun h2' s5 hE' hs5 => ?_)
    rw [apL_dump hdi hK] at hE'
    rw [dump_my]
    have h2ok : (again d K).ok := by have := apL_ok hd0 hdo; rwa [apL_dump hdi hK] at this
    simp (config := { implicitDefEqProofs := false }) only [↓GP, ↓GM, GQ, abuiltinX, ↓awp_seq, ↓awp_block, C_ex, Nat.reduceBEq, acap, afieldAddr, aload, astore, abin, anum, astr, aun, isAggD, cond_true, cond_false, ↓reduceIte, C_P, C_G, isTuple, Value.cells, setL, ares, aresL, ares1, reduceCtorEq, Nat.reduceEqDiff, eq_self, Nat.reduceAdd, if_true, if_false, Go.Abs.one, Nat.reduceLeDiff, undef, gsl, aextract, aindexAddr, amake, implies_true, forall_const, alen, abuiltin, anil, isC, Int.reduceEq, Int.reduceLT, Int.reduceLE, Int.reduceAdd, Int.reduceToNat, Int.reduceNeg, Nat.reduceMul, Nat.reduceSub, abuild, afill, Int.reduceBNe, Int.reduceBEq, h1, h3, h5, h7, h9, h11, hvs, Tryd.underlying31, show (((dumpL d K).length : Int) == ((dumpL d K).length : Int)) = true by simp, Bool.not_true]
    have hKl : K.length ≤ 60 := by have := hK.1.length_eq; rw [List.length_map] at this; omega
    refine ACallF.enter Tryd.func16 rfl (by kernel_rfl) (LDump_spec s5 (g ++ (h' ++ R)) h2' E U kk (again d K) (by show d.L.length ≤ 100000; omega) (by show (K.map fun a => (a, gF d.F a)).length ≤ 100000; rw [List.length_map]; omega) (fun x hx => by
      obtain ⟨a, ha, rfl⟩ := List.mem_map.1 hx
      exact Nat.le_trans (hK.bt hdi a ha).2.2 (by decide)) hE' hs5 _ _ fun K2 v2 g2 s6 hK2 hG2 hs6 => ?_)
    obtain rfl : K2 = K := again_keys hdi hK hK2
    rw [again_dump hK] at hG2
    obtain ⟨va2, vc2, hvs2⟩ := hG2.isSlice
    have hcl2 : CL' (g2 ++ (h2' ++ (g ++ (h' ++ R)))) v2 (dumpL d K2) := cl_of rfl hG2
    have hcl1 : CL' (g2 ++ (h2' ++ (g ++ (h' ++ R)))) v (dumpL d K2) := hcl.sub fun e he => List.mem_append_right g2 (List.mem_append_right h2' he)
    simp (config := { implicitDefEqProofs := false }) only [↓GP, ↓GM, GQ, abuiltinX, ↓awp_seq, ↓awp_block, C_ex, Nat.reduceBEq, acap, afieldAddr, aload, astore, abin, anum, astr, aun, isAggD, cond_true, cond_false, ↓reduceIte, C_P, C_G, isTuple, Value.cells, setL, ares, aresL, ares1, reduceCtorEq, Nat.reduceEqDiff, eq_self, Nat.reduceAdd, if_true, if_false, Go.Abs.one, Nat.reduceLeDiff, undef, gsl, aextract, aindexAddr, amake, implies_true, forall_const, alen, abuiltin, anil, isC, Int.reduceEq, Int.reduceLT, Int.reduceLE, Int.reduceAdd, Int.reduceToNat, Int.reduceNeg, Nat.reduceMul, Nat.reduceSub, abuild, afill, Int.reduceBNe, Int.reduceBEq, h1, h3, h5, h7, h9, h11]
    refine ACallF.enter Tryd.func17 rfl (by kernel_rfl) (RSame_spec s6 _ v2 _ (dumpL d K2) (by omega) hcl2 hcl1 hs6 _ _ fun s7 hs7 => ?_)
    have hs8 : Own s7 (h' ++ (h2' ++ R)) := (hs7.right.perm (by simpa using perm_of [h2', g, h', R] [0, 1, 2, 3] [1, 2, 0, 3] rfl)).right
    have hcA : s7.H A = some (.cells [.int .i64 ac.kind, .int .i64 ac.now, .string (str ac.name), .bool ac.good, .int .i64 ac.c.k, .string (str ac.c.a), .string (str ac.c.b), .string (str ac.c.c), .string (str ac.c.d), .int .i64 ac.c.n, .int .i64 ac.c.m] 47 true) := hs8.get (List.mem_append_right h' (List.mem_append_right h2' hAR))
    simp (config := { implicitDefEqProofs := false }) only [↓GP, ↓GM, GQ, abuiltinX, ↓awp_seq, ↓awp_block, C_ex, Nat.reduceBEq, acap, afieldAddr, aload, astore, abin, anum, astr, aun, isAggD, cond_true, cond_false, ↓reduceIte, C_P, C_G, isTuple, Value.cells, setL, ares, aresL, ares1, reduceCtorEq, Nat.reduceEqDiff, eq_self, Nat.reduceAdd, if_true, if_false, Go.Abs.one, Nat.reduceLeDiff, undef, gsl, aextract, aindexAddr, amake, implies_true, forall_const, alen, abuiltin, anil, isC, Int.reduceEq, Int.reduceLT, Int.reduceLE, Int.reduceAdd, Int.reduceToNat, Int.reduceNeg, Nat.reduceMul, Nat.reduceSub, abuild, afill, Int.reduceBNe, Int.reduceBEq, h1, h3, h5, h7, h9, h11, Bool.not_true, hcA, asz47, Tryd.underlying47, afo47_1, afo47_2, afo47_3, afo47_4, afo36_1, asz3, asz4, asz9, Tryd.underlying3, Tryd.underlying4, Tryd.underlying9]
    refine ACallF.enter Tryd.func10 rfl (by kernel_rfl) (LTry_spec s7 (h2' ++ R) h' D U kk d.c ac.now d.F d.L ac.name ac.good ok hT hU ha1 (by omega) hdk.1 hdk.2.2 hdk.2.1 (by decide) hD' (List.mem_append_right h2' hKR) hs8 _ _ fun x1 t1 s9 hx1 hs9 => ?_)
    have hs10 : Own s9 (h2' ++ (t1 ++ (h' ++ R))) := hs9.perm (by simpa using perm_of [t1, h', h2', R] [0, 1, 2, 3] [2, 0, 1, 3] rfl)
    have hcA : s9.H A = some (.cells [.int .i64 ac.kind, .int .i64 ac.now, .string (str ac.name), .bool ac.good, .int .i64 ac.c.k, .string (str ac.c.a), .string (str ac.c.b), .string (str ac.c.c), .string (str ac.c.d), .int .i64 ac.c.n, .int .i64 ac.c.m] 47 true) := hs9.get (List.mem_append_right t1 (List.mem_append_right h' (List.mem_append_right h2' hAR)))
    obtain ⟨xa1, xc1, hxs1, _⟩ := hx1.isSlice
    rw [hxs1] at hx1 ⊢
    simp (config := { implicitDefEqProofs := false }) only [↓GP, ↓GM, GQ, abuiltinX, ↓awp_seq, ↓awp_block, C_ex, Nat.reduceBEq, acap, afieldAddr, aload, astore, abin, anum, astr, aun, isAggD, cond_true, cond_false, ↓reduceIte, C_P, C_G, isTuple, Value.cells, setL, ares, aresL, ares1, reduceCtorEq, Nat.reduceEqDiff, eq_self, Nat.reduceAdd, if_true, if_false, Go.Abs.one, Nat.reduceLeDiff, undef, gsl, aextract, aindexAddr, amake, implies_true, forall_const, alen, abuiltin, anil, isC, Int.reduceEq, Int.reduceLT, Int.reduceLE, Int.reduceAdd, Int.reduceToNat, Int.reduceNeg, Nat.reduceMul, Nat.reduceSub, abuild, afill, Int.reduceBNe, Int.reduceBEq, h1, h3, h5, h7, h9, h11, Bool.not_true, hcA, asz47, Tryd.underlying47, afo47_1, afo47_2, afo47_3, afo47_4, afo36_1, asz3, asz4, asz9, Tryd.underlying3, Tryd.underlying4, Tryd.underlying9]
    refine ACallF.enter Tryd.func10 rfl (by kernel_rfl) (LTry_spec s9 (t1 ++ (h' ++ R)) h2' E U kk (again d K2).c ac.now (again d K2).F (again d K2).L ac.name ac.good ok hT hU ha1 (by show d.L.length ≤ 100000; omega) h2ok.1 h2ok.2.2 h2ok.2.1 (by decide) hE' (List.mem_append_right t1 (List.mem_append_right h' hKR)) hs10 _ _ fun x2 t2 s11 hx2 hs11 => ?_)
    rw [again_try hK] at hx2 ⊢
    obtain ⟨xa2, xc2, hxs2, _⟩ := hx2.isSlice
    rw [hxs2] at hx2 ⊢
    have hs12 : Own s11 (h' ++ (t2 ++ (h2' ++ (t1 ++ R)))) := hs11.perm (by simpa using perm_of [t2, h2', t1, h', R] [0, 1, 2, 3, 4] [3, 0, 1, 2, 4] rfl)
    have hcA : s11.H A = some (.cells [.int .i64 ac.kind, .int .i64 ac.now, .string (str ac.name), .bool ac.good, .int .i64 ac.c.k, .string (str ac.c.a), .string (str ac.c.b), .string (str ac.c.c), .string (str ac.c.d), .int .i64 ac.c.n, .int .i64 ac.c.m] 47 true) := hs12.get (List.mem_append_right h' (List.mem_append_right t2 (List.mem_append_right h2' (List.mem_append_right t1 hAR))))
    simp (config := { implicitDefEqProofs := false }) only [↓GP, ↓GM, GQ, abuiltinX, ↓awp_seq, ↓awp_block, C_ex, Nat.reduceBEq, acap, afieldAddr, aload, astore, abin, anum, astr, aun, isAggD, cond_true, cond_false, ↓reduceIte, C_P, C_G, isTuple, Value.cells, setL, ares, aresL, ares1, reduceCtorEq, Nat.reduceEqDiff, eq_self, Nat.reduceAdd, if_true, if_false, Go.Abs.one, Nat.reduceLeDiff, undef, gsl, aextract, aindexAddr, amake, implies_true, forall_const, alen, abuiltin, anil, isC, Int.reduceEq, Int.reduceLT, Int.reduceLE, Int.reduceAdd, Int.reduceToNat, Int.reduceNeg, Nat.reduceMul, Nat.reduceSub, abuild, afill, Int.reduceBNe, Int.reduceBEq, h1, h3, h5, h7, h9, h11, Bool.not_true, hcA, asz47, Tryd.underlying47, afo47_1, afo47_2, afo47_3, afo47_4, afo36_1, asz3, asz4, asz9, Tryd.underlying3, Tryd.underlying4, Tryd.underlying9]
    refine ACallF.enter Tryd.func12 rfl (by kernel_rfl) (LWho_spec s11 (t2 ++ (h2' ++ (t1 ++ R))) h' D U kk d.c ac.now d.F d.L ac.c.a hU ha2 (by omega) hD' hs12 _ _ fun s13 hs13 => ?_)
    have hs14 : Own s13 (h2' ++ (h' ++ (t2 ++ (t1 ++ R)))) := hs13.perm (by simpa using perm_of [h', t2, h2', t1, R] [0, 1, 2, 3, 4] [2, 0, 1, 3, 4] rfl)
    have hcA : s13.H A = some (.cells [.int .i64 ac.kind, .int .i64 ac.now, .string (str ac.name), .bool ac.good, .int .i64 ac.c.k, .string (str ac.c.a), .string (str ac.c.b), .string (str ac.c.c), .string (str ac.c.d), .int .i64 ac.c.n, .int .i64 ac.c.m] 47 true) := hs13.get (List.mem_append_right h' (List.mem_append_right t2 (List.mem_append_right h2' (List.mem_append_right t1 hAR))))
    simp (config := { implicitDefEqProofs := false }) only [↓GP, ↓GM, GQ, abuiltinX, ↓awp_seq, ↓awp_block, C_ex, Nat.reduceBEq, acap, afieldAddr, aload, astore, abin, anum, astr, aun, isAggD, cond_true, cond_false, ↓reduceIte, C_P, C_G, isTuple, Value.cells, setL, ares, aresL, ares1, reduceCtorEq, Nat.reduceEqDiff, eq_self, Nat.reduceAdd, if_true, if_false, Go.Abs.one, Nat.reduceLeDiff, undef, gsl, aextract, aindexAddr, amake, implies_true, forall_const, alen, abuiltin, anil, isC, Int.reduceEq, Int.reduceLT, Int.reduceLE, Int.reduceAdd, Int.reduceToNat, Int.reduceNeg, Nat.reduceMul, Nat.reduceSub, abuild, afill, Int.reduceBNe, Int.reduceBEq, whoV, h1, h3, h5, h7, h9, h11, Bool.not_true, hcA, asz47, Tryd.underlying47, afo47_1, afo47_2, afo47_3, afo47_4, afo36_1, asz3, asz4, asz9, Tryd.underlying3, Tryd.underlying4, Tryd.underlying9]
    refine ACallF.enter Tryd.func12 rfl (by kernel_rfl) (LWho_spec s13 (h' ++ (t2 ++ (t1 ++ R))) h2' E U kk (again d K2).c ac.now (again d K2).F (again d K2).L ac.c.a hU ha2 (by show d.L.length ≤ 100000; omega) hE' hs14 _ _ fun s15 hs15 => ?_)
    rw [show (again d K2).L = d.L from rfl]
    have hcA : s15.H A = some (.cells [.int .i64 ac.kind, .int .i64 ac.now, .string (str ac.name), .bool ac.good, .int .i64 ac.c.k, .string (str ac.c.a), .string (str ac.c.b), .string (str ac.c.c), .string (str ac.c.d), .int .i64 ac.c.n, .int .i64 ac.c.m] 47 true) := hs15.get (List.mem_append_right h2' (List.mem_append_right h' (List.mem_append_right t2 (List.mem_append_right t1 hAR))))
    generalize whoF U d.L ac.c.a ac.now = W at *
    generalize hXX : tryF U kk d.c d.F d.L ac.name ac.good ac.now = X at *
    simp (config := { implicitDefEqProofs := false }) only [↓GP, ↓GM, GQ, abuiltinX, ↓awp_seq, ↓awp_block, C_ex, Nat.reduceBEq, acap, afieldAddr, aload, astore, abin, anum, astr, aun, isAggD, cond_true, cond_false, ↓reduceIte, C_P, C_G, isTuple, Value.cells, setL, ares, aresL, ares1, reduceCtorEq, Nat.reduceEqDiff, eq_self, Nat.reduceAdd, if_true, if_false, Go.Abs.one, Nat.reduceLeDiff, undef, gsl, aextract, aindexAddr, amake, implies_true, forall_const, alen, abuiltin, anil, isC, Int.reduceEq, Int.reduceLT, Int.reduceLE, Int.reduceAdd, Int.reduceToNat, Int.reduceNeg, Nat.reduceMul, Nat.reduceSub, abuild, afill, Int.reduceBNe, Int.reduceBEq, whoV, h1, h3, h5, h7, h9, h11]
    refine ADraw.of [(0, false, []), (1, false, []), (2, false, []), (3, false, []), (4, false, []), (5, false, []), (6, false, []), (7, false, []), (8, false, []), (9, false, []), (10, false, []), (11, false, []), (12, false, []), (13, false, []), (14, false, []), (15, false, []), (16, false, []), (17, false, []), (18, false, []), (19, false, []), (20, false, []), (21, false, []), (22, false, []), (23, false, []), (24, false, []), (25, false, []), (26, false, []), (27, false, []), (28, false, []), (29, false, []), (30, false, []), (31, false, []), (33, false, []), (34, false, []), (35, true, []), (32, false, [35]), (36, false, []), (37, false, []), (38, false, []), (39, false, [])] [35] [(35, 32)] (by kernel_rfl) ?_
    have e1 : (X.2.2 == X.2.2) = true := by simp
    have e2 : ((str X.2.1).toList == (str X.2.1).toList) = true := by simp
    have e3 : ((str W.1).toList == (str W.1).toList) = true := by simp
    have e4 : (W.2.1 == W.2.1) = true := by simp
    have e5 : (W.2.2 == W.2.2) = true := by simp
    simp (config := { implicitDefEqProofs := false }) only [↓GP, ↓GM, GQ, abuiltinX, ↓awp_seq, ↓awp_block, C_ex, Nat.reduceBEq, acap, afieldAddr, aload, astore, abin, anum, astr, aun, isAggD, cond_true, cond_false, ↓reduceIte, C_P, C_G, isTuple, Value.cells, setL, ares, aresL, ares1, reduceCtorEq, Nat.reduceEqDiff, eq_self, Nat.reduceAdd, if_true, if_false, Go.Abs.one, Nat.reduceLeDiff, undef, gsl, aextract, aindexAddr, amake, implies_true, forall_const, alen, abuiltin, anil, isC, Int.reduceEq, Int.reduceLT, Int.reduceLE, Int.reduceAdd, Int.reduceToNat, Int.reduceNeg, Nat.reduceMul, Nat.reduceSub, abuild, afill, Int.reduceBNe, Int.reduceBEq, h1, h3, h5, h7, h9, h11, hcA, asz47, Tryd.underlying47, afo47_1, afo47_2, afo47_3, afo47_4, afo36_1, asz3, asz4, asz9, Tryd.underlying3, Tryd.underlying4, Tryd.underlying9, e1, e2, e3, e4, e5]
    have hXl : X.1.length ≤ 1000000 := by rw [← hXX]; exact Nat.le_trans tryF_len (by decide)
    have hAF : (A, Ob.cells ac.cells 47 true) ∈ h2' ++ (h' ++ (t2 ++ (t1 ++ R))) := List.mem_append_right h2' (List.mem_append_right h' (List.mem_append_right t2 (List.mem_append_right t1 hAR)))
    refine ACallF.enter Tryd.func17 rfl (by kernel_rfl) (RSame_spec s15 _ _ _ X.1 hXl (hx1.sub fun e he => by simp [he]) (hx2.sub fun e he => by simp [he]) hs15 _ _ fun s16 hs16 => ?_)
    have hcA : s16.H A = some (.cells [.int .i64 ac.kind, .int .i64 ac.now, .string (str ac.name), .bool ac.good, .int .i64 ac.c.k, .string (str ac.c.a), .string (str ac.c.b), .string (str ac.c.c), .string (str ac.c.d), .int .i64 ac.c.n, .int .i64 ac.c.m] 47 true) := hs16.get hAF
    simp (config := { implicitDefEqProofs := false }) only [↓GP, ↓GM, GQ, abuiltinX, ↓awp_seq, ↓awp_block, C_ex, Nat.reduceBEq, acap, afieldAddr, aload, astore, abin, anum, astr, aun, isAggD, cond_true, cond_false, ↓reduceIte, C_P, C_G, isTuple, Value.cells, setL, ares, aresL, ares1, reduceCtorEq, Nat.reduceEqDiff, eq_self, Nat.reduceAdd, if_true, if_false, Go.Abs.one, Nat.reduceLeDiff, undef, gsl, aextract, aindexAddr, amake, implies_true, forall_const, alen, abuiltin, anil, isC, Int.reduceEq, Int.reduceLT, Int.reduceLE, Int.reduceAdd, Int.reduceToNat, Int.reduceNeg, Nat.reduceMul, Nat.reduceSub, abuild, afill, Int.reduceBNe, Int.reduceBEq, whoV, h1, h3, h5, h7, h9, h11, hcA, asz47, Tryd.underlying47, afo47_1, afo47_2, afo47_3, afo47_4, afo36_1, asz3, asz4, asz9, Tryd.underlying3, Tryd.underlying4, Tryd.underlying9, e1, e2, e3, e4, e5]
    have hs17 : Own s16 (h' ++ (h2' ++ (t2 ++ (t1 ++ R)))) := hs16.perm (perm_swap h2' h' _)
    refine ACallF.enter Tryd.func14 rfl (by kernel_rfl) (LStale_spec s16 (h2' ++ (t2 ++ (t1 ++ R))) h' D U kk d ac.now hU (by omega) hD' hs17 _ _ fun y1 z1 s18 hy1 hs18 => ?_)
    have hcA : s18.H A = some (.cells [.int .i64 ac.kind, .int .i64 ac.now, .string (str ac.name), .bool ac.good, .int .i64 ac.c.k, .string (str ac.c.a), .string (str ac.c.b), .string (str ac.c.c), .string (str ac.c.d), .int .i64 ac.c.n, .int .i64 ac.c.m] 47 true) := hs18.get (List.mem_append_right z1 (List.mem_append_right h' (List.mem_append_right h2' (List.mem_append_right t2 (List.mem_append_right t1 hAR)))))
    have hs19 : Own s18 (h2' ++ (z1 ++ (h' ++ (t2 ++ (t1 ++ R))))) := hs18.perm (by simpa using perm_of [z1, h', h2', t2 ++ (t1 ++ R)] [0, 1, 2, 3] [2, 0, 1, 3] rfl)
    simp (config := { implicitDefEqProofs := false }) only [↓GP, ↓GM, GQ, abuiltinX, ↓awp_seq, ↓awp_block, C_ex, Nat.reduceBEq, acap, afieldAddr, aload, astore, abin, anum, astr, aun, isAggD, cond_true, cond_false, ↓reduceIte, C_P, C_G, isTuple, Value.cells, setL, ares, aresL, ares1, reduceCtorEq, Nat.reduceEqDiff, eq_self, Nat.reduceAdd, if_true, if_false, Go.Abs.one, Nat.reduceLeDiff, undef, gsl, aextract, aindexAddr, amake, implies_true, forall_const, alen, abuiltin, anil, isC, Int.reduceEq, Int.reduceLT, Int.reduceLE, Int.reduceAdd, Int.reduceToNat, Int.reduceNeg, Nat.reduceMul, Nat.reduceSub, abuild, afill, Int.reduceBNe, Int.reduceBEq, whoV, h1, h3, h5, h7, h9, h11, hcA, asz47, Tryd.underlying47, afo47_1, afo47_2, afo47_3, afo47_4, afo36_1, asz3, asz4, asz9, Tryd.underlying3, Tryd.underlying4, Tryd.underlying9, e1, e2, e3, e4, e5]
    refine ACallF.enter Tryd.func14 rfl (by kernel_rfl) (LStale_spec s18 (z1 ++ (h' ++ (t2 ++ (t1 ++ R)))) h2' E U kk (again d K2) ac.now hU (by show d.L.length ≤ 100000; omega) hE' hs19 _ _ fun y2 z2 s20 hy2 hs20 => ?_)
    rw [show (again d K2).L = d.L from rfl] at hy2
    have hcA : s20.H A = some (.cells [.int .i64 ac.kind, .int .i64 ac.now, .string (str ac.name), .bool ac.good, .int .i64 ac.c.k, .string (str ac.c.a), .string (str ac.c.b), .string (str ac.c.c), .string (str ac.c.d), .int .i64 ac.c.n, .int .i64 ac.c.m] 47 true) := hs20.get (List.mem_append_right z2 (List.mem_append_right h2' (List.mem_append_right z1 (List.mem_append_right h' (List.mem_append_right t2 (List.mem_append_right t1 hAR))))))
    simp (config := { implicitDefEqProofs := false }) only [↓GP, ↓GM, GQ, abuiltinX, ↓awp_seq, ↓awp_block, C_ex, Nat.reduceBEq, acap, afieldAddr, aload, astore, abin, anum, astr, aun, isAggD, cond_true, cond_false, ↓reduceIte, C_P, C_G, isTuple, Value.cells, setL, ares, aresL, ares1, reduceCtorEq, Nat.reduceEqDiff, eq_self, Nat.reduceAdd, if_true, if_false, Go.Abs.one, Nat.reduceLeDiff, undef, gsl, aextract, aindexAddr, amake, implies_true, forall_const, alen, abuiltin, anil, isC, Int.reduceEq, Int.reduceLT, Int.reduceLE, Int.reduceAdd, Int.reduceToNat, Int.reduceNeg, Nat.reduceMul, Nat.reduceSub, abuild, afill, Int.reduceBNe, Int.reduceBEq, whoV, h1, h3, h5, h7, h9, h11, hcA, asz47, Tryd.underlying47, afo47_1, afo47_2, afo47_3, afo47_4, afo36_1, asz3, asz4, asz9, Tryd.underlying3, Tryd.underlying4, Tryd.underlying9, e1, e2, e3, e4, e5]
    have hyl : (staleF U d.L ac.now).length ≤ 1000000 := by
      unfold staleF
      rw [List.length_map]
      exact Nat.le_trans (List.length_filter_le _ _) (by omega)
    have hy1' : CL' (z2 ++ (h2' ++ (z1 ++ (h' ++ (t2 ++ (t1 ++ R)))))) y1 (staleF U d.L ac.now) := (cl_of (r := []) rfl hy1).sub fun e he => by simp at he ⊢; simp [he]
    have hy2' : CL' (z2 ++ (h2' ++ (z1 ++ (h' ++ (t2 ++ (t1 ++ R)))))) y2 (staleF U d.L ac.now) := (cl_of (r := []) rfl hy2).sub fun e he => by simp at he ⊢; simp [he]
    refine ACallF.enter Tryd.func17 rfl (by kernel_rfl) (RSame_spec s20 _ _ _ (staleF U d.L ac.now) hyl hy1' hy2' hs20 _ _ fun s21 hs21 => ?_)
    simp (config := { implicitDefEqProofs := false }) only [↓GP, ↓GM, GQ, abuiltinX, ↓awp_seq, ↓awp_block, C_ex, Nat.reduceBEq, acap, afieldAddr, aload, astore, abin, anum, astr, aun, isAggD, cond_true, cond_false, ↓reduceIte, C_P, C_G, isTuple, Value.cells, setL, ares, aresL, ares1, reduceCtorEq, Nat.reduceEqDiff, eq_self, Nat.reduceAdd, if_true, if_false, Go.Abs.one, Nat.reduceLeDiff, undef, gsl, aextract, aindexAddr, amake, implies_true, forall_const, alen, abuiltin, anil, isC, Int.reduceEq, Int.reduceLT, Int.reduceLE, Int.reduceAdd, Int.reduceToNat, Int.reduceNeg, Nat.reduceMul, Nat.reduceSub, abuild, afill, Int.reduceBNe, Int.reduceBEq, whoV, h1, h3, h5, h7, h9, h11, e1, e2, e3, e4, e5]
    exact hk _
end Go.Proofs.YthohmdkibkompaaDoor
