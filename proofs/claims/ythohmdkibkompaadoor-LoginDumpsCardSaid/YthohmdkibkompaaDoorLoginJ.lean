/- The walk of LoginEnds. No conditions. -/
import Derived.Test.YthohmdkibkompaaDoorLoginI
set_option linter.unusedVariables false
set_option linter.unusedSimpArgs false
namespace Go.Proofs.YthohmdkibkompaaDoor
open Go Go.Abs Go.RowKit
variable {base : Nat} {w0 : World} {G : Nat}

def dE (U : Rul) (now : Int) : DS := ⟨1, [], [⟨tagS 0 kk, ann, now⟩]⟩
theorem tagS_bt (c : Int) (key : List Nat) : Bt (tagS c key) := tagN_bt (by unfold Bt; decide)
theorem cut4 {a b c d : Value} : cut [a, b, c, d] 0 4 = some [a, b, c, d] := rfl
theorem tryE {U : Rul} (hU : U.ok = true) {now : Int} (h0 : 0 ≤ now) (h1 : now ≤ 1099511627776) : tryF U kk 0 [] [] ann true now = ([mkC 1 [] [] 1 0, mkC 3 (tagS 0 kk) ann now 0], tagS 0 kk, 0) := by
  have hm : mok now = true := by simp [mok]; omega
  have hU' := of_decide_eq_true hU
  have hr : roomF U [] now = true := decide_eq_true (show ((0 : Nat) : Int) < U.most by omega)
  unfold tryF
  rw [if_neg (by rw [hm]; decide), if_neg (by show ¬ (0 : Int) > now; omega), if_neg (by decide), if_neg (by rw [hr]; decide)]
  rfl
theorem whoE (U : Rul) (now t : Int) : whoF U [⟨tagS 0 kk, ann, now⟩] (tagS 0 kk) t = bif mok t && lv U.life t ⟨tagS 0 kk, ann, now⟩ then (ann, now, true) else ([], 0, false) := by
  have : isId (tagS 0 kk) ⟨tagS 0 kk, ann, now⟩ = true := by simp [isId]
  simp only [whoF, fnd, this, cond_true, List.getElem?_cons_zero]
set_option maxHeartbeats 2000000 in
set_option maxRecDepth 10000 in
theorem LoginEnds_spec (st : St) (r : Hp) (U : Rul) (now later : Int) (ok : Bool) {kt : TypeId} (hl1 : -9223372036854775808 ≤ later) (hl2 : later ≤ 9223372036854775807) (hT : TabOk w0) (hK : (0, .cells (wl ks0) kt ok) ∈ r) (hO : Own st r) (k q : Value → St → Prop) (hk : ∀ st', k (.bool true) st') :
    ACall (C base w0 4) 5 [.agg U.cells.toArray, .int .i64 now, .int .i64 later] st k q := by
  refine ACall.of (cx := C base w0 4) mixed Tryd.func5 rfl (by kernel_rfl) (by simp [Tryd.ntmps5]) ?_
  simp only [Tryd.results5]
  have hO1 := hO.new (.cells U.cells 23 true)
  have hK1 : (0, Ob.cells (wl ks0) kt ok) ∈ (st.n, Ob.cells U.cells 23 true) :: r := List.mem_cons_of_mem _ hK
  simp (config := { implicitDefEqProofs := false }) only [↓GP, ↓GM, GQ, abuiltinX, ↓awp_seq, ↓awp_block, C_ex, Nat.reduceBEq, acap, afieldAddr, aload, astore, abin, anum, astr, aun, isAggD, cond_true, cond_false, ↓reduceIte, C_P, C_G, isTuple, Value.cells, setL, ares, aresL, ares1, reduceCtorEq, Nat.reduceEqDiff, eq_self, Nat.reduceAdd, if_true, if_false, Go.Abs.one, Nat.reduceLeDiff, undef, gsl, aextract, aindexAddr, amake, implies_true, forall_const, alen, abuiltin, anil, isC, Int.reduceEq, Int.reduceLT, Int.reduceLE, Int.reduceAdd, Int.reduceToNat, Int.reduceNeg, Nat.reduceMul, Nat.reduceSub, abuild, afill, Int.reduceBNe, Int.reduceBEq, abox, Rul.cells]
  generalize st.n = T at *
  refine ACallF.enter Tryd.func7 rfl (by kernel_rfl) (Lawake_spec _ _ ok hT hK1 hO1 _ _ fun s1 hs1 => ?_)
  have hcT : s1.H T = some (.cells [.int .i64 U.tries, .int .i64 U.lock, .int .i64 U.life, .int .i64 U.most] 23 true) := hs1.head
  simp (config := { implicitDefEqProofs := false }) only [↓GP, ↓GM, GQ, abuiltinX, ↓awp_seq, ↓awp_block, C_ex, Nat.reduceBEq, acap, afieldAddr, aload, astore, abin, anum, astr, aun, isAggD, cond_true, cond_false, ↓reduceIte, C_P, C_G, isTuple, Value.cells, setL, ares, aresL, ares1, reduceCtorEq, Nat.reduceEqDiff, eq_self, Nat.reduceAdd, if_true, if_false, Go.Abs.one, Nat.reduceLeDiff, undef, gsl, aextract, aindexAddr, amake, implies_true, forall_const, alen, abuiltin, anil, isC, Int.reduceEq, Int.reduceLT, Int.reduceLE, Int.reduceAdd, Int.reduceToNat, Int.reduceNeg, Nat.reduceMul, Nat.reduceSub, abuild, afill, Int.reduceBNe, Int.reduceBEq, Bool.not_true, hcT, asz23, Tryd.underlying23, cut4, Option.map_some]
  refine ACallF.enter Tryd.func8 rfl (by kernel_rfl) (RRight_spec s1 _ U hs1 _ _ fun s2 hs2 => ?_)
  have done : ∀ (s : St) (k' q' : Value → St → Prop), Own s ((T, Ob.cells U.cells 23 true) :: r) → (∀ s', k' (.bool true) s') → ACallF (C base w0 4) 7 [] s k' q' := fun s k' q' hs hk' =>
    ACallF.enter Tryd.func7 rfl (by kernel_rfl) (Lawake_spec s _ ok hT hK1 hs _ _ fun s' _ => hk' s')
  cases hU : U.ok with
  | false =>
    simp (config := { implicitDefEqProofs := false }) only [↓GP, ↓GM, GQ, abuiltinX, ↓awp_seq, ↓awp_block, C_ex, Nat.reduceBEq, acap, afieldAddr, aload, astore, abin, anum, astr, aun, isAggD, cond_true, cond_false, ↓reduceIte, C_P, C_G, isTuple, Value.cells, setL, ares, aresL, ares1, reduceCtorEq, Nat.reduceEqDiff, eq_self, Nat.reduceAdd, if_true, if_false, Go.Abs.one, Nat.reduceLeDiff, undef, gsl, aextract, aindexAddr, amake, implies_true, forall_const, alen, abuiltin, anil, isC, Int.reduceEq, Int.reduceLT, Int.reduceLE, Int.reduceAdd, Int.reduceToNat, Int.reduceNeg, Nat.reduceMul, Nat.reduceSub, abuild, afill, Int.reduceBNe, Int.reduceBEq, Bool.not_false]
    refine done s2 _ _ hs2 fun s' => ?_
    simp (config := { implicitDefEqProofs := false }) only [↓GP, ↓GM, GQ, abuiltinX, ↓awp_seq, ↓awp_block, C_ex, Nat.reduceBEq, acap, afieldAddr, aload, astore, abin, anum, astr, aun, isAggD, cond_true, cond_false, ↓reduceIte, C_P, C_G, isTuple, Value.cells, setL, ares, aresL, ares1, reduceCtorEq, Nat.reduceEqDiff, eq_self, Nat.reduceAdd, if_true, if_false, Go.Abs.one, Nat.reduceLeDiff, undef, gsl, aextract, aindexAddr, amake, implies_true, forall_const, alen, abuiltin, anil, isC, Int.reduceEq, Int.reduceLT, Int.reduceLE, Int.reduceAdd, Int.reduceToNat, Int.reduceNeg, Nat.reduceMul, Nat.reduceSub, abuild, afill, Int.reduceBNe, Int.reduceBEq]
    exact hk s'
  | true =>
  by_cases hn0 : now < 0
  · simp (config := { implicitDefEqProofs := false }) only [↓GP, ↓GM, GQ, abuiltinX, ↓awp_seq, ↓awp_block, C_ex, Nat.reduceBEq, acap, afieldAddr, aload, astore, abin, anum, astr, aun, isAggD, cond_true, cond_false, ↓reduceIte, C_P, C_G, isTuple, Value.cells, setL, ares, aresL, ares1, reduceCtorEq, Nat.reduceEqDiff, eq_self, Nat.reduceAdd, if_true, if_false, Go.Abs.one, Nat.reduceLeDiff, undef, gsl, aextract, aindexAddr, amake, implies_true, forall_const, alen, abuiltin, anil, isC, Int.reduceEq, Int.reduceLT, Int.reduceLE, Int.reduceAdd, Int.reduceToNat, Int.reduceNeg, Nat.reduceMul, Nat.reduceSub, abuild, afill, Int.reduceBNe, Int.reduceBEq, Bool.not_true, hn0, decide_true]
    refine done s2 _ _ hs2 fun s' => ?_
    simp (config := { implicitDefEqProofs := false }) only [↓GP, ↓GM, GQ, abuiltinX, ↓awp_seq, ↓awp_block, C_ex, Nat.reduceBEq, acap, afieldAddr, aload, astore, abin, anum, astr, aun, isAggD, cond_true, cond_false, ↓reduceIte, C_P, C_G, isTuple, Value.cells, setL, ares, aresL, ares1, reduceCtorEq, Nat.reduceEqDiff, eq_self, Nat.reduceAdd, if_true, if_false, Go.Abs.one, Nat.reduceLeDiff, undef, gsl, aextract, aindexAddr, amake, implies_true, forall_const, alen, abuiltin, anil, isC, Int.reduceEq, Int.reduceLT, Int.reduceLE, Int.reduceAdd, Int.reduceToNat, Int.reduceNeg, Nat.reduceMul, Nat.reduceSub, abuild, afill, Int.reduceBNe, Int.reduceBEq]
    exact hk s'
  by_cases hn1 : now > 1099511627776
  · simp (config := { implicitDefEqProofs := false }) only [↓GP, ↓GM, GQ, abuiltinX, ↓awp_seq, ↓awp_block, C_ex, Nat.reduceBEq, acap, afieldAddr, aload, astore, abin, anum, astr, aun, isAggD, cond_true, cond_false, ↓reduceIte, C_P, C_G, isTuple, Value.cells, setL, ares, aresL, ares1, reduceCtorEq, Nat.reduceEqDiff, eq_self, Nat.reduceAdd, if_true, if_false, Go.Abs.one, Nat.reduceLeDiff, undef, gsl, aextract, aindexAddr, amake, implies_true, forall_const, alen, abuiltin, anil, isC, Int.reduceEq, Int.reduceLT, Int.reduceLE, Int.reduceAdd, Int.reduceToNat, Int.reduceNeg, Nat.reduceMul, Nat.reduceSub, abuild, afill, Int.reduceBNe, Int.reduceBEq, Bool.not_true, hn0, hn1, decide_true, decide_false]
    refine done s2 _ _ hs2 fun s' => ?_
    simp (config := { implicitDefEqProofs := false }) only [↓GP, ↓GM, GQ, abuiltinX, ↓awp_seq, ↓awp_block, C_ex, Nat.reduceBEq, acap, afieldAddr, aload, astore, abin, anum, astr, aun, isAggD, cond_true, cond_false, ↓reduceIte, C_P, C_G, isTuple, Value.cells, setL, ares, aresL, ares1, reduceCtorEq, Nat.reduceEqDiff, eq_self, Nat.reduceAdd, if_true, if_false, Go.Abs.one, Nat.reduceLeDiff, undef, gsl, aextract, aindexAddr, amake, implies_true, forall_const, alen, abuiltin, anil, isC, Int.reduceEq, Int.reduceLT, Int.reduceLE, Int.reduceAdd, Int.reduceToNat, Int.reduceNeg, Nat.reduceMul, Nat.reduceSub, abuild, afill, Int.reduceBNe, Int.reduceBEq]
    exact hk s'
  have hU' := of_decide_eq_true hU
  have hcT : s2.H T = some (.cells [.int .i64 U.tries, .int .i64 U.lock, .int .i64 U.life, .int .i64 U.most] 23 true) := hs2.head
  have hs3 := hs2.new (.cells [.int .u8 107] 5 true)
  simp (config := { implicitDefEqProofs := false }) only [↓GP, ↓GM, GQ, abuiltinX, ↓awp_seq, ↓awp_block, C_ex, Nat.reduceBEq, acap, afieldAddr, aload, astore, abin, anum, astr, aun, isAggD, cond_true, cond_false, ↓reduceIte, C_P, C_G, isTuple, Value.cells, setL, ares, aresL, ares1, reduceCtorEq, Nat.reduceEqDiff, eq_self, Nat.reduceAdd, if_true, if_false, Go.Abs.one, Nat.reduceLeDiff, undef, gsl, aextract, aindexAddr, amake, implies_true, forall_const, alen, abuiltin, anil, isC, Int.reduceEq, Int.reduceLT, Int.reduceLE, Int.reduceAdd, Int.reduceToNat, Int.reduceNeg, Nat.reduceMul, Nat.reduceSub, abuild, afill, Int.reduceBNe, Int.reduceBEq, Bool.not_true, hn0, hn1, decide_false, hcT, asz23, Tryd.underlying23, cut4, Option.map_some, build1k, kconv hs3.head]
  refine ACallF.enter Tryd.func9 rfl (by kernel_rfl) (LNew_spec _ _ U kk _ hU nb_k (by decide) hs3 _ _ fun D h s4 hD hs4 => ?_)
  have eann : (⟨#[97, 110, 110]⟩ : ByteArray) = str ann := rfl
  simp (config := { implicitDefEqProofs := false }) only [↓GP, ↓GM, GQ, abuiltinX, ↓awp_seq, ↓awp_block, C_ex, Nat.reduceBEq, acap, afieldAddr, aload, astore, abin, anum, astr, aun, isAggD, cond_true, cond_false, ↓reduceIte, C_P, C_G, isTuple, Value.cells, setL, ares, aresL, ares1, reduceCtorEq, Nat.reduceEqDiff, eq_self, Nat.reduceAdd, if_true, if_false, Go.Abs.one, Nat.reduceLeDiff, undef, gsl, aextract, aindexAddr, amake, implies_true, forall_const, alen, abuiltin, anil, isC, Int.reduceEq, Int.reduceLT, Int.reduceLE, Int.reduceAdd, Int.reduceToNat, Int.reduceNeg, Nat.reduceMul, Nat.reduceSub, abuild, afill, Int.reduceBNe, Int.reduceBEq, Tryd.underlying27, Option.isNone, eann]
  generalize hR : (s2.n, Ob.cells [Value.int .u8 107] 5 true) :: (T, Ob.cells U.cells 23 true) :: r = R at *
  have hKR : (0, Ob.cells (wl ks0) kt ok) ∈ R := by rw [← hR]; simp [hK]
  have hTR : (T, Ob.cells U.cells 23 true) ∈ R := by rw [← hR]; simp
  refine ACallF.enter Tryd.func10 rfl (by kernel_rfl) (LTry_spec s4 R h D U kk 0 now [] [] ann true ok hT hU ann_bt (by decide) (fun x hx => by simp at hx) (by decide) (by decide) (by decide) hD hKR hs4 _ _ fun v g s5 hv hs5 => ?_)
  rw [tryE hU (by omega) (by omega)] at hv ⊢
  simp (config := { implicitDefEqProofs := false }) only [↓GP, ↓GM, GQ, abuiltinX, ↓awp_seq, ↓awp_block, C_ex, Nat.reduceBEq, acap, afieldAddr, aload, astore, abin, anum, astr, aun, isAggD, cond_true, cond_false, ↓reduceIte, C_P, C_G, isTuple, Value.cells, setL, ares, aresL, ares1, reduceCtorEq, Nat.reduceEqDiff, eq_self, Nat.reduceAdd, if_true, if_false, Go.Abs.one, Nat.reduceLeDiff, undef, gsl, aextract, aindexAddr, amake, implies_true, forall_const, alen, abuiltin, anil, isC, Int.reduceEq, Int.reduceLT, Int.reduceLE, Int.reduceAdd, Int.reduceToNat, Int.reduceNeg, Nat.reduceMul, Nat.reduceSub, abuild, afill, Int.reduceBNe, Int.reduceBEq]
  refine ACallF.enter Tryd.func11 rfl (by kernel_rfl) (LApply_spec s5 (g ++ R) h D U kk d0 v _ ⟨fun x hx => by simp [d0] at hx, by decide, by decide⟩ (fun x hx => ?_) (by show 0 + 2 ≤ 100000; decide) hD (hv.sub fun e he => List.mem_append_left _ he) (hs5.perm (perm_swap g h R)) _ _ fun h' s6 hD' hs6 => ?_)
  · simp only [List.mem_cons, List.not_mem_nil, or_false] at hx
    rcases hx with rfl | rfl
    · exact ⟨Bt.nil, Bt.nil, by decide, by decide, by decide, by decide⟩
    · exact ⟨tagS_bt _ _, ann_bt, by show (-9223372036854775808 : Int) ≤ now; omega, by show now ≤ 1152921504606846976; omega, by show (-9223372036854775808 : Int) ≤ 0; decide, by show (0 : Int) ≤ 9223372036854775807; decide⟩
  rw [show apL d0 [mkC 1 [] [] 1 0, mkC 3 (tagS 0 kk) ann now 0] = dE U now from rfl] at hD'
  rw [show myN [mkC 1 [] [] 1 0, mkC 3 (tagS 0 kk) ann now 0] = 2 from rfl]
  have hs7 : Own s6 (h' ++ R) := hs6.sub (List.Sublist.append_left (List.sublist_append_right g R) h')
  have hkd : ∃ kk' : Int, ((IntKind.i64.wrap ((later.tmod 200000000) + 200000000)).tmod 200000000) = kk' ∧ 0 ≤ kk' ∧ kk' < 200000000 := by
    have h1 := Int.tmod_lt_of_pos later (b := 200000000) (by decide)
    have h2 : -200000000 < later.tmod 200000000 := by
      by_cases h : later < 0
      · have h3 := Int.tmod_lt_of_pos (-later) (b := 200000000) (by decide)
        rw [Int.neg_tmod] at h3
        omega
      · have := Int.tmod_nonneg 200000000 (show 0 ≤ later by omega); omega
    refine ⟨_, rfl, ?_, ?_⟩
    · rw [w_i64 (by omega)]; exact Int.tmod_nonneg _ (by omega)
    · exact Int.tmod_lt_of_pos _ (by decide)
  obtain ⟨kv, hkv, hk0, hk1⟩ := hkd
  have wk : IntKind.i64.wrap (now + kv) = now + kv := w_i64 (by omega)
  simp (config := { implicitDefEqProofs := false }) only [↓GP, ↓GM, GQ, abuiltinX, ↓awp_seq, ↓awp_block, C_ex, Nat.reduceBEq, acap, afieldAddr, aload, astore, abin, anum, astr, aun, isAggD, cond_true, cond_false, ↓reduceIte, C_P, C_G, isTuple, Value.cells, setL, ares, aresL, ares1, reduceCtorEq, Nat.reduceEqDiff, eq_self, Nat.reduceAdd, if_true, if_false, Go.Abs.one, Nat.reduceLeDiff, undef, gsl, aextract, aindexAddr, amake, implies_true, forall_const, alen, abuiltin, anil, isC, Int.reduceEq, Int.reduceLT, Int.reduceLE, Int.reduceAdd, Int.reduceToNat, Int.reduceNeg, Nat.reduceMul, Nat.reduceSub, abuild, afill, Int.reduceBNe, Int.reduceBEq, hkv, wk]
  have hm1 : mok (now + kv) = true := by simp [mok]; omega
  have htb := tagS_bt 0 kk
  have hbefore : whoF U [⟨tagS 0 kk, ann, now⟩] (tagS 0 kk) (now - 1) = ([], 0, false) := by
    rw [whoE, show lv U.life (now - 1) ⟨tagS 0 kk, ann, now⟩ = false by simp [lv]; omega, Bool.and_false]; rfl
  have hother : whoF U [⟨tagS 0 kk, ann, now⟩] (tagS 0 kk ++ [120]) now = ([], 0, false) := by
    have : isId (tagS 0 kk ++ [120]) ⟨tagS 0 kk, ann, now⟩ = false := by
      unfold isId
      exact decide_eq_false fun e => by have := congrArg List.length e; simp at this
    simp only [whoF, fnd, this, cond_false, List.getElem?_cons_succ, List.getElem?_nil]
  have htl : (tagS 0 kk).length ≤ 100 := by
    have := dec_len (n := (0 + 1 : Int).toNat) (by decide)
    unfold tagS tagN
    simp only [List.length_append, List.length_take, List.length_cons, List.length_nil]
    omega
  have eadd : astr .add (str (tagS 0 kk)) (⟨#[120]⟩ : ByteArray) = some (.string (str (tagS 0 kk ++ [120]))) := astr_add (b := [120]) (by simp; omega)
  have w3 : IntKind.i64.wrap (now - 1) = now - 1 := w_i64 (by omega)
  have hwho := whoE U now (now + kv)
  have hlv : lv U.life (now + kv) ⟨tagS 0 kk, ann, now⟩ = decide (kv < U.life) := by
    unfold lv
    rw [decide_eq_true (show now ≤ now + kv by omega), Bool.true_and]
    exact decide_eq_decide.2 (by show now + kv < now + U.life ↔ _; omega)
  rw [hm1, hlv, Bool.true_and] at hwho
  have hst : staleF U [⟨tagS 0 kk, ann, now⟩] (now + kv) = bif decide (kv < U.life) then [] else [mkC 4 (tagS 0 kk) [] 0 0] := by
    have : isStale U (now + kv) ⟨tagS 0 kk, ann, now⟩ = !decide (kv < U.life) := by
      rw [isStale, hm1, hlv, decide_eq_true (show now ≤ now + kv by omega)]; rfl
    unfold staleF
    cases h : decide (kv < U.life) <;> rw [h] at this <;> simp [this]
  refine ACallF.enter Tryd.func12 rfl (by kernel_rfl) (LWho_spec s6 R h' D U kk 1 (now + kv) [] [⟨tagS 0 kk, ann, now⟩] (tagS 0 kk) hU htb (show 1 ≤ 100000 by decide) hD' hs7 _ _ fun s8 hs8 => ?_)
  rw [hwho]
  generalize hwv : (bif decide (kv < U.life) then (ann, now, true) else ([], 0, false)) = W at *
  simp (config := { implicitDefEqProofs := false }) only [↓GP, ↓GM, GQ, abuiltinX, ↓awp_seq, ↓awp_block, C_ex, Nat.reduceBEq, acap, afieldAddr, aload, astore, abin, anum, astr, aun, isAggD, cond_true, cond_false, ↓reduceIte, C_P, C_G, isTuple, Value.cells, setL, ares, aresL, ares1, reduceCtorEq, Nat.reduceEqDiff, eq_self, Nat.reduceAdd, if_true, if_false, Go.Abs.one, Nat.reduceLeDiff, undef, gsl, aextract, aindexAddr, amake, implies_true, forall_const, alen, abuiltin, anil, isC, Int.reduceEq, Int.reduceLT, Int.reduceLE, Int.reduceAdd, Int.reduceToNat, Int.reduceNeg, Nat.reduceMul, Nat.reduceSub, abuild, afill, Int.reduceBNe, Int.reduceBEq, whoV, w3]
  refine ACallF.enter Tryd.func12 rfl (by kernel_rfl) (LWho_spec s8 R h' D U kk 1 (now - 1) [] [⟨tagS 0 kk, ann, now⟩] (tagS 0 kk) hU htb (show 1 ≤ 100000 by decide) hD' hs8 _ _ fun s9 hs9 => ?_)
  rw [hbefore]
  simp (config := { implicitDefEqProofs := false }) only [↓GP, ↓GM, GQ, abuiltinX, ↓awp_seq, ↓awp_block, C_ex, Nat.reduceBEq, acap, afieldAddr, aload, astore, abin, anum, aun, isAggD, cond_true, cond_false, ↓reduceIte, C_P, C_G, isTuple, Value.cells, setL, ares, aresL, ares1, reduceCtorEq, Nat.reduceEqDiff, eq_self, Nat.reduceAdd, if_true, if_false, Go.Abs.one, Nat.reduceLeDiff, undef, gsl, aextract, aindexAddr, amake, implies_true, forall_const, alen, abuiltin, anil, isC, Int.reduceEq, Int.reduceLT, Int.reduceLE, Int.reduceAdd, Int.reduceToNat, Int.reduceNeg, Nat.reduceMul, Nat.reduceSub, abuild, afill, Int.reduceBNe, Int.reduceBEq, whoV, eadd]
  refine ACallF.enter Tryd.func12 rfl (by kernel_rfl) (LWho_spec s9 R h' D U kk 1 now [] [⟨tagS 0 kk, ann, now⟩] (tagS 0 kk ++ [120]) hU (htb.app (Bt.one (by decide))) (show 1 ≤ 100000 by decide) hD' hs9 _ _ fun s10 hs10 => ?_)
  rw [hother]
  have hcT : s10.H T = some (.cells [.int .i64 U.tries, .int .i64 U.lock, .int .i64 U.life, .int .i64 U.most] 23 true) := hs10.get (List.mem_append_right h' hTR)
  have eqaa : ((str ann).toList == (str ann).toList) = true := by simp
  have eqnn : (now == now) = true := by simp
  have eqaa : ((str ann).toList == (str ann).toList) = true := by simp
  have eqnn : (now == now) = true := by simp
  cases hkl : decide (kv < U.life) <;> rw [hkl] at hwv hst <;> simp only [cond_true, cond_false] at hwv hst <;> subst hwv
  · simp (config := { implicitDefEqProofs := false }) only [↓GP, ↓GM, GQ, abuiltinX, ↓awp_seq, ↓awp_block, C_ex, Nat.reduceBEq, acap, afieldAddr, aload, astore, abin, anum, astr, aun, isAggD, cond_true, cond_false, ↓reduceIte, C_P, C_G, isTuple, Value.cells, setL, ares, aresL, ares1, reduceCtorEq, Nat.reduceEqDiff, eq_self, Nat.reduceAdd, if_true, if_false, Go.Abs.one, Nat.reduceLeDiff, undef, gsl, aextract, aindexAddr, amake, implies_true, forall_const, alen, abuiltin, anil, isC, Int.reduceEq, Int.reduceLT, Int.reduceLE, Int.reduceAdd, Int.reduceToNat, Int.reduceNeg, Nat.reduceMul, Nat.reduceSub, abuild, afill, Int.reduceBNe, Int.reduceBEq, whoV, hcT, afo23_2, asz3, Tryd.underlying3, Tryd.underlying4, hkl, eann, eqaa, eqnn, wk]
    refine ACallF.enter Tryd.func14 rfl (by kernel_rfl) (LStale_spec s10 R h' D U kk (dE U now) (now + kv) hU (show 1 ≤ 100000 by decide) hD' hs10 _ _ fun v2 g2 s11 hG2 hs11 => ?_)
    rw [show staleF U (dE U now).L (now + kv) = _ from hst] at hG2
    obtain ⟨a2, c2, rfl⟩ := hG2.isSlice
    have tf : (true == false) = false := rfl
    have ft : (false == true) = false := rfl
    have hs12 := hs11.new (.cells (mkC 4 (tagS 0 kk) [] 0 0).cells 36 true)
    simp (config := { implicitDefEqProofs := false }) only [↓GP, ↓GM, GQ, abuiltinX, ↓awp_seq, ↓awp_block, C_ex, Nat.reduceBEq, acap, afieldAddr, aload, astore, abin, anum, astr, aun, isAggD, cond_true, cond_false, ↓reduceIte, C_P, C_G, isTuple, Value.cells, setL, ares, aresL, ares1, reduceCtorEq, Nat.reduceEqDiff, eq_self, Nat.reduceAdd, if_true, if_false, Go.Abs.one, Nat.reduceLeDiff, undef, gsl, aextract, aindexAddr, amake, implies_true, forall_const, alen, abuiltin, anil, isC, Int.reduceEq, Int.reduceLT, Int.reduceLE, Int.reduceAdd, Int.reduceToNat, Int.reduceNeg, Nat.reduceMul, Nat.reduceSub, abuild, afill, Int.reduceBNe, Int.reduceBEq, tf, ft, Tryd.underlying31, Tryd.underlying4, List.length_cons, List.length_nil, azc36, apl36, asz36, Tryd.underlying36, List.set_cons_zero, List.set_cons_succ, List.getElem?_cons_zero, List.getElem?_cons_succ, Option.map_some, abuildSlice_one (st := s11) (v := .agg #[.int .i64 4, .string (str (tagS 0 kk)), .string ⟨#[]⟩, .string ⟨#[]⟩, .string ⟨#[]⟩, .int .i64 0, .int .i64 0]) Tryd.underlying31 asz36 azc36 rfl rfl rfl (by decide)]
    have hs13 : Own _ (h' ++ ((s11.n, Ob.cells (mkC 4 (tagS 0 kk) [] 0 0).cells 36 true) :: (g2 ++ R))) := hs12.perm (by simpa using perm_of [[(s11.n, Ob.cells (mkC 4 (tagS 0 kk) [] 0 0).cells 36 true)], g2, h', R] [0, 1, 2, 3] [2, 0, 1, 3] rfl)
    refine ACallF.enter Tryd.func11 rfl (by kernel_rfl) (LApply_spec _ ((s11.n, Ob.cells (mkC 4 (tagS 0 kk) [] 0 0).cells 36 true) :: (g2 ++ R)) h' D U kk (dE U now) _ [mkC 4 (tagS 0 kk) [] 0 0] ⟨fun x hx => by simp [dE] at hx, by show (-9223372036854775808 : Int) ≤ 1; decide, by show (1 : Int) ≤ 1152921504606846976; decide⟩ (fun x hx => ?_) (show 1 + 1 ≤ 100000 by decide) hD'
      (Rws.one_of (x := Chg.cells (mkC 4 (tagS 0 kk) [] 0 0)) rfl (List.mem_cons_self ..)) hs13 _ _ fun h2 s14 hD2 hs14 => ?_)
    · rw [List.mem_singleton.1 hx]
      exact ⟨htb, Bt.nil, by show (-9223372036854775808 : Int) ≤ 0; decide, by show (0 : Int) ≤ 1152921504606846976; decide, by show (-9223372036854775808 : Int) ≤ 0; decide, by show (0 : Int) ≤ 9223372036854775807; decide⟩
    have hap : apL (dE U now) [mkC 4 (tagS 0 kk) [] 0 0] = ⟨1, [], []⟩ := by
      have : isId (tagS 0 kk) ⟨tagS 0 kk, ann, now⟩ = true := by simp [isId]
      show (⟨1, [], List.filter (fun s => !isId (tagS 0 kk) s) [⟨tagS 0 kk, ann, now⟩]⟩ : DS) = _
      simp [this]
    rw [hap] at hD2
    have hs15 : Own s14 (h2 ++ R) := hs14.sub (List.Sublist.append_left ((List.sublist_append_right g2 R).trans (List.sublist_cons_self _ _)) h2)
    simp (config := { implicitDefEqProofs := false }) only [↓GP, ↓GM, GQ, abuiltinX, ↓awp_seq, ↓awp_block, C_ex, Nat.reduceBEq, acap, afieldAddr, aload, astore, abin, anum, astr, aun, isAggD, cond_true, cond_false, ↓reduceIte, C_P, C_G, isTuple, Value.cells, setL, ares, aresL, ares1, reduceCtorEq, Nat.reduceEqDiff, eq_self, Nat.reduceAdd, if_true, if_false, Go.Abs.one, Nat.reduceLeDiff, undef, gsl, aextract, aindexAddr, amake, implies_true, forall_const, alen, abuiltin, anil, isC, Int.reduceEq, Int.reduceLT, Int.reduceLE, Int.reduceAdd, Int.reduceToNat, Int.reduceNeg, Nat.reduceMul, Nat.reduceSub, abuild, afill, Int.reduceBNe, Int.reduceBEq]
    refine ACallF.enter Tryd.func12 rfl (by kernel_rfl) (LWho_spec s14 R h2 D U kk 1 now [] [] (tagS 0 kk) hU htb (by decide) hD2 hs15 _ _ fun s16 hs16 => ?_)
    rw [show whoF U [] (tagS 0 kk) now = ([], 0, false) from rfl]
    simp (config := { implicitDefEqProofs := false }) only [↓GP, ↓GM, GQ, abuiltinX, ↓awp_seq, ↓awp_block, C_ex, Nat.reduceBEq, acap, afieldAddr, aload, astore, abin, anum, astr, aun, isAggD, cond_true, cond_false, ↓reduceIte, C_P, C_G, isTuple, Value.cells, setL, ares, aresL, ares1, reduceCtorEq, Nat.reduceEqDiff, eq_self, Nat.reduceAdd, if_true, if_false, Go.Abs.one, Nat.reduceLeDiff, undef, gsl, aextract, aindexAddr, amake, implies_true, forall_const, alen, abuiltin, anil, isC, Int.reduceEq, Int.reduceLT, Int.reduceLE, Int.reduceAdd, Int.reduceToNat, Int.reduceNeg, Nat.reduceMul, Nat.reduceSub, abuild, afill, Int.reduceBNe, Int.reduceBEq, whoV, Bool.not_false, wk]
    refine ACallF.enter Tryd.func14 rfl (by kernel_rfl) (LStale_spec s16 R h2 D U kk ⟨1, [], []⟩ (now + kv) hU (show 0 ≤ 100000 by decide) hD2 hs16 _ _ fun v3 g3 s17 hG3 hs17 => ?_)
    obtain ⟨a3, c3, rfl⟩ := hG3.isSlice
    rw [show (staleF U [] (now + kv)).length = 0 from rfl]
    simp (config := { implicitDefEqProofs := false }) only [↓GP, ↓GM, GQ, abuiltinX, ↓awp_seq, ↓awp_block, C_ex, Nat.reduceBEq, acap, afieldAddr, aload, astore, abin, anum, astr, aun, isAggD, cond_true, cond_false, ↓reduceIte, C_P, C_G, isTuple, Value.cells, setL, ares, aresL, ares1, reduceCtorEq, Nat.reduceEqDiff, eq_self, Nat.reduceAdd, if_true, if_false, Go.Abs.one, Nat.reduceLeDiff, undef, gsl, aextract, aindexAddr, amake, implies_true, forall_const, alen, abuiltin, anil, isC, Int.reduceEq, Int.reduceLT, Int.reduceLE, Int.reduceAdd, Int.reduceToNat, Int.reduceNeg, Nat.reduceMul, Nat.reduceSub, abuild, afill, Int.reduceBNe, Int.reduceBEq, Tryd.underlying31]
    exact hk _
  · simp (config := { implicitDefEqProofs := false }) only [↓GP, ↓GM, GQ, abuiltinX, ↓awp_seq, ↓awp_block, C_ex, Nat.reduceBEq, acap, afieldAddr, aload, astore, abin, anum, astr, aun, isAggD, cond_true, cond_false, ↓reduceIte, C_P, C_G, isTuple, Value.cells, setL, ares, aresL, ares1, reduceCtorEq, Nat.reduceEqDiff, eq_self, Nat.reduceAdd, if_true, if_false, Go.Abs.one, Nat.reduceLeDiff, undef, gsl, aextract, aindexAddr, amake, implies_true, forall_const, alen, abuiltin, anil, isC, Int.reduceEq, Int.reduceLT, Int.reduceLE, Int.reduceAdd, Int.reduceToNat, Int.reduceNeg, Nat.reduceMul, Nat.reduceSub, abuild, afill, Int.reduceBNe, Int.reduceBEq, whoV, hcT, afo23_2, asz3, Tryd.underlying3, Tryd.underlying4, hkl, eann, eqaa, eqnn, wk]
    refine ACallF.enter Tryd.func14 rfl (by kernel_rfl) (LStale_spec s10 R h' D U kk (dE U now) (now + kv) hU (show 1 ≤ 100000 by decide) hD' hs10 _ _ fun v2 g2 s11 hG2 hs11 => ?_)
    rw [show staleF U (dE U now).L (now + kv) = _ from hst] at hG2
    obtain ⟨a2, c2, rfl⟩ := hG2.isSlice
    have tf : (true == false) = false := rfl
    have ft : (false == true) = false := rfl
    have hs12 := hs11.new (.cells (mkC 4 (tagS 0 kk) [] 0 0).cells 36 true)
    simp (config := { implicitDefEqProofs := false }) only [↓GP, ↓GM, GQ, abuiltinX, ↓awp_seq, ↓awp_block, C_ex, Nat.reduceBEq, acap, afieldAddr, aload, astore, abin, anum, astr, aun, isAggD, cond_true, cond_false, ↓reduceIte, C_P, C_G, isTuple, Value.cells, setL, ares, aresL, ares1, reduceCtorEq, Nat.reduceEqDiff, eq_self, Nat.reduceAdd, if_true, if_false, Go.Abs.one, Nat.reduceLeDiff, undef, gsl, aextract, aindexAddr, amake, implies_true, forall_const, alen, abuiltin, anil, isC, Int.reduceEq, Int.reduceLT, Int.reduceLE, Int.reduceAdd, Int.reduceToNat, Int.reduceNeg, Nat.reduceMul, Nat.reduceSub, abuild, afill, Int.reduceBNe, Int.reduceBEq, tf, ft, Tryd.underlying31, Tryd.underlying4, List.length_cons, List.length_nil, azc36, apl36, asz36, Tryd.underlying36, List.set_cons_zero, List.set_cons_succ, List.getElem?_cons_zero, List.getElem?_cons_succ, Option.map_some, abuildSlice_one (st := s11) (v := .agg #[.int .i64 4, .string (str (tagS 0 kk)), .string ⟨#[]⟩, .string ⟨#[]⟩, .string ⟨#[]⟩, .int .i64 0, .int .i64 0]) Tryd.underlying31 asz36 azc36 rfl rfl rfl (by decide)]
    have hs13 : Own _ (h' ++ ((s11.n, Ob.cells (mkC 4 (tagS 0 kk) [] 0 0).cells 36 true) :: (g2 ++ R))) := hs12.perm (by simpa using perm_of [[(s11.n, Ob.cells (mkC 4 (tagS 0 kk) [] 0 0).cells 36 true)], g2, h', R] [0, 1, 2, 3] [2, 0, 1, 3] rfl)
    refine ACallF.enter Tryd.func11 rfl (by kernel_rfl) (LApply_spec _ ((s11.n, Ob.cells (mkC 4 (tagS 0 kk) [] 0 0).cells 36 true) :: (g2 ++ R)) h' D U kk (dE U now) _ [mkC 4 (tagS 0 kk) [] 0 0] ⟨fun x hx => by simp [dE] at hx, by show (-9223372036854775808 : Int) ≤ 1; decide, by show (1 : Int) ≤ 1152921504606846976; decide⟩ (fun x hx => ?_) (show 1 + 1 ≤ 100000 by decide) hD'
      (Rws.one_of (x := Chg.cells (mkC 4 (tagS 0 kk) [] 0 0)) rfl (List.mem_cons_self ..)) hs13 _ _ fun h2 s14 hD2 hs14 => ?_)
    · rw [List.mem_singleton.1 hx]
      exact ⟨htb, Bt.nil, by show (-9223372036854775808 : Int) ≤ 0; decide, by show (0 : Int) ≤ 1152921504606846976; decide, by show (-9223372036854775808 : Int) ≤ 0; decide, by show (0 : Int) ≤ 9223372036854775807; decide⟩
    have hap : apL (dE U now) [mkC 4 (tagS 0 kk) [] 0 0] = ⟨1, [], []⟩ := by
      have : isId (tagS 0 kk) ⟨tagS 0 kk, ann, now⟩ = true := by simp [isId]
      show (⟨1, [], List.filter (fun s => !isId (tagS 0 kk) s) [⟨tagS 0 kk, ann, now⟩]⟩ : DS) = _
      simp [this]
    rw [hap] at hD2
    have hs15 : Own s14 (h2 ++ R) := hs14.sub (List.Sublist.append_left ((List.sublist_append_right g2 R).trans (List.sublist_cons_self _ _)) h2)
    simp (config := { implicitDefEqProofs := false }) only [↓GP, ↓GM, GQ, abuiltinX, ↓awp_seq, ↓awp_block, C_ex, Nat.reduceBEq, acap, afieldAddr, aload, astore, abin, anum, astr, aun, isAggD, cond_true, cond_false, ↓reduceIte, C_P, C_G, isTuple, Value.cells, setL, ares, aresL, ares1, reduceCtorEq, Nat.reduceEqDiff, eq_self, Nat.reduceAdd, if_true, if_false, Go.Abs.one, Nat.reduceLeDiff, undef, gsl, aextract, aindexAddr, amake, implies_true, forall_const, alen, abuiltin, anil, isC, Int.reduceEq, Int.reduceLT, Int.reduceLE, Int.reduceAdd, Int.reduceToNat, Int.reduceNeg, Nat.reduceMul, Nat.reduceSub, abuild, afill, Int.reduceBNe, Int.reduceBEq]
    refine ACallF.enter Tryd.func12 rfl (by kernel_rfl) (LWho_spec s14 R h2 D U kk 1 now [] [] (tagS 0 kk) hU htb (by decide) hD2 hs15 _ _ fun s16 hs16 => ?_)
    rw [show whoF U [] (tagS 0 kk) now = ([], 0, false) from rfl]
    simp (config := { implicitDefEqProofs := false }) only [↓GP, ↓GM, GQ, abuiltinX, ↓awp_seq, ↓awp_block, C_ex, Nat.reduceBEq, acap, afieldAddr, aload, astore, abin, anum, astr, aun, isAggD, cond_true, cond_false, ↓reduceIte, C_P, C_G, isTuple, Value.cells, setL, ares, aresL, ares1, reduceCtorEq, Nat.reduceEqDiff, eq_self, Nat.reduceAdd, if_true, if_false, Go.Abs.one, Nat.reduceLeDiff, undef, gsl, aextract, aindexAddr, amake, implies_true, forall_const, alen, abuiltin, anil, isC, Int.reduceEq, Int.reduceLT, Int.reduceLE, Int.reduceAdd, Int.reduceToNat, Int.reduceNeg, Nat.reduceMul, Nat.reduceSub, abuild, afill, Int.reduceBNe, Int.reduceBEq, whoV, Bool.not_false, wk]
    refine ACallF.enter Tryd.func14 rfl (by kernel_rfl) (LStale_spec s16 R h2 D U kk ⟨1, [], []⟩ (now + kv) hU (show 0 ≤ 100000 by decide) hD2 hs16 _ _ fun v3 g3 s17 hG3 hs17 => ?_)
    obtain ⟨a3, c3, rfl⟩ := hG3.isSlice
    rw [show (staleF U [] (now + kv)).length = 0 from rfl]
    simp (config := { implicitDefEqProofs := false }) only [↓GP, ↓GM, GQ, abuiltinX, ↓awp_seq, ↓awp_block, C_ex, Nat.reduceBEq, acap, afieldAddr, aload, astore, abin, anum, astr, aun, isAggD, cond_true, cond_false, ↓reduceIte, C_P, C_G, isTuple, Value.cells, setL, ares, aresL, ares1, reduceCtorEq, Nat.reduceEqDiff, eq_self, Nat.reduceAdd, if_true, if_false, Go.Abs.one, Nat.reduceLeDiff, undef, gsl, aextract, aindexAddr, amake, implies_true, forall_const, alen, abuiltin, anil, isC, Int.reduceEq, Int.reduceLT, Int.reduceLE, Int.reduceAdd, Int.reduceToNat, Int.reduceNeg, Nat.reduceMul, Nat.reduceSub, abuild, afill, Int.reduceBNe, Int.reduceBEq, Tryd.underlying31]
    exact hk _
end Go.Proofs.YthohmdkibkompaaDoor
