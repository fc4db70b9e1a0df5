/- The walk of LoginLocks. No conditions. -/
import Derived.Test.YthohmdkibkompaaDoorLoginL
set_option linter.unusedVariables false
set_option linter.unusedSimpArgs false
namespace Go.Proofs.YthohmdkibkompaaDoor
open Go Go.Abs Go.RowKit
variable {base : Nat} {w0 : World} {G : Nat}

/-- The failures: of one name at most. -/
def fM (name : List Nat) (n u : Int) : Fails := if n = 0 then [] else [(name, (n, u))]
def dM (name : List Nat) (c n u : Int) : DS := ⟨c, fM name n u, []⟩
theorem gF_fM {name : List Nat} {n u : Int} (h : n = 0 → u = 0) : gF (fM name n u) name = (n, u) := by
  unfold fM gF
  split
  · rename_i h0
    rw [h0, h h0]; rfl
  · simp [mget]
theorem gF_fM' {name : List Nat} {n u : Int} : gF (fM name n u) (name ++ [120]) = (0, 0) := by
  unfold fM gF
  split
  · rfl
  · have : ¬ name = name ++ [120] := fun e => by have := congrArg List.length e; simp at this
    simp [mget, this]
theorem fM_put {name : List Nat} {n u : Int} {v : Int × Int} : mput name v (fM name n u) = [(name, v)] := by
  unfold fM
  split <;> simp [mput]
theorem dM_ok {name : List Nat} {c n u : Int} (hc : 0 ≤ c) (hc1 : c ≤ 1000) (hn : 0 ≤ n) (hn1 : n ≤ 1000) (hu : 0 ≤ u) (hu1 : u ≤ 1000000000) : (dM name c n u).ok := by
  refine ⟨?_, by show -9223372036854775808 ≤ c; omega, by show c ≤ 1152921504606846976; omega⟩
  show Fails.ok (fM name n u)
  unfold fM
  split
  · intro x hx; cases hx
  · intro x hx
    rw [List.mem_singleton.1 hx]
    exact ⟨by show -9223372036854775808 ≤ n; omega, by show n ≤ 1152921504606846976; omega, by show -9223372036854775808 ≤ u; omega, by show u ≤ 9223372036854775807; omega⟩
theorem tryM {U : Rul} {key : List Nat} (hU : U.ok = true) {name : List Nat} {c n u now : Int} {good : Bool} (hg : n = 0 → u = 0) (hm : mok now = true) :
    tryF U key (dM name c n u).c (dM name c n u).F (dM name c n u).L name good now = if u > now then ([], [], 71) else if good = false then ([failC U (n, u) name now], [], 70) else (okC (n, u) c key name now, tagS c key, 0) := by
  have hU' := of_decide_eq_true hU
  unfold tryF
  rw [if_neg (by rw [hm]; decide)]
  rw [show gF (dM name c n u).F name = (n, u) from gF_fM hg]
  have hr : roomF U (dM name c n u).L now = true := decide_eq_true (show ((0 : Nat) : Int) < U.most by omega)
  rw [hr]
  rfl
theorem tryM' {U : Rul} {key : List Nat} {name : List Nat} {c n u now : Int} (hm : mok now = true) (h0 : 0 ≤ now) :
    tryF U key (dM name c n u).c (dM name c n u).F (dM name c n u).L (name ++ [120]) false now = ([failC U (0, 0) (name ++ [120]) now], [], 70) := by
  unfold tryF
  rw [if_neg (by rw [hm]; decide)]
  rw [show gF (dM name c n u).F (name ++ [120]) = (0, 0) from gF_fM']
  rw [if_neg (show ¬ (0 : Int) > now by omega), if_pos rfl]
/-- How it goes on when a try fails. -/
theorem apM {U : Rul} (hU : U.ok = true) {name : List Nat} {c n u now : Int} (hn : 0 ≤ n) : apL (dM name c n u) [failC U (n, u) name now] = dM name c (failN U (n, u)) (if failN U (n, u) = U.tries then now + U.lock else 0) := by
  have hU' := of_decide_eq_true hU
  have h1 : failN U (n, u) ≠ 0 := by
    unfold failN
    split <;> simp only [] at * <;> omega
  show (⟨c, if failN U (n, u) = 0 then mdel name (mput name (failN U (n, u), (if failN U (n, u) = U.tries then now + U.lock else 0)) (fM name n u)) else mput name (failN U (n, u), (if failN U (n, u) = U.tries then now + U.lock else 0)) (fM name n u), []⟩ : DS) = _
  rw [if_neg h1, fM_put]
  show _ = (⟨c, fM name (failN U (n, u)) _, []⟩ : DS)
  rw [fM, if_neg h1]
/-- How it goes on when a try is good. -/
theorem apM2 {key : List Nat} {name : List Nat} {c n u now : Int} (hn : 0 ≤ n) : apL (dM name c n u) (okC (n, u) c key name now) = ⟨c + 1, [], [⟨tagS c key, name, now⟩]⟩ := by
  unfold okC
  by_cases h : n > 0
  · rw [if_pos h]
    show (⟨c + 1, (if (0 : Int) = 0 then mdel name (mput name (0, 0) (fM name n u)) else mput name (0, 0) (fM name n u)), [⟨tagS c key, name, now⟩]⟩ : DS) = _
    rw [if_pos rfl, fM_put]
    simp only [mdel, if_true]
  · rw [if_neg h]
    show (⟨c + 1, fM name n u, [⟨tagS c key, name, now⟩]⟩ : DS) = _
    rw [fM, if_pos (by omega)]
theorem apM3 {key : List Nat} {name : List Nat} {c now : Int} : apL ⟨c + 1, [], [⟨tagS c key, name, now⟩]⟩ [mkC 4 (tagS c key) [] 0 0] = dM name (c + 1) 0 0 := by
  have : isId (tagS c key) ⟨tagS c key, name, now⟩ = true := by simp [isId]
  show (⟨c + 1, [], List.filter (fun s => !isId (tagS c key) s) [⟨tagS c key, name, now⟩]⟩ : DS) = _
  simp [this, dM, fM]
set_option maxHeartbeats 2000000 in
set_option maxRecDepth 10000 in
theorem LoginLocks_spec (st : St) (r : Hp) (U : Rul) (name : List Nat) (tv : Value) (times : List Int) (ok : Bool) {kt : TypeId} (hname : Bt name) (ht : Iz r tv times) (hT : TabOk w0) (hK : (0, .cells (wl ks0) kt ok) ∈ r) (hO : Own st r) (k q : Value → St → Prop) (hk : ∀ st', k (.bool true) st') :
    ACall (C base w0 4) 3 [.agg U.cells.toArray, .string (str name), tv] st k q := by
  obtain ⟨ta, tc, htv, _⟩ := ht.isSlice
  rw [List.length_map] at htv
  refine ACall.of (cx := C base w0 4) mixed Tryd.func3 rfl (by kernel_rfl) (by simp [Tryd.ntmps3]) ?_
  simp only [Tryd.results3]
  have hO1 := hO.new (.cells U.cells 23 true)
  have hK1 : (0, Ob.cells (wl ks0) kt ok) ∈ (st.n, Ob.cells U.cells 23 true) :: r := List.mem_cons_of_mem _ hK
  simp (config := { implicitDefEqProofs := false }) only [↓GP, ↓GM, GQ, abuiltinX, ↓awp_seq, ↓awp_block, C_ex, Nat.reduceBEq, acap, afieldAddr, aload, astore, abin, anum, astr, aun, isAggD, cond_true, cond_false, ↓reduceIte, C_P, C_G, isTuple, Value.cells, setL, ares, aresL, ares1, reduceCtorEq, Nat.reduceEqDiff, eq_self, Nat.reduceAdd, if_true, if_false, Go.Abs.one, Nat.reduceLeDiff, undef, gsl, aextract, aindexAddr, amake, implies_true, forall_const, alen, abuiltin, anil, isC, Int.reduceEq, Int.reduceLT, Int.reduceLE, Int.reduceAdd, Int.reduceToNat, Int.reduceNeg, Nat.reduceMul, Nat.reduceSub, abuild, afill, Int.reduceBNe, Int.reduceBEq, abox, Rul.cells]
  generalize st.n = T at *
  refine ACallF.enter Tryd.func7 rfl (by kernel_rfl) (Lawake_spec _ _ ok hT hK1 hO1 _ _ fun s1 hs1 => ?_)
  have hcT : s1.H T = some (.cells [.int .i64 U.tries, .int .i64 U.lock, .int .i64 U.life, .int .i64 U.most] 23 true) := hs1.head
  simp (config := { implicitDefEqProofs := false }) only [↓GP, ↓GM, GQ, abuiltinX, ↓awp_seq, ↓awp_block, C_ex, Nat.reduceBEq, acap, afieldAddr, aload, astore, abin, anum, astr, aun, isAggD, cond_true, cond_false, ↓reduceIte, C_P, C_G, isTuple, Value.cells, setL, ares, aresL, ares1, reduceCtorEq, Nat.reduceEqDiff, eq_self, Nat.reduceAdd, if_true, if_false, Go.Abs.one, Nat.reduceLeDiff, undef, gsl, aextract, aindexAddr, amake, implies_true, forall_const, alen, abuiltin, anil, isC, Int.reduceEq, Int.reduceLT, Int.reduceLE, Int.reduceAdd, Int.reduceToNat, Int.reduceNeg, Nat.reduceMul, Nat.reduceSub, abuild, afill, Int.reduceBNe, Int.reduceBEq, Bool.not_true, hcT, asz23, Tryd.underlying23, cut4, Option.map_some]
  refine ACallF.enter Tryd.func8 rfl (by kernel_rfl) (RRight_spec s1 _ U hs1 _ _ fun s2 hs2 => ?_)
  have done : ∀ (s : St) (k' q' : Value → St → Prop), Own s ((T, Ob.cells U.cells 23 true) :: r) → (∀ s', k' (.bool true) s') → ACallF (C base w0 4) 7 [] s k' q' := fun s k' q' hs hk' =>
    ACallF.enter Tryd.func7 rfl (by kernel_rfl) (Lawake_spec s _ ok hT hK1 hs _ _ fun s' _ => hk' s')
  cases hU : U.ok with
  | false =>
    simp (config := { implicitDefEqProofs := false }) only [↓GP, ↓GM, GQ, abuiltinX, ↓awp_seq, ↓awp_block, C_ex, Nat.reduceBEq, acap, afieldAddr, aload, astore, abin, anum, astr, aun, isAggD, cond_true, cond_false, ↓reduceIte, C_P, C_G, isTuple, Value.cells, setL, ares, aresL, ares1, reduceCtorEq, Nat.reduceEqDiff, eq_self, Nat.reduceAdd, if_true, if_false, Go.Abs.one, Nat.reduceLeDiff, undef, gsl, aextract, aindexAddr, amake, implies_true, forall_const, alen, abuiltin, anil, isC, Int.reduceEq, Int.reduceLT, Int.reduceLE, Int.reduceAdd, Int.reduceToNat, Int.reduceNeg, Nat.reduceMul, Nat.reduceSub, abuild, afill, Int.reduceBNe, Int.reduceBEq, Bool.not_false]
    refine done s2 _ _ hs2 fun s' => ?_
    simp (config := { implicitDefEqProofs := false }) only [↓GP, ↓GM, GQ, abuiltinX, ↓awp_seq, ↓awp_block, C_ex, Nat.reduceBEq, acap, afieldAddr, aload, astore, abin, anum, astr, aun, isAggD, cond_true, cond_false, ↓reduceIte, C_P, C_G, isTuple, Value.cells, setL, ares, aresL, ares1, reduceCtorEq, Nat.reduceEqDiff, eq_self, Nat.reduceAdd, if_true, if_false, Go.Abs.one, Nat.reduceLeDiff, undef, gsl, aextract, aindexAddr, amake, implies_true, forall_const, alen, abuiltin, anil, isC, Int.reduceEq, Int.reduceLT, Int.reduceLE, Int.reduceAdd, Int.reduceToNat, Int.reduceNeg, Nat.reduceMul, Nat.reduceSub, abuild, afill, Int.reduceBNe, Int.reduceBEq]
    exact hk s'
  | true =>
  by_cases hn0 : times.length > 200
  · simp (config := { implicitDefEqProofs := false }) only [↓GP, ↓GM, GQ, abuiltinX, ↓awp_seq, ↓awp_block, C_ex, Nat.reduceBEq, acap, afieldAddr, aload, astore, abin, anum, astr, aun, isAggD, cond_true, cond_false, ↓reduceIte, C_P, C_G, isTuple, Value.cells, setL, ares, aresL, ares1, reduceCtorEq, Nat.reduceEqDiff, eq_self, Nat.reduceAdd, if_true, if_false, Go.Abs.one, Nat.reduceLeDiff, undef, gsl, aextract, aindexAddr, amake, implies_true, forall_const, alen, abuiltin, anil, isC, Int.reduceEq, Int.reduceLT, Int.reduceLE, Int.reduceAdd, Int.reduceToNat, Int.reduceNeg, Nat.reduceMul, Nat.reduceSub, abuild, afill, Int.reduceBNe, Int.reduceBEq, Bool.not_true, htv, Tryd.underlying24, show ((times.length : Int) > 200) = True by simp; omega, decide_true]
    refine done s2 _ _ hs2 fun s' => ?_
    simp (config := { implicitDefEqProofs := false }) only [↓GP, ↓GM, GQ, abuiltinX, ↓awp_seq, ↓awp_block, C_ex, Nat.reduceBEq, acap, afieldAddr, aload, astore, abin, anum, astr, aun, isAggD, cond_true, cond_false, ↓reduceIte, C_P, C_G, isTuple, Value.cells, setL, ares, aresL, ares1, reduceCtorEq, Nat.reduceEqDiff, eq_self, Nat.reduceAdd, if_true, if_false, Go.Abs.one, Nat.reduceLeDiff, undef, gsl, aextract, aindexAddr, amake, implies_true, forall_const, alen, abuiltin, anil, isC, Int.reduceEq, Int.reduceLT, Int.reduceLE, Int.reduceAdd, Int.reduceToNat, Int.reduceNeg, Nat.reduceMul, Nat.reduceSub, abuild, afill, Int.reduceBNe, Int.reduceBEq]
    exact hk s'
  by_cases hn1 : name.length > 200
  · simp (config := { implicitDefEqProofs := false }) only [↓GP, ↓GM, GQ, abuiltinX, ↓awp_seq, ↓awp_block, C_ex, Nat.reduceBEq, acap, afieldAddr, aload, astore, abin, anum, astr, aun, isAggD, cond_true, cond_false, ↓reduceIte, C_P, C_G, isTuple, Value.cells, setL, ares, aresL, ares1, reduceCtorEq, Nat.reduceEqDiff, eq_self, Nat.reduceAdd, if_true, if_false, Go.Abs.one, Nat.reduceLeDiff, undef, gsl, aextract, aindexAddr, amake, implies_true, forall_const, alen, abuiltin, anil, isC, Int.reduceEq, Int.reduceLT, Int.reduceLE, Int.reduceAdd, Int.reduceToNat, Int.reduceNeg, Nat.reduceMul, Nat.reduceSub, abuild, afill, Int.reduceBNe, Int.reduceBEq, Bool.not_true, htv, Tryd.underlying24, Tryd.underlying9, str_size, show ((times.length : Int) > 200) = False by simp; omega, show ((name.length : Int) > 200) = True by simp; omega, decide_true, decide_false]
    refine done s2 _ _ hs2 fun s' => ?_
    simp (config := { implicitDefEqProofs := false }) only [↓GP, ↓GM, GQ, abuiltinX, ↓awp_seq, ↓awp_block, C_ex, Nat.reduceBEq, acap, afieldAddr, aload, astore, abin, anum, astr, aun, isAggD, cond_true, cond_false, ↓reduceIte, C_P, C_G, isTuple, Value.cells, setL, ares, aresL, ares1, reduceCtorEq, Nat.reduceEqDiff, eq_self, Nat.reduceAdd, if_true, if_false, Go.Abs.one, Nat.reduceLeDiff, undef, gsl, aextract, aindexAddr, amake, implies_true, forall_const, alen, abuiltin, anil, isC, Int.reduceEq, Int.reduceLT, Int.reduceLE, Int.reduceAdd, Int.reduceToNat, Int.reduceNeg, Nat.reduceMul, Nat.reduceSub, abuild, afill, Int.reduceBNe, Int.reduceBEq]
    exact hk s'
  have hU' := of_decide_eq_true hU
  have hcT : s2.H T = some (.cells [.int .i64 U.tries, .int .i64 U.lock, .int .i64 U.life, .int .i64 U.most] 23 true) := hs2.head
  simp (config := { implicitDefEqProofs := false }) only [↓GP, ↓GM, GQ, abuiltinX, ↓awp_seq, ↓awp_block, C_ex, Nat.reduceBEq, acap, afieldAddr, aload, astore, abin, anum, astr, aun, isAggD, cond_true, cond_false, ↓reduceIte, C_P, C_G, isTuple, Value.cells, setL, ares, aresL, ares1, reduceCtorEq, Nat.reduceEqDiff, eq_self, Nat.reduceAdd, if_true, if_false, Go.Abs.one, Nat.reduceLeDiff, undef, gsl, aextract, aindexAddr, amake, implies_true, forall_const, alen, abuiltin, anil, isC, Int.reduceEq, Int.reduceLT, Int.reduceLE, Int.reduceAdd, Int.reduceToNat, Int.reduceNeg, Nat.reduceMul, Nat.reduceSub, abuild, afill, Int.reduceBNe, Int.reduceBEq, Bool.not_true, htv, Tryd.underlying24, Tryd.underlying9, str_size, show ((times.length : Int) > 200) = False by simp; omega, show ((name.length : Int) > 200) = False by simp; omega, decide_false, hcT, asz23, Tryd.underlying23, cut4, Option.map_some]
  refine ACallF.enter Tryd.func9 rfl (by kernel_rfl) (LNew_spec _ _ U [] _ hU nb_nil (by decide) hs2 _ _ fun D h s4 hD hs4 => ?_)
  simp (config := { implicitDefEqProofs := false }) only [↓GP, ↓GM, GQ, abuiltinX, ↓awp_seq, ↓awp_block, C_ex, Nat.reduceBEq, acap, afieldAddr, aload, astore, abin, anum, astr, aun, isAggD, cond_true, cond_false, ↓reduceIte, C_P, C_G, isTuple, Value.cells, setL, ares, aresL, ares1, reduceCtorEq, Nat.reduceEqDiff, eq_self, Nat.reduceAdd, if_true, if_false, Go.Abs.one, Nat.reduceLeDiff, undef, gsl, aextract, aindexAddr, amake, implies_true, forall_const, alen, abuiltin, anil, isC, Int.reduceEq, Int.reduceLT, Int.reduceLE, Int.reduceAdd, Int.reduceToNat, Int.reduceNeg, Nat.reduceMul, Nat.reduceSub, abuild, afill, Int.reduceBNe, Int.reduceBEq, Tryd.underlying27, Option.isNone]
  generalize hR : (T, Ob.cells U.cells 23 true) :: r = R at *
  have hTR : (T, Ob.cells U.cells 23 true) ∈ R := by rw [← hR]; simp
  have htR : Iz R tv times := ht.sub fun e he => by rw [← hR]; simp [he]
  refine ⟨fun m ρ s => ∃ (i : Nat) (c n u now : Int) (h : Hp), m = times.length - i ∧ i ≤ times.length ∧ 1000 ≤ now ∧ now ≤ 1000 + 1000 * (i : Int) ∧ 0 ≤ c ∧ c ≤ i ∧ 0 ≤ n ∧ n ≤ U.tries ∧ (n = 0 → u = 0) ∧ 0 ≤ u ∧ u ≤ 900000000 ∧
    ρ 1 = .string (str name) ∧ ρ 2 = tv ∧ ρ 3 = .pointer (some ⟨T, 0, none⟩) ∧ ρ 7 = .pointer (some ⟨D, 0, none⟩) ∧ ρ 9 = .int .i64 now ∧ ρ 10 = .int .i64 n ∧ ρ 11 = .int .i64 u ∧ ρ 12 = .int .i64 i ∧ DskS D U [] (dM name c n u) h ∧ Own s (h ++ R),
    ⟨_, 0, 0, 0, 0, 1000, h, rfl, Nat.zero_le _, by decide, by decide, by decide, by decide, by decide, by omega, fun _ => rfl, by decide, by decide, rfl, (by first | rfl | exact htv.symm), rfl, rfl, rfl, rfl, rfl, rfl, hD, hs4⟩, ?_⟩
  rintro _ ρ s ⟨i, c, n, u, now, h, rfl, hi, hnw0, hnw1, hc0, hc1, hn0', hn1', hnu, hu0, hu1, h1, h2, h3, h7, h9, h10, h11, h12, hD, hs⟩
  by_cases him : i < times.length
  · obtain ⟨x, o, sp, c', cs, ty, own, hvx, hmem, hcut⟩ := htR.mem (i := i) (l := [.int .i64 times[i]]) (by simp [him])
    have g0 := cut_get hcut (j := 0) (by decide)
    simp only [List.getElem?_cons_zero, Nat.add_zero, Nat.mul_one] at g0
    rw [List.length_map] at hvx
    have hcx := hs.get (List.mem_append_right h hmem)
    obtain ⟨dt, hdt, hdt0, hdt1⟩ := rem100 times[i] 1000 (by decide) (by decide)
    have wn : IntKind.i64.wrap (now + dt) = now + dt := w_i64 (by omega)
    generalize times[i] = ti at *
    generalize hgood : (ti.tmod 5 == 0) = good at *
    simp (config := { implicitDefEqProofs := false }) only [↓GP, ↓GM, GQ, abuiltinX, ↓awp_seq, ↓awp_block, C_ex, Nat.reduceBEq, acap, afieldAddr, aload, astore, abin, anum, astr, aun, isAggD, cond_true, cond_false, ↓reduceIte, C_P, C_G, isTuple, Value.cells, setL, ares, aresL, ares1, reduceCtorEq, Nat.reduceEqDiff, eq_self, Nat.reduceAdd, if_true, if_false, Go.Abs.one, Nat.reduceLeDiff, undef, gsl, aextract, aindexAddr, amake, implies_true, forall_const, alen, abuiltin, anil, isC, Int.reduceEq, Int.reduceLT, Int.reduceLE, Int.reduceAdd, Int.reduceToNat, Int.reduceNeg, Nat.reduceMul, Nat.reduceSub, abuild, afill, Int.reduceBNe, Int.reduceBEq, h1, h2, h3, h7, h9, h10, h11, h12, hvx, him, Int.ofNat_lt, decide_true, hcx, g0, asz3, Tryd.underlying3, Tryd.underlying24, hdt, wn, hgood]
    refine ⟨by omega, by omega, ?_⟩
    have hm : mok (now + dt) = true := by simp [mok]; omega
    have hdok : (dM name c n u).ok := dM_ok hc0 (by omega) hn0' (by omega) hu0 (by omega)
    have hKg : (0, Ob.cells (wl ks0) kt ok) ∈ R := hK1
    refine ACallF.enter Tryd.func10 rfl (by kernel_rfl) (LTry_spec s R h D U [] (dM name c n u).c (now + dt) (dM name c n u).F (dM name c n u).L name good ok hT hU hname (by show 0 ≤ 100000; decide) hdok.1 hdok.2.2 hdok.2.1 (by decide) hD hKg hs _ _ fun v g s2 hv hs2 => ?_)
    rw [tryM hU hnu hm] at hv ⊢
    have hx := tryM' (U := U) (key := []) (name := name) (c := c) (n := n) (u := u) hm (by omega)
    generalize hnow : now + dt = now' at *
    have hs3 : Own s2 (h ++ (g ++ R)) := hs2.perm (perm_swap g h R)
    have e120 : astr .add (str name) (⟨#[120]⟩ : ByteArray) = some (.string (str (name ++ [120]))) := astr_add (b := [120]) (by simp; omega)
    have hb120 : Bt (name ++ [120]) := hname.app (Bt.one (by decide))
    have e70 : ((70 : Int) == 70) = true := rfl
    have e71 : ((71 : Int) == 71) = true := rfl
    have e00 : ((0 : Int) == 0) = true := rfl
    have e01 : ((0 : Int) == 51) = false := rfl
    have e11 : ((1 : Int) == 1) = true := rfl
    have w1 : IntKind.i64.wrap ((i : Int) + 1) = ((i + 1 : Nat) : Int) := by rw [w_i64 (by omega)]; rfl
    have hfN : 1 ≤ failN U (n, u) ∧ failN U (n, u) ≤ U.tries := by
      unfold failN
      split <;> simp only [] at * <;> omega
    by_cases hlk : u > now'
    · rw [if_pos hlk] at hv ⊢
      simp (config := { implicitDefEqProofs := false }) only [↓GP, ↓GM, GQ, abuiltinX, ↓awp_seq, ↓awp_block, C_ex, Nat.reduceBEq, acap, afieldAddr, aload, astore, abin, anum, aun, isAggD, cond_true, cond_false, ↓reduceIte, C_P, C_G, isTuple, Value.cells, setL, ares, aresL, ares1, reduceCtorEq, Nat.reduceEqDiff, eq_self, Nat.reduceAdd, if_true, if_false, Go.Abs.one, Nat.reduceLeDiff, undef, gsl, aextract, aindexAddr, amake, implies_true, forall_const, alen, abuiltin, anil, isC, Int.reduceEq, Int.reduceLT, Int.reduceLE, Int.reduceAdd, Int.reduceToNat, Int.reduceNeg, Nat.reduceMul, Nat.reduceSub, abuild, afill, Int.reduceBNe, Int.reduceBEq, h1, h2, h3, h7, h9, h10, h11, h12, e120]
      refine ACallF.enter Tryd.func10 rfl (by kernel_rfl) (LTry_spec s2 (g ++ R) h D U [] (dM name c n u).c now' (dM name c n u).F (dM name c n u).L (name ++ [120]) false ok hT hU hb120 (by show 0 ≤ 100000; decide) hdok.1 hdok.2.2 hdok.2.1 (by decide) hD (List.mem_append_right g hKg) hs3 _ _ fun v2 g2 s5 hv2 hs5 => ?_)
      rw [hx] at hv2 ⊢
      obtain ⟨a2, c2, hv2s, _⟩ := hv2.isSlice
      obtain ⟨a1, c1, hv1s, _⟩ := hv.isSlice
      rw [List.length_map] at hv2s hv1s
      simp (config := { implicitDefEqProofs := false }) only [↓GP, ↓GM, GQ, abuiltinX, ↓awp_seq, ↓awp_block, C_ex, Nat.reduceBEq, acap, afieldAddr, aload, astore, abin, anum, aun, isAggD, cond_true, cond_false, ↓reduceIte, C_P, C_G, isTuple, Value.cells, setL, ares, aresL, ares1, reduceCtorEq, Nat.reduceEqDiff, eq_self, Nat.reduceAdd, if_true, if_false, Go.Abs.one, Nat.reduceLeDiff, undef, gsl, aextract, aindexAddr, amake, implies_true, forall_const, alen, abuiltin, anil, isC, Int.reduceEq, Int.reduceLT, Int.reduceLE, Int.reduceAdd, Int.reduceToNat, Int.reduceNeg, Nat.reduceMul, Nat.reduceSub, abuild, afill, Int.reduceBNe, Int.reduceBEq, h1, h2, h3, h7, h9, h10, h11, h12]
      have hs6 : Own s5 (h ++ (g2 ++ (g ++ R))) := hs5.perm (perm_swap g2 h (g ++ R))
      refine ACallF.enter Tryd.func11 rfl (by kernel_rfl) (LApply_spec s5 (g2 ++ (g ++ R)) h D U [] (dM name c n u) v [] hdok (fun x hx => by cases hx) (by show 0 + _ ≤ 100000; simp [okC]; try split <;> simp) hD (hv.sub fun e he => List.mem_append_right g2 (List.mem_append_left R he)) hs6 _ _ fun h' s7 hD' hs7 => ?_)
      have hs8 : Own s7 (h' ++ R) := hs7.sub (List.Sublist.append_left ((List.sublist_append_right g R).trans (List.sublist_append_right g2 (g ++ R))) h')
      have hcT : s7.H T = some (.cells [.int .i64 U.tries, .int .i64 U.lock, .int .i64 U.life, .int .i64 U.most] 23 true) := hs8.get (List.mem_append_right h' hTR)
      simp (config := { implicitDefEqProofs := false }) only [↓GP, ↓GM, GQ, abuiltinX, ↓awp_seq, ↓awp_block, C_ex, Nat.reduceBEq, acap, afieldAddr, aload, astore, abin, anum, astr, aun, isAggD, cond_true, cond_false, ↓reduceIte, C_P, C_G, isTuple, Value.cells, setL, ares, aresL, ares1, reduceCtorEq, Nat.reduceEqDiff, eq_self, Nat.reduceAdd, if_true, if_false, Go.Abs.one, Nat.reduceLeDiff, undef, gsl, aextract, aindexAddr, amake, implies_true, forall_const, alen, abuiltin, anil, isC, Int.reduceEq, Int.reduceLT, Int.reduceLE, Int.reduceAdd, Int.reduceToNat, Int.reduceNeg, Nat.reduceMul, Nat.reduceSub, abuild, afill, Int.reduceBNe, Int.reduceBEq, h1, h2, h3, h7, h9, h10, h11, h12, hv2s, hv1s, Tryd.underlying31, List.length_cons, List.length_nil, e70, e71, e00, e01, e11, hlk, decide_true, decide_false, Bool.not_true, Bool.not_false]
      rw [show apL (dM name c n u) [] = dM name c n u from rfl] at hD'
      exact ⟨times.length - (i + 1), by omega, i + 1, c, n, u, now', h', rfl, by omega, by omega, by omega, hc0, by omega, hn0', hn1', hnu, hu0, hu1, rfl, rfl, rfl, by rw [w1], hD', hs8⟩
    rw [if_neg hlk] at hv ⊢
    cases good with
    | false =>
      rw [if_pos rfl] at hv ⊢
      simp (config := { implicitDefEqProofs := false }) only [↓GP, ↓GM, GQ, abuiltinX, ↓awp_seq, ↓awp_block, C_ex, Nat.reduceBEq, acap, afieldAddr, aload, astore, abin, anum, aun, isAggD, cond_true, cond_false, ↓reduceIte, C_P, C_G, isTuple, Value.cells, setL, ares, aresL, ares1, reduceCtorEq, Nat.reduceEqDiff, eq_self, Nat.reduceAdd, if_true, if_false, Go.Abs.one, Nat.reduceLeDiff, undef, gsl, aextract, aindexAddr, amake, implies_true, forall_const, alen, abuiltin, anil, isC, Int.reduceEq, Int.reduceLT, Int.reduceLE, Int.reduceAdd, Int.reduceToNat, Int.reduceNeg, Nat.reduceMul, Nat.reduceSub, abuild, afill, Int.reduceBNe, Int.reduceBEq, h1, h2, h3, h7, h9, h10, h11, h12, e120]
      refine ACallF.enter Tryd.func10 rfl (by kernel_rfl) (LTry_spec s2 (g ++ R) h D U [] (dM name c n u).c now' (dM name c n u).F (dM name c n u).L (name ++ [120]) false ok hT hU hb120 (by show 0 ≤ 100000; decide) hdok.1 hdok.2.2 hdok.2.1 (by decide) hD (List.mem_append_right g hKg) hs3 _ _ fun v2 g2 s5 hv2 hs5 => ?_)
      rw [hx] at hv2 ⊢
      obtain ⟨a2, c2, hv2s, _⟩ := hv2.isSlice
      obtain ⟨a1, c1, hv1s, _⟩ := hv.isSlice
      rw [List.length_map] at hv2s hv1s
      simp (config := { implicitDefEqProofs := false }) only [↓GP, ↓GM, GQ, abuiltinX, ↓awp_seq, ↓awp_block, C_ex, Nat.reduceBEq, acap, afieldAddr, aload, astore, abin, anum, aun, isAggD, cond_true, cond_false, ↓reduceIte, C_P, C_G, isTuple, Value.cells, setL, ares, aresL, ares1, reduceCtorEq, Nat.reduceEqDiff, eq_self, Nat.reduceAdd, if_true, if_false, Go.Abs.one, Nat.reduceLeDiff, undef, gsl, aextract, aindexAddr, amake, implies_true, forall_const, alen, abuiltin, anil, isC, Int.reduceEq, Int.reduceLT, Int.reduceLE, Int.reduceAdd, Int.reduceToNat, Int.reduceNeg, Nat.reduceMul, Nat.reduceSub, abuild, afill, Int.reduceBNe, Int.reduceBEq, h1, h2, h3, h7, h9, h10, h11, h12]
      have hs6 : Own s5 (h ++ (g2 ++ (g ++ R))) := hs5.perm (perm_swap g2 h (g ++ R))
      refine ACallF.enter Tryd.func11 rfl (by kernel_rfl) (LApply_spec s5 (g2 ++ (g ++ R)) h D U [] (dM name c n u) v [failC U (n, u) name now'] hdok (fun x' hx' => ?_) (by show 0 + _ ≤ 100000; simp [okC]; try split <;> simp) hD (hv.sub fun e he => List.mem_append_right g2 (List.mem_append_left R he)) hs6 _ _ fun h' s7 hD' hs7 => ?_)
      · rw [List.mem_singleton.1 hx']
        exact ⟨hname, Bt.nil, by show -9223372036854775808 ≤ failN U (n, u); omega, by show failN U (n, u) ≤ 1152921504606846976; omega, by show -9223372036854775808 ≤ (if failN U (n, u) = U.tries then now' + U.lock else 0); split <;> omega, by show (if failN U (n, u) = U.tries then now' + U.lock else 0) ≤ 9223372036854775807; split <;> omega⟩
      have hs8 : Own s7 (h' ++ R) := hs7.sub (List.Sublist.append_left ((List.sublist_append_right g R).trans (List.sublist_append_right g2 (g ++ R))) h')
      have hcT : s7.H T = some (.cells [.int .i64 U.tries, .int .i64 U.lock, .int .i64 U.life, .int .i64 U.most] 23 true) := hs8.get (List.mem_append_right h' hTR)
      simp (config := { implicitDefEqProofs := false }) only [↓GP, ↓GM, GQ, abuiltinX, ↓awp_seq, ↓awp_block, C_ex, Nat.reduceBEq, acap, afieldAddr, aload, astore, abin, anum, astr, aun, isAggD, cond_true, cond_false, ↓reduceIte, C_P, C_G, isTuple, Value.cells, setL, ares, aresL, ares1, reduceCtorEq, Nat.reduceEqDiff, eq_self, Nat.reduceAdd, if_true, if_false, Go.Abs.one, Nat.reduceLeDiff, undef, gsl, aextract, aindexAddr, amake, implies_true, forall_const, alen, abuiltin, anil, isC, Int.reduceEq, Int.reduceLT, Int.reduceLE, Int.reduceAdd, Int.reduceToNat, Int.reduceNeg, Nat.reduceMul, Nat.reduceSub, abuild, afill, Int.reduceBNe, Int.reduceBEq, h1, h2, h3, h7, h9, h10, h11, h12, hv2s, hv1s, Tryd.underlying31, List.length_cons, List.length_nil, e70, e71, e00, e01, e11, hlk, decide_true, decide_false, Bool.not_true, Bool.not_false]
      rw [apM hU hn0'] at hD'
      have hcT2 := hcT
      have wnn : IntKind.i64.wrap (n + 1) = n + 1 := w_i64 (by omega)
      have w01 : IntKind.i64.wrap (0 + 1) = 1 := rfl
      have wl1 : IntKind.i64.wrap (now' + U.lock) = now' + U.lock := w_i64 (by omega)
      have ex1 : ∀ m : Int, IntKind.i64.wrap m = m → True := fun _ _ => trivial
      by_cases hge : n ≥ U.tries
      · have hf : failN U (n, u) = 1 := by unfold failN; rw [if_pos hge]
        rw [hf] at hD' hfN
        by_cases heq : (1 : Int) = U.tries
        · rw [if_pos heq] at hD'
          simp (config := { implicitDefEqProofs := false }) only [↓GP, ↓GM, GQ, abuiltinX, ↓awp_seq, ↓awp_block, C_ex, Nat.reduceBEq, acap, afieldAddr, aload, astore, abin, anum, astr, aun, isAggD, cond_true, cond_false, ↓reduceIte, C_P, C_G, isTuple, Value.cells, setL, ares, aresL, ares1, reduceCtorEq, Nat.reduceEqDiff, eq_self, Nat.reduceAdd, if_true, if_false, Go.Abs.one, Nat.reduceLeDiff, undef, gsl, aextract, aindexAddr, amake, implies_true, forall_const, alen, abuiltin, anil, isC, Int.reduceEq, Int.reduceLT, Int.reduceLE, Int.reduceAdd, Int.reduceToNat, Int.reduceNeg, Nat.reduceMul, Nat.reduceSub, abuild, afill, Int.reduceBNe, Int.reduceBEq, h1, h2, h3, h7, h9, h10, h11, h12, hcT, afo23_0, afo23_1, asz3, Tryd.underlying3, hge, decide_true, w01, wl1, show ((1 : Int) == U.tries) = true by simp; omega, e70, Bool.not_true, w1]
          refine ⟨fun _ => ?_, fun h => absurd heq h⟩
          exact ⟨times.length - (i + 1), by omega, i + 1, c, 1, (now' + U.lock), now', h', rfl, by omega, by omega, by omega, hc0, by omega, by omega, by omega, fun h => (by omega), by omega, by omega, rfl, rfl, rfl, rfl, hD', hs8⟩
        · rw [if_neg heq] at hD'
          simp (config := { implicitDefEqProofs := false }) only [↓GP, ↓GM, GQ, abuiltinX, ↓awp_seq, ↓awp_block, C_ex, Nat.reduceBEq, acap, afieldAddr, aload, astore, abin, anum, astr, aun, isAggD, cond_true, cond_false, ↓reduceIte, C_P, C_G, isTuple, Value.cells, setL, ares, aresL, ares1, reduceCtorEq, Nat.reduceEqDiff, eq_self, Nat.reduceAdd, if_true, if_false, Go.Abs.one, Nat.reduceLeDiff, undef, gsl, aextract, aindexAddr, amake, implies_true, forall_const, alen, abuiltin, anil, isC, Int.reduceEq, Int.reduceLT, Int.reduceLE, Int.reduceAdd, Int.reduceToNat, Int.reduceNeg, Nat.reduceMul, Nat.reduceSub, abuild, afill, Int.reduceBNe, Int.reduceBEq, h1, h2, h3, h7, h9, h10, h11, h12, hcT, afo23_0, afo23_1, asz3, Tryd.underlying3, hge, decide_true, w01, wl1, show ((1 : Int) == U.tries) = false by simp; omega, e70, Bool.not_true, w1]
          refine ⟨fun h => absurd h heq, fun _ => ?_⟩
          exact ⟨times.length - (i + 1), by omega, i + 1, c, 1, 0, now', h', rfl, by omega, by omega, by omega, hc0, by omega, by omega, by omega, fun h => (by omega), by omega, by omega, rfl, rfl, rfl, rfl, hD', hs8⟩
      · have hf : failN U (n, u) = n + 1 := by unfold failN; rw [if_neg hge]
        rw [hf] at hD' hfN
        by_cases heq : n + 1 = U.tries
        · rw [if_pos heq] at hD'
          simp (config := { implicitDefEqProofs := false }) only [↓GP, ↓GM, GQ, abuiltinX, ↓awp_seq, ↓awp_block, C_ex, Nat.reduceBEq, acap, afieldAddr, aload, astore, abin, anum, astr, aun, isAggD, cond_true, cond_false, ↓reduceIte, C_P, C_G, isTuple, Value.cells, setL, ares, aresL, ares1, reduceCtorEq, Nat.reduceEqDiff, eq_self, Nat.reduceAdd, if_true, if_false, Go.Abs.one, Nat.reduceLeDiff, undef, gsl, aextract, aindexAddr, amake, implies_true, forall_const, alen, abuiltin, anil, isC, Int.reduceEq, Int.reduceLT, Int.reduceLE, Int.reduceAdd, Int.reduceToNat, Int.reduceNeg, Nat.reduceMul, Nat.reduceSub, abuild, afill, Int.reduceBNe, Int.reduceBEq, h1, h2, h3, h7, h9, h10, h11, h12, hcT, afo23_0, afo23_1, asz3, Tryd.underlying3, hge, decide_false, wnn, wl1, show (n + 1 == U.tries) = true by simp; omega, e70, Bool.not_true, w1]
          exact ⟨times.length - (i + 1), by omega, i + 1, c, (n + 1), (now' + U.lock), now', h', rfl, by omega, by omega, by omega, hc0, by omega, by omega, by omega, fun h => (by omega), by omega, by omega, rfl, rfl, rfl, rfl, hD', hs8⟩
        · rw [if_neg heq] at hD'
          simp (config := { implicitDefEqProofs := false }) only [↓GP, ↓GM, GQ, abuiltinX, ↓awp_seq, ↓awp_block, C_ex, Nat.reduceBEq, acap, afieldAddr, aload, astore, abin, anum, astr, aun, isAggD, cond_true, cond_false, ↓reduceIte, C_P, C_G, isTuple, Value.cells, setL, ares, aresL, ares1, reduceCtorEq, Nat.reduceEqDiff, eq_self, Nat.reduceAdd, if_true, if_false, Go.Abs.one, Nat.reduceLeDiff, undef, gsl, aextract, aindexAddr, amake, implies_true, forall_const, alen, abuiltin, anil, isC, Int.reduceEq, Int.reduceLT, Int.reduceLE, Int.reduceAdd, Int.reduceToNat, Int.reduceNeg, Nat.reduceMul, Nat.reduceSub, abuild, afill, Int.reduceBNe, Int.reduceBEq, h1, h2, h3, h7, h9, h10, h11, h12, hcT, afo23_0, afo23_1, asz3, Tryd.underlying3, hge, decide_false, wnn, wl1, show (n + 1 == U.tries) = false by simp; omega, e70, Bool.not_true, w1]
          exact ⟨times.length - (i + 1), by omega, i + 1, c, (n + 1), 0, now', h', rfl, by omega, by omega, by omega, hc0, by omega, by omega, by omega, fun h => (by omega), by omega, by omega, rfl, rfl, rfl, rfl, hD', hs8⟩
    | true =>
      rw [if_neg (by decide)] at hv ⊢
      simp (config := { implicitDefEqProofs := false }) only [↓GP, ↓GM, GQ, abuiltinX, ↓awp_seq, ↓awp_block, C_ex, Nat.reduceBEq, acap, afieldAddr, aload, astore, abin, anum, aun, isAggD, cond_true, cond_false, ↓reduceIte, C_P, C_G, isTuple, Value.cells, setL, ares, aresL, ares1, reduceCtorEq, Nat.reduceEqDiff, eq_self, Nat.reduceAdd, if_true, if_false, Go.Abs.one, Nat.reduceLeDiff, undef, gsl, aextract, aindexAddr, amake, implies_true, forall_const, alen, abuiltin, anil, isC, Int.reduceEq, Int.reduceLT, Int.reduceLE, Int.reduceAdd, Int.reduceToNat, Int.reduceNeg, Nat.reduceMul, Nat.reduceSub, abuild, afill, Int.reduceBNe, Int.reduceBEq, h1, h2, h3, h7, h9, h10, h11, h12, e120]
      refine ACallF.enter Tryd.func10 rfl (by kernel_rfl) (LTry_spec s2 (g ++ R) h D U [] (dM name c n u).c now' (dM name c n u).F (dM name c n u).L (name ++ [120]) false ok hT hU hb120 (by show 0 ≤ 100000; decide) hdok.1 hdok.2.2 hdok.2.1 (by decide) hD (List.mem_append_right g hKg) hs3 _ _ fun v2 g2 s5 hv2 hs5 => ?_)
      rw [hx] at hv2 ⊢
      obtain ⟨a2, c2, hv2s, _⟩ := hv2.isSlice
      obtain ⟨a1, c1, hv1s, _⟩ := hv.isSlice
      rw [List.length_map] at hv2s hv1s
      simp (config := { implicitDefEqProofs := false }) only [↓GP, ↓GM, GQ, abuiltinX, ↓awp_seq, ↓awp_block, C_ex, Nat.reduceBEq, acap, afieldAddr, aload, astore, abin, anum, aun, isAggD, cond_true, cond_false, ↓reduceIte, C_P, C_G, isTuple, Value.cells, setL, ares, aresL, ares1, reduceCtorEq, Nat.reduceEqDiff, eq_self, Nat.reduceAdd, if_true, if_false, Go.Abs.one, Nat.reduceLeDiff, undef, gsl, aextract, aindexAddr, amake, implies_true, forall_const, alen, abuiltin, anil, isC, Int.reduceEq, Int.reduceLT, Int.reduceLE, Int.reduceAdd, Int.reduceToNat, Int.reduceNeg, Nat.reduceMul, Nat.reduceSub, abuild, afill, Int.reduceBNe, Int.reduceBEq, h1, h2, h3, h7, h9, h10, h11, h12]
      have hs6 : Own s5 (h ++ (g2 ++ (g ++ R))) := hs5.perm (perm_swap g2 h (g ++ R))
      refine ACallF.enter Tryd.func11 rfl (by kernel_rfl) (LApply_spec s5 (g2 ++ (g ++ R)) h D U [] (dM name c n u) v (okC (n, u) c [] name now') hdok (fun x' hx' => ?_) (by show 0 + _ ≤ 100000; simp [okC]; try split <;> simp) hD (hv.sub fun e he => List.mem_append_right g2 (List.mem_append_left R he)) hs6 _ _ fun h' s7 hD' hs7 => ?_)
      · have ht1 := tagS_bt c []
        unfold okC at hx'
        have hx2 : x' = mkC 2 name [] 0 0 ∨ x' = mkC 1 [] [] (c + 1) 0 ∨ x' = mkC 3 (tagS c []) name now' 0 := by
          split at hx' <;> simp at hx' <;> simp [hx']
        rcases hx2 with rfl | rfl | rfl
        · exact ⟨hname, Bt.nil, by show -9223372036854775808 ≤ (0 : Int); decide, by show (0 : Int) ≤ 1152921504606846976; decide, by show -9223372036854775808 ≤ (0 : Int); decide, by show (0 : Int) ≤ 9223372036854775807; decide⟩
        · exact ⟨Bt.nil, Bt.nil, by show -9223372036854775808 ≤ c + 1; omega, by show c + 1 ≤ 1152921504606846976; omega, by show -9223372036854775808 ≤ (0 : Int); decide, by show (0 : Int) ≤ 9223372036854775807; decide⟩
        · exact ⟨ht1, hname, by show -9223372036854775808 ≤ now'; omega, by show now' ≤ 1152921504606846976; omega, by show -9223372036854775808 ≤ (0 : Int); decide, by show (0 : Int) ≤ 9223372036854775807; decide⟩
      have hs8 : Own s7 (h' ++ R) := hs7.sub (List.Sublist.append_left ((List.sublist_append_right g R).trans (List.sublist_append_right g2 (g ++ R))) h')
      have hcT : s7.H T = some (.cells [.int .i64 U.tries, .int .i64 U.lock, .int .i64 U.life, .int .i64 U.most] 23 true) := hs8.get (List.mem_append_right h' hTR)
      simp (config := { implicitDefEqProofs := false }) only [↓GP, ↓GM, GQ, abuiltinX, ↓awp_seq, ↓awp_block, C_ex, Nat.reduceBEq, acap, afieldAddr, aload, astore, abin, anum, astr, aun, isAggD, cond_true, cond_false, ↓reduceIte, C_P, C_G, isTuple, Value.cells, setL, ares, aresL, ares1, reduceCtorEq, Nat.reduceEqDiff, eq_self, Nat.reduceAdd, if_true, if_false, Go.Abs.one, Nat.reduceLeDiff, undef, gsl, aextract, aindexAddr, amake, implies_true, forall_const, alen, abuiltin, anil, isC, Int.reduceEq, Int.reduceLT, Int.reduceLE, Int.reduceAdd, Int.reduceToNat, Int.reduceNeg, Nat.reduceMul, Nat.reduceSub, abuild, afill, Int.reduceBNe, Int.reduceBEq, h1, h2, h3, h7, h9, h10, h11, h12, hv2s, hv1s, Tryd.underlying31, List.length_cons, List.length_nil, e70, e71, e00, e01, e11, hlk, decide_true, decide_false, Bool.not_true, Bool.not_false]
      rw [apM2 hn0'] at hD'
      have hne : ((str (tagS c [])).toList == (⟨#[]⟩ : ByteArray).toList) = false := by
        rw [show (⟨#[]⟩ : ByteArray) = str [] from rfl, str_beq (tagS_bt c []) Bt.nil]
        exact decide_eq_false tagN_ne
      have hs9 := hs8.new (.cells (mkC 4 (tagS c []) [] 0 0).cells 36 true)
      simp (config := { implicitDefEqProofs := false }) only [↓GP, ↓GM, GQ, abuiltinX, ↓awp_seq, ↓awp_block, C_ex, Nat.reduceBEq, acap, afieldAddr, aload, astore, abin, anum, astr, aun, isAggD, cond_true, cond_false, ↓reduceIte, C_P, C_G, isTuple, Value.cells, setL, ares, aresL, ares1, reduceCtorEq, Nat.reduceEqDiff, eq_self, Nat.reduceAdd, if_true, if_false, Go.Abs.one, Nat.reduceLeDiff, undef, gsl, aextract, aindexAddr, amake, implies_true, forall_const, alen, abuiltin, anil, isC, Int.reduceEq, Int.reduceLT, Int.reduceLE, Int.reduceAdd, Int.reduceToNat, Int.reduceNeg, Nat.reduceMul, Nat.reduceSub, abuild, afill, Int.reduceBNe, Int.reduceBEq, h1, h2, h3, h7, h9, h10, h11, h12, hne, List.length_cons, List.length_nil, azc36, apl36, asz36, Tryd.underlying36, List.set_cons_zero, List.set_cons_succ, List.getElem?_cons_zero, List.getElem?_cons_succ, Option.map_some, abuildSlice_one (st := s7) (v := .agg #[.int .i64 4, .string (str (tagS c [])), .string ⟨#[]⟩, .string ⟨#[]⟩, .string ⟨#[]⟩, .int .i64 0, .int .i64 0]) Tryd.underlying31 asz36 azc36 rfl rfl rfl (by decide)]
      have hs10 : Own _ (h' ++ ((s7.n, Ob.cells (mkC 4 (tagS c []) [] 0 0).cells 36 true) :: R)) := hs9.perm (perm_front h' _ R).symm
      refine ACallF.enter Tryd.func11 rfl (by kernel_rfl) (LApply_spec _ ((s7.n, Ob.cells (mkC 4 (tagS c []) [] 0 0).cells 36 true) :: R) h' D U [] ⟨c + 1, [], [⟨tagS c [], name, now'⟩]⟩ _ [mkC 4 (tagS c []) [] 0 0] ⟨fun x hx => (by cases hx), by show -9223372036854775808 ≤ c + 1; omega, by show c + 1 ≤ 1152921504606846976; omega⟩ (fun x hx => ?_) (show 1 + 1 ≤ 100000 by decide) hD'
        (Rws.one_of (x := Chg.cells (mkC 4 (tagS c []) [] 0 0)) rfl (List.mem_cons_self ..)) hs10 _ _ fun h2' s11 hD2 hs11 => ?_)
      · rw [List.mem_singleton.1 hx]
        exact ⟨tagS_bt c [], Bt.nil, by show (-9223372036854775808 : Int) ≤ 0; decide, by show (0 : Int) ≤ 1152921504606846976; decide, by show (-9223372036854775808 : Int) ≤ 0; decide, by show (0 : Int) ≤ 9223372036854775807; decide⟩
      rw [apM3] at hD2
      have hs12 : Own s11 (h2' ++ R) := hs11.sub (List.Sublist.append_left (List.sublist_cons_self _ R) h2')
      simp (config := { implicitDefEqProofs := false }) only [↓GP, ↓GM, GQ, abuiltinX, ↓awp_seq, ↓awp_block, C_ex, Nat.reduceBEq, acap, afieldAddr, aload, astore, abin, anum, astr, aun, isAggD, cond_true, cond_false, ↓reduceIte, C_P, C_G, isTuple, Value.cells, setL, ares, aresL, ares1, reduceCtorEq, Nat.reduceEqDiff, eq_self, Nat.reduceAdd, if_true, if_false, Go.Abs.one, Nat.reduceLeDiff, undef, gsl, aextract, aindexAddr, amake, implies_true, forall_const, alen, abuiltin, anil, isC, Int.reduceEq, Int.reduceLT, Int.reduceLE, Int.reduceAdd, Int.reduceToNat, Int.reduceNeg, Nat.reduceMul, Nat.reduceSub, abuild, afill, Int.reduceBNe, Int.reduceBEq, h1, h2, h3, h7, h9, h10, h11, h12, w1]
      exact ⟨times.length - (i + 1), by omega, i + 1, c + 1, 0, 0, now', h2', rfl, by omega, by omega, by omega, by omega, by omega, by decide, by omega, fun _ => rfl, by decide, by decide, rfl, rfl, rfl, rfl, hD2, hs12⟩
  · obtain rfl : i = times.length := by omega
    simp (config := { implicitDefEqProofs := false }) only [↓GP, ↓GM, GQ, abuiltinX, ↓awp_seq, ↓awp_block, C_ex, Nat.reduceBEq, acap, afieldAddr, aload, astore, abin, anum, astr, aun, isAggD, cond_true, cond_false, ↓reduceIte, C_P, C_G, isTuple, Value.cells, setL, ares, aresL, ares1, reduceCtorEq, Nat.reduceEqDiff, eq_self, Nat.reduceAdd, if_true, if_false, Go.Abs.one, Nat.reduceLeDiff, undef, gsl, aextract, aindexAddr, amake, implies_true, forall_const, alen, abuiltin, anil, isC, Int.reduceEq, Int.reduceLT, Int.reduceLE, Int.reduceAdd, Int.reduceToNat, Int.reduceNeg, Nat.reduceMul, Nat.reduceSub, abuild, afill, Int.reduceBNe, Int.reduceBEq, h1, h2, h3, h7, h9, h10, h11, h12, htv, Int.ofNat_lt, Nat.lt_irrefl, decide_false, Tryd.underlying24]
    exact hk _
end Go.Proofs.YthohmdkibkompaaDoor
