/- The keyed sum. No conditions. -/
import Derived.Test.YthohmdkibkompaaDoorHashG
set_option linter.unusedVariables false
set_option linter.unusedSimpArgs false
namespace Go.Proofs.YthohmdkibkompaaDoor
open Go Go.Abs Go.RowKit
variable {base : Nat} {w0 : World} {G : Nat}

def pdI (k : List Nat) (x i : Nat) : List Nat := (k.take i).map (fun d => x ^^^ d) ++ List.replicate (64 - i) x
theorem pdI_succ {k : List Nat} {x i : Nat} (hi : i < k.length) (h64 : i < 64) : (pdI k x i).set i (x ^^^ k.getD i 0) = pdI k x (i + 1) := by
  have hl : ((k.take i).map (fun d => x ^^^ d)).length = i := by simp; omega
  unfold pdI
  rw [List.set_append_right _ _ (by omega), hl, Nat.sub_self, show 64 - i = (64 - (i + 1)) + 1 by omega, List.replicate_succ, List.set_cons_zero, List.take_add_one, List.map_append, List.append_assoc]
  rw [List.getD_eq_getElem?_getD, List.getElem?_eq_getElem hi]
  rfl
theorem pdI_get {k : List Nat} {x i : Nat} (hi : i < k.length) (h64 : i < 64) : (pdI k x i).getD i 0 = x := by
  have hl : ((k.take i).map (fun d => x ^^^ d)).length = i := by simp; omega
  unfold pdI
  rw [List.getD_eq_getElem?_getD, List.getElem?_append_right (by omega), hl, Nat.sub_self, List.getElem?_replicate, if_pos (by omega)]
  rfl
theorem pdI_length {k : List Nat} {x i : Nat} (hi : i ≤ k.length) (h64 : i ≤ 64) : (pdI k x i).length = 64 := by simp [pdI]; omega
set_option maxRecDepth 10000 in
theorem pad_spec (st : St) (r : Hp) (kv : Value) (key : List Nat) (x : Nat) (ok : Bool) {kt : TypeId} (hv : Nb r kv key) (hn : key.length ≤ 100000) (hx : x < 256) (hK : (0, .cells (wl ks0) kt ok) ∈ r) (hO : Own st r) (k q : Value → St → Prop)
    (hk : ∀ b st', Own st' ((b, .cells (nl (pd (keyOf key) x)) 5 true) :: r) → k (.slice (some ⟨b, 0, none⟩) 64 64) st') :
    ACall (C base w0 4) 40 [kv, .int .u8 x] st k q := by
  refine ACall.of (cx := C base w0 4) mixed Tryd.func40 rfl (by kernel_rfl) (by simp [Tryd.ntmps40]) ?_
  simp only [Tryd.results40]
  obtain ⟨a, c, hvs⟩ := hv.isSlice
  simp (config := { implicitDefEqProofs := false }) only [↓GP, ↓GM, GQ, abuiltinX, C_ex, Nat.reduceBEq, acap, afieldAddr, aload, astore, abin, anum, astr, aun, isAggD, cond_true, cond_false, ↓reduceIte, C_P, C_G, isTuple, Value.cells, setL, ares, aresL, ares1, reduceCtorEq, Nat.reduceEqDiff, eq_self, Nat.reduceAdd, if_true, if_false, Go.Abs.one, Nat.reduceLeDiff, undef, gsl, aextract, aindexAddr, amake, implies_true, forall_const, alen, abuiltin, anil, isC, Int.reduceEq, Int.reduceLT, Int.reduceLE, Int.reduceAdd, Int.reduceToNat, Int.reduceNeg, Nat.reduceMul, Nat.reduceSub, abuild, afill, Int.reduceBNe, Int.reduceBEq]
  rw [awp_seq]
  simp (config := { implicitDefEqProofs := false }) only [↓GP, ↓GM, GQ, abuiltinX, C_ex, Nat.reduceBEq, acap, afieldAddr, aload, astore, abin, anum, astr, aun, isAggD, cond_true, cond_false, ↓reduceIte, C_P, C_G, isTuple, Value.cells, setL, ares, aresL, ares1, reduceCtorEq, Nat.reduceEqDiff, eq_self, Nat.reduceAdd, if_true, if_false, Go.Abs.one, Nat.reduceLeDiff, undef, gsl, aextract, aindexAddr, amake, implies_true, forall_const, alen, abuiltin, anil, isC, Int.reduceEq, Int.reduceLT, Int.reduceLE, Int.reduceAdd, Int.reduceToNat, Int.reduceNeg, Nat.reduceMul, Nat.reduceSub, abuild, afill, Int.reduceBNe, Int.reduceBEq]
  refine seq_cut (fun ρ s => ∃ (kv' : Value) (hk' : Hp), ρ 0 = kv' ∧ ρ 1 = .int .u8 x ∧ Nb (hk' ++ r) kv' (keyOf key) ∧ Own s (hk' ++ r)) ?_ ?_
  · rw [awp_seq]
    by_cases h64 : 64 < key.length
    · simp (config := { implicitDefEqProofs := false }) only [↓GP, ↓GM, GQ, abuiltinX, ↓awp_seq, ↓awp_block, C_ex, Nat.reduceBEq, acap, afieldAddr, aload, astore, abin, anum, astr, aun, isAggD, cond_true, cond_false, ↓reduceIte, C_P, C_G, isTuple, Value.cells, setL, ares, aresL, ares1, reduceCtorEq, Nat.reduceEqDiff, eq_self, Nat.reduceAdd, if_true, if_false, Go.Abs.one, Nat.reduceLeDiff, undef, gsl, aextract, aindexAddr, amake, implies_true, forall_const, alen, abuiltin, anil, isC, Int.reduceEq, Int.reduceLT, Int.reduceLE, Int.reduceAdd, Int.reduceToNat, Int.reduceNeg, Nat.reduceMul, Nat.reduceSub, abuild, afill, Int.reduceBNe, Int.reduceBEq, hvs, Tryd.underlying38, show (key.length : Int) > 64 by omega, decide_true, abuildSlice_one (st := st) (v := .slice a key.length c) Tryd.underlying88 asz38 azc38 rfl rfl rfl (by decide)]
      rw [← hvs]
      have hO1 := hO.new (.cells [kv] 38 true)
      have hps : Ps ((st.n, .cells [kv] 38 true) :: r) (.slice (some ⟨st.n, 0, none⟩) 1 1) [(kv, key)] := Ps.of (ps := [(kv, key)]) (List.mem_cons_self ..) rfl fun p hp => by
        rw [List.mem_singleton.1 hp]; exact hv.sub fun e he => List.mem_cons_of_mem _ he
      have hfl : flat [(kv, key)] = key := by simp [flat]
      refine ACallF.enter Tryd.func39 rfl (by kernel_rfl) (Sum_spec _ _ _ _ ok (kt := kt) hps (by rw [hfl]; exact hn) (show (1 : Nat) ≤ 100000 by decide) (by simp [hK]) hO1 _ _ fun vs hs s1 hG hO2 => ?_)
      rw [hfl] at hG
      have hOr : Own s1 (hs ++ r) := hO2.sub (List.Sublist.append_left (List.sublist_cons_self _ _) hs)
      simp (config := { implicitDefEqProofs := false }) only [↓GP, ↓GM, GQ, abuiltinX, ↓awp_seq, ↓awp_block, C_ex, Nat.reduceBEq, acap, afieldAddr, aload, astore, abin, anum, astr, aun, isAggD, cond_true, cond_false, ↓reduceIte, C_P, C_G, isTuple, Value.cells, setL, ares, aresL, ares1, reduceCtorEq, Nat.reduceEqDiff, eq_self, Nat.reduceAdd, if_true, if_false, Go.Abs.one, Nat.reduceLeDiff, undef, gsl, aextract, aindexAddr, amake, implies_true, forall_const, alen, abuiltin, anil, isC, Int.reduceEq, Int.reduceLT, Int.reduceLE, Int.reduceAdd, Int.reduceToNat, Int.reduceNeg, Nat.reduceMul, Nat.reduceSub, abuild, afill, Int.reduceBNe, Int.reduceBEq]
      refine ⟨vs, hs, rfl, ?_, hOr⟩
      rw [keyOf, show Nat.blt 64 key.length = true from Nat.ble_eq_true_of_le h64, cond_true]
      exact hG.x.nb (digest_length _).symm (digest_lt _)
    · simp (config := { implicitDefEqProofs := false }) only [↓GP, ↓GM, GQ, abuiltinX, ↓awp_seq, ↓awp_block, C_ex, Nat.reduceBEq, acap, afieldAddr, aload, astore, abin, anum, astr, aun, isAggD, cond_true, cond_false, ↓reduceIte, C_P, C_G, isTuple, Value.cells, setL, ares, aresL, ares1, reduceCtorEq, Nat.reduceEqDiff, eq_self, Nat.reduceAdd, if_true, if_false, Go.Abs.one, Nat.reduceLeDiff, undef, gsl, aextract, aindexAddr, amake, implies_true, forall_const, alen, abuiltin, anil, isC, Int.reduceEq, Int.reduceLT, Int.reduceLE, Int.reduceAdd, Int.reduceToNat, Int.reduceNeg, Nat.reduceMul, Nat.reduceSub, abuild, afill, Int.reduceBNe, Int.reduceBEq, hvs, Tryd.underlying38, show ¬ (key.length : Int) > 64 by omega, decide_false]
      refine ⟨kv, [], hvs.symm, ?_, hO⟩
      have hb : Nat.blt 64 key.length = false := by
        cases h : Nat.blt 64 key.length with
        | false => rfl
        | true => exact absurd (Nat.le_of_ble_eq_true h) (by omega)
      rw [keyOf, hb, cond_false]
      exact hv
  · rintro ρ s ⟨kv', hk', h0, h1, hnb, hO⟩
    have hkl := keyOf_length key
    have hklt := hnb.2
    generalize keyOf key = ky at *
    obtain ⟨a', c', hvs'⟩ := hnb.isSlice
    simp (config := { implicitDefEqProofs := false }) only [↓GP, ↓GM, GQ, abuiltinX, ↓awp_seq, ↓awp_block, C_ex, Nat.reduceBEq, acap, afieldAddr, aload, astore, abin, anum, astr, aun, isAggD, cond_true, cond_false, ↓reduceIte, C_P, C_G, isTuple, Value.cells, setL, ares, aresL, ares1, reduceCtorEq, Nat.reduceEqDiff, eq_self, Nat.reduceAdd, if_true, if_false, Go.Abs.one, Nat.reduceLeDiff, undef, gsl, aextract, aindexAddr, amake, implies_true, forall_const, alen, abuiltin, anil, isC, Int.reduceEq, Int.reduceLT, Int.reduceLE, Int.reduceAdd, Int.reduceToNat, Int.reduceNeg, Nat.reduceMul, Nat.reduceSub, abuild, afill, Int.reduceBNe, Int.reduceBEq, h0, h1, abuildSlice_one (st := s) (v := .int .u8 x) Tryd.underlying38 asz5 azc5 rfl rfl rfl (by decide)]
    have hO1 := hO.new (.cells (nl [x]) 5 true)
    refine ACallF.enter Tryd.func54 rfl (by kernel_rfl) (Repeat_spec _ _ s.n x (List.mem_cons_self ..) hO1 _ _ fun b s1 hO2 => ?_)
    have hO3 : Own s1 ((b, .cells (nl (pdI ky x 0)) 5 true) :: (hk' ++ r)) := hO2.sub (List.Sublist.cons_cons _ (List.sublist_cons_self _ _))
    simp (config := { implicitDefEqProofs := false }) only [↓GP, ↓GM, GQ, abuiltinX, ↓awp_seq, ↓awp_block, C_ex, Nat.reduceBEq, acap, afieldAddr, aload, astore, abin, anum, astr, aun, isAggD, cond_true, cond_false, ↓reduceIte, C_P, C_G, isTuple, Value.cells, setL, ares, aresL, ares1, reduceCtorEq, Nat.reduceEqDiff, eq_self, Nat.reduceAdd, if_true, if_false, Go.Abs.one, Nat.reduceLeDiff, undef, gsl, aextract, aindexAddr, amake, implies_true, forall_const, alen, abuiltin, anil, isC, Int.reduceEq, Int.reduceLT, Int.reduceLE, Int.reduceAdd, Int.reduceToNat, Int.reduceNeg, Nat.reduceMul, Nat.reduceSub, abuild, afill, Int.reduceBNe, Int.reduceBEq, h0, h1, hvs', Tryd.underlying38]
    refine ⟨fun m ρ s => ∃ i : Nat, m = ky.length - i ∧ i ≤ ky.length ∧ ρ 0 = kv' ∧ ρ 5 = .slice (some ⟨b, 0, none⟩) 64 64 ∧ ρ 17 = .int .i64 ky.length ∧ ρ 18 = .int .i64 i ∧ Own s ((b, .cells (nl (pdI ky x i)) 5 true) :: (hk' ++ r)), ⟨_, 0, rfl, Nat.zero_le _, h0, rfl, rfl, rfl, hO3⟩, ?_⟩
    clear h0 h1 hO hO1 hO2 hO3
    rintro _ ρ s2 ⟨i, rfl, hi, h0, h5, h17, h18, hs⟩
    by_cases him : i < ky.length
    · obtain ⟨B, o, sp, c2, cs, ty, own, hkx, hmem, hget⟩ := hnb.at (by intro e; rw [e] at him; simp at him)
      have hgk := hget i him
      have hcB := hs.get (List.mem_cons_of_mem _ hmem)
      have hpl := pdI_length (k := ky) (x := x) (i := i) (by omega) (by omega)
      have hgo := nl_get (l := pdI ky x i) (i := i) (by omega)
      rw [pdI_get him (by omega)] at hgo
      have hkd := getD8 hklt i
      have hset := pdI_succ (x := x) him (by omega)
      have hcb := hs.head
      have hpl2 := nl_length (pdI ky x i)
      simp (config := { implicitDefEqProofs := false }) only [↓GP, ↓GM, GQ, abuiltinX, ↓awp_seq, ↓awp_block, C_ex, Nat.reduceBEq, acap, afieldAddr, aload, astore, abin, anum, astr, aun, isAggD, cond_true, cond_false, ↓reduceIte, C_P, C_G, isTuple, Value.cells, setL, ares, aresL, ares1, reduceCtorEq, Nat.reduceEqDiff, eq_self, Nat.reduceAdd, if_true, if_false, Go.Abs.one, Nat.reduceLeDiff, undef, gsl, aextract, aindexAddr, amake, implies_true, forall_const, alen, abuiltin, anil, isC, Int.reduceEq, Int.reduceLT, Int.reduceLE, Int.reduceAdd, Int.reduceToNat, Int.reduceNeg, Nat.reduceMul, Nat.reduceSub, abuild, afill, Int.reduceBNe, Int.reduceBEq, h0, h5, h17, h18, him, Int.ofNat_lt, decide_true]
      refine ADraw.of [(0, false, []), (1, false, []), (2, false, []), (3, false, []), (4, false, []), (5, false, []), (6, false, []), (7, false, []), (8, false, []), (9, false, []), (10, false, [])] [] [] (by kernel_rfl) ?_
      simp (config := { implicitDefEqProofs := false }) only [↓GP, ↓GM, GQ, abuiltinX, ↓awp_seq, ↓awp_block, C_ex, Nat.reduceBEq, acap, afieldAddr, aload, astore, abin, anum, astr, aun, isAggD, cond_true, cond_false, ↓reduceIte, C_P, C_G, isTuple, Value.cells, setL, ares, aresL, ares1, reduceCtorEq, Nat.reduceEqDiff, eq_self, Nat.reduceAdd, if_true, if_false, Go.Abs.one, Nat.reduceLeDiff, undef, gsl, aextract, aindexAddr, amake, implies_true, forall_const, alen, abuiltin, anil, isC, Int.reduceEq, Int.reduceLT, Int.reduceLE, Int.reduceAdd, Int.reduceToNat, Int.reduceNeg, Nat.reduceMul, Nat.reduceSub, abuild, afill, Int.reduceBNe, Int.reduceBEq, h0, h5, h17, h18, hkx, Tryd.underlying38, Tryd.underlying5, asz5, hcb, hcB, hgo, hgk, bits_xor8 hx hkd, nl_set, hset]
      exact ⟨by omega, by omega, by omega, by omega, ky.length - (i + 1), by omega, i + 1, rfl, by omega, by rw [w_i64 (by omega)]; rfl, hs.set rfl (.cells (nl (pdI ky x (i + 1))) 5 true) rfl⟩
    · obtain rfl : i = ky.length := by omega
      simp (config := { implicitDefEqProofs := false }) only [↓GP, ↓GM, GQ, abuiltinX, ↓awp_seq, ↓awp_block, C_ex, Nat.reduceBEq, acap, afieldAddr, aload, astore, abin, anum, astr, aun, isAggD, cond_true, cond_false, ↓reduceIte, C_P, C_G, isTuple, Value.cells, setL, ares, aresL, ares1, reduceCtorEq, Nat.reduceEqDiff, eq_self, Nat.reduceAdd, if_true, if_false, Go.Abs.one, Nat.reduceLeDiff, undef, gsl, aextract, aindexAddr, amake, implies_true, forall_const, alen, abuiltin, anil, isC, Int.reduceEq, Int.reduceLT, Int.reduceLE, Int.reduceAdd, Int.reduceToNat, Int.reduceNeg, Nat.reduceMul, Nat.reduceSub, abuild, afill, Int.reduceBNe, Int.reduceBEq, h0, h5, h17, h18, Nat.lt_irrefl, Int.ofNat_lt, decide_false]
      refine hk b s2 ?_
      have e : pdI ky x ky.length = pd ky x := by simp [pdI, pd]
      rw [e] at hs
      exact hs.sub (List.Sublist.cons_cons _ (List.sublist_append_right _ _))
def mac (key l : List Nat) : List Nat := digest (pd (keyOf key) 92 ++ digest (pd (keyOf key) 54 ++ l))
theorem build2 {st : St} {a b : Option Addr} {n m c d : Nat} : abuildSlice Tryd.prog st 88 2 [(0, .slice a n c), (1, .slice b m d)] = some (.slice (some ⟨st.n, 0, none⟩) 2 2, st.new (.cells [.slice a n c, .slice b m d] 38 true)) := by
  simp [abuildSlice, Tryd.underlying88, asz38, azc38, afill, zeros, isTuple, Value.cells, setL, List.replicate]
set_option maxRecDepth 10000 in
theorem Mac_spec (st : St) (r : Hp) (kv bv : Value) (key : List Nat) (ps : List (Value × List Nat)) (ok : Bool) {kt : TypeId} (hv : Nb r kv key) (hb : Ps r bv ps) (hn : key.length ≤ 50000) (hf : (flat ps).length ≤ 50000) (hl : ps.length ≤ 50000) (hK : (0, .cells (wl ks0) kt ok) ∈ r) (hO : Own st r) (k q : Value → St → Prop)
    (hk : ∀ v hg st', GV v (nl (mac key (flat ps))) 32 1 5 hg → Own st' (hg ++ r) → k v st') :
    ACall (C base w0 4) 28 [kv, bv] st k q := by
  refine ACall.of (cx := C base w0 4) mixed Tryd.func28 rfl (by kernel_rfl) (by simp [Tryd.ntmps28]) ?_
  simp only [Tryd.results28]
  simp (config := { implicitDefEqProofs := false }) only [↓GP, ↓GM, GQ, abuiltinX, ↓awp_seq, ↓awp_block, C_ex, Nat.reduceBEq, acap, afieldAddr, aload, astore, abin, anum, astr, aun, isAggD, cond_true, cond_false, ↓reduceIte, C_P, C_G, isTuple, Value.cells, setL, ares, aresL, ares1, reduceCtorEq, Nat.reduceEqDiff, eq_self, Nat.reduceAdd, if_true, if_false, Go.Abs.one, Nat.reduceLeDiff, undef, gsl, aextract, aindexAddr, amake, implies_true, forall_const, alen, abuiltin, anil, isC, Int.reduceEq, Int.reduceLT, Int.reduceLE, Int.reduceAdd, Int.reduceToNat, Int.reduceNeg, Nat.reduceMul, Nat.reduceSub, abuild, afill, Int.reduceBNe, Int.reduceBEq]
  refine ACallF.enter Tryd.func40 rfl (by kernel_rfl) (pad_spec st r kv key 92 ok hv (by omega) (by decide) hK hO _ _ fun b1 s1 hO1 => ?_)
  simp (config := { implicitDefEqProofs := false }) only [↓GP, ↓GM, GQ, abuiltinX, ↓awp_seq, ↓awp_block, C_ex, Nat.reduceBEq, acap, afieldAddr, aload, astore, abin, anum, astr, aun, isAggD, cond_true, cond_false, ↓reduceIte, C_P, C_G, isTuple, Value.cells, setL, ares, aresL, ares1, reduceCtorEq, Nat.reduceEqDiff, eq_self, Nat.reduceAdd, if_true, if_false, Go.Abs.one, Nat.reduceLeDiff, undef, gsl, aextract, aindexAddr, amake, implies_true, forall_const, alen, abuiltin, anil, isC, Int.reduceEq, Int.reduceLT, Int.reduceLE, Int.reduceAdd, Int.reduceToNat, Int.reduceNeg, Nat.reduceMul, Nat.reduceSub, abuild, afill, Int.reduceBNe, Int.reduceBEq]
  refine ACallF.enter Tryd.func42 rfl (by kernel_rfl) (Clone_spec s1 _ bv ps (hb.sub fun e he => List.mem_cons_of_mem _ he) (by omega) hO1 _ _ fun cv hc s2 hC hO2 => ?_)
  simp (config := { implicitDefEqProofs := false }) only [↓GP, ↓GM, GQ, abuiltinX, ↓awp_seq, ↓awp_block, C_ex, Nat.reduceBEq, acap, afieldAddr, aload, astore, abin, anum, astr, aun, isAggD, cond_true, cond_false, ↓reduceIte, C_P, C_G, isTuple, Value.cells, setL, ares, aresL, ares1, reduceCtorEq, Nat.reduceEqDiff, eq_self, Nat.reduceAdd, if_true, if_false, Go.Abs.one, Nat.reduceLeDiff, undef, gsl, aextract, aindexAddr, amake, implies_true, forall_const, alen, abuiltin, anil, isC, Int.reduceEq, Int.reduceLT, Int.reduceLE, Int.reduceAdd, Int.reduceToNat, Int.reduceNeg, Nat.reduceMul, Nat.reduceSub, abuild, afill, Int.reduceBNe, Int.reduceBEq]
  have hin : ∀ e ∈ r, e ∈ hc ++ ((b1, Ob.cells (nl (pd (keyOf key) 92)) 5 true) :: r) := fun e he => List.mem_append_right _ (List.mem_cons_of_mem _ he)
  refine ACallF.enter Tryd.func40 rfl (by kernel_rfl) (pad_spec s2 _ kv key 54 ok (hv.sub hin) (by omega) (by decide) (hin _ hK) hO2 _ _ fun b2 s3 hO3 => ?_)
  simp (config := { implicitDefEqProofs := false }) only [↓GP, ↓GM, GQ, abuiltinX, ↓awp_seq, ↓awp_block, C_ex, Nat.reduceBEq, acap, afieldAddr, aload, astore, abin, anum, astr, aun, isAggD, cond_true, cond_false, ↓reduceIte, C_P, C_G, isTuple, Value.cells, setL, ares, aresL, ares1, reduceCtorEq, Nat.reduceEqDiff, eq_self, Nat.reduceAdd, if_true, if_false, Go.Abs.one, Nat.reduceLeDiff, undef, gsl, aextract, aindexAddr, amake, implies_true, forall_const, alen, abuiltin, anil, isC, Int.reduceEq, Int.reduceLT, Int.reduceLE, Int.reduceAdd, Int.reduceToNat, Int.reduceNeg, Nat.reduceMul, Nat.reduceSub, abuild, afill, Int.reduceBNe, Int.reduceBEq, abuildSlice_one (st := s3) (v := .slice (some ⟨b2, 0, none⟩) 64 64) Tryd.underlying88 asz38 azc38 rfl rfl rfl (by decide)]
  have hO4 := hO3.new (.cells [.slice (some ⟨b2, 0, none⟩) 64 64] 38 true)
  have hklt := keyOf_lt hv.2
  have hkl := keyOf_length key
  have hl54 := pd_length hkl 54
  have hl92 := pd_length hkl 92
  have hd54 := pd_lt hklt (show 54 < 256 by decide)
  have hd92 := pd_lt hklt (show 92 < 256 by decide)
  have hmac : mac key (flat ps) = digest (pd (keyOf key) 92 ++ digest (pd (keyOf key) 54 ++ flat ps)) := rfl
  generalize pd (keyOf key) 54 = p54 at *
  generalize pd (keyOf key) 92 = p92 at *
  have hO5 := hO4.perm (perm_swap [(s3.n, Ob.cells [.slice (some ⟨b2, 0, none⟩) 64 64] 38 true), (b2, Ob.cells (nl p54) 5 true)] hc ((b1, Ob.cells (nl p92) 5 true) :: r))
  refine ACallF.enter Tryd.func41 rfl (by kernel_rfl) (Insert_spec _ _ cv (.slice (some ⟨b2, 0, none⟩) 64 64) ps hc s3.n hC (by omega) (List.mem_cons_self ..) rfl hb.one hO5 _ _ fun bi ci D s5 hD hO6 => ?_)
  simp (config := { implicitDefEqProofs := false }) only [↓GP, ↓GM, GQ, abuiltinX, ↓awp_seq, ↓awp_block, C_ex, Nat.reduceBEq, acap, afieldAddr, aload, astore, abin, anum, astr, aun, isAggD, cond_true, cond_false, ↓reduceIte, C_P, C_G, isTuple, Value.cells, setL, ares, aresL, ares1, reduceCtorEq, Nat.reduceEqDiff, eq_self, Nat.reduceAdd, if_true, if_false, Go.Abs.one, Nat.reduceLeDiff, undef, gsl, aextract, aindexAddr, amake, implies_true, forall_const, alen, abuiltin, anil, isC, Int.reduceEq, Int.reduceLT, Int.reduceLE, Int.reduceAdd, Int.reduceToNat, Int.reduceNeg, Nat.reduceMul, Nat.reduceSub, abuild, afill, Int.reduceBNe, Int.reduceBEq]
  have hin2 : ∀ e ∈ r, e ∈ (bi, Ob.cells D 38 true) :: ([(s3.n, Ob.cells [.slice (some ⟨b2, 0, none⟩) 64 64] 38 true), (b2, Ob.cells (nl p54) 5 true)] ++ ((b1, Ob.cells (nl p92) 5 true) :: r)) := fun e he => by simp [he]
  have hnb2 : Nb ((bi, Ob.cells D 38 true) :: ([(s3.n, Ob.cells [.slice (some ⟨b2, 0, none⟩) 64 64] 38 true), (b2, Ob.cells (nl p54) 5 true)] ++ ((b1, Ob.cells (nl p92) 5 true) :: r))) (.slice (some ⟨b2, 0, none⟩) 64 64) p54 := by
    have := nb_exact (ty := 5) (own := true) (b := b2) (l := p54) (sp := none) (c := 64) (h := (bi, Ob.cells D 38 true) :: ([(s3.n, Ob.cells [.slice (some ⟨b2, 0, none⟩) 64 64] 38 true), (b2, Ob.cells (nl p54) 5 true)] ++ ((b1, Ob.cells (nl p92) 5 true) :: r))) (by simp) hd54
    rw [hl54] at this
    exact this
  have hps2 := Ps.of (h := (bi, Ob.cells D 38 true) :: ([(s3.n, Ob.cells [.slice (some ⟨b2, 0, none⟩) 64 64] 38 true), (b2, Ob.cells (nl p54) 5 true)] ++ ((b1, Ob.cells (nl p92) 5 true) :: r)))
    (sp := none) (c := ci) (ps := (.slice (some ⟨b2, 0, none⟩) 64 64, p54) :: ps) (List.mem_cons_self ..) hD (fun p hp => by
      rcases List.mem_cons.1 hp with rfl | hp
      · exact hnb2
      · exact (hb.2 p hp).sub hin2)
  have hfl2 : flat ((.slice (some ⟨b2, 0, none⟩) 64 64, p54) :: ps) = p54 ++ flat ps := rfl
  refine ACallF.enter Tryd.func39 rfl (by kernel_rfl) (Sum_spec s5 _ _ _ ok (kt := kt) hps2 (by rw [hfl2, List.length_append]; omega) (show ps.length + 1 ≤ 100000 by omega) (hin2 _ hK) hO6 _ _ fun vd hd s6 hG hO7 => ?_)
  rw [hfl2] at hG
  obtain ⟨Bd, rfl, rfl, hBd⟩ := GV_out hG (by decide)
  have hO8 : Own s6 ((Bd, .cells (nl (digest (p54 ++ flat ps))) 5 true) :: (b1, Ob.cells (nl p92) 5 true) :: r) := hO7.sub (List.Sublist.cons_cons _ ((List.sublist_cons_self _ _).trans ((List.sublist_cons_self _ _).trans (List.sublist_cons_self _ _))))
  have hdl := digest_length (p54 ++ flat ps)
  have hdd := digest_lt (p54 ++ flat ps)
  generalize digest (p54 ++ flat ps) = dg at *
  simp (config := { implicitDefEqProofs := false }) only [↓GP, ↓GM, GQ, abuiltinX, ↓awp_seq, ↓awp_block, C_ex, Nat.reduceBEq, acap, afieldAddr, aload, astore, abin, anum, astr, aun, isAggD, cond_true, cond_false, ↓reduceIte, C_P, C_G, isTuple, Value.cells, setL, ares, aresL, ares1, reduceCtorEq, Nat.reduceEqDiff, eq_self, Nat.reduceAdd, if_true, if_false, Go.Abs.one, Nat.reduceLeDiff, undef, gsl, aextract, aindexAddr, amake, implies_true, forall_const, alen, abuiltin, anil, isC, Int.reduceEq, Int.reduceLT, Int.reduceLE, Int.reduceAdd, Int.reduceToNat, Int.reduceNeg, Nat.reduceMul, Nat.reduceSub, abuild, afill, Int.reduceBNe, Int.reduceBEq, build2]
  have hO9 := hO8.new (.cells [.slice (some ⟨b1, 0, none⟩) 64 64, .slice (some ⟨Bd, 0, some 0⟩) 32 32] 38 true)
  have hps3 := Ps.of (h := (s6.n, Ob.cells [.slice (some ⟨b1, 0, none⟩) 64 64, .slice (some ⟨Bd, 0, some 0⟩) 32 32] 38 true) :: (Bd, .cells (nl dg) 5 true) :: (b1, Ob.cells (nl p92) 5 true) :: r)
    (sp := none) (c := 2) (ps := [(.slice (some ⟨b1, 0, none⟩) 64 64, p92), (.slice (some ⟨Bd, 0, some 0⟩) 32 32, dg)]) (List.mem_cons_self ..) rfl (fun p hp => by
      simp only [List.mem_cons, List.not_mem_nil, or_false] at hp
      rcases hp with rfl | rfl
      · have := nb_exact (ty := 5) (own := true) (b := b1) (l := p92) (sp := none) (c := 64) (h := (s6.n, Ob.cells [.slice (some ⟨b1, 0, none⟩) 64 64, .slice (some ⟨Bd, 0, some 0⟩) 32 32] 38 true) :: (Bd, .cells (nl dg) 5 true) :: (b1, Ob.cells (nl p92) 5 true) :: r) (by simp) hd92
        rw [hl92] at this
        exact this
      · have := nb_exact (ty := 5) (own := true) (b := Bd) (l := dg) (sp := some 0) (c := 32) (h := (s6.n, Ob.cells [.slice (some ⟨b1, 0, none⟩) 64 64, .slice (some ⟨Bd, 0, some 0⟩) 32 32] 38 true) :: (Bd, .cells (nl dg) 5 true) :: (b1, Ob.cells (nl p92) 5 true) :: r) (by simp) hdd
        rw [hdl] at this
        exact this)
  have hfl3 : flat [((.slice (some ⟨b1, 0, none⟩) 64 64 : Value), p92), (.slice (some ⟨Bd, 0, some 0⟩) 32 32, dg)] = p92 ++ dg := by simp [flat]
  refine ACallF.enter Tryd.func39 rfl (by kernel_rfl) (Sum_spec _ _ _ _ ok (kt := kt) hps3 (by rw [hfl3, List.length_append]; omega) (show (2 : Nat) ≤ 100000 by decide) (by simp [hK]) hO9 _ _ fun vr hr s7 hG2 hO10 => ?_)
  rw [hfl3, ← hmac] at hG2
  simp (config := { implicitDefEqProofs := false }) only [↓GP, ↓GM, GQ, abuiltinX, ↓awp_seq, ↓awp_block, C_ex, Nat.reduceBEq, acap, afieldAddr, aload, astore, abin, anum, astr, aun, isAggD, cond_true, cond_false, ↓reduceIte, C_P, C_G, isTuple, Value.cells, setL, ares, aresL, ares1, reduceCtorEq, Nat.reduceEqDiff, eq_self, Nat.reduceAdd, if_true, if_false, Go.Abs.one, Nat.reduceLeDiff, undef, gsl, aextract, aindexAddr, amake, implies_true, forall_const, alen, abuiltin, anil, isC, Int.reduceEq, Int.reduceLT, Int.reduceLE, Int.reduceAdd, Int.reduceToNat, Int.reduceNeg, Nat.reduceMul, Nat.reduceSub, abuild, afill, Int.reduceBNe, Int.reduceBEq]
  exact hk _ _ _ hG2 (hO10.sub (List.Sublist.append_left ((List.sublist_cons_self _ _).trans ((List.sublist_cons_self _ _).trans (List.sublist_cons_self _ _))) hr))
end Go.Proofs.YthohmdkibkompaaDoor
