/- The reference's keyed digest. No conditions. -/
import Derived.Test.YtjkmcnhofpnoeaaDoorE25
set_option linter.unusedVariables false
set_option linter.unusedSimpArgs false
namespace Go.Proofs.YtjkmcnhofpnoeaaDoor
open Go Go.Abs Go.RowKit
variable {base : Nat} {w0 : World} {G : Nat}

theorem pd_get {k : List Nat} {x i : Nat} (h : k.length ≤ 64) (hi : i < 64) : (pd k x).getD i 0 = k.getD i 0 ^^^ x := by
  unfold pd
  by_cases hk : i < k.length
  · rw [List.getD_eq_getElem?_getD, List.getElem?_append_left (by simpa using hk), List.getElem?_map, List.getD_eq_getElem?_getD, List.getElem?_eq_getElem hk]
    simp [Nat.xor_comm]
  · rw [List.getD_eq_getElem?_getD, List.getElem?_append_right (by simp; omega), List.getElem?_replicate, if_pos (by simp; omega), List.getD_eq_getElem?_getD, List.getElem?_eq_none (by omega)]
    simp
theorem take_getD {l : List Nat} {i : Nat} (h : i < l.length) : l.take (i + 1) = l.take i ++ [l.getD i 0] := by
  rw [List.take_add_one, List.getD_eq_getElem?_getD, List.getElem?_eq_getElem h]; rfl
set_option maxHeartbeats 800000 in
set_option maxRecDepth 10000 in
theorem RMac_spec (st : St) (r : Hp) (kv bv : Value) (key l : List Nat) (Bh Bk : Nat) (oh okk : Bool) (hv : Nb r kv key) (hb : Nb r bv l) (hn : key.length ≤ 50000) (hf : l.length ≤ 50000) (hH : (Bh, .cells (wl hs0) 47 oh) ∈ r) (hK : (Bk, .cells (wl ks0) 47 okk) ∈ r) (hO : Own st r) (k q : Value → St → Prop)
    (hk : ∀ v hg st', GV v (nl (mac key l)) 32 1 5 hg → Own st' (hg ++ r) → k v st') :
    ACall (C base w0 G) 14 [.agg #[.slice (some ⟨Bh, 0, some 0⟩) 8 8, .slice (some ⟨Bk, 0, some 0⟩) 64 64], kv, bv] st k q := by
  refine ACall.of (cx := C base w0 G) mixed Tryd.func14 rfl (by kernel_rfl) (by simp [Tryd.ntmps14]) ?_
  simp only [Tryd.results14]
  obtain ⟨a, c, hvs⟩ := hv.isSlice
  obtain ⟨TC, hTC⟩ : ∃ TC, TC = Ob.cells [.slice (some ⟨Bh, 0, some 0⟩) 8 8, .slice (some ⟨Bk, 0, some 0⟩) 64 64] 30 true := ⟨_, rfl⟩
  obtain ⟨T, hT⟩ : ∃ T, T = st.n := ⟨_, rfl⟩
  have hO1 := hO.new TC
  rw [← hT] at hO1
  have hR : ∀ e ∈ r, e ∈ (T, TC) :: r := fun e he => List.mem_cons_of_mem _ he
  rw [awp_seq]
  simp (config := { implicitDefEqProofs := false }) only [↓GP, GQ, C_ex, Nat.reduceBEq, acap, afieldAddr, aload, astore, abin, anum, astr, aun, isAggD, cond_true, cond_false, ↓reduceIte, C_P, C_G, isTuple, Value.cells, setL, ares, aresL, ares1, reduceCtorEq, Nat.reduceEqDiff, eq_self, Nat.reduceAdd, if_true, if_false, one, Nat.reduceLeDiff, undef, gsl, aextract, aindexAddr, amake, implies_true, forall_const, alen, abuiltin, anil, isC, Int.reduceEq, Int.reduceLT, Int.reduceLE, Int.reduceAdd, Int.reduceToNat, Int.reduceNeg, Nat.reduceMul, Nat.reduceSub, abuild, afill, Int.reduceBNe, Int.reduceBEq, abox]
  rw [← hTC, ← hT]
  obtain ⟨st1, hst1⟩ : ∃ s, s = st.new TC := ⟨_, rfl⟩
  rw [← hst1] at hO1 ⊢
  refine seq_cut (fun ρ s => ∃ (kv' : Value) (hk' : Hp), ρ 1 = kv' ∧ ρ 2 = bv ∧ ρ 3 = .pointer (some ⟨T, 0, none⟩) ∧ Nb (hk' ++ ((T, TC) :: r)) kv' (keyOf key) ∧ Own s (hk' ++ ((T, TC) :: r))) ?_ ?_
  · rw [awp_seq]
    have hcT : st1.H T = some (.cells [.slice (some ⟨Bh, 0, some 0⟩) 8 8, .slice (some ⟨Bk, 0, some 0⟩) 64 64] 30 true) := by rw [← hTC]; exact hO1.head
    by_cases h64 : 64 < key.length
    · simp (config := { implicitDefEqProofs := false }) only [↓GP, GQ, ↓awp_seq, ↓awp_block, C_ex, Nat.reduceBEq, acap, afieldAddr, aload, astore, abin, anum, astr, aun, isAggD, cond_true, cond_false, ↓reduceIte, C_P, C_G, isTuple, Value.cells, setL, ares, aresL, ares1, reduceCtorEq, Nat.reduceEqDiff, eq_self, Nat.reduceAdd, if_true, if_false, one, Nat.reduceLeDiff, undef, gsl, aextract, aindexAddr, amake, implies_true, forall_const, alen, abuiltin, anil, isC, Int.reduceEq, Int.reduceLT, Int.reduceLE, Int.reduceAdd, Int.reduceToNat, Int.reduceNeg, Nat.reduceMul, Nat.reduceSub, abuild, afill, Int.reduceBNe, Int.reduceBEq, hvs, Tryd.underlying23, Tryd.underlying30, asz30, hcT, cut, List.drop_zero, List.take_succ_cons, List.take_zero, show (key.length : Int) > 64 by omega, decide_true]
      rw [← hvs]
      refine ACallF.enter Tryd.func12 rfl (by kernel_rfl) (RSum_spec _ _ kv key Bh Bk oh okk (hv.sub hR) (by omega) (hR _ hH) (hR _ hK) hO1 _ _ fun vs hs s1 hG hO2 => ?_)
      simp (config := { implicitDefEqProofs := false }) only [↓GP, GQ, ↓awp_seq, ↓awp_block, C_ex, Nat.reduceBEq, acap, afieldAddr, aload, astore, abin, anum, astr, aun, isAggD, cond_true, cond_false, ↓reduceIte, C_P, C_G, isTuple, Value.cells, setL, ares, aresL, ares1, reduceCtorEq, Nat.reduceEqDiff, eq_self, Nat.reduceAdd, if_true, if_false, one, Nat.reduceLeDiff, undef, gsl, aextract, aindexAddr, amake, implies_true, forall_const, alen, abuiltin, anil, isC, Int.reduceEq, Int.reduceLT, Int.reduceLE, Int.reduceAdd, Int.reduceToNat, Int.reduceNeg, Nat.reduceMul, Nat.reduceSub, abuild, afill, Int.reduceBNe, Int.reduceBEq]
      refine ⟨vs, hs, rfl, ?_, hO2⟩
      rw [keyOf, show Nat.blt 64 key.length = true from Nat.ble_eq_true_of_le h64, cond_true]
      exact hG.x.nb (digest_length _).symm (digest_lt _)
    · simp (config := { implicitDefEqProofs := false }) only [↓GP, GQ, ↓awp_seq, ↓awp_block, C_ex, Nat.reduceBEq, acap, afieldAddr, aload, astore, abin, anum, astr, aun, isAggD, cond_true, cond_false, ↓reduceIte, C_P, C_G, isTuple, Value.cells, setL, ares, aresL, ares1, reduceCtorEq, Nat.reduceEqDiff, eq_self, Nat.reduceAdd, if_true, if_false, one, Nat.reduceLeDiff, undef, gsl, aextract, aindexAddr, amake, implies_true, forall_const, alen, abuiltin, anil, isC, Int.reduceEq, Int.reduceLT, Int.reduceLE, Int.reduceAdd, Int.reduceToNat, Int.reduceNeg, Nat.reduceMul, Nat.reduceSub, abuild, afill, Int.reduceBNe, Int.reduceBEq, hvs, Tryd.underlying23, show ¬ (key.length : Int) > 64 by omega, decide_false]
      refine ⟨kv, [], hvs.symm, ?_, hO1⟩
      have hb : Nat.blt 64 key.length = false := by
        cases h : Nat.blt 64 key.length with
        | false => rfl
        | true => exact absurd (Nat.le_of_ble_eq_true h) (by omega)
      rw [keyOf, hb, cond_false]
      exact hv.sub hR
  · rintro ρ s ⟨kv', hk', h1, h2, h3, hnb, hO⟩
    have hkl := keyOf_length key
    have hklt := hnb.2
    have hmac : mac key l = digest (pd (keyOf key) 92 ++ digest (pd (keyOf key) 54 ++ l)) := rfl
    generalize keyOf key = ky at *
    have hl54 := pd_length hkl 54
    have hl92 := pd_length hkl 92
    have hd54 := pd_lt hklt (show 54 < 256 by decide)
    have hd92 := pd_lt hklt (show 92 < 256 by decide)
    have hg54 : ∀ i, i < 64 → (pd ky 54).getD i 0 = ky.getD i 0 ^^^ 54 := fun i hi => pd_get hkl hi
    have hg92 : ∀ i, i < 64 → (pd ky 92).getD i 0 = ky.getD i 0 ^^^ 92 := fun i hi => pd_get hkl hi
    generalize pd ky 54 = p54 at *
    generalize pd ky 92 = p92 at *
    obtain ⟨a', c', hvs'⟩ := hnb.isSlice
    obtain ⟨R', hR'⟩ : ∃ R', R' = hk' ++ ((T, TC) :: r) := ⟨_, rfl⟩
    rw [← hR'] at hnb hO
    have hTm : (T, TC) ∈ R' := by rw [hR']; simp
    simp (config := { implicitDefEqProofs := false }) only [↓GP, GQ, ↓awp_seq, ↓awp_block, C_ex, Nat.reduceBEq, acap, afieldAddr, aload, astore, abin, anum, astr, aun, isAggD, cond_true, cond_false, ↓reduceIte, C_P, C_G, isTuple, Value.cells, setL, ares, aresL, ares1, reduceCtorEq, Nat.reduceEqDiff, eq_self, Nat.reduceAdd, if_true, if_false, one, Nat.reduceLeDiff, undef, gsl, aextract, aindexAddr, amake, implies_true, forall_const, alen, abuiltin, anil, isC, Int.reduceEq, Int.reduceLT, Int.reduceLE, Int.reduceAdd, Int.reduceToNat, Int.reduceNeg, Nat.reduceMul, Nat.reduceSub, abuild, afill, Int.reduceBNe, Int.reduceBEq]
    refine ⟨fun m ρ s => ∃ (i : Nat) (vi vo : Value) (hi ho : Hp), m = 64 - i ∧ i ≤ 64 ∧ ρ 1 = kv' ∧ ρ 2 = bv ∧ ρ 3 = .pointer (some ⟨T, 0, none⟩) ∧ ρ 7 = vi ∧ ρ 8 = vo ∧ ρ 9 = .int .i64 i ∧
      GV vi (nl (p54.take i)) i 1 5 hi ∧ GV vo (nl (p92.take i)) i 1 5 ho ∧ Own s (hi ++ (ho ++ R')), ⟨64, 0, _, _, [], [], rfl, by decide, h1, h2, h3, rfl, rfl, rfl, GV.nil, GV.nil, hO⟩, ?_⟩
    clear h1 h2 h3 hO
    rintro m ρ s2 ⟨i, vi, vo, hi, ho, rfl, hi64, h1, h2, h3, h7, h8, h9, hGi, hGo, hO⟩
    by_cases him : i < 64
    · rw [stop3, awp_seq, awp_seq]
      simp (config := { implicitDefEqProofs := false }) only [↓GP, GQ, C_ex, Nat.reduceBEq, acap, afieldAddr, aload, astore, abin, anum, astr, aun, isAggD, cond_true, cond_false, ↓reduceIte, C_P, C_G, isTuple, Value.cells, setL, ares, aresL, ares1, reduceCtorEq, Nat.reduceEqDiff, eq_self, Nat.reduceAdd, if_true, if_false, one, Nat.reduceLeDiff, undef, gsl, aextract, aindexAddr, amake, implies_true, forall_const, alen, abuiltin, anil, isC, Int.reduceEq, Int.reduceLT, Int.reduceLE, Int.reduceAdd, Int.reduceToNat, Int.reduceNeg, Nat.reduceMul, Nat.reduceSub, abuild, afill, Int.reduceBNe, Int.reduceBEq, h9, show (i : Int) < 64 by omega, decide_true]
      rw [awp_seq, awp_block, awp_seq]
      simp (config := { implicitDefEqProofs := false }) only [↓GP, GQ, C_ex, Nat.reduceBEq, acap, afieldAddr, aload, astore, abin, anum, astr, aun, isAggD, cond_true, cond_false, ↓reduceIte, C_P, C_G, isTuple, Value.cells, setL, ares, aresL, ares1, reduceCtorEq, Nat.reduceEqDiff, eq_self, Nat.reduceAdd, if_true, if_false, one, Nat.reduceLeDiff, undef, gsl, aextract, aindexAddr, amake, implies_true, forall_const, alen, abuiltin, anil, isC, Int.reduceEq, Int.reduceLT, Int.reduceLE, Int.reduceAdd, Int.reduceToNat, Int.reduceNeg, Nat.reduceMul, Nat.reduceSub, abuild, afill, Int.reduceBNe, Int.reduceBEq, h9]
      refine seq_cut (fun ρ s => ρ 1 = kv' ∧ ρ 2 = bv ∧ ρ 3 = .pointer (some ⟨T, 0, none⟩) ∧ ρ 7 = vi ∧ ρ 8 = vo ∧ ρ 9 = .int .i64 i ∧ ρ 10 = .int .u8 (ky.getD i 0 : Nat) ∧ s = s2) ?_ ?_
      · rw [awp_seq]
        by_cases hik : i < ky.length
        · obtain ⟨B, o, sp, c2, cs, ty, own, hkx, hmem, hget⟩ := hnb.at (by intro e; rw [e] at hik; simp at hik)
          have hgk := hget i hik
          have hcB := hO.get (List.mem_append_right hi (List.mem_append_right ho hmem))
          simp (config := { implicitDefEqProofs := false }) only [↓GP, GQ, ↓awp_seq, ↓awp_block, C_ex, Nat.reduceBEq, acap, afieldAddr, aload, astore, abin, anum, astr, aun, isAggD, cond_true, cond_false, ↓reduceIte, C_P, C_G, isTuple, Value.cells, setL, ares, aresL, ares1, reduceCtorEq, Nat.reduceEqDiff, eq_self, Nat.reduceAdd, if_true, if_false, one, Nat.reduceLeDiff, undef, gsl, aextract, aindexAddr, amake, implies_true, forall_const, alen, abuiltin, anil, isC, Int.reduceEq, Int.reduceLT, Int.reduceLE, Int.reduceAdd, Int.reduceToNat, Int.reduceNeg, Nat.reduceMul, Nat.reduceSub, abuild, afill, Int.reduceBNe, Int.reduceBEq, h1, h2, h3, h7, h8, h9, hkx, Tryd.underlying23, Tryd.underlying5, asz5, hik, Int.ofNat_lt, decide_true, hcB, hgk]
          exact by omega
        · have e0 : ky.getD i 0 = 0 := by rw [List.getD_eq_getElem?_getD, List.getElem?_eq_none (by omega)]; rfl
          simp (config := { implicitDefEqProofs := false }) only [↓GP, GQ, ↓awp_seq, ↓awp_block, C_ex, Nat.reduceBEq, acap, afieldAddr, aload, astore, abin, anum, astr, aun, isAggD, cond_true, cond_false, ↓reduceIte, C_P, C_G, isTuple, Value.cells, setL, ares, aresL, ares1, reduceCtorEq, Nat.reduceEqDiff, eq_self, Nat.reduceAdd, if_true, if_false, one, Nat.reduceLeDiff, undef, gsl, aextract, aindexAddr, amake, implies_true, forall_const, alen, abuiltin, anil, isC, Int.reduceEq, Int.reduceLT, Int.reduceLE, Int.reduceAdd, Int.reduceToNat, Int.reduceNeg, Nat.reduceMul, Nat.reduceSub, abuild, afill, Int.reduceBNe, Int.reduceBEq, h1, h2, h3, h7, h8, h9, hvs', Tryd.underlying23, hik, Int.ofNat_lt, decide_false, e0]
      · rintro ρ s ⟨h1, h2, h3, h7, h8, h9, h10, rfl⟩
        have hy := getD8 hklt i
        have e54 := take_getD (l := p54) (i := i) (by omega)
        have e92 := take_getD (l := p92) (i := i) (by omega)
        rw [hg54 i him] at e54
        rw [hg92 i him] at e92
        have hx54 : bits .xor .u8 ((ky.getD i 0 : Nat) : Int) 54 = ((ky.getD i 0 ^^^ 54 : Nat) : Int) := bits_xor8 (b := 54) hy (by decide)
        have hx92 : bits .xor .u8 ((ky.getD i 0 : Nat) : Int) 92 = ((ky.getD i 0 ^^^ 92 : Nat) : Int) := bits_xor8 (b := 92) hy (by decide)
        generalize ky.getD i 0 ^^^ 54 = y54 at *
        generalize ky.getD i 0 ^^^ 92 = y92 at *
        simp (config := { implicitDefEqProofs := false }) only [↓GP, GQ, ↓awp_seq, ↓awp_block, C_ex, Nat.reduceBEq, acap, afieldAddr, aload, astore, abin, anum, astr, aun, isAggD, cond_true, cond_false, ↓reduceIte, C_P, C_G, isTuple, Value.cells, setL, ares, aresL, ares1, reduceCtorEq, Nat.reduceEqDiff, eq_self, Nat.reduceAdd, if_true, if_false, one, Nat.reduceLeDiff, undef, gsl, aextract, aindexAddr, amake, implies_true, forall_const, alen, abuiltin, anil, isC, Int.reduceEq, Int.reduceLT, Int.reduceLE, Int.reduceAdd, Int.reduceToNat, Int.reduceNeg, Nat.reduceMul, Nat.reduceSub, abuild, afill, Int.reduceBNe, Int.reduceBEq, h1, h2, h3, h7, h8, h9, h10, Tryd.underlying5, hx54, hx92, abuildSlice_one (st := s) (v := .int .u8 (y54 : Nat)) Tryd.underlying23 asz5 azc5 rfl rfl rfl (by decide)]
        refine GV.append1 Tryd.underlying23 (by rw [Tryd.underlying23]; rfl) asz5 azc5 (c := [.int .u8 (y54 : Nat)]) aby5 hGi hO rfl rfl (by omega) fun vi' hi' s' hGi' hO' => ?_
        simp (config := { implicitDefEqProofs := false }) only [↓GP, GQ, ↓awp_seq, ↓awp_block, C_ex, Nat.reduceBEq, acap, afieldAddr, aload, astore, abin, anum, astr, aun, isAggD, cond_true, cond_false, ↓reduceIte, C_P, C_G, isTuple, Value.cells, setL, ares, aresL, ares1, reduceCtorEq, Nat.reduceEqDiff, eq_self, Nat.reduceAdd, if_true, if_false, one, Nat.reduceLeDiff, undef, gsl, aextract, aindexAddr, amake, implies_true, forall_const, alen, abuiltin, anil, isC, Int.reduceEq, Int.reduceLT, Int.reduceLE, Int.reduceAdd, Int.reduceToNat, Int.reduceNeg, Nat.reduceMul, Nat.reduceSub, abuild, afill, Int.reduceBNe, Int.reduceBEq, h1, h2, h3, h8, h9, h10, Tryd.underlying5, hx54, hx92, abuildSlice_one (st := s') (v := .int .u8 (y92 : Nat)) Tryd.underlying23 asz5 azc5 rfl rfl rfl (by decide)]
        refine GV.append1 Tryd.underlying23 (by rw [Tryd.underlying23]; rfl) asz5 azc5 (c := [.int .u8 (y92 : Nat)]) aby5 hGo (hO'.perm (perm_swap hi' ho R')) rfl rfl (by omega) fun vo' ho' s'' hGo' hO'' => ?_
        simp (config := { implicitDefEqProofs := false }) only [↓GP, GQ, ↓awp_seq, ↓awp_block, C_ex, Nat.reduceBEq, acap, afieldAddr, aload, astore, abin, anum, astr, aun, isAggD, cond_true, cond_false, ↓reduceIte, C_P, C_G, isTuple, Value.cells, setL, ares, aresL, ares1, reduceCtorEq, Nat.reduceEqDiff, eq_self, Nat.reduceAdd, if_true, if_false, one, Nat.reduceLeDiff, undef, gsl, aextract, aindexAddr, amake, implies_true, forall_const, alen, abuiltin, anil, isC, Int.reduceEq, Int.reduceLT, Int.reduceLE, Int.reduceAdd, Int.reduceToNat, Int.reduceNeg, Nat.reduceMul, Nat.reduceSub, abuild, afill, Int.reduceBNe, Int.reduceBEq, h1, h2, h3, h9]
        refine ⟨64 - (i + 1), by omega, i + 1, vi', vo', hi', ho', rfl, by omega, rfl, rfl, by rw [w_i64 (by omega)]; rfl, ?_, ?_, hO''.perm (perm_swap ho' hi' R')⟩
        · rw [e54, nl_append]; exact hGi'
        · rw [e92, nl_append]; exact hGo'
    · obtain rfl : i = 64 := by omega
      have hcT : ∀ s h, Own s h → (T, TC) ∈ h → s.H T = some (.cells [.slice (some ⟨Bh, 0, some 0⟩) 8 8, .slice (some ⟨Bk, 0, some 0⟩) 64 64] 30 true) := fun s h hO hm => by rw [← hTC]; exact hO.get hm
      rw [List.take_of_length_le (by omega)] at hGi hGo
      have hcT2 := hcT s2 _ hO (by simp [hTm])
      simp (config := { implicitDefEqProofs := false }) only [↓GP, GQ, ↓awp_seq, ↓awp_block, C_ex, Nat.reduceBEq, acap, afieldAddr, aload, astore, abin, anum, astr, aun, isAggD, cond_true, cond_false, ↓reduceIte, C_P, C_G, isTuple, Value.cells, setL, ares, aresL, ares1, reduceCtorEq, Nat.reduceEqDiff, eq_self, Nat.reduceAdd, if_true, if_false, one, Nat.reduceLeDiff, undef, gsl, aextract, aindexAddr, amake, implies_true, forall_const, alen, abuiltin, anil, isC, Int.reduceEq, Int.reduceLT, Int.reduceLE, Int.reduceAdd, Int.reduceToNat, Int.reduceNeg, Nat.reduceMul, Nat.reduceSub, abuild, afill, Int.reduceBNe, Int.reduceBEq, h1, h2, h3, h7, h8, h9, show ¬ ((64 : Nat) : Int) < 64 by decide, decide_false]
      refine ADraw.of [(0, true, []), (1, false, []), (2, true, []), (3, false, []), (4, false, []), (5, false, [0, 2]), (6, false, [0]), (7, false, [0]), (8, false, []), (9, false, [])] [0, 2] [(0, 5), (0, 6), (0, 7), (2, 5)] (by kernel_rfl) ?_
      simp (config := { implicitDefEqProofs := false }) only [↓GP, GQ, ↓awp_seq, ↓awp_block, C_ex, Nat.reduceBEq, acap, afieldAddr, aload, astore, abin, anum, astr, aun, isAggD, cond_true, cond_false, ↓reduceIte, C_P, C_G, isTuple, Value.cells, setL, ares, aresL, ares1, reduceCtorEq, Nat.reduceEqDiff, eq_self, Nat.reduceAdd, if_true, if_false, one, Nat.reduceLeDiff, undef, gsl, aextract, aindexAddr, amake, implies_true, forall_const, alen, abuiltin, anil, isC, Int.reduceEq, Int.reduceLT, Int.reduceLE, Int.reduceAdd, Int.reduceToNat, Int.reduceNeg, Nat.reduceMul, Nat.reduceSub, abuild, afill, Int.reduceBNe, Int.reduceBEq, h1, h2, h3, h7, h8, hcT2, Tryd.underlying30, asz30, cut, List.drop_zero, List.take_succ_cons, List.take_zero]
      have hrR : ∀ e ∈ r, e ∈ R' := fun e he => by rw [hR']; exact List.mem_append_right _ (List.mem_cons_of_mem _ he)
      have hsb := (hb.sub fun e he => List.mem_append_right hi (List.mem_append_right ho (hrR e he))).src hO
      refine GVx.append Tryd.underlying23 (by rw [Tryd.underlying23]; rfl) asz5 azc5 aby5 hGi.x hO hsb (by rw [nl_length, Nat.mul_one]) (nl_one _) (by omega) fun v5 h5 s3 hG5 hO3 => ?_
      rw [← nl_append] at hG5
      have hcT3 := hcT s3 _ hO3 (by simp [hTm])
      have hnb5 : Nb (h5 ++ (ho ++ R')) v5 (p54 ++ l) := hG5.nb (by rw [List.length_append, hl54]) fun d hd => by
        rcases List.mem_append.1 hd with hd | hd
        · exact hd54 d hd
        · exact hb.2 d hd
      simp (config := { implicitDefEqProofs := false }) only [↓GP, GQ, ↓awp_seq, ↓awp_block, C_ex, Nat.reduceBEq, acap, afieldAddr, aload, astore, abin, anum, astr, aun, isAggD, cond_true, cond_false, ↓reduceIte, C_P, C_G, isTuple, Value.cells, setL, ares, aresL, ares1, reduceCtorEq, Nat.reduceEqDiff, eq_self, Nat.reduceAdd, if_true, if_false, one, Nat.reduceLeDiff, undef, gsl, aextract, aindexAddr, amake, implies_true, forall_const, alen, abuiltin, anil, isC, Int.reduceEq, Int.reduceLT, Int.reduceLE, Int.reduceAdd, Int.reduceToNat, Int.reduceNeg, Nat.reduceMul, Nat.reduceSub, abuild, afill, Int.reduceBNe, Int.reduceBEq, h1, h2, h3, h7, h8, hcT3, Tryd.underlying30, asz30, cut, List.drop_zero, List.take_succ_cons, List.take_zero]
      refine ACallF.enter Tryd.func12 rfl (by kernel_rfl) (RSum_spec s3 _ v5 (p54 ++ l) Bh Bk oh okk hnb5 (by rw [List.length_append]; omega) (by simp [hrR _ hH]) (by simp [hrR _ hK]) hO3 _ _ fun v6 h6 s4 hG6 hO4 => ?_)
      have hcT4 := hcT s4 _ hO4 (by simp [hTm])
      have hsrc6 := GV.src hG6 hO4
      have hdl := digest_length (p54 ++ l)
      have hdd := digest_lt (p54 ++ l)
      generalize digest (p54 ++ l) = dg at *
      rw [hdl] at hsrc6
      simp (config := { implicitDefEqProofs := false }) only [↓GP, GQ, ↓awp_seq, ↓awp_block, C_ex, Nat.reduceBEq, acap, afieldAddr, aload, astore, abin, anum, astr, aun, isAggD, cond_true, cond_false, ↓reduceIte, C_P, C_G, isTuple, Value.cells, setL, ares, aresL, ares1, reduceCtorEq, Nat.reduceEqDiff, eq_self, Nat.reduceAdd, if_true, if_false, one, Nat.reduceLeDiff, undef, gsl, aextract, aindexAddr, amake, implies_true, forall_const, alen, abuiltin, anil, isC, Int.reduceEq, Int.reduceLT, Int.reduceLE, Int.reduceAdd, Int.reduceToNat, Int.reduceNeg, Nat.reduceMul, Nat.reduceSub, abuild, afill, Int.reduceBNe, Int.reduceBEq, h1, h2, h3, h7, h8, hcT4, Tryd.underlying30, asz30, cut, List.drop_zero, List.take_succ_cons, List.take_zero]
      have hO4' : Own s4 (ho ++ (h6 ++ (h5 ++ R'))) := hO4.perm (by simpa using perm_of [h6, h5, ho, R'] [0, 1, 2, 3] [2, 0, 1, 3] rfl)
      refine GV.append Tryd.underlying23 (by rw [Tryd.underlying23]; rfl) asz5 azc5 aby5 hGo hO4' hsrc6 (by decide) (by rw [nl_length, hdl]) (nl_one _) (by omega) fun v7 h7' s5 hG7 hO5 => ?_
      rw [← nl_append] at hG7
      have hcT5 := hcT s5 _ hO5 (by simp [hTm])
      have hnb7 : Nb (h7' ++ (h6 ++ (h5 ++ R'))) v7 (p92 ++ dg) := hG7.x.nb (by rw [List.length_append, hl92, hdl]) fun d hd => by
        rcases List.mem_append.1 hd with hd | hd
        · exact hd92 d hd
        · exact hdd d hd
      simp (config := { implicitDefEqProofs := false }) only [↓GP, GQ, ↓awp_seq, ↓awp_block, C_ex, Nat.reduceBEq, acap, afieldAddr, aload, astore, abin, anum, astr, aun, isAggD, cond_true, cond_false, ↓reduceIte, C_P, C_G, isTuple, Value.cells, setL, ares, aresL, ares1, reduceCtorEq, Nat.reduceEqDiff, eq_self, Nat.reduceAdd, if_true, if_false, one, Nat.reduceLeDiff, undef, gsl, aextract, aindexAddr, amake, implies_true, forall_const, alen, abuiltin, anil, isC, Int.reduceEq, Int.reduceLT, Int.reduceLE, Int.reduceAdd, Int.reduceToNat, Int.reduceNeg, Nat.reduceMul, Nat.reduceSub, abuild, afill, Int.reduceBNe, Int.reduceBEq, h1, h2, h3, h7, h8, hcT5, Tryd.underlying30, asz30, cut, List.drop_zero, List.take_succ_cons, List.take_zero]
      refine ACallF.enter Tryd.func12 rfl (by kernel_rfl) (RSum_spec s5 _ v7 (p92 ++ dg) Bh Bk oh okk hnb7 (by rw [List.length_append]; omega) (by simp [hrR _ hH]) (by simp [hrR _ hK]) hO5 _ _ fun v8 h8' s6 hG8 hO6 => ?_)
      rw [← hmac] at hG8
      simp (config := { implicitDefEqProofs := false }) only [↓GP, GQ, ↓awp_seq, ↓awp_block, C_ex, Nat.reduceBEq, acap, afieldAddr, aload, astore, abin, anum, astr, aun, isAggD, cond_true, cond_false, ↓reduceIte, C_P, C_G, isTuple, Value.cells, setL, ares, aresL, ares1, reduceCtorEq, Nat.reduceEqDiff, eq_self, Nat.reduceAdd, if_true, if_false, one, Nat.reduceLeDiff, undef, gsl, aextract, aindexAddr, amake, implies_true, forall_const, alen, abuiltin, anil, isC, Int.reduceEq, Int.reduceLT, Int.reduceLE, Int.reduceAdd, Int.reduceToNat, Int.reduceNeg, Nat.reduceMul, Nat.reduceSub, abuild, afill, Int.reduceBNe, Int.reduceBEq]
      refine hk _ _ _ hG8 (hO6.sub (List.Sublist.append_left ?_ h8'))
      rw [hR']
      exact (List.sublist_cons_self _ _).trans ((List.sublist_append_right _ _).trans ((List.sublist_append_right _ _).trans ((List.sublist_append_right _ _).trans (List.sublist_append_right _ _))))
end Go.Proofs.YtjkmcnhofpnoeaaDoor
