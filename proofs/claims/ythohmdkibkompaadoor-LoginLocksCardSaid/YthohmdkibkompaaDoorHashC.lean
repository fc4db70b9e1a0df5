/- A block. No conditions. -/
import Derived.Test.YthohmdkibkompaaDoorHashB
set_option linter.unusedVariables false
set_option linter.unusedSimpArgs false
namespace Go.Proofs.YthohmdkibkompaaDoor
open Go Go.Abs Go.RowKit
variable {base : Nat} {w0 : World} {G : Nat}

theorem ev_k {ρ : Env} : ev 4 ρ (.global 0) = .pointer (some ⟨0, 0, none⟩) := rfl
theorem list8 {l : List Nat} (h : l.length = 8) : ∃ a0 a1 a2 a3 a4 a5 a6 a7, l = [a0, a1, a2, a3, a4, a5, a6, a7] := by
  match l, h with
  | [a0, a1, a2, a3, a4, a5, a6, a7], _ => exact ⟨_, _, _, _, _, _, _, _, rfl⟩
theorem xnot {x : Nat} (hx : x < 4294967296) : bits .xor .u32 (if IntKind.u32.signed then -1 else IntKind.u32.max) (x : Int) = ((4294967295 ^^^ x : Nat) : Int) := by
  rw [if_neg (by decide), show IntKind.u32.max = ((4294967295 : Nat) : Int) from rfl, bits_xor32 (by decide) hx]
theorem own_set_eq {st : St} {a : Hp} {b : Nat} {X L L' : List Value} {ty : TypeId} (hO : Own st ((b, .cells X ty true) :: a)) (e : L = L') : Own (st.set b (some (.cells L ty true))) ((b, .cells L' ty true) :: a) := by
  rw [e]; exact hO.set rfl (.cells L' ty true) rfl
set_option maxRecDepth 10000 in
theorem block_spec (st : St) (r : Hp) (h m : List Nat) (S B off n c : Nat) (sp : Option Nat) (ow ok : Bool) {kt : TypeId} (hm : ∀ d ∈ m, d < 256) (hh : ∀ d ∈ h, d < 4294967296) (hl : h.length = 8)
    (hmem : (B, .cells (nl m) 5 ow) ∈ r) (hK : (0, .cells (wl ks0) kt ok) ∈ r) (hn : 64 ≤ n) (hoff : off + 64 ≤ m.length) (hO : Own st ((S, .cells (wl h) 103 true) :: r)) (k q : Value → St → Prop)
    (hk : ∀ V st', Own st' ((S, .cells (wl (blk h m off)) 103 true) :: r) → k V st') :
    ACall (C base w0 4) 53 [.pointer (some ⟨S, 0, none⟩), .slice (some ⟨B, off, sp⟩) n c] st k q := by
  refine ACall.of (cx := C base w0 4) mixed Tryd.func53 rfl (by kernel_rfl) (by simp [Tryd.ntmps53]) ?_
  simp only [Tryd.results53]
  simp (config := { implicitDefEqProofs := false }) only [↓GP, ↓GM, GQ, abuiltinX, ↓awp_seq, ↓awp_block, C_ex, Nat.reduceBEq, acap, afieldAddr, aload, astore, abin, anum, astr, aun, isAggD, cond_true, cond_false, ↓reduceIte, C_P, C_G, isTuple, Value.cells, setL, ares, aresL, ares1, reduceCtorEq, Nat.reduceEqDiff, eq_self, Nat.reduceAdd, if_true, if_false, Go.Abs.one, Nat.reduceLeDiff, undef, gsl, aextract, aindexAddr, amake, implies_true, forall_const, alen, abuiltin, anil, isC, Int.reduceEq, Int.reduceLT, Int.reduceLE, Int.reduceAdd, Int.reduceToNat, Int.reduceNeg, Nat.reduceMul, Nat.reduceSub, abuild, afill, Int.reduceBNe, Int.reduceBEq]
  refine ACallF.enter Tryd.func66 rfl (by kernel_rfl) (words_spec st _ m B off n c sp ow hm (List.mem_cons_of_mem _ hmem) hn hoff hO _ _ fun s1 hO1 => ?_)
  generalize hws : wsN m off 64 = ws
  have hwl : ws.length = 64 := by rw [← hws]; exact wsN_length m off 64
  have hwlt : ∀ d ∈ ws, d < 4294967296 := by rw [← hws]; exact wsN_lt hm off 64
  obtain ⟨a0, a1, a2, a3, a4, a5, a6, a7, he⟩ := list8 hl
  have hst : setL (List.replicate 64 (.int .u32 0)) 0 (wl ws) = wl ws := setL_all _ _ (by simp [wl_length, hwl])
  have hone : (wl ws).all one = true := by simp [wl, one]
  have hcs := hO1.head
  have hcs' : s1.H S = some (.cells (wl h) 103 true) := hcs
  have hnS := hO1.freshH
  have hlt := hO1.lt (List.mem_cons_self ..)
  have hcut : cut (wl h) 0 8 = some (wl h) := by have := cut_all (wl h); rw [wl_length, hl] at this; exact this
  have hsz : (wl h).length = 8 := by rw [wl_length, hl]
  have hone2 : (wl h).all one = true := by simp [wl, one]
  have hst2 : setL [.int .u32 0, .int .u32 0, .int .u32 0, .int .u32 0, .int .u32 0, .int .u32 0, .int .u32 0, .int .u32 0] 0 (wl h) = wl h := setL_all _ _ (by simp [wl_length, hl])
  simp (config := { implicitDefEqProofs := false }) only [↓GP, ↓GM, GQ, abuiltinX, ↓awp_seq, ↓awp_block, C_ex, Nat.reduceBEq, acap, afieldAddr, aload, astore, abin, anum, astr, aun, isAggD, cond_true, cond_false, ↓reduceIte, C_P, C_G, isTuple, Value.cells, setL, ares, aresL, ares1, reduceCtorEq, Nat.reduceEqDiff, eq_self, Nat.reduceAdd, if_true, if_false, Go.Abs.one, Nat.reduceLeDiff, undef, gsl, aextract, aindexAddr, amake, implies_true, forall_const, alen, abuiltin, anil, isC, Int.reduceEq, Int.reduceLT, Int.reduceLE, Int.reduceAdd, Int.reduceToNat, Int.reduceNeg, Nat.reduceMul, Nat.reduceSub, abuild, afill, Int.reduceBNe, Int.reduceBEq, aalloc, azc119, azc103, asz119, asz103, List.size_toArray, wl_length, hwl, List.toList_toArray, hone, hst, List.length_replicate, hcs', hnS, Tryd.underlying103, hcut, hl, hone2, hst2,
    show ¬ S = s1.n + 1 by omega, show ¬ s1.n + 1 = s1.n by omega]
  have hO2 : Own _ ((s1.n, .cells (wl ws) 119 true) :: (S, .cells (wl h) 103 true) :: r) := (hO1.new (.cells (List.replicate 64 (.int .u32 0)) 119 true)).set rfl (.cells (wl ws) 119 true) rfl
  have hO3 := (hO2.new (.cells [.int .u32 0, .int .u32 0, .int .u32 0, .int .u32 0, .int .u32 0, .int .u32 0, .int .u32 0, .int .u32 0] 103 true)).set rfl (.cells (wl h) 103 true) rfl
  refine ⟨fun q ρ s => ∃ i : Nat, q = 64 - i ∧ i ≤ 64 ∧ ρ 0 = .pointer (some ⟨S, 0, none⟩) ∧ ρ 4 = .pointer (some ⟨s1.n, 0, none⟩) ∧ ρ 5 = .pointer (some ⟨s1.n + 1, 0, none⟩) ∧ ρ 17 = .int .i64 i ∧
    Own s ((s1.n + 1, .cells (wl (rndI h ks0 ws i)) 103 true) :: (s1.n, .cells (wl ws) 119 true) :: (S, .cells (wl h) 103 true) :: r), ⟨64, 0, rfl, by decide, rfl, rfl, rfl, rfl, hO3⟩, ?_⟩
  rintro _ ρ s ⟨i, rfl, hi, h0, h4, h5, h17, hs⟩
  have hct := hs.head
  have hcw := hs.get (b := s1.n) (o := .cells (wl ws) 119 true) (by simp)
  have hcS := hs.get (b := S) (o := .cells (wl h) 103 true) (by simp)
  have hck := hs.get (b := 0) (o := .cells (wl ks0) kt ok) (by simp [hK])
  have hvl := rndI_length (ks := ks0) (ws := ws) hl i
  have hvlt := rndI_lt (ks := ks0) (ws := ws) hh i
  by_cases him : i < 64
  · have e : rndI h ks0 ws (i + 1) = rnd (rndI h ks0 ws i) (ks0.getD i 0) (ws.getD i 0) := rfl
    obtain ⟨v0, v1, v2, v3, v4, v5, v6, v7, hv⟩ := list8 hvl
    rw [hv] at hct hvlt e hs
    have l0 : v0 < 4294967296 := hvlt _ (by simp)
    have l1 : v1 < 4294967296 := hvlt _ (by simp)
    have l2 : v2 < 4294967296 := hvlt _ (by simp)
    have l4 : v4 < 4294967296 := hvlt _ (by simp)
    have l5 : v5 < 4294967296 := hvlt _ (by simp)
    have l6 : v6 < 4294967296 := hvlt _ (by simp)
    have hgk := wl_get (l := ks0) (i := i) him
    have hgw := wl_get (l := ws) (i := i) (by omega)
    have hwv : wl [v0, v1, v2, v3, v4, v5, v6, v7] = [.int .u32 v0, .int .u32 v1, .int .u32 v2, .int .u32 v3, .int .u32 v4, .int .u32 v5, .int .u32 v6, .int .u32 v7] := rfl
    rw [hwv] at hct
    simp (config := { implicitDefEqProofs := false }) only [↓GP, ↓GM, GQ, abuiltinX, ↓awp_seq, ↓awp_block, C_ex, Nat.reduceBEq, acap, afieldAddr, aload, astore, abin, anum, astr, aun, isAggD, cond_true, cond_false, ↓reduceIte, C_P, C_G, isTuple, Value.cells, setL, ares, aresL, ares1, reduceCtorEq, Nat.reduceEqDiff, eq_self, Nat.reduceAdd, if_true, if_false, Go.Abs.one, Nat.reduceLeDiff, undef, gsl, aextract, aindexAddr, amake, implies_true, forall_const, alen, abuiltin, anil, isC, Int.reduceEq, Int.reduceLT, Int.reduceLE, Int.reduceAdd, Int.reduceToNat, Int.reduceNeg, Nat.reduceMul, Nat.reduceSub, abuild, afill, Int.reduceBNe, Int.reduceBEq, h0, h4, h5, h17, show (i : Int) < 64 by omega, decide_true]
    refine ADraw.of [(0, false, []), (1, false, []), (2, false, []), (3, false, []), (4, false, []), (5, false, [])] [] [] (by kernel_rfl) ?_
    simp (config := { implicitDefEqProofs := false }) only [↓GP, ↓GM, GQ, abuiltinX, ↓awp_seq, ↓awp_block, C_ex, Nat.reduceBEq, acap, afieldAddr, aload, astore, abin, anum, astr, aun, isAggD, cond_true, cond_false, ↓reduceIte, C_P, C_G, isTuple, Value.cells, setL, ares, aresL, ares1, reduceCtorEq, Nat.reduceEqDiff, eq_self, Nat.reduceAdd, if_true, if_false, Go.Abs.one, Nat.reduceLeDiff, undef, gsl, aextract, aindexAddr, amake, implies_true, forall_const, alen, abuiltin, anil, isC, Int.reduceEq, Int.reduceLT, Int.reduceLE, Int.reduceAdd, Int.reduceToNat, Int.reduceNeg, Nat.reduceMul, Nat.reduceSub, abuild, afill, Int.reduceBNe, Int.reduceBEq, h0, h4, h5, h17, hct, asz101, asz103, Tryd.underlying101, Tryd.underlying103]
    have x4 : 4294967295 ^^^ v4 < 4294967296 := xor_lt (by decide) l4
    refine ADraw.of [(0, false, []), (1, true, []), (2, false, []), (4, false, []), (7, false, []), (11, false, []), (12, false, []), (13, true, []), (14, false, []), (15, false, []), (16, false, []), (17, false, []), (18, true, []), (19, false, []), (20, false, []), (22, false, []), (23, false, []), (24, true, []), (26, false, []), (27, false, []), (28, true, []), (3, false, [1, 13, 18, 24, 28]), (5, false, [1, 13, 18, 24, 28]), (6, false, []), (8, false, [1, 13, 18, 24, 28]), (9, false, []), (10, false, []), (21, false, []), (25, false, []), (29, false, []), (30, false, [])] [1, 13, 18, 24, 28] [(1, 3), (1, 5), (1, 8), (13, 3), (13, 5), (13, 8), (18, 3), (18, 5), (18, 8), (24, 3), (24, 5), (24, 8), (28, 3), (28, 5), (28, 8)] (by kernel_rfl) ?_
    simp (config := { implicitDefEqProofs := false }) only [↓GP, ↓GM, GQ, abuiltinX, ↓awp_seq, ↓awp_block, C_ex, Nat.reduceBEq, acap, afieldAddr, aload, astore, abin, anum, astr, aun, isAggD, cond_true, cond_false, ↓reduceIte, C_P, C_G, isTuple, Value.cells, setL, ares, aresL, ares1, reduceCtorEq, Nat.reduceEqDiff, eq_self, Nat.reduceAdd, if_true, if_false, Go.Abs.one, Nat.reduceLeDiff, undef, gsl, aextract, aindexAddr, amake, implies_true, forall_const, alen, abuiltin, anil, isC, Int.reduceEq, Int.reduceLT, Int.reduceLE, Int.reduceAdd, Int.reduceToNat, Int.reduceNeg, Nat.reduceMul, Nat.reduceSub, abuild, afill, Int.reduceBNe, Int.reduceBEq, h0, h4, h5, h17, hct, asz101, asz103, asz119, Tryd.underlying101, Tryd.underlying103, Tryd.underlying119, ev_k, hck, hcw, hgk, hgw, xnot l4, bits_and32 l4 l5, bits_and32 x4 l6, bits_xor32 (and_lt l4 v5) (and_lt x4 v6)]
    refine ⟨by omega, by omega, ?_⟩
    refine rotl s _ 6 _ rfl l4 (by decide) (by decide +kernel) _ _ ?_
    simp (config := { implicitDefEqProofs := false }) only [↓GP, ↓GM, GQ, abuiltinX, ↓awp_seq, ↓awp_block, C_ex, Nat.reduceBEq, acap, afieldAddr, aload, astore, abin, anum, astr, aun, isAggD, cond_true, cond_false, ↓reduceIte, C_P, C_G, isTuple, Value.cells, setL, ares, aresL, ares1, reduceCtorEq, Nat.reduceEqDiff, eq_self, Nat.reduceAdd, if_true, if_false, Go.Abs.one, Nat.reduceLeDiff, undef, gsl, aextract, aindexAddr, amake, implies_true, forall_const, alen, abuiltin, anil, isC, Int.reduceEq, Int.reduceLT, Int.reduceLE, Int.reduceAdd, Int.reduceToNat, Int.reduceNeg, Nat.reduceMul, Nat.reduceSub, abuild, afill, Int.reduceBNe, Int.reduceBEq, h0, h4, h5, h17, hct, asz101, asz103, asz119, Tryd.underlying101, Tryd.underlying103, Tryd.underlying119, ev_k, hck, hcw, hgk, hgw]
    refine rotl s _ 11 _ rfl l4 (by decide) (by decide +kernel) _ _ ?_
    simp (config := { implicitDefEqProofs := false }) only [↓GP, ↓GM, GQ, abuiltinX, ↓awp_seq, ↓awp_block, C_ex, Nat.reduceBEq, acap, afieldAddr, aload, astore, abin, anum, astr, aun, isAggD, cond_true, cond_false, ↓reduceIte, C_P, C_G, isTuple, Value.cells, setL, ares, aresL, ares1, reduceCtorEq, Nat.reduceEqDiff, eq_self, Nat.reduceAdd, if_true, if_false, Go.Abs.one, Nat.reduceLeDiff, undef, gsl, aextract, aindexAddr, amake, implies_true, forall_const, alen, abuiltin, anil, isC, Int.reduceEq, Int.reduceLT, Int.reduceLE, Int.reduceAdd, Int.reduceToNat, Int.reduceNeg, Nat.reduceMul, Nat.reduceSub, abuild, afill, Int.reduceBNe, Int.reduceBEq, h0, h4, h5, h17, hct, asz101, asz103, asz119, Tryd.underlying101, Tryd.underlying103, Tryd.underlying119, ev_k, hck, hcw, hgk, hgw]
    refine rotl s _ 25 _ rfl l4 (by decide) (by decide +kernel) _ _ ?_
    simp (config := { implicitDefEqProofs := false }) only [↓GP, ↓GM, GQ, abuiltinX, ↓awp_seq, ↓awp_block, C_ex, Nat.reduceBEq, acap, afieldAddr, aload, astore, abin, anum, astr, aun, isAggD, cond_true, cond_false, ↓reduceIte, C_P, C_G, isTuple, Value.cells, setL, ares, aresL, ares1, reduceCtorEq, Nat.reduceEqDiff, eq_self, Nat.reduceAdd, if_true, if_false, Go.Abs.one, Nat.reduceLeDiff, undef, gsl, aextract, aindexAddr, amake, implies_true, forall_const, alen, abuiltin, anil, isC, Int.reduceEq, Int.reduceLT, Int.reduceLE, Int.reduceAdd, Int.reduceToNat, Int.reduceNeg, Nat.reduceMul, Nat.reduceSub, abuild, afill, Int.reduceBNe, Int.reduceBEq, h0, h4, h5, h17, hct, asz101, asz103, asz119, Tryd.underlying101, Tryd.underlying103, Tryd.underlying119, ev_k, hck, hcw, hgk, hgw, bits_xor32 (rotN_lt l4 6) (rotN_lt l4 11), bits_xor32 (xor_lt (rotN_lt l4 6) (rotN_lt l4 11)) (rotN_lt l4 25), w_ad]
    refine ADraw.of [(0, false, []), (2, false, []), (5, false, []), (8, false, []), (9, false, []), (10, true, []), (11, false, []), (12, false, []), (13, false, []), (14, true, []), (15, false, []), (16, false, []), (17, false, []), (18, true, []), (19, false, []), (20, true, []), (21, false, []), (22, false, []), (1, false, [10, 14, 18, 20]), (3, false, [10, 14, 18, 20]), (4, false, []), (6, false, [10, 14, 18, 20]), (7, false, []), (23, false, []), (24, false, [])] [10, 14, 18, 20] [(10, 1), (10, 3), (10, 6), (14, 1), (14, 3), (14, 6), (18, 1), (18, 3), (18, 6), (20, 1), (20, 3), (20, 6)] (by kernel_rfl) ?_
    simp (config := { implicitDefEqProofs := false }) only [↓GP, ↓GM, GQ, abuiltinX, ↓awp_seq, ↓awp_block, C_ex, Nat.reduceBEq, acap, afieldAddr, aload, astore, abin, anum, astr, aun, isAggD, cond_true, cond_false, ↓reduceIte, C_P, C_G, isTuple, Value.cells, setL, ares, aresL, ares1, reduceCtorEq, Nat.reduceEqDiff, eq_self, Nat.reduceAdd, if_true, if_false, Go.Abs.one, Nat.reduceLeDiff, undef, gsl, aextract, aindexAddr, amake, implies_true, forall_const, alen, abuiltin, anil, isC, Int.reduceEq, Int.reduceLT, Int.reduceLE, Int.reduceAdd, Int.reduceToNat, Int.reduceNeg, Nat.reduceMul, Nat.reduceSub, abuild, afill, Int.reduceBNe, Int.reduceBEq, h0, h4, h5, h17, hct, asz101, asz103, asz119, Tryd.underlying101, Tryd.underlying103, Tryd.underlying119, ev_k, hck, hcw, hgk, hgw, bits_and32 l0 l1, bits_and32 l0 l2, bits_and32 l1 l2, bits_xor32 (and_lt l0 v1) (and_lt l0 v2), bits_xor32 (xor_lt (and_lt l0 v1) (and_lt l0 v2)) (and_lt l1 v2)]
    refine rotl s _ 2 _ rfl l0 (by decide) (by decide +kernel) _ _ ?_
    simp (config := { implicitDefEqProofs := false }) only [↓GP, ↓GM, GQ, abuiltinX, ↓awp_seq, ↓awp_block, C_ex, Nat.reduceBEq, acap, afieldAddr, aload, astore, abin, anum, astr, aun, isAggD, cond_true, cond_false, ↓reduceIte, C_P, C_G, isTuple, Value.cells, setL, ares, aresL, ares1, reduceCtorEq, Nat.reduceEqDiff, eq_self, Nat.reduceAdd, if_true, if_false, Go.Abs.one, Nat.reduceLeDiff, undef, gsl, aextract, aindexAddr, amake, implies_true, forall_const, alen, abuiltin, anil, isC, Int.reduceEq, Int.reduceLT, Int.reduceLE, Int.reduceAdd, Int.reduceToNat, Int.reduceNeg, Nat.reduceMul, Nat.reduceSub, abuild, afill, Int.reduceBNe, Int.reduceBEq, h0, h4, h5, h17, hct, asz101, asz103, asz119, Tryd.underlying101, Tryd.underlying103, Tryd.underlying119, ev_k, hck, hcw, hgk, hgw]
    refine rotl s _ 13 _ rfl l0 (by decide) (by decide +kernel) _ _ ?_
    simp (config := { implicitDefEqProofs := false }) only [↓GP, ↓GM, GQ, abuiltinX, ↓awp_seq, ↓awp_block, C_ex, Nat.reduceBEq, acap, afieldAddr, aload, astore, abin, anum, astr, aun, isAggD, cond_true, cond_false, ↓reduceIte, C_P, C_G, isTuple, Value.cells, setL, ares, aresL, ares1, reduceCtorEq, Nat.reduceEqDiff, eq_self, Nat.reduceAdd, if_true, if_false, Go.Abs.one, Nat.reduceLeDiff, undef, gsl, aextract, aindexAddr, amake, implies_true, forall_const, alen, abuiltin, anil, isC, Int.reduceEq, Int.reduceLT, Int.reduceLE, Int.reduceAdd, Int.reduceToNat, Int.reduceNeg, Nat.reduceMul, Nat.reduceSub, abuild, afill, Int.reduceBNe, Int.reduceBEq, h0, h4, h5, h17, hct, asz101, asz103, asz119, Tryd.underlying101, Tryd.underlying103, Tryd.underlying119, ev_k, hck, hcw, hgk, hgw]
    refine rotl s _ 22 _ rfl l0 (by decide) (by decide +kernel) _ _ ?_
    simp (config := { implicitDefEqProofs := false }) only [↓GP, ↓GM, GQ, abuiltinX, ↓awp_seq, ↓awp_block, C_ex, Nat.reduceBEq, acap, afieldAddr, aload, astore, abin, anum, astr, aun, isAggD, cond_true, cond_false, ↓reduceIte, C_P, C_G, isTuple, Value.cells, setL, ares, aresL, ares1, reduceCtorEq, Nat.reduceEqDiff, eq_self, Nat.reduceAdd, if_true, if_false, Go.Abs.one, Nat.reduceLeDiff, undef, gsl, aextract, aindexAddr, amake, implies_true, forall_const, alen, abuiltin, anil, isC, Int.reduceEq, Int.reduceLT, Int.reduceLE, Int.reduceAdd, Int.reduceToNat, Int.reduceNeg, Nat.reduceMul, Nat.reduceSub, abuild, afill, Int.reduceBNe, Int.reduceBEq, h0, h4, h5, h17, hct, asz101, asz103, asz119, Tryd.underlying101, Tryd.underlying103, Tryd.underlying119, ev_k, hck, hcw, hgk, hgw, azc103, bits_xor32 (rotN_lt l0 2) (rotN_lt l0 13), bits_xor32 (xor_lt (rotN_lt l0 2) (rotN_lt l0 13)) (rotN_lt l0 22), w_ad]
    refine ⟨64 - (i + 1), by omega, i + 1, rfl, by omega, by rw [w_i64 (by omega)]; rfl, own_set_eq hs ?_⟩
    rw [e]
    simp only [rnd, t1N, t2N, sgA, chN, mjN, wl, List.map_cons, List.map_nil, List.getD_cons_zero, List.getD_cons_succ]
  · obtain rfl : i = 64 := by omega
    simp (config := { implicitDefEqProofs := false }) only [↓GP, ↓GM, GQ, abuiltinX, ↓awp_seq, ↓awp_block, C_ex, Nat.reduceBEq, acap, afieldAddr, aload, astore, abin, anum, astr, aun, isAggD, cond_true, cond_false, ↓reduceIte, C_P, C_G, isTuple, Value.cells, setL, ares, aresL, ares1, reduceCtorEq, Nat.reduceEqDiff, eq_self, Nat.reduceAdd, if_true, if_false, Go.Abs.one, Nat.reduceLeDiff, undef, gsl, aextract, aindexAddr, amake, implies_true, forall_const, alen, abuiltin, anil, isC, Int.reduceEq, Int.reduceLT, Int.reduceLE, Int.reduceAdd, Int.reduceToNat, Int.reduceNeg, Nat.reduceMul, Nat.reduceSub, abuild, afill, Int.reduceBNe, Int.reduceBEq, h0, h4, h5, h17, show ¬ ((64 : Nat) : Int) < 64 by decide, decide_false]
    refine ⟨fun q ρ s' => ∃ i : Nat, q = 8 - i ∧ i ≤ 8 ∧ ρ 0 = .pointer (some ⟨S, 0, none⟩) ∧ ρ 5 = .pointer (some ⟨s1.n + 1, 0, none⟩) ∧ ρ 99 = .int .i64 i ∧
      Own s' ((S, .cells (wl (haddI h (rndI h ks0 ws 64) i)) 103 true) :: (s1.n + 1, .cells (wl (rndI h ks0 ws 64)) 103 true) :: (s1.n, .cells (wl ws) 119 true) :: r), ⟨8, 0, rfl, by decide, h0, h5, rfl, ?_⟩, ?_⟩
    · exact hs.perm ((List.Perm.cons _ (List.Perm.swap _ _ _)).trans (List.Perm.swap _ _ _))
    rintro _ ρ s' ⟨i, rfl, hi, h0, h5, h99, hs'⟩
    have hcS := hs'.head
    have hct := hs'.get (b := s1.n + 1) (o := .cells (wl (rndI h ks0 ws 64)) 103 true) (by simp)
    have hal := haddI_length h (rndI h ks0 ws 64) i
    by_cases him : i < 8
    · have g1 := wl_get (l := haddI h (rndI h ks0 ws 64) i) (i := i) (by omega)
      have g2 := wl_get (l := rndI h ks0 ws 64) (i := i) (by omega)
      have hwl2 := wl_length (haddI h (rndI h ks0 ws 64) i)
      simp (config := { implicitDefEqProofs := false }) only [↓GP, ↓GM, GQ, abuiltinX, ↓awp_seq, ↓awp_block, C_ex, Nat.reduceBEq, acap, afieldAddr, aload, astore, abin, anum, astr, aun, isAggD, cond_true, cond_false, ↓reduceIte, C_P, C_G, isTuple, Value.cells, setL, ares, aresL, ares1, reduceCtorEq, Nat.reduceEqDiff, eq_self, Nat.reduceAdd, if_true, if_false, Go.Abs.one, Nat.reduceLeDiff, undef, gsl, aextract, aindexAddr, amake, implies_true, forall_const, alen, abuiltin, anil, isC, Int.reduceEq, Int.reduceLT, Int.reduceLE, Int.reduceAdd, Int.reduceToNat, Int.reduceNeg, Nat.reduceMul, Nat.reduceSub, abuild, afill, Int.reduceBNe, Int.reduceBEq, h0, h5, h99, show (i : Int) < 8 by omega, decide_true]
      refine ADraw.of [(0, false, []), (1, false, []), (2, false, []), (3, false, []), (4, false, []), (5, false, []), (6, false, []), (7, false, []), (8, false, []), (9, false, []), (10, false, []), (11, false, [])] [] [] (by kernel_rfl) ?_
      simp (config := { implicitDefEqProofs := false }) only [↓GP, ↓GM, GQ, abuiltinX, ↓awp_seq, ↓awp_block, C_ex, Nat.reduceBEq, acap, afieldAddr, aload, astore, abin, anum, astr, aun, isAggD, cond_true, cond_false, ↓reduceIte, C_P, C_G, isTuple, Value.cells, setL, ares, aresL, ares1, reduceCtorEq, Nat.reduceEqDiff, eq_self, Nat.reduceAdd, if_true, if_false, Go.Abs.one, Nat.reduceLeDiff, undef, gsl, aextract, aindexAddr, amake, implies_true, forall_const, alen, abuiltin, anil, isC, Int.reduceEq, Int.reduceLT, Int.reduceLE, Int.reduceAdd, Int.reduceToNat, Int.reduceNeg, Nat.reduceMul, Nat.reduceSub, abuild, afill, Int.reduceBNe, Int.reduceBEq, h0, h5, h99, hcS, hct, g1, g2, asz101, asz103, Tryd.underlying101, Tryd.underlying103, w_ad, wl_set]
      exact ⟨by omega, by omega, by omega, by omega, 8 - (i + 1), by omega, i + 1, rfl, by omega, by rw [w_i64 (by omega)]; rfl, own_set_eq hs' (by rw [haddI])⟩
    · obtain rfl : i = 8 := by omega
      simp (config := { implicitDefEqProofs := false }) only [↓GP, ↓GM, GQ, abuiltinX, ↓awp_seq, ↓awp_block, C_ex, Nat.reduceBEq, acap, afieldAddr, aload, astore, abin, anum, astr, aun, isAggD, cond_true, cond_false, ↓reduceIte, C_P, C_G, isTuple, Value.cells, setL, ares, aresL, ares1, reduceCtorEq, Nat.reduceEqDiff, eq_self, Nat.reduceAdd, if_true, if_false, Go.Abs.one, Nat.reduceLeDiff, undef, gsl, aextract, aindexAddr, amake, implies_true, forall_const, alen, abuiltin, anil, isC, Int.reduceEq, Int.reduceLT, Int.reduceLE, Int.reduceAdd, Int.reduceToNat, Int.reduceNeg, Nat.reduceMul, Nat.reduceSub, abuild, afill, Int.reduceBNe, Int.reduceBEq, h0, h5, h99, show ¬ ((8 : Nat) : Int) < 8 by decide, decide_false]
      refine hk _ _ ?_
      rw [blk, hws]
      exact hs'.sub (List.Sublist.cons_cons _ ((List.sublist_cons_self _ _).trans (List.sublist_cons_self _ _)))
end Go.Proofs.YthohmdkibkompaaDoor
