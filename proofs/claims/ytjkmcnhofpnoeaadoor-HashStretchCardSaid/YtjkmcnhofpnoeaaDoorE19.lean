/- The reference's table; bytes as hexadecimal digits; pieces joined. No conditions. -/
import Derived.Test.YtjkmcnhofpnoeaaDoorE18
set_option linter.unusedVariables false
set_option linter.unusedSimpArgs false
namespace Go.Proofs.YtjkmcnhofpnoeaaDoor
open Go Go.Abs Go.RowKit
variable {base : Nat} {w0 : World} {G : Nat}

set_option maxRecDepth 10000 in
theorem New_spec (st : St) (r : Hp) (hO : Own st r) (k q : Value → St → Prop)
    (hk : ∀ Bh Bk st', Own st' ((Bh, .cells (wl hs0) 47 true) :: (Bk, .cells (wl ks0) 47 true) :: r) → k (.agg #[.slice (some ⟨Bh, 0, some 0⟩) 8 8, .slice (some ⟨Bk, 0, some 0⟩) 64 64]) st') :
    ACall (C base w0 G) 11 [] st k q := by
  refine ACall.of (cx := C base w0 G) mixed Tryd.func11 rfl (by kernel_rfl) (by simp [Tryd.ntmps11]) ?_
  simp only [Tryd.results11]
  simp (config := { implicitDefEqProofs := false }) only [↓GP, GQ, ↓awp_seq, ↓awp_block, C_ex, Nat.reduceBEq, acap, afieldAddr, aload, astore, abin, anum, astr, aun, isAggD, cond_true, cond_false, ↓reduceIte, C_P, C_G, isTuple, Value.cells, setL, ares, aresL, ares1, reduceCtorEq, Nat.reduceEqDiff, eq_self, Nat.reduceAdd, if_true, if_false, one, Nat.reduceLeDiff, undef, gsl, aextract, aindexAddr, amake, implies_true, forall_const, alen, abuiltin, anil, isC, Int.reduceEq, Int.reduceLT, Int.reduceLE, Int.reduceAdd, Int.reduceToNat, Int.reduceNeg, Nat.reduceMul, Nat.reduceSub, abuild, afill, Int.reduceBNe, Int.reduceBEq, aalloc, azc30]
  have hO1 := hO.new (.cells [.slice none 0 0, .slice none 0 0] 30 true)
  refine ACallF.enter Tryd.func21 rfl (by kernel_rfl) (Words_spec _ _ hO1 _ _ fun Bh Bk s1 hO2 => ?_)
  have hcT := hO2.get (b := st.n) (o := .cells [.slice none 0 0, .slice none 0 0] 30 true) (by simp)
  simp (config := { implicitDefEqProofs := false }) only [↓GP, GQ, ↓awp_seq, ↓awp_block, C_ex, Nat.reduceBEq, acap, afieldAddr, aload, astore, abin, anum, astr, aun, isAggD, cond_true, cond_false, ↓reduceIte, C_P, C_G, isTuple, Value.cells, setL, ares, aresL, ares1, reduceCtorEq, Nat.reduceEqDiff, eq_self, Nat.reduceAdd, if_true, if_false, one, Nat.reduceLeDiff, undef, gsl, aextract, aindexAddr, amake, implies_true, forall_const, alen, abuiltin, anil, isC, Int.reduceEq, Int.reduceLT, Int.reduceLE, Int.reduceAdd, Int.reduceToNat, Int.reduceNeg, Nat.reduceMul, Nat.reduceSub, abuild, afill, Int.reduceBNe, Int.reduceBEq, hcT, azc30, apl30, asz30, Tryd.underlying30, cut, List.drop_zero, List.take_succ_cons, List.take_zero]
  refine hk Bh Bk _ ?_
  have hO3 := hO2.perm (perm_front [(Bh, Ob.cells (wl hs0) 47 true), (Bk, Ob.cells (wl ks0) 47 true)] (st.n, Ob.cells [.slice none 0 0, .slice none 0 0] 30 true) r)
  exact (hO3.set rfl (.cells [.slice (some ⟨Bh, 0, some 0⟩) 8 8, .slice (some ⟨Bk, 0, some 0⟩) 64 64] 30 true) rfl).tail

def hexd (x : Nat) : Nat := bif Nat.blt x 10 then 48 + x else 87 + x
def hexN (l : List Nat) : Nat → List Nat
  | 0 => []
  | i + 1 => hexN l i ++ [hexd (l.getD i 0 / 16), hexd (l.getD i 0 % 16)]
theorem hexN_length (l : List Nat) : ∀ i, (hexN l i).length = 2 * i
  | 0 => rfl
  | i + 1 => by simp [hexN, hexN_length l i]; omega
theorem u8s_bl : ∀ l : List Int, u8s (bl l) = some l
  | [] => rfl
  | a :: l => by
    show u8s (.int .u8 a :: bl l) = _
    simp [u8s, u8s_bl l]
theorem aconv_str {st : St} {v : Value} {l : List Nat} (hs : asrc st 1 v = some (l.length, nl l)) (hv : ∃ a n c, v = .slice a n c) : aconv Tryd.prog st 23 9 v = some (.string (strOf (l.map fun n : Nat => (n : Int))), st) := by
  obtain ⟨a, n, c, rfl⟩ := hv
  have h2 : u8s (nl l) = some (l.map fun n : Nat => (n : Int)) := u8s_bl _
  simp [aconv, Tryd.underlying23, Tryd.underlying9, Tryd.underlying5, hs, h2]
theorem Nb.at {h : Hp} {v : Value} {l : List Nat} (hb : Nb h v l) (hne : l ≠ []) : ∃ x o sp c cs ty own, v = .slice (some ⟨x, o, sp⟩) l.length c ∧ (x, Ob.cells cs ty own) ∈ h ∧ ∀ i, i < l.length → cs[o + i]? = some (.int .u8 (l.getD i 0 : Nat)) := by
  rcases hb.1 with ⟨h1, _⟩ | ⟨x, o, sp, c, cs, ty, own, h1, hm, hc⟩
  · exact absurd (List.map_eq_nil_iff.1 h1) hne
  · rw [List.length_map] at h1 hc
    refine ⟨x, o, sp, c, cs, ty, own, h1, hm, fun i hi => ?_⟩
    have := cut_get hc (j := i) hi
    rw [this]
    exact nl_get hi
theorem GV.src {st : St} {v : Value} {l : List Nat} {n : Nat} {hg r : Hp} (hG : GV v (nl l) n 1 5 hg) (hO : Own st (hg ++ r)) : asrc st 1 v = some (l.length, nl l) := by
  rcases hG with ⟨rfl, rfl, h3, rfl⟩ | ⟨b, rfl, rfl, hl⟩
  · have : l = [] := by have := congrArg List.length h3; rw [nl_length] at this; exact List.eq_nil_of_length_eq_zero this
    subst this
    rfl
  · rw [nl_length, Nat.mul_one] at hl
    subst hl
    exact asrc_whole hO.head (by rw [nl_length, Nat.mul_one])
set_option maxRecDepth 10000 in
theorem Hex_spec (st : St) (r : Hp) (v : Value) (l : List Nat) (hv : Nb r v l) (hl : l.length ≤ 1000) (hO : Own st r) (k q : Value → St → Prop)
    (hk : ∀ st', Own st' r → k (.string (strOf ((hexN l l.length).map fun n : Nat => (n : Int)))) st') :
    ACall (C base w0 G) 18 [v] st k q := by
  obtain ⟨a, c, hvs⟩ := hv.isSlice
  refine ACall.of (cx := C base w0 G) mixed Tryd.func18 rfl (by kernel_rfl) (by simp [Tryd.ntmps18]) ?_
  simp only [Tryd.results18]
  simp (config := { implicitDefEqProofs := false }) only [↓GP, GQ, ↓awp_seq, ↓awp_block, C_ex, Nat.reduceBEq, acap, afieldAddr, aload, astore, abin, anum, astr, aun, isAggD, cond_true, cond_false, ↓reduceIte, C_P, C_G, isTuple, Value.cells, setL, ares, aresL, ares1, reduceCtorEq, Nat.reduceEqDiff, eq_self, Nat.reduceAdd, if_true, if_false, one, Nat.reduceLeDiff, undef, gsl, aextract, aindexAddr, amake, implies_true, forall_const, alen, abuiltin, anil, isC, Int.reduceEq, Int.reduceLT, Int.reduceLE, Int.reduceAdd, Int.reduceToNat, Int.reduceNeg, Nat.reduceMul, Nat.reduceSub, abuild, afill, Int.reduceBNe, Int.reduceBEq]
  refine ⟨fun m ρ s => ∃ (i : Nat) (w : Value) (h : Hp), m = l.length - i ∧ i ≤ l.length ∧ ρ 0 = v ∧ ρ 3 = w ∧ ρ 4 = .int .i64 i ∧ GV w (nl (hexN l i)) (2 * i) 1 5 h ∧ Own s (h ++ r), ⟨_, 0, _, [], rfl, Nat.zero_le _, rfl, rfl, rfl, GV.nil, hO⟩, ?_⟩
  rintro m ρ s ⟨i, w, h, rfl, hi, h0, h3, h4, hG, hO⟩
  by_cases him : i < l.length
  · obtain ⟨B, o, sp, c', cs, ty, own, hvx, hmem, hget⟩ := hv.at (by intro e; rw [e] at him; simp at him)
    have hg := hget i him
    have hx := getD8 hv.2 i
    have hhex : hexN l (i + 1) = hexN l i ++ [hexd (l.getD i 0 / 16), hexd (l.getD i 0 % 16)] := rfl
    generalize l.getD i 0 = x at *
    simp (config := { implicitDefEqProofs := false }) only [↓GP, GQ, ↓awp_seq, ↓awp_block, C_ex, Nat.reduceBEq, acap, afieldAddr, aload, astore, abin, anum, astr, aun, isAggD, cond_true, cond_false, ↓reduceIte, C_P, C_G, isTuple, Value.cells, setL, ares, aresL, ares1, reduceCtorEq, Nat.reduceEqDiff, eq_self, Nat.reduceAdd, if_true, if_false, one, Nat.reduceLeDiff, undef, gsl, aextract, aindexAddr, amake, implies_true, forall_const, alen, abuiltin, anil, isC, Int.reduceEq, Int.reduceLT, Int.reduceLE, Int.reduceAdd, Int.reduceToNat, Int.reduceNeg, Nat.reduceMul, Nat.reduceSub, abuild, afill, Int.reduceBNe, Int.reduceBEq, h0, hvx, h3, h4, him, Int.ofNat_lt, decide_true, Tryd.underlying23]
    refine ⟨fun m ρ s => ∃ (j : Nat) (w : Value) (h : Hp), m = 2 - j ∧ j ≤ 2 ∧ ρ 0 = v ∧ ρ 3 = w ∧ ρ 4 = .int .i64 i ∧ ρ 5 = .int .i64 j ∧ GV w (nl (hexN l i ++ [hexd (x / 16), hexd (x % 16)].take j)) (2 * i + j) 1 5 h ∧ Own s (h ++ r), ⟨2, 0, w, h, rfl, by decide, by rw [hvx]; exact h0.trans hvx, h3, h4, rfl, by rw [List.take_zero, List.append_nil]; exact hG, hO⟩, ?_⟩
    clear h0 h3 h4 hG hO
    rintro m ρ s ⟨j, w, h, rfl, hj, h0, h3, h4, h5, hG, hO⟩
    have hcs := hO.get (List.mem_append_right h hmem)
    have cx : IntKind.i64.wrap (x : Int) = x := w_i64 (by omega)
    have cq : IntKind.i64.wrap ((x : Int).tdiv 16) = ((x / 16 : Nat) : Int) := by rw [Int.tdiv_eq_ediv_of_nonneg (by omega), w_i64 (by omega)]; omega
    have cr : ((x : Int).tmod 16) = ((x % 16 : Nat) : Int) := by rw [Int.tmod_eq_emod_of_nonneg (by omega)]; omega
    have e48 : ∀ d : Nat, d < 10 → IntKind.u8.wrap (IntKind.i64.wrap (48 + (d : Int))) = ((hexd d : Nat) : Int) := fun d hd => by
      rw [w_i64 (by omega), w_u8 (by omega), hexd, show Nat.blt d 10 = true from Nat.ble_eq_true_of_le hd, cond_true]; omega
    have e87 : ∀ d : Nat, ¬ d < 10 → d < 16 → IntKind.u8.wrap (IntKind.i64.wrap (87 + (d : Int))) = ((hexd d : Nat) : Int) := fun d hd h16 => by
      have hb : Nat.blt d 10 = false := by
        cases h : Nat.blt d 10 with
        | false => rfl
        | true => exact absurd (Nat.le_of_ble_eq_true h) (by omega)
      rw [w_i64 (by omega), w_u8 (by omega), hexd, hb, cond_false]; omega
    match j, hj with
    | 2, _ =>
      simp (config := { implicitDefEqProofs := false }) only [↓GP, GQ, ↓awp_seq, ↓awp_block, C_ex, Nat.reduceBEq, acap, afieldAddr, aload, astore, abin, anum, astr, aun, isAggD, cond_true, cond_false, ↓reduceIte, C_P, C_G, isTuple, Value.cells, setL, ares, aresL, ares1, reduceCtorEq, Nat.reduceEqDiff, eq_self, Nat.reduceAdd, if_true, if_false, one, Nat.reduceLeDiff, undef, gsl, aextract, aindexAddr, amake, implies_true, forall_const, alen, abuiltin, anil, isC, Int.reduceEq, Int.reduceLT, Int.reduceLE, Int.reduceAdd, Int.reduceToNat, Int.reduceNeg, Nat.reduceMul, Nat.reduceSub, abuild, afill, Int.reduceBNe, Int.reduceBEq, h0, h3, h4, h5, hvx, show ¬ ((2 : Nat) : Int) < 2 by decide, decide_false]
      refine ⟨l.length - (i + 1), by omega, i + 1, w, h, rfl, by omega, rfl, by rw [w_i64 (by omega)]; rfl, ?_, hO⟩
      rw [hhex]
      exact hG
    | 0, _ =>
      simp (config := { implicitDefEqProofs := false }) only [↓GP, GQ, ↓awp_seq, ↓awp_block, C_ex, Nat.reduceBEq, acap, afieldAddr, aload, astore, abin, anum, astr, aun, isAggD, cond_true, cond_false, ↓reduceIte, C_P, C_G, isTuple, Value.cells, setL, ares, aresL, ares1, reduceCtorEq, Nat.reduceEqDiff, eq_self, Nat.reduceAdd, if_true, if_false, one, Nat.reduceLeDiff, undef, gsl, aextract, aindexAddr, amake, implies_true, forall_const, alen, abuiltin, anil, isC, Int.reduceEq, Int.reduceLT, Int.reduceLE, Int.reduceAdd, Int.reduceToNat, Int.reduceNeg, Nat.reduceMul, Nat.reduceSub, abuild, afill, Int.reduceBNe, Int.reduceBEq, h0, h3, h4, h5, hvx, Tryd.underlying23, Tryd.underlying5, Tryd.underlying3, asz5, hcs, hg, aconv, cx, cq, cr]
      refine ⟨by omega, fun hd => ?_, fun hd => ?_⟩
      · rw [e48 _ (by omega)]
        generalize hd0 : hexd (x / 16) = dd at *
        simp (config := { implicitDefEqProofs := false }) only [↓GP, GQ, ↓awp_seq, ↓awp_block, C_ex, Nat.reduceBEq, acap, afieldAddr, aload, astore, abin, anum, astr, aun, isAggD, cond_true, cond_false, ↓reduceIte, C_P, C_G, isTuple, Value.cells, setL, ares, aresL, ares1, reduceCtorEq, Nat.reduceEqDiff, eq_self, Nat.reduceAdd, if_true, if_false, one, Nat.reduceLeDiff, undef, gsl, aextract, aindexAddr, amake, implies_true, forall_const, alen, abuiltin, anil, isC, Int.reduceEq, Int.reduceLT, Int.reduceLE, Int.reduceAdd, Int.reduceToNat, Int.reduceNeg, Nat.reduceMul, Nat.reduceSub, abuild, afill, Int.reduceBNe, Int.reduceBEq, abuildSlice_one (st := s) (v := .int .u8 (dd : Nat)) Tryd.underlying23 asz5 azc5 rfl rfl rfl (by decide)]
        refine GV.append1 Tryd.underlying23 (by rw [Tryd.underlying23]; rfl) asz5 azc5 (c := [.int .u8 (dd : Nat)]) aby5 hG hO rfl rfl (by omega) fun w' h' s' hG' hs' => ?_
        simp (config := { implicitDefEqProofs := false }) only [↓GP, GQ, ↓awp_seq, ↓awp_block, C_ex, Nat.reduceBEq, acap, afieldAddr, aload, astore, abin, anum, astr, aun, isAggD, cond_true, cond_false, ↓reduceIte, C_P, C_G, isTuple, Value.cells, setL, ares, aresL, ares1, reduceCtorEq, Nat.reduceEqDiff, eq_self, Nat.reduceAdd, if_true, if_false, one, Nat.reduceLeDiff, undef, gsl, aextract, aindexAddr, amake, implies_true, forall_const, alen, abuiltin, anil, isC, Int.reduceEq, Int.reduceLT, Int.reduceLE, Int.reduceAdd, Int.reduceToNat, Int.reduceNeg, Nat.reduceMul, Nat.reduceSub, abuild, afill, Int.reduceBNe, Int.reduceBEq, h0, h4, h5, hvx]
        refine ⟨1, by decide, 1, w', h', rfl, by decide, rfl, by rfl, ?_, hs'⟩
        simpa [nl, bl] using hG'
      · rw [e87 _ (by omega) (by omega)]
        generalize hd0 : hexd (x / 16) = dd at *
        simp (config := { implicitDefEqProofs := false }) only [↓GP, GQ, ↓awp_seq, ↓awp_block, C_ex, Nat.reduceBEq, acap, afieldAddr, aload, astore, abin, anum, astr, aun, isAggD, cond_true, cond_false, ↓reduceIte, C_P, C_G, isTuple, Value.cells, setL, ares, aresL, ares1, reduceCtorEq, Nat.reduceEqDiff, eq_self, Nat.reduceAdd, if_true, if_false, one, Nat.reduceLeDiff, undef, gsl, aextract, aindexAddr, amake, implies_true, forall_const, alen, abuiltin, anil, isC, Int.reduceEq, Int.reduceLT, Int.reduceLE, Int.reduceAdd, Int.reduceToNat, Int.reduceNeg, Nat.reduceMul, Nat.reduceSub, abuild, afill, Int.reduceBNe, Int.reduceBEq, abuildSlice_one (st := s) (v := .int .u8 (dd : Nat)) Tryd.underlying23 asz5 azc5 rfl rfl rfl (by decide)]
        refine GV.append1 Tryd.underlying23 (by rw [Tryd.underlying23]; rfl) asz5 azc5 (c := [.int .u8 (dd : Nat)]) aby5 hG hO rfl rfl (by omega) fun w' h' s' hG' hs' => ?_
        simp (config := { implicitDefEqProofs := false }) only [↓GP, GQ, ↓awp_seq, ↓awp_block, C_ex, Nat.reduceBEq, acap, afieldAddr, aload, astore, abin, anum, astr, aun, isAggD, cond_true, cond_false, ↓reduceIte, C_P, C_G, isTuple, Value.cells, setL, ares, aresL, ares1, reduceCtorEq, Nat.reduceEqDiff, eq_self, Nat.reduceAdd, if_true, if_false, one, Nat.reduceLeDiff, undef, gsl, aextract, aindexAddr, amake, implies_true, forall_const, alen, abuiltin, anil, isC, Int.reduceEq, Int.reduceLT, Int.reduceLE, Int.reduceAdd, Int.reduceToNat, Int.reduceNeg, Nat.reduceMul, Nat.reduceSub, abuild, afill, Int.reduceBNe, Int.reduceBEq, h0, h4, h5, hvx]
        refine ⟨1, by decide, 1, w', h', rfl, by decide, rfl, by rfl, ?_, hs'⟩
        simpa [nl, bl] using hG'
    | 1, _ =>
      simp (config := { implicitDefEqProofs := false }) only [↓GP, GQ, ↓awp_seq, ↓awp_block, C_ex, Nat.reduceBEq, acap, afieldAddr, aload, astore, abin, anum, astr, aun, isAggD, cond_true, cond_false, ↓reduceIte, C_P, C_G, isTuple, Value.cells, setL, ares, aresL, ares1, reduceCtorEq, Nat.reduceEqDiff, eq_self, Nat.reduceAdd, if_true, if_false, one, Nat.reduceLeDiff, undef, gsl, aextract, aindexAddr, amake, implies_true, forall_const, alen, abuiltin, anil, isC, Int.reduceEq, Int.reduceLT, Int.reduceLE, Int.reduceAdd, Int.reduceToNat, Int.reduceNeg, Nat.reduceMul, Nat.reduceSub, abuild, afill, Int.reduceBNe, Int.reduceBEq, h0, h3, h4, h5, hvx, Tryd.underlying23, Tryd.underlying5, Tryd.underlying3, asz5, hcs, hg, aconv, cx, cq, cr]
      refine ⟨by omega, by omega, fun hd => ?_, fun hd => ?_⟩
      · rw [e48 _ (by omega)]
        generalize hd0 : hexd (x % 16) = dd at *
        simp (config := { implicitDefEqProofs := false }) only [↓GP, GQ, ↓awp_seq, ↓awp_block, C_ex, Nat.reduceBEq, acap, afieldAddr, aload, astore, abin, anum, astr, aun, isAggD, cond_true, cond_false, ↓reduceIte, C_P, C_G, isTuple, Value.cells, setL, ares, aresL, ares1, reduceCtorEq, Nat.reduceEqDiff, eq_self, Nat.reduceAdd, if_true, if_false, one, Nat.reduceLeDiff, undef, gsl, aextract, aindexAddr, amake, implies_true, forall_const, alen, abuiltin, anil, isC, Int.reduceEq, Int.reduceLT, Int.reduceLE, Int.reduceAdd, Int.reduceToNat, Int.reduceNeg, Nat.reduceMul, Nat.reduceSub, abuild, afill, Int.reduceBNe, Int.reduceBEq, abuildSlice_one (st := s) (v := .int .u8 (dd : Nat)) Tryd.underlying23 asz5 azc5 rfl rfl rfl (by decide)]
        refine GV.append1 Tryd.underlying23 (by rw [Tryd.underlying23]; rfl) asz5 azc5 (c := [.int .u8 (dd : Nat)]) aby5 hG hO rfl rfl (by omega) fun w' h' s' hG' hs' => ?_
        simp (config := { implicitDefEqProofs := false }) only [↓GP, GQ, ↓awp_seq, ↓awp_block, C_ex, Nat.reduceBEq, acap, afieldAddr, aload, astore, abin, anum, astr, aun, isAggD, cond_true, cond_false, ↓reduceIte, C_P, C_G, isTuple, Value.cells, setL, ares, aresL, ares1, reduceCtorEq, Nat.reduceEqDiff, eq_self, Nat.reduceAdd, if_true, if_false, one, Nat.reduceLeDiff, undef, gsl, aextract, aindexAddr, amake, implies_true, forall_const, alen, abuiltin, anil, isC, Int.reduceEq, Int.reduceLT, Int.reduceLE, Int.reduceAdd, Int.reduceToNat, Int.reduceNeg, Nat.reduceMul, Nat.reduceSub, abuild, afill, Int.reduceBNe, Int.reduceBEq, h0, h4, h5, hvx]
        refine ⟨0, by decide, 2, w', h', rfl, by decide, rfl, by rfl, ?_, hs'⟩
        simpa [nl, bl] using hG'
      · rw [e87 _ (by omega) (by omega)]
        generalize hd0 : hexd (x % 16) = dd at *
        simp (config := { implicitDefEqProofs := false }) only [↓GP, GQ, ↓awp_seq, ↓awp_block, C_ex, Nat.reduceBEq, acap, afieldAddr, aload, astore, abin, anum, astr, aun, isAggD, cond_true, cond_false, ↓reduceIte, C_P, C_G, isTuple, Value.cells, setL, ares, aresL, ares1, reduceCtorEq, Nat.reduceEqDiff, eq_self, Nat.reduceAdd, if_true, if_false, one, Nat.reduceLeDiff, undef, gsl, aextract, aindexAddr, amake, implies_true, forall_const, alen, abuiltin, anil, isC, Int.reduceEq, Int.reduceLT, Int.reduceLE, Int.reduceAdd, Int.reduceToNat, Int.reduceNeg, Nat.reduceMul, Nat.reduceSub, abuild, afill, Int.reduceBNe, Int.reduceBEq, abuildSlice_one (st := s) (v := .int .u8 (dd : Nat)) Tryd.underlying23 asz5 azc5 rfl rfl rfl (by decide)]
        refine GV.append1 Tryd.underlying23 (by rw [Tryd.underlying23]; rfl) asz5 azc5 (c := [.int .u8 (dd : Nat)]) aby5 hG hO rfl rfl (by omega) fun w' h' s' hG' hs' => ?_
        simp (config := { implicitDefEqProofs := false }) only [↓GP, GQ, ↓awp_seq, ↓awp_block, C_ex, Nat.reduceBEq, acap, afieldAddr, aload, astore, abin, anum, astr, aun, isAggD, cond_true, cond_false, ↓reduceIte, C_P, C_G, isTuple, Value.cells, setL, ares, aresL, ares1, reduceCtorEq, Nat.reduceEqDiff, eq_self, Nat.reduceAdd, if_true, if_false, one, Nat.reduceLeDiff, undef, gsl, aextract, aindexAddr, amake, implies_true, forall_const, alen, abuiltin, anil, isC, Int.reduceEq, Int.reduceLT, Int.reduceLE, Int.reduceAdd, Int.reduceToNat, Int.reduceNeg, Nat.reduceMul, Nat.reduceSub, abuild, afill, Int.reduceBNe, Int.reduceBEq, h0, h4, h5, hvx]
        refine ⟨0, by decide, 2, w', h', rfl, by decide, rfl, by rfl, ?_, hs'⟩
        simpa [nl, bl] using hG'
  · obtain rfl : i = l.length := by omega
    have hsrc := GV.src hG hO
    obtain ⟨aw, haw⟩ := hG.isSlice
    simp (config := { implicitDefEqProofs := false }) only [↓GP, GQ, ↓awp_seq, ↓awp_block, C_ex, Nat.reduceBEq, acap, afieldAddr, aload, astore, abin, anum, astr, aun, isAggD, cond_true, cond_false, ↓reduceIte, C_P, C_G, isTuple, Value.cells, setL, ares, aresL, ares1, reduceCtorEq, Nat.reduceEqDiff, eq_self, Nat.reduceAdd, if_true, if_false, one, Nat.reduceLeDiff, undef, gsl, aextract, aindexAddr, amake, implies_true, forall_const, alen, abuiltin, anil, isC, Int.reduceEq, Int.reduceLT, Int.reduceLE, Int.reduceAdd, Int.reduceToNat, Int.reduceNeg, Nat.reduceMul, Nat.reduceSub, abuild, afill, Int.reduceBNe, Int.reduceBEq, h0, hvs, h3, h4, him, Nat.lt_irrefl, Int.ofNat_lt, decide_false, Tryd.underlying23, aconv_str hsrc ⟨_, _, _, haw⟩]
    exact hk _ hO.right
end Go.Proofs.YtjkmcnhofpnoeaaDoor
