/- Slices that grow, and are joined. No conditions. -/
import Derived.Test.YthohmdkibkompaaDoorHashC
set_option linter.unusedVariables false
set_option linter.unusedSimpArgs false
namespace Go.Proofs.YthohmdkibkompaaDoor
open Go Go.Abs Go.RowKit
variable {base : Nat} {w0 : World} {G : Nat}

theorem aappend_zeros {P : Program} {st : St} {t t' e : TypeId} {n b m : Nat} {z : List Value} {k : IntKind} (hu : P.underlying t = some (.slice e)) (hi : isIntD (P.underlying t') = some true) (hn : asz P e = some (n + 1)) (hz : azc P e = some z) (hb : abytes P e = some (b + 1))
    (hm : m ≠ 0) (hlim : m * (b + 1) ≤ 140737488355328) :
    aappend P st #[t, t'] (.slice none 0 0) (.int k (m : Int)) = some (.slice (some ⟨st.n, 0, some 0⟩) m m, st.new (.cells (zeros z m) e true)) := by
  have hm2 : m ≤ 140737488355328 := Nat.le_trans (Nat.le_mul_of_pos_right _ (by omega)) hlim
  have hpos : 0 < m := by omega
  simp [aappend, aappZ, isZ, fits, hm, hu, hi, aopen, agrown, hn, hz, hb, asrcT, hpos, hlim, show (m : Int) ≤ 140737488355328 by omega]
set_option maxRecDepth 10000 in
theorem Grow_spec (st : St) (r : Hp) (n : Nat) (hn : n ≤ 1000000) (hO : Own st r) (k q : Value → St → Prop)
    (hk : ∀ v hg st', GVx v [] 0 1 5 hg → Own st' (hg ++ r) → k v st') :
    ACall (C base w0 G) 65 [.slice none 0 0, .int .i64 n] st k q := by
  refine ACall.of (cx := C base w0 G) mixed Tryd.func65 rfl (by kernel_rfl) (by simp [Tryd.ntmps65]) ?_
  simp only [Tryd.results65]
  have hw : IntKind.i64.wrap ((n : Int) - IntKind.i64.wrap (0 - 0)) = (n : Int) := by rw [w_i64 (x := (0 : Int) - 0) (by omega), w_i64 (by omega)]; omega
  by_cases h0 : n = 0
  · subst h0
    simp (config := { implicitDefEqProofs := false }) only [↓GP, ↓GM, GQ, abuiltinX, ↓awp_seq, ↓awp_block, C_ex, Nat.reduceBEq, acap, afieldAddr, aload, astore, abin, anum, astr, aun, isAggD, cond_true, cond_false, ↓reduceIte, C_P, C_G, isTuple, Value.cells, setL, ares, aresL, ares1, reduceCtorEq, Nat.reduceEqDiff, eq_self, Nat.reduceAdd, if_true, if_false, Go.Abs.one, Nat.reduceLeDiff, undef, gsl, aextract, aindexAddr, amake, implies_true, forall_const, alen, abuiltin, anil, isC, Int.reduceEq, Int.reduceLT, Int.reduceLE, Int.reduceAdd, Int.reduceToNat, Int.reduceNeg, Nat.reduceMul, Nat.reduceSub, abuild, afill, Int.reduceBNe, Int.reduceBEq, Tryd.underlying38, Tryd.underlying3, hw]
    exact ⟨fun h => absurd h (by decide), fun _ => hk _ [] _ .nil hO⟩
  · simp (config := { implicitDefEqProofs := false }) only [↓GP, ↓GM, GQ, abuiltinX, ↓awp_seq, ↓awp_block, C_ex, Nat.reduceBEq, acap, afieldAddr, aload, astore, abin, anum, astr, aun, isAggD, cond_true, cond_false, ↓reduceIte, C_P, C_G, isTuple, Value.cells, setL, ares, aresL, ares1, reduceCtorEq, Nat.reduceEqDiff, eq_self, Nat.reduceAdd, if_true, if_false, Go.Abs.one, Nat.reduceLeDiff, undef, gsl, aextract, aindexAddr, amake, implies_true, forall_const, alen, abuiltin, anil, isC, Int.reduceEq, Int.reduceLT, Int.reduceLE, Int.reduceAdd, Int.reduceToNat, Int.reduceNeg, Nat.reduceMul, Nat.reduceSub, abuild, afill, Int.reduceBNe, Int.reduceBEq, Tryd.underlying38, Tryd.underlying3, hw, show ¬ (n : Int) < 0 by omega, show (n : Int) > 0 by omega, decide_true, decide_false, aslice, abounds, bnd, asz5]
    rw [aappend_zeros Tryd.underlying38 (by rw [Tryd.underlying3]; rfl) asz5 azc5 aby5 h0 (by omega)]
    have hnew := new_at (st := st) (.cells (zeros [.int .u8 0] n) 5 true)
    have hsl : aslice Tryd.prog (st.new (.cells (zeros [.int .u8 0] n) 5 true)) 38 (.slice (some ⟨st.n, 0, some 0⟩) n n) none (some (.int .i64 0)) none = some (.slice (some ⟨st.n, 0, some 0⟩) 0 n) :=
      (aslice_of (sp := 0) (lo := none) (hi := some (.int .i64 (0 : Nat))) Tryd.underlying38 asz5 (openOK_open hnew asz5) (abounds_hi (Nat.zero_le n))).trans (by simp)
    simp (config := { implicitDefEqProofs := false }) only [↓GP, ↓GM, GQ, abuiltinX, ↓awp_seq, ↓awp_block, C_ex, Nat.reduceBEq, acap, afieldAddr, aload, astore, abin, anum, astr, aun, isAggD, cond_true, cond_false, ↓reduceIte, C_P, C_G, isTuple, Value.cells, setL, ares, aresL, ares1, reduceCtorEq, Nat.reduceEqDiff, eq_self, Nat.reduceAdd, if_true, if_false, Go.Abs.one, Nat.reduceLeDiff, undef, gsl, aextract, aindexAddr, amake, implies_true, forall_const, alen, abuiltin, anil, isC, Int.reduceEq, Int.reduceLT, Int.reduceLE, Int.reduceAdd, Int.reduceToNat, Int.reduceNeg, Nat.reduceMul, Nat.reduceSub, abuild, afill, Int.reduceBNe, Int.reduceBEq, Tryd.underlying38, Tryd.underlying3, hsl]
    exact hk _ [(st.n, .cells (zeros [.int .u8 0] n) 5 true)] _ (.inr (.inr ⟨st.n, n, _, rfl, rfl, by simp [cut]⟩)) (hO.new _)

set_option maxRecDepth 10000 in
theorem Concat_spec (st : St) (r : Hp) (v : Value) (ps : List (Value × List Nat)) (hv : Ps r v ps) (hn : (flat ps).length ≤ 100000) (hl : ps.length ≤ 100000) (hO : Own st r) (k q : Value → St → Prop)
    (hk : ∀ v hg st', GVx v (nl (flat ps)) (flat ps).length 1 5 hg → Own st' (hg ++ r) → k v st') :
    ACall (C base w0 G) 52 [v] st k q := by
  obtain ⟨a, c, hvs⟩ : ∃ a c, v = .slice a ps.length c := by
    obtain ⟨a, c, h, _⟩ := hv.1.isSlice
    rw [List.length_map] at h
    exact ⟨a, c, h⟩
  refine ACall.of (cx := C base w0 G) mixed Tryd.func52 rfl (by kernel_rfl) (by simp [Tryd.ntmps52]) ?_
  simp only [Tryd.results52]
  simp (config := { implicitDefEqProofs := false }) only [↓GP, ↓GM, GQ, abuiltinX, ↓awp_seq, ↓awp_block, C_ex, Nat.reduceBEq, acap, afieldAddr, aload, astore, abin, anum, astr, aun, isAggD, cond_true, cond_false, ↓reduceIte, C_P, C_G, isTuple, Value.cells, setL, ares, aresL, ares1, reduceCtorEq, Nat.reduceEqDiff, eq_self, Nat.reduceAdd, if_true, if_false, Go.Abs.one, Nat.reduceLeDiff, undef, gsl, aextract, aindexAddr, amake, implies_true, forall_const, alen, abuiltin, anil, isC, Int.reduceEq, Int.reduceLT, Int.reduceLE, Int.reduceAdd, Int.reduceToNat, Int.reduceNeg, Nat.reduceMul, Nat.reduceSub, abuild, afill, Int.reduceBNe, Int.reduceBEq, hvs, Tryd.underlying88]
  refine ⟨fun m ρ s => ∃ i : Nat, m = ps.length - i ∧ i ≤ ps.length ∧ ρ 0 = v ∧ ρ 3 = .int .i64 (flat (ps.take i)).length ∧ ρ 9 = v ∧ ρ 10 = .int .i64 ps.length ∧ ρ 11 = .int .i64 i ∧ s = st, ⟨_, 0, rfl, Nat.zero_le _, hvs.symm, rfl, hvs.symm, rfl, rfl, rfl⟩, ?_⟩
  rintro m ρ s ⟨i, rfl, hi, h0, h3, h9, h10, h11, rfl⟩
  have hle := flat_le ps i
  by_cases him : i < ps.length
  · obtain ⟨x, o, sp, c', cs, ty, own, hvx, hmem, hget⟩ := hv.at hO (by intro e; rw [e] at him; simp at him)
    have hp : ps[i]? = some ps[i] := List.getElem?_eq_getElem him
    generalize ps[i] = p at hp
    have hg := hget i p hp
    have hle1 := flat_le ps (i + 1)
    have hft := flat_take ps i p hp
    have hcs := hO.get hmem
    obtain ⟨ap, cp, hps⟩ := (hv.2 p (List.mem_of_getElem? hp)).isSlice
    rw [hft, List.length_append] at hle1
    have hw : IntKind.i64.wrap (((flat (ps.take i)).length : Int) + (p.2.length : Int)) = ((flat (ps.take (i + 1))).length : Int) := by
      rw [w_i64 (by omega), hft, List.length_append]; omega
    simp (config := { implicitDefEqProofs := false }) only [↓GP, ↓GM, GQ, abuiltinX, ↓awp_seq, ↓awp_block, C_ex, Nat.reduceBEq, acap, afieldAddr, aload, astore, abin, anum, astr, aun, isAggD, cond_true, cond_false, ↓reduceIte, C_P, C_G, isTuple, Value.cells, setL, ares, aresL, ares1, reduceCtorEq, Nat.reduceEqDiff, eq_self, Nat.reduceAdd, if_true, if_false, Go.Abs.one, Nat.reduceLeDiff, undef, gsl, aextract, aindexAddr, amake, implies_true, forall_const, alen, abuiltin, anil, isC, Int.reduceEq, Int.reduceLT, Int.reduceLE, Int.reduceAdd, Int.reduceToNat, Int.reduceNeg, Nat.reduceMul, Nat.reduceSub, abuild, afill, Int.reduceBNe, Int.reduceBEq, h0, h3, h9, h10, h11, him, hvx, Int.ofNat_lt, decide_true, Tryd.underlying88, Tryd.underlying38, Tryd.underlying3, asz38, hcs, hg, hps, hw, show ¬ ((flat (ps.take (i + 1))).length : Int) < 0 by omega, decide_false]
    exact ⟨by omega, ps.length - (i + 1), by omega, i + 1, rfl, by omega, rfl, by rw [w_i64 (by omega)]; rfl⟩
  · obtain rfl : i = ps.length := by omega
    rw [List.take_length] at h3 hle
    simp (config := { implicitDefEqProofs := false }) only [↓GP, ↓GM, GQ, abuiltinX, ↓awp_seq, ↓awp_block, C_ex, Nat.reduceBEq, acap, afieldAddr, aload, astore, abin, anum, astr, aun, isAggD, cond_true, cond_false, ↓reduceIte, C_P, C_G, isTuple, Value.cells, setL, ares, aresL, ares1, reduceCtorEq, Nat.reduceEqDiff, eq_self, Nat.reduceAdd, if_true, if_false, Go.Abs.one, Nat.reduceLeDiff, undef, gsl, aextract, aindexAddr, amake, implies_true, forall_const, alen, abuiltin, anil, isC, Int.reduceEq, Int.reduceLT, Int.reduceLE, Int.reduceAdd, Int.reduceToNat, Int.reduceNeg, Nat.reduceMul, Nat.reduceSub, abuild, afill, Int.reduceBNe, Int.reduceBEq, h0, h3, h9, h10, h11, Nat.lt_irrefl, Int.ofNat_lt, decide_false]
    refine ACallF.enter Tryd.func65 rfl (by kernel_rfl) (Grow_spec s r _ (by omega) hO _ _ fun vg hg sg hG hOg => ?_)
    simp (config := { implicitDefEqProofs := false }) only [↓GP, ↓GM, GQ, abuiltinX, ↓awp_seq, ↓awp_block, C_ex, Nat.reduceBEq, acap, afieldAddr, aload, astore, abin, anum, astr, aun, isAggD, cond_true, cond_false, ↓reduceIte, C_P, C_G, isTuple, Value.cells, setL, ares, aresL, ares1, reduceCtorEq, Nat.reduceEqDiff, eq_self, Nat.reduceAdd, if_true, if_false, Go.Abs.one, Nat.reduceLeDiff, undef, gsl, aextract, aindexAddr, amake, implies_true, forall_const, alen, abuiltin, anil, isC, Int.reduceEq, Int.reduceLT, Int.reduceLE, Int.reduceAdd, Int.reduceToNat, Int.reduceNeg, Nat.reduceMul, Nat.reduceSub, abuild, afill, Int.reduceBNe, Int.reduceBEq, h0, hvs, Tryd.underlying88]
    refine ⟨fun m ρ s => ∃ (i : Nat) (vg : Value) (hg : Hp), m = ps.length - i ∧ i ≤ ps.length ∧ ρ 6 = vg ∧ ρ 25 = v ∧ ρ 26 = .int .i64 ps.length ∧ ρ 27 = .int .i64 i ∧ GVx vg (nl (flat (ps.take i))) (flat (ps.take i)).length 1 5 hg ∧ Own s (hg ++ r), ⟨_, 0, vg, hg, rfl, Nat.zero_le _, rfl, hvs.symm, rfl, rfl, hG, hOg⟩, ?_⟩
    rintro m ρ s ⟨i, vg, hg, rfl, hi, h6, h25, h26, h27, hG, hO⟩
    have hle := flat_le ps i
    by_cases him : i < ps.length
    · obtain ⟨x, o, sp, c', cs, ty, own, hvx, hmem, hget⟩ := (hv.sub (fun e he => List.mem_append_right hg he)).at hO (by intro e; rw [e] at him; simp at him)
      have hp : ps[i]? = some ps[i] := List.getElem?_eq_getElem him
      generalize ps[i] = p at hp
      have hgp := hget i p hp
      have hle1 := flat_le ps (i + 1)
      have hft := flat_take ps i p hp
      have hcs := hO.get hmem
      have hsrc := ((hv.2 p (List.mem_of_getElem? hp)).sub (fun e he => List.mem_append_right hg he)).src hO
      rw [hft, List.length_append] at hle1
      simp (config := { implicitDefEqProofs := false }) only [↓GP, ↓GM, GQ, abuiltinX, ↓awp_seq, ↓awp_block, C_ex, Nat.reduceBEq, acap, afieldAddr, aload, astore, abin, anum, astr, aun, isAggD, cond_true, cond_false, ↓reduceIte, C_P, C_G, isTuple, Value.cells, setL, ares, aresL, ares1, reduceCtorEq, Nat.reduceEqDiff, eq_self, Nat.reduceAdd, if_true, if_false, Go.Abs.one, Nat.reduceLeDiff, undef, gsl, aextract, aindexAddr, amake, implies_true, forall_const, alen, abuiltin, anil, isC, Int.reduceEq, Int.reduceLT, Int.reduceLE, Int.reduceAdd, Int.reduceToNat, Int.reduceNeg, Nat.reduceMul, Nat.reduceSub, abuild, afill, Int.reduceBNe, Int.reduceBEq, h6, h25, h26, h27, him, hvx, Int.ofNat_lt, decide_true, Tryd.underlying88, asz38, Tryd.underlying38, hcs, hgp]
      refine ⟨by omega, ?_⟩
      refine GVx.append Tryd.underlying38 (by rw [Tryd.underlying38]; rfl) asz5 azc5 aby5 hG hO hsrc (by rw [nl_length, Nat.mul_one]) (nl_one _) (by omega) fun v' hg' s' hG' hs' => ?_
      simp (config := { implicitDefEqProofs := false }) only [↓GP, ↓GM, GQ, abuiltinX, ↓awp_seq, ↓awp_block, C_ex, Nat.reduceBEq, acap, afieldAddr, aload, astore, abin, anum, astr, aun, isAggD, cond_true, cond_false, ↓reduceIte, C_P, C_G, isTuple, Value.cells, setL, ares, aresL, ares1, reduceCtorEq, Nat.reduceEqDiff, eq_self, Nat.reduceAdd, if_true, if_false, Go.Abs.one, Nat.reduceLeDiff, undef, gsl, aextract, aindexAddr, amake, implies_true, forall_const, alen, abuiltin, anil, isC, Int.reduceEq, Int.reduceLT, Int.reduceLE, Int.reduceAdd, Int.reduceToNat, Int.reduceNeg, Nat.reduceMul, Nat.reduceSub, abuild, afill, Int.reduceBNe, Int.reduceBEq, h25, h26, h27]
      refine ⟨ps.length - (i + 1), by omega, i + 1, v', hg', rfl, by omega, rfl, by rw [w_i64 (by omega)]; rfl, ?_, hs'⟩
      rw [hft, nl_append, List.length_append]
      exact hG'
    · obtain rfl : i = ps.length := by omega
      rw [List.take_length] at hG
      simp (config := { implicitDefEqProofs := false }) only [↓GP, ↓GM, GQ, abuiltinX, ↓awp_seq, ↓awp_block, C_ex, Nat.reduceBEq, acap, afieldAddr, aload, astore, abin, anum, astr, aun, isAggD, cond_true, cond_false, ↓reduceIte, C_P, C_G, isTuple, Value.cells, setL, ares, aresL, ares1, reduceCtorEq, Nat.reduceEqDiff, eq_self, Nat.reduceAdd, if_true, if_false, Go.Abs.one, Nat.reduceLeDiff, undef, gsl, aextract, aindexAddr, amake, implies_true, forall_const, alen, abuiltin, anil, isC, Int.reduceEq, Int.reduceLT, Int.reduceLE, Int.reduceAdd, Int.reduceToNat, Int.reduceNeg, Nat.reduceMul, Nat.reduceSub, abuild, afill, Int.reduceBNe, Int.reduceBEq, h6, h25, h26, h27, Nat.lt_irrefl, Int.ofNat_lt, decide_false]
      exact hk _ _ _ hG hO
end Go.Proofs.YthohmdkibkompaaDoor
