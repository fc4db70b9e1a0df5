/- slices.Grow, slices.Concat of bytes. No conditions. -/
import Derived.Test.YtiooigkcliomlaaQA
import Derived.Test.YtiooigkcliomlaaAbsP
set_option linter.unusedVariables false
set_option linter.unusedSimpArgs false
namespace Go.Abs
open Go.RowKit
theorem aappend_zeros {P : Program} {st : St} {t t' e : TypeId} {n b m : Nat} {z : List Value} {k : IntKind} (hu : P.underlying t = some (.slice e)) (hi : isIntD (P.underlying t') = some true) (hn : asz P e = some (n + 1)) (hz : azc P e = some z) (hb : abytes P e = some (b + 1))
    (hm : m ≠ 0) (hlim : m * (b + 1) ≤ 140737488355328) :
    aappend P st #[t, t'] (.slice none 0 0) (.int k (m : Int)) = some (.slice (some ⟨st.n, 0, some 0⟩) m m, st.new (.cells (zeros z m) e true)) := by
  have hm2 : m ≤ 140737488355328 := Nat.le_trans (Nat.le_mul_of_pos_right _ (by omega)) hlim
  have hpos : 0 < m := by omega
  simp [aappend, aappZ, isZ, fits, hm, hu, hi, aopen, agrown, hn, hz, hb, asrcT, hpos, hlim, show (m : Int) ≤ 140737488355328 by omega]
end Go.Abs
namespace Go.Proofs.Ytiooigkcliomlaa
open Go Go.Abs Go.RowKit
variable {base : Nat} {w0 : World} {G : Nat}

set_option maxRecDepth 10000 in
theorem Grow_spec (st : St) (r : Hp) (n : Nat) (hn : n ≤ 1000000) (hO : Own st r) (k q : Value → St → Prop)
    (hk : ∀ v hg st', GVc v [] 0 1 5 hg → Own st' (hg ++ r) → k v st') :
    ACall (C base w0 G) 58 [.slice none 0 0, .int .i64 n] st k q := by
  refine ACall.of (cx := C base w0 G) mixed Try.func58 rfl (by kernel_rfl) (by simp [Try.ntmps58]) ?_
  simp only [Try.results58]
  have hw : IntKind.i64.wrap ((n : Int) - IntKind.i64.wrap (0 - 0)) = (n : Int) := by rw [w_i64 (x := (0 : Int) - 0) (by omega), w_i64 (by omega)]; omega
  by_cases h0 : n = 0
  · subst h0
    simp (config := { implicitDefEqProofs := false }) only [↓GP, GQ, ↓awp_seq, ↓awp_block, C_ex, Nat.reduceBEq, acap, afieldAddr, aload, astore, abin, anum, astr, aun, isAggD, cond_true, cond_false, ↓reduceIte, C_P, C_G, isTuple, Value.cells, setL, ares, aresL, ares1, reduceCtorEq, Nat.reduceEqDiff, eq_self, Nat.reduceAdd, if_true, if_false, one, Nat.reduceLeDiff, undef, gsl, aextract, aindexAddr, amake, implies_true, forall_const, alen, abuiltin, anil, isC, Int.reduceEq, Int.reduceLT, Int.reduceLE, Int.reduceAdd, Int.reduceToNat, Int.reduceNeg, Nat.reduceMul, Nat.reduceSub, abuild, afill, Int.reduceBNe, Int.reduceBEq, Try.underlying23, Try.underlying3, hw]
    exact ⟨fun h => absurd h (by decide), fun _ => hk _ [] _ .nil hO⟩
  · simp (config := { implicitDefEqProofs := false }) only [↓GP, GQ, ↓awp_seq, ↓awp_block, C_ex, Nat.reduceBEq, acap, afieldAddr, aload, astore, abin, anum, astr, aun, isAggD, cond_true, cond_false, ↓reduceIte, C_P, C_G, isTuple, Value.cells, setL, ares, aresL, ares1, reduceCtorEq, Nat.reduceEqDiff, eq_self, Nat.reduceAdd, if_true, if_false, one, Nat.reduceLeDiff, undef, gsl, aextract, aindexAddr, amake, implies_true, forall_const, alen, abuiltin, anil, isC, Int.reduceEq, Int.reduceLT, Int.reduceLE, Int.reduceAdd, Int.reduceToNat, Int.reduceNeg, Nat.reduceMul, Nat.reduceSub, abuild, afill, Int.reduceBNe, Int.reduceBEq, Try.underlying23, Try.underlying3, hw, show ¬ (n : Int) < 0 by omega, show (n : Int) > 0 by omega, decide_true, decide_false, aslice, abounds, bnd, asz5]
    rw [aappend_zeros Try.underlying23 (by rw [Try.underlying3]; rfl) asz5 azc5 aby5 h0 (by omega)]
    have hnew := new_at (st := st) (.cells (zeros [.int .u8 0] n) 5 true)
    have hsl : aslice Try.prog (st.new (.cells (zeros [.int .u8 0] n) 5 true)) 23 (.slice (some ⟨st.n, 0, some 0⟩) n n) none (some (.int .i64 0)) none = some (.slice (some ⟨st.n, 0, some 0⟩) 0 n) :=
      (aslice_of (sp := 0) (lo := none) (hi := some (.int .i64 (0 : Nat))) Try.underlying23 asz5 (openOK_open hnew asz5) (abounds_hi (Nat.zero_le n))).trans (by simp)
    simp (config := { implicitDefEqProofs := false }) only [↓GP, GQ, ↓awp_seq, ↓awp_block, C_ex, Nat.reduceBEq, acap, afieldAddr, aload, astore, abin, anum, astr, aun, isAggD, cond_true, cond_false, ↓reduceIte, C_P, C_G, isTuple, Value.cells, setL, ares, aresL, ares1, reduceCtorEq, Nat.reduceEqDiff, eq_self, Nat.reduceAdd, if_true, if_false, one, Nat.reduceLeDiff, undef, gsl, aextract, aindexAddr, amake, implies_true, forall_const, alen, abuiltin, anil, isC, Int.reduceEq, Int.reduceLT, Int.reduceLE, Int.reduceAdd, Int.reduceToNat, Int.reduceNeg, Nat.reduceMul, Nat.reduceSub, abuild, afill, Int.reduceBNe, Int.reduceBEq, Try.underlying23, Try.underlying3, hsl]
    exact hk _ [(st.n, .cells (zeros [.int .u8 0] n) 5 true)] _ (.inr (.inr ⟨st.n, n, _, rfl, rfl, by simp [cut], Nat.zero_le _⟩)) (hO.new _)

set_option maxRecDepth 10000 in
theorem Concat_spec (st : St) (r : Hp) (v : Value) (ps : List (Value × List Nat)) (hv : Ps r v ps) (hn : (flat ps).length ≤ 100000) (hl : ps.length ≤ 100000) (hO : Own st r) (k q : Value → St → Prop)
    (hk : ∀ v hg st', GVc v (nl (flat ps)) (flat ps).length 1 5 hg → Own st' (hg ++ r) → k v st') :
    ACall (C base w0 G) 57 [v] st k q := by
  obtain ⟨a, c, hvs⟩ : ∃ a c, v = .slice a ps.length c := by
    obtain ⟨a, c, h, _⟩ := hv.1.isSlice
    rw [List.length_map] at h
    exact ⟨a, c, h⟩
  refine ACall.of (cx := C base w0 G) mixed Try.func57 rfl (by kernel_rfl) (by simp [Try.ntmps57]) ?_
  simp only [Try.results57]
  simp (config := { implicitDefEqProofs := false }) only [↓GP, GQ, ↓awp_seq, ↓awp_block, C_ex, Nat.reduceBEq, acap, afieldAddr, aload, astore, abin, anum, astr, aun, isAggD, cond_true, cond_false, ↓reduceIte, C_P, C_G, isTuple, Value.cells, setL, ares, aresL, ares1, reduceCtorEq, Nat.reduceEqDiff, eq_self, Nat.reduceAdd, if_true, if_false, one, Nat.reduceLeDiff, undef, gsl, aextract, aindexAddr, amake, implies_true, forall_const, alen, abuiltin, anil, isC, Int.reduceEq, Int.reduceLT, Int.reduceLE, Int.reduceAdd, Int.reduceToNat, Int.reduceNeg, Nat.reduceMul, Nat.reduceSub, abuild, afill, Int.reduceBNe, Int.reduceBEq, hvs, Try.underlying22]
  refine ⟨fun m ρ s => ∃ i : Nat, m = ps.length - i ∧ i ≤ ps.length ∧ ρ 0 = v ∧ ρ 3 = .int .i64 (flat (ps.take i)).length ∧ ρ 9 = v ∧ ρ 10 = .int .i64 ps.length ∧ ρ 11 = .int .i64 i ∧ s = st, ⟨_, 0, rfl, Nat.zero_le _, hvs.symm, rfl, hvs.symm, rfl, rfl, rfl⟩, ?_⟩
  rintro m ρ s ⟨i, rfl, hi, h0, h3, h9, h10, h11, rfl⟩
  have hle := flat_le ps i
  by_cases him : i < ps.length
  · obtain ⟨x, o, sp, c', cs, ty, own, hvx, hmem, hget⟩ := hv.at hO (by intro e; rw [e] at him; simp at him)
    have hp : ps[i]? = some ps[i] := List.getElem?_eq_getElem him
    generalize ps[i] = p at hp
    have hg := hget i p hp
    have hle1 := flat_le ps (i + 1)
    have hft := flat_take ps i p hp
    have hcs := hO.get hmem
    obtain ⟨ap, cp, hps⟩ := (hv.2 p (List.mem_of_getElem? hp)).isSlice
    rw [hft, List.length_append] at hle1
    have hw : IntKind.i64.wrap (((flat (ps.take i)).length : Int) + (p.2.length : Int)) = ((flat (ps.take (i + 1))).length : Int) := by
      rw [w_i64 (by omega), hft, List.length_append]; omega
    simp (config := { implicitDefEqProofs := false }) only [↓GP, GQ, ↓awp_seq, ↓awp_block, C_ex, Nat.reduceBEq, acap, afieldAddr, aload, astore, abin, anum, astr, aun, isAggD, cond_true, cond_false, ↓reduceIte, C_P, C_G, isTuple, Value.cells, setL, ares, aresL, ares1, reduceCtorEq, Nat.reduceEqDiff, eq_self, Nat.reduceAdd, if_true, if_false, one, Nat.reduceLeDiff, undef, gsl, aextract, aindexAddr, amake, implies_true, forall_const, alen, abuiltin, anil, isC, Int.reduceEq, Int.reduceLT, Int.reduceLE, Int.reduceAdd, Int.reduceToNat, Int.reduceNeg, Nat.reduceMul, Nat.reduceSub, abuild, afill, Int.reduceBNe, Int.reduceBEq, h0, h3, h9, h10, h11, him, hvx, Int.ofNat_lt, decide_true, Try.underlying22, Try.underlying23, Try.underlying3, asz23, hcs, hg, hps, hw, show ¬ ((flat (ps.take (i + 1))).length : Int) < 0 by omega, decide_false]
    exact ⟨by omega, ps.length - (i + 1), by omega, i + 1, rfl, by omega, rfl, by rw [w_i64 (by omega)]; rfl⟩
  · obtain rfl : i = ps.length := by omega
    rw [List.take_length] at h3 hle
    simp (config := { implicitDefEqProofs := false }) only [↓GP, GQ, ↓awp_seq, ↓awp_block, C_ex, Nat.reduceBEq, acap, afieldAddr, aload, astore, abin, anum, astr, aun, isAggD, cond_true, cond_false, ↓reduceIte, C_P, C_G, isTuple, Value.cells, setL, ares, aresL, ares1, reduceCtorEq, Nat.reduceEqDiff, eq_self, Nat.reduceAdd, if_true, if_false, one, Nat.reduceLeDiff, undef, gsl, aextract, aindexAddr, amake, implies_true, forall_const, alen, abuiltin, anil, isC, Int.reduceEq, Int.reduceLT, Int.reduceLE, Int.reduceAdd, Int.reduceToNat, Int.reduceNeg, Nat.reduceMul, Nat.reduceSub, abuild, afill, Int.reduceBNe, Int.reduceBEq, h0, h3, h9, h10, h11, Nat.lt_irrefl, Int.ofNat_lt, decide_false]
    refine ACallF.enter Try.func58 rfl (by kernel_rfl) (Grow_spec s r _ (by omega) hO _ _ fun vg hg sg hG hOg => ?_)
    simp (config := { implicitDefEqProofs := false }) only [↓GP, GQ, ↓awp_seq, ↓awp_block, C_ex, Nat.reduceBEq, acap, afieldAddr, aload, astore, abin, anum, astr, aun, isAggD, cond_true, cond_false, ↓reduceIte, C_P, C_G, isTuple, Value.cells, setL, ares, aresL, ares1, reduceCtorEq, Nat.reduceEqDiff, eq_self, Nat.reduceAdd, if_true, if_false, one, Nat.reduceLeDiff, undef, gsl, aextract, aindexAddr, amake, implies_true, forall_const, alen, abuiltin, anil, isC, Int.reduceEq, Int.reduceLT, Int.reduceLE, Int.reduceAdd, Int.reduceToNat, Int.reduceNeg, Nat.reduceMul, Nat.reduceSub, abuild, afill, Int.reduceBNe, Int.reduceBEq, h0, hvs, Try.underlying22]
    refine ⟨fun m ρ s => ∃ (i : Nat) (vg : Value) (hg : Hp), m = ps.length - i ∧ i ≤ ps.length ∧ ρ 6 = vg ∧ ρ 25 = v ∧ ρ 26 = .int .i64 ps.length ∧ ρ 27 = .int .i64 i ∧ GVc vg (nl (flat (ps.take i))) (flat (ps.take i)).length 1 5 hg ∧ Own s (hg ++ r), ⟨_, 0, vg, hg, rfl, Nat.zero_le _, rfl, hvs.symm, rfl, rfl, hG, hOg⟩, ?_⟩
    rintro m ρ s ⟨i, vg, hg, rfl, hi, h6, h25, h26, h27, hG, hO⟩
    have hle := flat_le ps i
    by_cases him : i < ps.length
    · obtain ⟨x, o, sp, c', cs, ty, own, hvx, hmem, hget⟩ := (hv.sub (fun e he => List.mem_append_right hg he)).at hO (by intro e; rw [e] at him; simp at him)
      have hp : ps[i]? = some ps[i] := List.getElem?_eq_getElem him
      generalize ps[i] = p at hp
      have hgp := hget i p hp
      have hle1 := flat_le ps (i + 1)
      have hft := flat_take ps i p hp
      have hcs := hO.get hmem
      have hsrc := ((hv.2 p (List.mem_of_getElem? hp)).sub (fun e he => List.mem_append_right hg he)).src hO
      rw [hft, List.length_append] at hle1
      simp (config := { implicitDefEqProofs := false }) only [↓GP, GQ, ↓awp_seq, ↓awp_block, C_ex, Nat.reduceBEq, acap, afieldAddr, aload, astore, abin, anum, astr, aun, isAggD, cond_true, cond_false, ↓reduceIte, C_P, C_G, isTuple, Value.cells, setL, ares, aresL, ares1, reduceCtorEq, Nat.reduceEqDiff, eq_self, Nat.reduceAdd, if_true, if_false, one, Nat.reduceLeDiff, undef, gsl, aextract, aindexAddr, amake, implies_true, forall_const, alen, abuiltin, anil, isC, Int.reduceEq, Int.reduceLT, Int.reduceLE, Int.reduceAdd, Int.reduceToNat, Int.reduceNeg, Nat.reduceMul, Nat.reduceSub, abuild, afill, Int.reduceBNe, Int.reduceBEq, h6, h25, h26, h27, him, hvx, Int.ofNat_lt, decide_true, Try.underlying22, asz23, Try.underlying23, hcs, hgp]
      refine ⟨by omega, ?_⟩
      refine GVc.append Try.underlying23 (by rw [Try.underlying23]; rfl) asz5 azc5 aby5 hG hO hsrc (by rw [nl_length, Nat.mul_one]) (nl_one _) (by omega) fun v' hg' s' hG' hs' => ?_
      simp (config := { implicitDefEqProofs := false }) only [↓GP, GQ, ↓awp_seq, ↓awp_block, C_ex, Nat.reduceBEq, acap, afieldAddr, aload, astore, abin, anum, astr, aun, isAggD, cond_true, cond_false, ↓reduceIte, C_P, C_G, isTuple, Value.cells, setL, ares, aresL, ares1, reduceCtorEq, Nat.reduceEqDiff, eq_self, Nat.reduceAdd, if_true, if_false, one, Nat.reduceLeDiff, undef, gsl, aextract, aindexAddr, amake, implies_true, forall_const, alen, abuiltin, anil, isC, Int.reduceEq, Int.reduceLT, Int.reduceLE, Int.reduceAdd, Int.reduceToNat, Int.reduceNeg, Nat.reduceMul, Nat.reduceSub, abuild, afill, Int.reduceBNe, Int.reduceBEq, h25, h26, h27]
      refine ⟨ps.length - (i + 1), by omega, i + 1, v', hg', rfl, by omega, rfl, by rw [w_i64 (by omega)]; rfl, ?_, hs'⟩
      rw [hft, nl_append, List.length_append]
      exact hG'
    · obtain rfl : i = ps.length := by omega
      rw [List.take_length] at hG
      simp (config := { implicitDefEqProofs := false }) only [↓GP, GQ, ↓awp_seq, ↓awp_block, C_ex, Nat.reduceBEq, acap, afieldAddr, aload, astore, abin, anum, astr, aun, isAggD, cond_true, cond_false, ↓reduceIte, C_P, C_G, isTuple, Value.cells, setL, ares, aresL, ares1, reduceCtorEq, Nat.reduceEqDiff, eq_self, Nat.reduceAdd, if_true, if_false, one, Nat.reduceLeDiff, undef, gsl, aextract, aindexAddr, amake, implies_true, forall_const, alen, abuiltin, anil, isC, Int.reduceEq, Int.reduceLT, Int.reduceLE, Int.reduceAdd, Int.reduceToNat, Int.reduceNeg, Nat.reduceMul, Nat.reduceSub, abuild, afill, Int.reduceBNe, Int.reduceBEq, h6, h25, h26, h27, Nat.lt_irrefl, Int.ofNat_lt, decide_false]
      exact hk _ _ _ hG hO
end Go.Proofs.Ytiooigkcliomlaa
/- The journal's small functions: bytes that are the same, numbers as bytes, sectors that bytes need. No conditions. -/
set_option linter.unusedVariables false
set_option linter.unusedSimpArgs false
namespace Go.Proofs.Ytiooigkcliomlaa
open Go Go.Abs Go.RowKit
variable {base : Nat} {w0 : World} {G : Nat}

theorem _root_.Go.Abs.Nb.strP {st : St} {h : Hp} {v : Value} {l : List Nat} (hb : Nb h v l) (hO : Own st h) : aconv Try.prog st 23 9 v = some (.string (strOf (l.map fun n : Nat => (n : Int))), st) := by
  obtain ⟨a, c, e⟩ := hb.isSlice
  exact aconv_nl Try.underlying23 Try.underlying5 Try.underlying9 (hb.src hO) ⟨_, _, _, e⟩
set_option maxRecDepth 10000 in
theorem Equal_spec (st : St) (r : Hp) (av bv : Value) (a b : List Nat) (ha : Nb r av a) (hb : Nb r bv b) (hO : Own st r) (k q : Value → St → Prop) (hk : k (.bool (decide (a = b))) st) :
    ACall (C base w0 G) 48 [av, bv] st k q := by
  refine ACall.of (cx := C base w0 G) mixed Try.func48 rfl (by kernel_rfl) (by simp [Try.ntmps48]) ?_
  simp only [Try.results48]
  simp (config := { implicitDefEqProofs := false }) only [↓GP, GQ, ↓awp_seq, ↓awp_block, C_ex, Nat.reduceBEq, acap, afieldAddr, aload, astore, abin, anum, astr, aun, isAggD, cond_true, cond_false, ↓reduceIte, C_P, C_G, isTuple, Value.cells, setL, ares, aresL, ares1, reduceCtorEq, Nat.reduceEqDiff, eq_self, Nat.reduceAdd, if_true, if_false, one, Nat.reduceLeDiff, undef, gsl, aextract, aindexAddr, amake, implies_true, forall_const, alen, abuiltin, anil, isC, Int.reduceEq, Int.reduceLT, Int.reduceLE, Int.reduceAdd, Int.reduceToNat, Int.reduceNeg, Nat.reduceMul, Nat.reduceSub, abuild, afill, Int.reduceBNe, Int.reduceBEq, ha.strP hO, hb.strP hO, Try.underlying9, abin, astr, strOf_eq ha.2 hb.2]
  exact hk
def needN (n : Nat) : Nat := (n + 63) / 64
set_option maxRecDepth 10000 in
theorem need_spec (st : St) (n : Nat) (hn : n ≤ 1000000) (k q : Value → St → Prop) (hk : k (.int .i64 (needN n : Nat)) st) : ACall (C base w0 G) 38 [.int .i64 n] st k q := by
  refine ACall.of (cx := C base w0 G) mixed Try.func38 rfl (by kernel_rfl) (by simp [Try.ntmps38]) ?_
  simp only [Try.results38]
  simp (config := { implicitDefEqProofs := false }) only [↓GP, GQ, ↓awp_seq, ↓awp_block, C_ex, Nat.reduceBEq, acap, afieldAddr, aload, astore, abin, anum, astr, aun, isAggD, cond_true, cond_false, ↓reduceIte, C_P, C_G, isTuple, Value.cells, setL, ares, aresL, ares1, reduceCtorEq, Nat.reduceEqDiff, eq_self, Nat.reduceAdd, if_true, if_false, one, Nat.reduceLeDiff, undef, gsl, aextract, aindexAddr, amake, implies_true, forall_const, alen, abuiltin, anil, isC, Int.reduceEq, Int.reduceLT, Int.reduceLE, Int.reduceAdd, Int.reduceToNat, Int.reduceNeg, Nat.reduceMul, Nat.reduceSub, abuild, afill, Int.reduceBNe, Int.reduceBEq, Try.underlying3]
  have e1 : IntKind.i64.wrap (IntKind.i64.wrap ((n : Int) + 64) - 1) = ((n + 63 : Nat) : Int) := by rw [w_i64 (x := (n : Int) + 64) (by omega), w_i64 (by omega)]; omega
  have e2 : IntKind.i64.wrap (((n + 63 : Nat) : Int).tdiv 64) = ((needN n : Nat) : Int) := by rw [Int.tdiv_eq_ediv_of_nonneg (by omega), w_i64 (by omega)]; unfold needN; omega
  rw [e1, e2]
  exact hk
theorem build4 {st : St} {a b c d : Nat} : abuildSlice Try.prog st 23 4 [(0, .int .u8 a), (1, .int .u8 b), (2, .int .u8 c), (3, .int .u8 d)] = some (.slice (some ⟨st.n, 0, none⟩) 4 4, st.new (.cells (nl [a, b, c, d]) 5 true)) := by
  simp [abuildSlice, Try.underlying23, asz5, azc5, afill, zeros, isTuple, Value.cells, setL, nl, bl, List.replicate]
set_option maxRecDepth 10000 in
theorem four_spec (st : St) (r h : Hp) (v : Value) (l : List Nat) (n x : Nat) (hG : GVy v (nl l) n 1 5 h) (hO : Own st (h ++ r)) (hn : n ≤ 100000) (hx : x < 4294967296) (k q : Value → St → Prop)
    (hk : ∀ v' h' st', GV v' (nl (l ++ out4 x)) (n + 4) 1 5 h' → Own st' (h' ++ r) → k v' st') :
    ACall (C base w0 G) 54 [v, .int .u32 x] st k q := by
  refine ACall.of (cx := C base w0 G) mixed Try.func54 rfl (by kernel_rfl) (by simp [Try.ntmps54]) ?_
  simp only [Try.results54]
  have e24 : ((x : Int) / 2 ^ 24) = ((x / 16777216 : Nat) : Int) := by rw [show (2 : Int) ^ 24 = 16777216 from rfl]; omega
  have e16 : ((x : Int) / 2 ^ 16) = ((x / 65536 : Nat) : Int) := by rw [show (2 : Int) ^ 16 = 65536 from rfl]; omega
  have e8 : ((x : Int) / 2 ^ 8) = ((x / 256 : Nat) : Int) := by rw [show (2 : Int) ^ 8 = 256 from rfl]; omega
  simp (config := { implicitDefEqProofs := false }) only [↓GP, GQ, ↓awp_seq, ↓awp_block, C_ex, Nat.reduceBEq, acap, afieldAddr, aload, astore, abin, anum, astr, aun, isAggD, cond_true, cond_false, ↓reduceIte, C_P, C_G, isTuple, Value.cells, setL, ares, aresL, ares1, reduceCtorEq, Nat.reduceEqDiff, eq_self, Nat.reduceAdd, if_true, if_false, one, Nat.reduceLeDiff, undef, gsl, aextract, aindexAddr, amake, implies_true, forall_const, alen, abuiltin, anil, isC, Int.reduceEq, Int.reduceLT, Int.reduceLE, Int.reduceAdd, Int.reduceToNat, Int.reduceNeg, Nat.reduceMul, Nat.reduceSub, abuild, afill, Int.reduceBNe, Int.reduceBEq, Try.underlying47, Try.underlying93, Try.underlying5, ashift, aconv, show ((24 : Int).toNat) = 24 from rfl, show ((16 : Int).toNat) = 16 from rfl, show ((8 : Int).toNat) = 8 from rfl, e24, e16, e8, w_u8n, build4,
    show (0 : Int) ≤ 24 ∧ (24 : Int) ≤ ((IntKind.u32.bits : Nat) : Int) by decide, show (0 : Int) ≤ 16 ∧ (16 : Int) ≤ ((IntKind.u32.bits : Nat) : Int) by decide, show (0 : Int) ≤ 8 ∧ (8 : Int) ≤ ((IntKind.u32.bits : Nat) : Int) by decide]
  refine hG.appendK (m := 4) Try.underlying23 (by rw [Try.underlying23]; rfl) asz5 azc5 (c := nl [x / 16777216 % 256, x / 65536 % 256, x / 256 % 256, x % 256]) aby5 hO rfl (by decide) (nl_one _) (by omega) fun v' h' s' hG' hs' => ?_
  simp (config := { implicitDefEqProofs := false }) only [↓GP, GQ, ↓awp_seq, ↓awp_block, C_ex, Nat.reduceBEq, acap, afieldAddr, aload, astore, abin, anum, astr, aun, isAggD, cond_true, cond_false, ↓reduceIte, C_P, C_G, isTuple, Value.cells, setL, ares, aresL, ares1, reduceCtorEq, Nat.reduceEqDiff, eq_self, Nat.reduceAdd, if_true, if_false, one, Nat.reduceLeDiff, undef, gsl, aextract, aindexAddr, amake, implies_true, forall_const, alen, abuiltin, anil, isC, Int.reduceEq, Int.reduceLT, Int.reduceLE, Int.reduceAdd, Int.reduceToNat, Int.reduceNeg, Nat.reduceMul, Nat.reduceSub, abuild, afill, Int.reduceBNe, Int.reduceBEq]
  refine hk v' h' _ ?_ hs'
  rw [nl_append]
  exact hG'
set_option maxRecDepth 10000 in
theorem word_spec (st : St) (r : Hp) (l : List Nat) (B o o0 n c : Nat) (sp : Option Nat) (cs : List Value) (ty : TypeId) (own : Bool) (hl : ∀ d ∈ l, d < 256) (hm : (B, .cells cs ty own) ∈ r) (hg : ∀ i, i < 4 → cs[o + i]? = some (.int .u8 (l.getD (o0 + i) 0 : Nat))) (hn : 4 ≤ n) (hO : Own st r) (k q : Value → St → Prop)
    (hk : k (.int .i64 (word4 l o0 : Nat)) st) : ACall (C base w0 G) 56 [.slice (some ⟨B, o, sp⟩) n c] st k q := by
  refine ACall.of (cx := C base w0 G) mixed Try.func56 rfl (by kernel_rfl) (by simp [Try.ntmps56]) ?_
  simp only [Try.results56]
  have hB := hO.get hm
  have g0 := hg 0 (by decide)
  have g1 := hg 1 (by decide)
  have g2 := hg 2 (by decide)
  have g3 := hg 3 (by decide)
  rw [Nat.add_zero, Nat.add_zero] at g0
  have b0 := getD8 hl o0
  have b1 := getD8 hl (o0 + 1)
  have b2 := getD8 hl (o0 + 2)
  have b3 := getD8 hl (o0 + 3)
  rw [word4] at hk
  generalize l.getD o0 0 = x0 at *
  generalize l.getD (o0 + 1) 0 = x1 at *
  generalize l.getD (o0 + 2) 0 = x2 at *
  generalize l.getD (o0 + 3) 0 = x3 at *
  have i24 : ((24 : Int).toNat) = 24 := rfl
  simp (config := { implicitDefEqProofs := false }) only [↓GP, GQ, ↓awp_seq, ↓awp_block, C_ex, Nat.reduceBEq, acap, afieldAddr, aload, astore, abin, anum, astr, aun, isAggD, cond_true, cond_false, ↓reduceIte, C_P, C_G, isTuple, Value.cells, setL, ares, aresL, ares1, reduceCtorEq, Nat.reduceEqDiff, eq_self, Nat.reduceAdd, if_true, if_false, one, Nat.reduceLeDiff, undef, gsl, aextract, aindexAddr, amake, implies_true, forall_const, alen, abuiltin, anil, isC, Int.reduceEq, Int.reduceLT, Int.reduceLE, Int.reduceAdd, Int.reduceToNat, Int.reduceNeg, Nat.reduceMul, Nat.reduceSub, abuild, afill, Int.reduceBNe, Int.reduceBEq]
  refine ADraw.of [(0, false, []), (1, false, []), (2, false, []), (3, false, []), (4, false, []), (5, false, []), (6, false, []), (7, false, []), (8, false, []), (9, false, []), (10, false, []), (11, false, []), (12, false, []), (13, false, []), (14, false, []), (15, false, []), (16, false, []), (17, false, []), (18, false, []), (19, false, []), (20, false, []), (21, false, []), (22, false, [])] [] [] (by kernel_rfl) ?_
  have e0 : IntKind.i64.wrap (IntKind.i64.wrap (x0 : Int) * 2 ^ 24) = ((x0 * 16777216 : Nat) : Int) := by
    rw [w_i64 (x := (x0 : Int)) (by omega), show (2 : Int) ^ 24 = 16777216 from rfl, w_i64 (by omega)]; omega
  have e1 : IntKind.i64.wrap (IntKind.i64.wrap (x1 : Int) * 2 ^ 16) = ((x1 * 65536 : Nat) : Int) := by
    rw [w_i64 (x := (x1 : Int)) (by omega), show (2 : Int) ^ 16 = 65536 from rfl, w_i64 (by omega)]; omega
  have e2 : IntKind.i64.wrap (IntKind.i64.wrap (x2 : Int) * 2 ^ 8) = ((x2 * 256 : Nat) : Int) := by
    rw [w_i64 (x := (x2 : Int)) (by omega), show (2 : Int) ^ 8 = 256 from rfl, w_i64 (by omega)]; omega
  have e3 : IntKind.i64.wrap (x3 : Int) = (x3 : Int) := w_i64 (by omega)
  have l1 := or_lt (a := x0 * 16777216) (b := x1 * 65536) (by omega) (by omega)
  have l2 := or_lt (a := x0 * 16777216 ||| x1 * 65536) (b := x2 * 256) l1 (by omega)
  simp (config := { implicitDefEqProofs := false }) only [↓GP, GQ, ↓awp_seq, ↓awp_block, C_ex, Nat.reduceBEq, acap, afieldAddr, aload, astore, abin, anum, astr, aun, isAggD, cond_true, cond_false, ↓reduceIte, C_P, C_G, isTuple, Value.cells, setL, ares, aresL, ares1, reduceCtorEq, Nat.reduceEqDiff, eq_self, Nat.reduceAdd, if_true, if_false, one, Nat.reduceLeDiff, undef, gsl, aextract, aindexAddr, amake, implies_true, forall_const, alen, abuiltin, anil, isC, Int.reduceEq, Int.reduceLT, Int.reduceLE, Int.reduceAdd, Int.reduceToNat, Int.reduceNeg, Nat.reduceMul, Nat.reduceSub, abuild, afill, Int.reduceBNe, Int.reduceBEq, Try.underlying23, Try.underlying5, Try.underlying3, Try.underlying93, asz5, hB, g0, g1, g2, g3, aconv, ashift, i24, show ((16 : Int).toNat) = 16 from rfl, show ((8 : Int).toNat) = 8 from rfl, e0, e1, e2, e3,
    show (0 : Int) ≤ 24 ∧ (24 : Int) ≤ ((IntKind.i64.bits : Nat) : Int) by decide, show (0 : Int) ≤ 16 ∧ (16 : Int) ≤ ((IntKind.i64.bits : Nat) : Int) by decide, show (0 : Int) ≤ 8 ∧ (8 : Int) ≤ ((IntKind.i64.bits : Nat) : Int) by decide,
    bits_or64 (a := x0 * 16777216) (b := x1 * 65536) (by omega) (by omega), bits_or64 (a := x0 * 16777216 ||| x1 * 65536) (b := x2 * 256) l1 (by omega), bits_or64 (a := (x0 * 16777216 ||| x1 * 65536) ||| x2 * 256) (b := x3) l2 (by omega), sh_or b0 b1 b2 b3]
  refine ⟨by omega, by omega, by omega, by omega, hk⟩
end Go.Proofs.Ytiooigkcliomlaa
/- The cyclic sum: by a table of sixteen, and bit by bit. No conditions. -/
set_option linter.unusedVariables false
set_option linter.unusedSimpArgs false
namespace Go.Proofs.Ytiooigkcliomlaa
open Go Go.Abs Go.RowKit
variable {base : Nat} {w0 : World} {G : Nat}

def stp (r : Nat) : Nat := if r % 2 = 1 then (r / 2) ^^^ 3988292384 else r / 2
def stpN : Nat → Nat → Nat
  | 0, r => r
  | n + 1, r => stp (stpN n r)
def crcB (r x : Nat) : Nat := stpN 8 (r ^^^ x)
def crcR (l : List Nat) : Nat := l.foldl crcB 4294967295
def crcN (l : List Nat) : Nat := crcR l ^^^ 4294967295
def tab : List Nat := [0, 498536548, 997073096, 651767980, 1994146192, 1802195444, 1303535960, 1342533948, 3988292384, 4027552580, 3604390888, 3412177804, 2607071920, 2262029012, 2685067896, 3183342108]
def nib (r : Nat) : Nat := tab.getD (r % 16) 0 ^^^ (r / 16)

theorem stp_lin (q K : Nat) : stp ((2 * q) ^^^ K) = q ^^^ stp K := by
  have h1 : ((2 * q) ^^^ K) / 2 = q ^^^ (K / 2) := by rw [Nat.xor_div_two, Nat.mul_div_cancel_left _ (by decide)]
  have h2 : ((2 * q) ^^^ K) % 2 = K % 2 := by
    rcases Nat.mod_two_eq_zero_or_one K with h | h
    · have := @Nat.xor_mod_two_eq_one (2 * q) K
      rcases Nat.mod_two_eq_zero_or_one ((2 * q) ^^^ K) with e | e
      · omega
      · rw [e] at this; omega
    · have := @Nat.xor_mod_two_eq_one (2 * q) K
      have h3 : ((2 * q) ^^^ K) % 2 = 1 := this.2 (by omega)
      omega
  unfold stp
  rw [h1, h2]
  split
  · rw [Nat.xor_assoc]
  · rfl
theorem split16 (y : Nat) : y = (16 * (y / 16)) ^^^ (y % 16) := by
  apply Nat.eq_of_testBit_eq
  intro i
  rw [Nat.testBit_xor, show 16 = 2 ^ 4 from rfl, Nat.testBit_two_pow_mul, Nat.testBit_div_two_pow, Nat.testBit_mod_two_pow]
  by_cases h : 4 ≤ i
  · simp [h, show ¬ i < 4 by omega, show i - 4 + 4 = i by omega]
  · simp [h, show i < 4 by omega]
theorem stp4 (y : Nat) : stpN 4 y = nib y := by
  have e : stpN 4 y = stp (stp (stp (stp y))) := rfl
  have hc : y % 16 < 16 := Nat.mod_lt _ (by decide)
  have h16 : 16 * (y / 16) = 2 * (2 * (2 * (2 * (y / 16)))) := by omega
  rw [e]
  conv => lhs; rw [split16 y]
  rw [h16, stp_lin, stp_lin, stp_lin, stp_lin, Nat.xor_comm, nib]
  congr 1
  generalize y % 16 = c at hc
  revert c
  decide
theorem stp8 (y : Nat) : stpN 8 y = nib (nib y) := by
  have : stpN 8 y = stpN 4 (stpN 4 y) := rfl
  rw [this, stp4, stp4]
theorem and15 (x : Nat) : x &&& 15 = x % 16 := Nat.and_two_pow_sub_one_eq_mod x 4
/-- A byte, in two steps of the table. -/
theorem crc_tab (r x : Nat) (hx : x < 256) : nib (r ^^^ x) = (tab.getD ((r ^^^ x) &&& 15) 0 ^^^ (r / 16)) ^^^ (x / 16) ∧
    crcB r x = tab.getD (((tab.getD ((r ^^^ x) &&& 15) 0 ^^^ (r / 16)) ^^^ (x / 16)) &&& 15) 0 ^^^ ((tab.getD ((r ^^^ x) &&& 15) 0 ^^^ (r / 16)) / 16) := by
  have h1 : (r ^^^ x) / 16 = (r / 16) ^^^ (x / 16) := Nat.xor_div_two_pow (n := 4)
  have e1 : nib (r ^^^ x) = (tab.getD ((r ^^^ x) &&& 15) 0 ^^^ (r / 16)) ^^^ (x / 16) := by
    rw [nib, h1, and15, Nat.xor_assoc]
  refine ⟨e1, ?_⟩
  rw [crcB, stp8, e1]
  generalize tab.getD ((r ^^^ x) &&& 15) 0 ^^^ (r / 16) = y
  have h2 : (y ^^^ (x / 16)) / 16 = (y / 16) ^^^ (x / 16 / 16) := Nat.xor_div_two_pow (n := 4)
  have h3 : x / 16 / 16 = 0 := by omega
  rw [nib, h2, h3, Nat.xor_zero, and15]
theorem tab_lt (j : Nat) : tab.getD j 0 < 4294967296 := by
  have h : ∀ d ∈ tab, d < 4294967296 := by decide
  by_cases hj : j < tab.length
  · rw [List.getD_eq_getElem?_getD, List.getElem?_eq_getElem hj]; exact h _ (List.getElem_mem hj)
  · rw [List.getD_eq_getElem?_getD, List.getElem?_eq_none (by omega)]; decide
theorem nib_lt {y : Nat} (h : y < 4294967296) : nib y < 4294967296 := xor_lt (tab_lt _) (by omega)
theorem crcB_lt {r x : Nat} (hr : r < 4294967296) (hx : x < 256) : crcB r x < 4294967296 := by
  rw [crcB, stp8]
  exact nib_lt (nib_lt (xor_lt hr (by omega)))
theorem crcR_take {l : List Nat} {i : Nat} (h : i < l.length) : crcR (l.take (i + 1)) = crcB (crcR (l.take i)) (l.getD i 0) := by
  rw [List.take_add_one, List.getElem?_eq_getElem h, List.getD_eq_getElem?_getD, List.getElem?_eq_getElem h]
  unfold crcR
  rw [List.foldl_append]
  rfl
theorem crcR_lt {l : List Nat} (hl : ∀ d ∈ l, d < 256) : ∀ i, crcR (l.take i) < 4294967296
  | 0 => by simp [crcR]
  | i + 1 => by
    by_cases h : i < l.length
    · rw [crcR_take h]; exact crcB_lt (crcR_lt hl i) (getD8 hl i)
    · rw [List.take_of_length_le (by omega), ← List.take_of_length_le (l := l) (i := i) (by omega)]; exact crcR_lt hl i
theorem crcN_lt {l : List Nat} (hl : ∀ d ∈ l, d < 256) : crcN l < 4294967296 := by
  have := crcR_lt hl l.length
  rw [List.take_length] at this
  exact xor_lt this (by decide)
def wl (l : List Nat) : List Value := l.map fun n => .int .u32 (n : Nat)
theorem wl_get {l : List Nat} {i : Nat} (h : i < l.length) : (wl l)[i]? = some (.int .u32 (l.getD i 0 : Nat)) := by
  simp [wl, List.getD_eq_getElem?_getD, h]
theorem not32 {x : Nat} (h : x < 4294967296) : bits .xor .u32 (x : Int) 4294967295 = ((x ^^^ 4294967295 : Nat) : Int) := bits_xor32 (b := 4294967295) h (by decide)

theorem build_tab : abuild Try.prog 94 [(0, .int .u32 0), (1, .int .u32 498536548), (2, .int .u32 997073096), (3, .int .u32 651767980), (4, .int .u32 1994146192), (5, .int .u32 1802195444), (6, .int .u32 1303535960), (7, .int .u32 1342533948), (8, .int .u32 3988292384), (9, .int .u32 4027552580), (10, .int .u32 3604390888), (11, .int .u32 3412177804), (12, .int .u32 2607071920), (13, .int .u32 2262029012), (14, .int .u32 2685067896), (15, .int .u32 3183342108)] = some (.agg (wl tab).toArray) := by kernel_rfl
theorem tab_length : tab.length = 16 := rfl
theorem wl_cells : (Value.agg (wl tab).toArray).cells.toList = wl tab := rfl
set_option maxRecDepth 10000 in
theorem crc_spec (st : St) (r : Hp) (v : Value) (l : List Nat) (hv : Nb r v l) (hl : l.length ≤ 1000000) (hO : Own st r) (k q : Value → St → Prop)
    (hk : ∀ st', Own st' r → k (.int .u32 (crcN l : Nat)) st') : ACall (C base w0 G) 55 [v] st k q := by
  obtain ⟨a, c, hvs⟩ := hv.isSlice
  refine ACall.of (cx := C base w0 G) mixed Try.func55 rfl (by kernel_rfl) (by simp [Try.ntmps55]) ?_
  simp only [Try.results55]
  simp (config := { implicitDefEqProofs := false }) only [↓GP, GQ, ↓awp_seq, ↓awp_block, C_ex, Nat.reduceBEq, acap, afieldAddr, aload, astore, abin, anum, astr, aun, isAggD, cond_true, cond_false, ↓reduceIte, C_P, C_G, isTuple, Value.cells, setL, ares, aresL, ares1, reduceCtorEq, Nat.reduceEqDiff, eq_self, Nat.reduceAdd, if_true, if_false, one, Nat.reduceLeDiff, undef, gsl, aextract, aindexAddr, amake, implies_true, forall_const, alen, abuiltin, anil, isC, Int.reduceEq, Int.reduceLT, Int.reduceLE, Int.reduceAdd, Int.reduceToNat, Int.reduceNeg, Nat.reduceMul, Nat.reduceSub, Int.reduceBNe, Int.reduceBEq, build_tab, hvs, Try.underlying23, aalloc, azc94, Try.underlying94, asz94]
  have hset : setL (List.replicate 16 (Value.int .u32 0)) 0 (wl tab) = wl tab := rfl
  rw [hset]
  have hOT := (hO.new (.cells (List.replicate 16 (Value.int .u32 0)) 94 true)).set rfl (.cells (wl tab) 94 true) rfl
  refine ⟨⟨rfl, by simp, rfl⟩, fun m ρ s => ∃ (i T : Nat), m = l.length - i ∧ i ≤ l.length ∧ ρ 3 = .pointer (some ⟨T, 0, none⟩) ∧ ρ 4 = .int .u32 (crcR (l.take i) : Nat) ∧ ρ 8 = v ∧ ρ 9 = .int .i64 l.length ∧ ρ 10 = .int .i64 i ∧ Own s ((T, .cells (wl tab) 94 true) :: r),
    ⟨l.length, 0, st.n, rfl, Nat.zero_le _, rfl, rfl, hvs.symm, rfl, rfl, hOT⟩, ?_⟩
  clear hOT
  rintro m ρ s ⟨i, T, rfl, hi, h3, h4, h8, h9, h10, hO⟩
  by_cases him : i < l.length
  · obtain ⟨B, o, sp, c', cs, ty, own, hvx, hmem, hget⟩ := hv.at (by intro e; rw [e] at him; simp at him)
    have hB := hO.get (List.mem_cons_of_mem _ hmem)
    have hT := hO.head
    have hg := hget i him
    have hx := getD8 hv.2 i
    have hr := crcR_lt hv.2 i
    have hcr := crcR_take him
    generalize l.getD i 0 = x at *
    generalize crcR (l.take i) = y at *
    have e1 : IntKind.u32.wrap (x : Int) = (x : Int) := w_u32 (by omega)
    have x1 := bits_xor32 (a := y) (b := x) hr (by omega)
    have l1 := xor_lt (a := y) (b := x) hr (by omega)
    have a1 : bits .and .u32 ((y ^^^ x : Nat) : Int) 15 = (((y ^^^ x) &&& 15 : Nat) : Int) := bits_and32 (b := 15) l1 (by decide)
    have n1 : (y ^^^ x) &&& 15 < 16 := by rw [and15]; exact Nat.mod_lt _ (by decide)
    have g1 := wl_get (l := tab) (i := (y ^^^ x) &&& 15) n1
    have t1 := tab_lt ((y ^^^ x) &&& 15)
    have hh := (crc_tab y x hx).2
    generalize (y ^^^ x) &&& 15 = j1 at *
    generalize tab.getD j1 0 = z1 at *
    have s1 : ((y : Int) / 2 ^ 4) = ((y / 16 : Nat) : Int) := by rw [show (2 : Int) ^ 4 = 16 from rfl]; omega
    have s2 : ((x : Int) / 2 ^ 4) = ((x / 16 : Nat) : Int) := by rw [show (2 : Int) ^ 4 = 16 from rfl]; omega
    have x2 := bits_xor32 (a := z1) (b := y / 16) t1 (by omega)
    have l2 := xor_lt (a := z1) (b := y / 16) t1 (by omega)
    generalize z1 ^^^ (y / 16) = y1 at *
    have x3 := bits_xor32 (a := y1) (b := x / 16) l2 (by omega)
    have l3 := xor_lt (a := y1) (b := x / 16) l2 (by omega)
    have a2 : bits .and .u32 ((y1 ^^^ (x / 16) : Nat) : Int) 15 = (((y1 ^^^ (x / 16)) &&& 15 : Nat) : Int) := bits_and32 (b := 15) l3 (by decide)
    have n2 : (y1 ^^^ (x / 16)) &&& 15 < 16 := by rw [and15]; exact Nat.mod_lt _ (by decide)
    have g2 := wl_get (l := tab) (i := (y1 ^^^ (x / 16)) &&& 15) n2
    have t2 := tab_lt ((y1 ^^^ (x / 16)) &&& 15)
    generalize (y1 ^^^ (x / 16)) &&& 15 = j2 at *
    generalize tab.getD j2 0 = z2 at *
    have s3 : ((y1 : Int) / 2 ^ 4) = ((y1 / 16 : Nat) : Int) := by rw [show (2 : Int) ^ 4 = 16 from rfl]; omega
    have x4 := bits_xor32 (a := z2) (b := y1 / 16) t2 (by omega)
    simp (config := { implicitDefEqProofs := false }) only [↓GP, GQ, ↓awp_seq, ↓awp_block, C_ex, Nat.reduceBEq, acap, afieldAddr, aload, astore, abin, anum, astr, aun, isAggD, cond_true, cond_false, ↓reduceIte, C_P, C_G, isTuple, Value.cells, setL, ares, aresL, ares1, reduceCtorEq, Nat.reduceEqDiff, eq_self, Nat.reduceAdd, if_true, if_false, one, Nat.reduceLeDiff, undef, gsl, aextract, aindexAddr, amake, implies_true, forall_const, alen, abuiltin, anil, isC, Int.reduceEq, Int.reduceLT, Int.reduceLE, Int.reduceAdd, Int.reduceToNat, Int.reduceNeg, Nat.reduceMul, Nat.reduceSub, abuild, afill, Int.reduceBNe, Int.reduceBEq, h3, h4, h8, h9, h10, him, Int.ofNat_lt, decide_true, hvx, hB, hT, hg, Try.underlying23, Try.underlying5, Try.underlying47, Try.underlying94, Try.underlying93, asz5, asz47, aconv, ashift, e1, x1, a1, g1, s1, s2, x2, x3, a2, g2, s3, x4, n1, n2,
      show ((4 : Int).toNat) = 4 from rfl, show (0 : Int) ≤ 4 ∧ (4 : Int) ≤ ((IntKind.u32.bits : Nat) : Int) by decide]
    refine ⟨by omega, by omega, by omega, l.length - (i + 1), by omega, i + 1, T, rfl, by omega, rfl, by rw [hcr, hh], by rw [w_i64 (by omega)]; rfl, hO⟩
  · obtain rfl : i = l.length := by omega
    rw [List.take_length] at h4
    have hx : bits .xor .u32 (if IntKind.u32.signed = true then -1 else IntKind.u32.max) ((crcR l : Nat) : Int) = ((crcN l : Nat) : Int) := by
      have := crcR_lt hv.2 l.length
      rw [List.take_length] at this
      rw [crcN, Nat.xor_comm]
      exact bits_xor32 (a := 4294967295) (by decide) this
    simp (config := { implicitDefEqProofs := false }) only [↓GP, GQ, ↓awp_seq, ↓awp_block, C_ex, Nat.reduceBEq, acap, afieldAddr, aload, astore, abin, anum, astr, aun, isAggD, cond_true, cond_false, ↓reduceIte, C_P, C_G, isTuple, Value.cells, setL, ares, aresL, ares1, reduceCtorEq, Nat.reduceEqDiff, eq_self, Nat.reduceAdd, if_true, if_false, one, Nat.reduceLeDiff, undef, gsl, aextract, aindexAddr, amake, implies_true, forall_const, alen, abuiltin, anil, isC, Int.reduceEq, Int.reduceLT, Int.reduceLE, Int.reduceAdd, Int.reduceToNat, Int.reduceNeg, Nat.reduceMul, Nat.reduceSub, abuild, afill, Int.reduceBNe, Int.reduceBEq, h3, h4, h8, h9, h10, Nat.lt_irrefl, Int.ofNat_lt, decide_false]
    rw [hx]
    exact hk _ hO.tail
end Go.Proofs.Ytiooigkcliomlaa
/- A record's head. No conditions. -/
set_option linter.unusedVariables false
set_option linter.unusedSimpArgs false
namespace Go.Proofs.Ytiooigkcliomlaa
open Go Go.Abs Go.RowKit
variable {base : Nat} {w0 : World} {G : Nat}

def head17 (g num : Nat) (l : List Nat) : List Nat := [74] ++ out4 g ++ out4 num ++ out4 l.length ++ out4 (crcN l)
def headL (g num : Nat) (l : List Nat) : List Nat := head17 g num l ++ List.replicate 46 0 ++ [165]
theorem head17_length (g num : Nat) (l : List Nat) : (head17 g num l).length = 17 := rfl
theorem headL_length (g num : Nat) (l : List Nat) : (headL g num l).length = 64 := rfl
theorem headL_lt (g num : Nat) (l : List Nat) : ∀ d ∈ headL g num l, d < 256 := by
  intro d hd
  simp only [headL, head17, List.mem_append, List.mem_singleton, List.mem_replicate] at hd
  rcases hd with (((((h | h) | h) | h) | h) | h) | h
  · omega
  · exact out4_lt _ d h
  · exact out4_lt _ d h
  · exact out4_lt _ d h
  · exact out4_lt _ d h
  · omega
  · omega
theorem zeros_nl (n : Nat) : zeros [Value.int .u8 0] n = nl (List.replicate n 0) := by simp [zeros, nl, bl]
theorem build1 {st : St} {a : Int} : abuildSlice Try.prog st 23 1 [(0, .int .u8 a)] = some (.slice (some ⟨st.n, 0, none⟩) 1 1, st.new (.cells [.int .u8 a] 5 true)) :=
  abuildSlice_one (v := .int .u8 a) Try.underlying23 asz5 azc5 rfl rfl rfl (by decide)
set_option maxRecDepth 10000 in
theorem head_spec (st : St) (r : Hp) (v : Value) (l : List Nat) (g num : Nat) (hv : Nb r v l) (hl : l.length ≤ 1000000) (hg : g < 4294967296) (hnum : num < 4294967296) (hO : Own st r) (k q : Value → St → Prop)
    (hk : ∀ v' h' st', GV v' (nl (headL g num l)) 64 1 5 h' → Own st' (h' ++ r) → k v' st') :
    ACall (C base w0 G) 50 [.int .i64 g, .int .i64 num, v] st k q := by
  obtain ⟨a, c, hvs⟩ := hv.isSlice
  refine ACall.of (cx := C base w0 G) mixed Try.func50 rfl (by kernel_rfl) (by simp [Try.ntmps50]) ?_
  simp only [Try.results50]
  have w1 : IntKind.u32.wrap (g : Int) = (g : Int) := w_u32 (by omega)
  have w2 : IntKind.u32.wrap (num : Int) = (num : Int) := w_u32 (by omega)
  have w3 : IntKind.u32.wrap (l.length : Int) = (l.length : Int) := w_u32 (by omega)
  simp (config := { implicitDefEqProofs := false }) only [↓GP, GQ, ↓awp_seq, ↓awp_block, C_ex, Nat.reduceBEq, acap, afieldAddr, aload, astore, abin, anum, astr, aun, isAggD, cond_true, cond_false, ↓reduceIte, C_P, C_G, isTuple, Value.cells, setL, ares, aresL, ares1, reduceCtorEq, Nat.reduceEqDiff, eq_self, Nat.reduceAdd, if_true, if_false, one, Nat.reduceLeDiff, undef, gsl, aextract, aindexAddr, amake, implies_true, forall_const, alen, abuiltin, anil, isC, Int.reduceEq, Int.reduceLT, Int.reduceLE, Int.reduceAdd, Int.reduceToNat, Int.reduceNeg, Nat.reduceMul, Nat.reduceSub, abuild, afill, Int.reduceBNe, Int.reduceBEq, hvs, Try.underlying23, Try.underlying3, Try.underlying47, aconv, w1, w2, w3, build1]
  refine ACallF.enter Try.func54 rfl (by kernel_rfl) (four_spec _ r _ _ [74] 1 g (.inr ⟨st.n, rfl, rfl, rfl⟩) (hO.new (.cells [.int .u8 74] 5 true)) (by decide) hg _ _ fun v1 h1 s1 hG1 hO1 => ?_)
  simp (config := { implicitDefEqProofs := false }) only [↓GP, GQ, ↓awp_seq, ↓awp_block, C_ex, Nat.reduceBEq, acap, afieldAddr, aload, astore, abin, anum, astr, aun, isAggD, cond_true, cond_false, ↓reduceIte, C_P, C_G, isTuple, Value.cells, setL, ares, aresL, ares1, reduceCtorEq, Nat.reduceEqDiff, eq_self, Nat.reduceAdd, if_true, if_false, one, Nat.reduceLeDiff, undef, gsl, aextract, aindexAddr, amake, implies_true, forall_const, alen, abuiltin, anil, isC, Int.reduceEq, Int.reduceLT, Int.reduceLE, Int.reduceAdd, Int.reduceToNat, Int.reduceNeg, Nat.reduceMul, Nat.reduceSub, abuild, afill, Int.reduceBNe, Int.reduceBEq, hvs, Try.underlying23, Try.underlying3, Try.underlying47, aconv, w1, w2, w3, build1]
  refine ACallF.enter Try.func54 rfl (by kernel_rfl) (four_spec _ r _ _ _ _ num (.inl hG1.x) hO1 (by decide) hnum _ _ fun v2 h2 s2 hG2 hO2 => ?_)
  simp (config := { implicitDefEqProofs := false }) only [↓GP, GQ, ↓awp_seq, ↓awp_block, C_ex, Nat.reduceBEq, acap, afieldAddr, aload, astore, abin, anum, astr, aun, isAggD, cond_true, cond_false, ↓reduceIte, C_P, C_G, isTuple, Value.cells, setL, ares, aresL, ares1, reduceCtorEq, Nat.reduceEqDiff, eq_self, Nat.reduceAdd, if_true, if_false, one, Nat.reduceLeDiff, undef, gsl, aextract, aindexAddr, amake, implies_true, forall_const, alen, abuiltin, anil, isC, Int.reduceEq, Int.reduceLT, Int.reduceLE, Int.reduceAdd, Int.reduceToNat, Int.reduceNeg, Nat.reduceMul, Nat.reduceSub, abuild, afill, Int.reduceBNe, Int.reduceBEq, hvs, Try.underlying23, Try.underlying3, Try.underlying47, aconv, w1, w2, w3, build1]
  refine ACallF.enter Try.func54 rfl (by kernel_rfl) (four_spec _ r _ _ _ _ l.length (.inl hG2.x) hO2 (by decide) (by omega) _ _ fun v3 h3 s3 hG3 hO3 => ?_)
  simp (config := { implicitDefEqProofs := false }) only [↓GP, GQ, ↓awp_seq, ↓awp_block, C_ex, Nat.reduceBEq, acap, afieldAddr, aload, astore, abin, anum, astr, aun, isAggD, cond_true, cond_false, ↓reduceIte, C_P, C_G, isTuple, Value.cells, setL, ares, aresL, ares1, reduceCtorEq, Nat.reduceEqDiff, eq_self, Nat.reduceAdd, if_true, if_false, one, Nat.reduceLeDiff, undef, gsl, aextract, aindexAddr, amake, implies_true, forall_const, alen, abuiltin, anil, isC, Int.reduceEq, Int.reduceLT, Int.reduceLE, Int.reduceAdd, Int.reduceToNat, Int.reduceNeg, Nat.reduceMul, Nat.reduceSub, abuild, afill, Int.reduceBNe, Int.reduceBEq, hvs, Try.underlying23, Try.underlying3, Try.underlying47, aconv, w1, w2, w3, build1]
  refine ACallF.enter Try.func55 rfl (by kernel_rfl) (crc_spec _ (h3 ++ r) _ l (by rw [← hvs]; exact hv.sub fun e he => List.mem_append_right _ he) hl hO3 _ _ fun s4 hO4 => ?_)
  simp (config := { implicitDefEqProofs := false }) only [↓GP, GQ, ↓awp_seq, ↓awp_block, C_ex, Nat.reduceBEq, acap, afieldAddr, aload, astore, abin, anum, astr, aun, isAggD, cond_true, cond_false, ↓reduceIte, C_P, C_G, isTuple, Value.cells, setL, ares, aresL, ares1, reduceCtorEq, Nat.reduceEqDiff, eq_self, Nat.reduceAdd, if_true, if_false, one, Nat.reduceLeDiff, undef, gsl, aextract, aindexAddr, amake, implies_true, forall_const, alen, abuiltin, anil, isC, Int.reduceEq, Int.reduceLT, Int.reduceLE, Int.reduceAdd, Int.reduceToNat, Int.reduceNeg, Nat.reduceMul, Nat.reduceSub, abuild, afill, Int.reduceBNe, Int.reduceBEq, hvs, Try.underlying23, Try.underlying3, Try.underlying47, aconv, w1, w2, w3, build1]
  refine ACallF.enter Try.func54 rfl (by kernel_rfl) (four_spec _ r _ _ _ _ _ (.inl hG3.x) hO4 (by decide) (crcN_lt hv.2) _ _ fun v5 h5 s5 hG5 hO5 => ?_)
  obtain ⟨a5, c5, hv5⟩ := hG5.x.isSlice
  have hG5' : GV v5 (nl (head17 g num l)) 17 1 5 h5 := hG5
  have hw : IntKind.i64.wrap (63 - 17) = ((46 : Nat) : Int) := by decide
  simp (config := { implicitDefEqProofs := false }) only [↓GP, GQ, ↓awp_seq, ↓awp_block, C_ex, Nat.reduceBEq, acap, afieldAddr, aload, astore, abin, anum, astr, aun, isAggD, cond_true, cond_false, ↓reduceIte, C_P, C_G, isTuple, Value.cells, setL, ares, aresL, ares1, reduceCtorEq, Nat.reduceEqDiff, eq_self, Nat.reduceAdd, if_true, if_false, one, Nat.reduceLeDiff, undef, gsl, aextract, aindexAddr, amake, implies_true, forall_const, alen, abuiltin, anil, isC, Int.reduceEq, Int.reduceLT, Int.reduceLE, Int.reduceAdd, Int.reduceToNat, Int.reduceNeg, Nat.reduceMul, Nat.reduceSub, abuild, afill, Int.reduceBNe, Int.reduceBEq, hv5, Try.underlying23, Try.underlying3, hw]
  rw [← hv5]
  refine GV.appendZ (m := 46) Try.underlying23 (by rw [Try.underlying3]; rfl) asz5 azc5 aby5 hG5' hO5 (by decide) rfl rfl (by decide) fun v6 h6 s6 hG6 hO6 => ?_
  obtain ⟨a6, c6, hv6⟩ := hG6.x.isSlice
  simp (config := { implicitDefEqProofs := false }) only [↓GP, GQ, ↓awp_seq, ↓awp_block, C_ex, Nat.reduceBEq, acap, afieldAddr, aload, astore, abin, anum, astr, aun, isAggD, cond_true, cond_false, ↓reduceIte, C_P, C_G, isTuple, Value.cells, setL, ares, aresL, ares1, reduceCtorEq, Nat.reduceEqDiff, eq_self, Nat.reduceAdd, if_true, if_false, one, Nat.reduceLeDiff, undef, gsl, aextract, aindexAddr, amake, implies_true, forall_const, alen, abuiltin, anil, isC, Int.reduceEq, Int.reduceLT, Int.reduceLE, Int.reduceAdd, Int.reduceToNat, Int.reduceNeg, Nat.reduceMul, Nat.reduceSub, abuild, afill, Int.reduceBNe, Int.reduceBEq, hv6, build1]
  rw [← hv6]
  refine GVx.append1 (c := [.int .u8 165]) Try.underlying23 (by rw [Try.underlying23]; rfl) asz5 azc5 aby5 hG6.x hO6 rfl rfl (by decide) fun v7 h7 s7 hG7 hO7 => ?_
  simp (config := { implicitDefEqProofs := false }) only [↓GP, GQ, ↓awp_seq, ↓awp_block, C_ex, Nat.reduceBEq, acap, afieldAddr, aload, astore, abin, anum, astr, aun, isAggD, cond_true, cond_false, ↓reduceIte, C_P, C_G, isTuple, Value.cells, setL, ares, aresL, ares1, reduceCtorEq, Nat.reduceEqDiff, eq_self, Nat.reduceAdd, if_true, if_false, one, Nat.reduceLeDiff, undef, gsl, aextract, aindexAddr, amake, implies_true, forall_const, alen, abuiltin, anil, isC, Int.reduceEq, Int.reduceLT, Int.reduceLE, Int.reduceAdd, Int.reduceToNat, Int.reduceNeg, Nat.reduceMul, Nat.reduceSub, abuild, afill, Int.reduceBNe, Int.reduceBEq]
  refine hk v7 h7 s7 ?_ hO7
  rw [zeros_nl, ← nl_append] at hG7
  have e : nl (headL g num l) = nl (head17 g num l ++ List.replicate 46 0) ++ [.int .u8 165] := by rw [headL, nl_append]; rfl
  rw [e]
  exact hG7
end Go.Proofs.Ytiooigkcliomlaa
/- A record is read. No conditions. -/
set_option linter.unusedVariables false
set_option linter.unusedSimpArgs false
namespace Go.Proofs.Ytiooigkcliomlaa
open Go Go.Abs Go.RowKit
variable {base : Nat} {w0 : World} {G : Nat}

theorem beqF {a b : Int} (h : ¬ a = b) : (a == b) = false := by simpa using h
theorem beqT {a b : Int} (h : a = b) : (a == b) = true := by simpa using h
theorem bneT {a b : Int} (h : ¬ a = b) : (a != b) = true := by simpa using h
theorem bneF {a b : Int} (h : a = b) : (a != b) = false := by simpa using h
/-- Sectors: slices of 64 bytes each, that may be cut. -/
def Secs (r : Hp) (v : Value) (ps : List (Value × List Nat)) : Prop := Ps r v ps ∧ Sl Try.prog r v 1 ∧ ∀ p ∈ ps, Sl Try.prog r p.1 1 ∧ p.2.length = 64
def heads (l : List (List Nat)) : List Nat := l.headD []
/-- The record at the beginning of sectors. -/
def readM (l : List (List Nat)) (gen num : Nat) : Option (List Nat × Nat) :=
  match l with
  | [] => none
  | l0 :: rest =>
    if word4 l0 1 = 0 ∨ (gen ≠ 0 ∧ word4 l0 1 ≠ gen) ∨ word4 l0 9 > (rest.length + 1) * 64 ∨ 1 + needN (word4 l0 9) > rest.length + 1 then none
    else if headL (word4 l0 1) num ((rest.take (needN (word4 l0 9))).flatten.take (word4 l0 9)) = l0 then some ((rest.take (needN (word4 l0 9))).flatten.take (word4 l0 9), word4 l0 1) else none
theorem _root_.Go.Abs.Nb.word {r : Hp} {v : Value} {m : List Nat} (hv : Nb r v m) (hlen : m.length = 64) {st : St} (hO : Own st r) (hs : Sl Try.prog r v 1) {o : Nat} (ho : o ≤ 16) :
    ∃ B oo sp n c cs ty own, aslice Try.prog st 23 v (some (.int .i64 o)) none none = some (.slice (some ⟨B, oo, sp⟩) n c) ∧ (B, Ob.cells cs ty own) ∈ r ∧ (∀ i, i < 4 → cs[oo + i]? = some (.int .u8 (m.getD (o + i) 0 : Nat))) ∧ 4 ≤ n := by
  obtain ⟨v', h1, h2, h3⟩ := hv.part (lo := some (.int .i64 o)) (hi := none) (l := o) (r := 64) hs hO Try.underlying23 asz5 (fun c hc => by rw [hlen] at hc ⊢; exact abounds_lo (by omega) hc) (by omega) (by omega)
  have hne : ((m.drop o).take (64 - o)) ≠ [] := fun e => by
    have := congrArg List.length e
    simp [hlen] at this
    omega
  obtain ⟨B, oo, sp, c, cs, ty, own, rfl, hm, hg⟩ := h2.at hne
  have hl2 : ((m.drop o).take (64 - o)).length = 64 - o := by simp [hlen]
  refine ⟨B, oo, sp, _, c, cs, ty, own, h1, hm, fun i hi => ?_, by omega⟩
  rw [hg i (by omega)]
  simp [List.getD_eq_getElem?_getD, List.getElem?_take, show i < 64 - o by omega]
set_option maxRecDepth 10000 in
theorem read_spec (st : St) (r : Hp) (v : Value) (ps : List (Value × List Nat)) (gen num : Nat) (hv : Secs r v ps) (hl : ps.length ≤ 1500) (hg : gen < 4294967296) (hnum : num < 4294967296) (hO : Own st r) (k q : Value → St → Prop)
    (h0 : readM (ps.map (·.2)) gen num = none → ∀ bv (g : Int) st', Own st' r → k (.tuple #[bv, .int .i64 g, .bool false]) st')
    (hk : ∀ b g bv h st', readM (ps.map (·.2)) gen num = some (b, g) → Nb h bv b → Own st' (h ++ r) → k (.tuple #[bv, .int .i64 g, .bool true]) st') :
    ACall (C base w0 G) 51 [v, .int .i64 gen, .int .i64 num] st k q := by
  obtain ⟨hP, hS, hE⟩ := hv
  obtain ⟨a, c, hvs⟩ : ∃ a c, v = .slice a ps.length c := by
    obtain ⟨a, c, h, _⟩ := hP.1.isSlice
    rw [List.length_map] at h
    exact ⟨a, c, h⟩
  refine ACall.of (cx := C base w0 G) mixed Try.func51 rfl (by kernel_rfl) (by simp [Try.ntmps51]) ?_
  simp only [Try.results51]
  cases ps with
  | nil =>
    simp (config := { implicitDefEqProofs := false }) only [↓GP, GQ, ↓awp_seq, ↓awp_block, C_ex, Nat.reduceBEq, acap, afieldAddr, aload, astore, abin, anum, astr, aun, isAggD, cond_true, cond_false, ↓reduceIte, C_P, C_G, isTuple, Value.cells, setL, ares, aresL, ares1, reduceCtorEq, Nat.reduceEqDiff, eq_self, Nat.reduceAdd, if_true, if_false, one, Nat.reduceLeDiff, undef, gsl, aextract, aindexAddr, amake, implies_true, forall_const, alen, abuiltin, anil, isC, Int.reduceEq, Int.reduceLT, Int.reduceLE, Int.reduceAdd, Int.reduceToNat, Int.reduceNeg, Nat.reduceMul, Nat.reduceSub, abuild, afill, Int.reduceBNe, Int.reduceBEq, hvs, Try.underlying22, Try.underlying3]
    exact h0 rfl _ _ _ hO
  | cons p ps' =>
  obtain ⟨B, o, sp, c', cs, ty, own, hvx, hmem, hget⟩ := hP.at hO (by simp)
  have hB := hO.get hmem
  have g0 := hget 0 p rfl
  rw [Nat.add_zero] at g0
  obtain ⟨hSp, hlp⟩ := hE p (by simp)
  have hNp := hP.2 p (by simp)
  obtain ⟨ap, cp, hps⟩ := hNp.isSlice
  obtain ⟨B1, o1, sp1, n1, c1, cs1, ty1, own1, hw1, hm1, hg1, hn1⟩ := hNp.word hlp hO hSp (o := 1) (by decide)
  obtain ⟨B9, o9, sp9, n9, c9, cs9, ty9, own9, hw9, hm9, hg9, hn9⟩ := hNp.word hlp hO hSp (o := 9) (by decide)
  have hw1 : aslice Try.prog st 23 p.1 (some (.int .i64 1)) none none = _ := hw1
  have hw9 : aslice Try.prog st 23 p.1 (some (.int .i64 9)) none none = _ := hw9
  simp (config := { implicitDefEqProofs := false }) only [↓GP, GQ, ↓awp_seq, ↓awp_block, C_ex, Nat.reduceBEq, acap, afieldAddr, aload, astore, abin, anum, astr, aun, isAggD, cond_true, cond_false, ↓reduceIte, C_P, C_G, isTuple, Value.cells, setL, ares, aresL, ares1, reduceCtorEq, Nat.reduceEqDiff, eq_self, Nat.reduceAdd, if_true, if_false, one, Nat.reduceLeDiff, undef, gsl, aextract, aindexAddr, amake, implies_true, forall_const, alen, abuiltin, anil, isC, Int.reduceEq, Int.reduceLT, Int.reduceLE, Int.reduceAdd, Int.reduceToNat, Int.reduceNeg, Nat.reduceMul, Nat.reduceSub, abuild, afill, Int.reduceBNe, Int.reduceBEq, hvs, Try.underlying22, Try.underlying3]
  refine ⟨fun h => absurd h (by omega), fun _ => ?_⟩
  refine ADraw.of [(0, false, []), (1, false, []), (2, false, []), (3, false, []), (5, false, []), (6, false, []), (7, true, []), (8, true, []), (4, false, [7, 8]), (9, false, []), (10, false, []), (11, false, [])] [7, 8] [(7, 4), (8, 4)] (by kernel_rfl) ?_
  rw [← List.length_cons (a := p), ← hvs, hvx]
  simp (config := { implicitDefEqProofs := false }) only [↓GP, GQ, ↓awp_seq, ↓awp_block, C_ex, Nat.reduceBEq, acap, afieldAddr, aload, astore, abin, anum, astr, aun, isAggD, cond_true, cond_false, ↓reduceIte, C_P, C_G, isTuple, Value.cells, setL, ares, aresL, ares1, reduceCtorEq, Nat.reduceEqDiff, eq_self, Nat.reduceAdd, if_true, if_false, one, Nat.reduceLeDiff, undef, gsl, aextract, aindexAddr, amake, implies_true, forall_const, alen, abuiltin, anil, isC, Int.reduceEq, Int.reduceLT, Int.reduceLE, Int.reduceAdd, Int.reduceToNat, Int.reduceNeg, Nat.reduceMul, Nat.reduceSub, abuild, afill, Int.reduceBNe, Int.reduceBEq, Try.underlying22, Try.underlying23, Try.underlying3, asz23, hB, g0, hw1, hw9]
  refine ⟨by omega, by omega, ACallF.enter Try.func56 rfl (by kernel_rfl) (word_spec st r p.2 B1 o1 1 n1 c1 sp1 cs1 ty1 own1 hNp.2 hm1 hg1 hn1 hO _ _ ?_)⟩
  simp (config := { implicitDefEqProofs := false }) only [↓GP, GQ, ↓awp_seq, ↓awp_block, C_ex, Nat.reduceBEq, acap, afieldAddr, aload, astore, abin, anum, astr, aun, isAggD, cond_true, cond_false, ↓reduceIte, C_P, C_G, isTuple, Value.cells, setL, ares, aresL, ares1, reduceCtorEq, Nat.reduceEqDiff, eq_self, Nat.reduceAdd, if_true, if_false, one, Nat.reduceLeDiff, undef, gsl, aextract, aindexAddr, amake, implies_true, forall_const, alen, abuiltin, anil, isC, Int.reduceEq, Int.reduceLT, Int.reduceLE, Int.reduceAdd, Int.reduceToNat, Int.reduceNeg, Nat.reduceMul, Nat.reduceSub, abuild, afill, Int.reduceBNe, Int.reduceBEq, Try.underlying22, Try.underlying23, Try.underlying3, asz23, hB, g0, hw9]
  refine ACallF.enter Try.func56 rfl (by kernel_rfl) (word_spec st r p.2 B9 o9 9 n9 c9 sp9 cs9 ty9 own9 hNp.2 hm9 hg9 hn9 hO _ _ ?_)
  have hgl := word4_lt hNp.2 1
  have hnl := word4_lt hNp.2 9
  have hm : (p :: ps').map (·.2) = p.2 :: ps'.map (·.2) := rfl
  rw [hm] at h0 hk
  simp only [readM, List.length_map] at h0 hk
  generalize hG1 : word4 p.2 1 = g at *
  generalize hN1 : word4 p.2 9 = n at *
  have hL : ps'.length + 1 ≤ 1500 := hl
  have wL : IntKind.i64.wrap (((ps'.length + 1 : Nat) : Int) * 64) = (((ps'.length + 1) * 64 : Nat) : Int) := by rw [w_i64 (by omega)]; omega
  by_cases c1 : g = 0
  · have h0 := h0 (by rw [if_pos (.inl c1)])
    simp (config := { implicitDefEqProofs := false }) only [↓GP, GQ, ↓awp_seq, ↓awp_block, C_ex, Nat.reduceBEq, acap, afieldAddr, aload, astore, abin, anum, astr, aun, isAggD, cond_true, cond_false, ↓reduceIte, C_P, C_G, isTuple, Value.cells, setL, ares, aresL, ares1, reduceCtorEq, Nat.reduceEqDiff, eq_self, Nat.reduceAdd, if_true, if_false, one, Nat.reduceLeDiff, undef, gsl, aextract, aindexAddr, amake, implies_true, forall_const, alen, abuiltin, anil, isC, Int.reduceEq, Int.reduceLT, Int.reduceLE, Int.reduceAdd, Int.reduceToNat, Int.reduceNeg, Nat.reduceMul, Nat.reduceSub, abuild, afill, Int.reduceBNe, Int.reduceBEq, Try.underlying22, Try.underlying23, Try.underlying3, beqT (show (g : Int) = 0 by omega)]
    exact h0 _ _ _ hO
  by_cases c2 : gen ≠ 0 ∧ g ≠ gen
  · have h0 := h0 (by rw [if_pos (.inr (.inl c2))])
    simp (config := { implicitDefEqProofs := false }) only [↓GP, GQ, ↓awp_seq, ↓awp_block, C_ex, Nat.reduceBEq, acap, afieldAddr, aload, astore, abin, anum, astr, aun, isAggD, cond_true, cond_false, ↓reduceIte, C_P, C_G, isTuple, Value.cells, setL, ares, aresL, ares1, reduceCtorEq, Nat.reduceEqDiff, eq_self, Nat.reduceAdd, if_true, if_false, one, Nat.reduceLeDiff, undef, gsl, aextract, aindexAddr, amake, implies_true, forall_const, alen, abuiltin, anil, isC, Int.reduceEq, Int.reduceLT, Int.reduceLE, Int.reduceAdd, Int.reduceToNat, Int.reduceNeg, Nat.reduceMul, Nat.reduceSub, abuild, afill, Int.reduceBNe, Int.reduceBEq, Try.underlying22, Try.underlying23, Try.underlying3, beqF (show ¬ (g : Int) = 0 by omega), bneT (show ¬ (gen : Int) = 0 by omega), bneT (show ¬ (g : Int) = gen by omega)]
    exact h0 _ _ _ hO
  have hgen : gen = 0 ∨ (gen ≠ 0 ∧ g = gen) := by omega
  by_cases c3 : n > (ps'.length + 1) * 64
  · have h0 := h0 (by rw [if_pos (.inr (.inr (.inl c3)))])
    rcases hgen with hz | ⟨hz, hz2⟩
    · simp (config := { implicitDefEqProofs := false }) only [↓GP, GQ, ↓awp_seq, ↓awp_block, C_ex, Nat.reduceBEq, acap, afieldAddr, aload, astore, abin, anum, astr, aun, isAggD, cond_true, cond_false, ↓reduceIte, C_P, C_G, isTuple, Value.cells, setL, ares, aresL, ares1, reduceCtorEq, Nat.reduceEqDiff, eq_self, Nat.reduceAdd, if_true, if_false, one, Nat.reduceLeDiff, undef, gsl, aextract, aindexAddr, amake, implies_true, forall_const, alen, abuiltin, anil, isC, Int.reduceEq, Int.reduceLT, Int.reduceLE, Int.reduceAdd, Int.reduceToNat, Int.reduceNeg, Nat.reduceMul, Nat.reduceSub, abuild, afill, Int.reduceBNe, Int.reduceBEq, Try.underlying22, Try.underlying23, Try.underlying3, beqF (show ¬ (g : Int) = 0 by omega), bneF (show (gen : Int) = 0 by omega), wL, show (n : Int) > (((ps'.length + 1) * 64 : Nat) : Int) by omega, decide_true]
      exact h0 _ _ _ hO
    · simp (config := { implicitDefEqProofs := false }) only [↓GP, GQ, ↓awp_seq, ↓awp_block, C_ex, Nat.reduceBEq, acap, afieldAddr, aload, astore, abin, anum, astr, aun, isAggD, cond_true, cond_false, ↓reduceIte, C_P, C_G, isTuple, Value.cells, setL, ares, aresL, ares1, reduceCtorEq, Nat.reduceEqDiff, eq_self, Nat.reduceAdd, if_true, if_false, one, Nat.reduceLeDiff, undef, gsl, aextract, aindexAddr, amake, implies_true, forall_const, alen, abuiltin, anil, isC, Int.reduceEq, Int.reduceLT, Int.reduceLE, Int.reduceAdd, Int.reduceToNat, Int.reduceNeg, Nat.reduceMul, Nat.reduceSub, abuild, afill, Int.reduceBNe, Int.reduceBEq, Try.underlying22, Try.underlying23, Try.underlying3, beqF (show ¬ (g : Int) = 0 by omega), bneT (show ¬ (gen : Int) = 0 by omega), bneF (show (g : Int) = gen by omega), wL, show (n : Int) > (((ps'.length + 1) * 64 : Nat) : Int) by omega, decide_true]
      exact h0 _ _ _ hO
  have hnb : n ≤ 1000000 := by omega
  have wn : IntKind.i64.wrap (1 + ((needN n : Nat) : Int)) = ((1 + needN n : Nat) : Int) := by rw [w_i64 (by unfold needN; omega)]; omega
  by_cases c4 : 1 + needN n > ps'.length + 1
  · have h0 := h0 (by rw [if_pos (.inr (.inr (.inr c4)))])
    rcases hgen with hz | ⟨hz, hz2⟩
    · simp (config := { implicitDefEqProofs := false }) only [↓GP, GQ, ↓awp_seq, ↓awp_block, C_ex, Nat.reduceBEq, acap, afieldAddr, aload, astore, abin, anum, astr, aun, isAggD, cond_true, cond_false, ↓reduceIte, C_P, C_G, isTuple, Value.cells, setL, ares, aresL, ares1, reduceCtorEq, Nat.reduceEqDiff, eq_self, Nat.reduceAdd, if_true, if_false, one, Nat.reduceLeDiff, undef, gsl, aextract, aindexAddr, amake, implies_true, forall_const, alen, abuiltin, anil, isC, Int.reduceEq, Int.reduceLT, Int.reduceLE, Int.reduceAdd, Int.reduceToNat, Int.reduceNeg, Nat.reduceMul, Nat.reduceSub, abuild, afill, Int.reduceBNe, Int.reduceBEq, Try.underlying22, Try.underlying23, Try.underlying3, beqF (show ¬ (g : Int) = 0 by omega), bneF (show (gen : Int) = 0 by omega), wL, show ¬ (n : Int) > (((ps'.length + 1) * 64 : Nat) : Int) by omega, decide_false]
      refine ACallF.enter Try.func38 rfl (by kernel_rfl) (need_spec st n hnb _ _ ?_)
      simp (config := { implicitDefEqProofs := false }) only [↓GP, GQ, ↓awp_seq, ↓awp_block, C_ex, Nat.reduceBEq, acap, afieldAddr, aload, astore, abin, anum, astr, aun, isAggD, cond_true, cond_false, ↓reduceIte, C_P, C_G, isTuple, Value.cells, setL, ares, aresL, ares1, reduceCtorEq, Nat.reduceEqDiff, eq_self, Nat.reduceAdd, if_true, if_false, one, Nat.reduceLeDiff, undef, gsl, aextract, aindexAddr, amake, implies_true, forall_const, alen, abuiltin, anil, isC, Int.reduceEq, Int.reduceLT, Int.reduceLE, Int.reduceAdd, Int.reduceToNat, Int.reduceNeg, Nat.reduceMul, Nat.reduceSub, abuild, afill, Int.reduceBNe, Int.reduceBEq, Try.underlying22, Try.underlying23, Try.underlying3, wn, show ((1 + needN n : Nat) : Int) > ((ps'.length + 1 : Nat) : Int) by omega, decide_true]
      exact h0 _ _ _ hO
    · simp (config := { implicitDefEqProofs := false }) only [↓GP, GQ, ↓awp_seq, ↓awp_block, C_ex, Nat.reduceBEq, acap, afieldAddr, aload, astore, abin, anum, astr, aun, isAggD, cond_true, cond_false, ↓reduceIte, C_P, C_G, isTuple, Value.cells, setL, ares, aresL, ares1, reduceCtorEq, Nat.reduceEqDiff, eq_self, Nat.reduceAdd, if_true, if_false, one, Nat.reduceLeDiff, undef, gsl, aextract, aindexAddr, amake, implies_true, forall_const, alen, abuiltin, anil, isC, Int.reduceEq, Int.reduceLT, Int.reduceLE, Int.reduceAdd, Int.reduceToNat, Int.reduceNeg, Nat.reduceMul, Nat.reduceSub, abuild, afill, Int.reduceBNe, Int.reduceBEq, Try.underlying22, Try.underlying23, Try.underlying3, beqF (show ¬ (g : Int) = 0 by omega), bneT (show ¬ (gen : Int) = 0 by omega), bneF (show (g : Int) = gen by omega), wL, show ¬ (n : Int) > (((ps'.length + 1) * 64 : Nat) : Int) by omega, decide_false]
      refine ACallF.enter Try.func38 rfl (by kernel_rfl) (need_spec st n hnb _ _ ?_)
      simp (config := { implicitDefEqProofs := false }) only [↓GP, GQ, ↓awp_seq, ↓awp_block, C_ex, Nat.reduceBEq, acap, afieldAddr, aload, astore, abin, anum, astr, aun, isAggD, cond_true, cond_false, ↓reduceIte, C_P, C_G, isTuple, Value.cells, setL, ares, aresL, ares1, reduceCtorEq, Nat.reduceEqDiff, eq_self, Nat.reduceAdd, if_true, if_false, one, Nat.reduceLeDiff, undef, gsl, aextract, aindexAddr, amake, implies_true, forall_const, alen, abuiltin, anil, isC, Int.reduceEq, Int.reduceLT, Int.reduceLE, Int.reduceAdd, Int.reduceToNat, Int.reduceNeg, Nat.reduceMul, Nat.reduceSub, abuild, afill, Int.reduceBNe, Int.reduceBEq, Try.underlying22, Try.underlying23, Try.underlying3, wn, show ((1 + needN n : Nat) : Int) > ((ps'.length + 1 : Nat) : Int) by omega, decide_true]
      exact h0 _ _ _ hO
  rw [if_neg (by simp only [not_or]; exact ⟨c1, c2, c3, c4⟩)] at h0
  simp only [if_neg (show ¬ (g = 0 ∨ gen ≠ 0 ∧ g ≠ gen ∨ n > (ps'.length + 1) * 64 ∨ 1 + needN n > ps'.length + 1) by simp only [not_or]; exact ⟨c1, c2, c3, c4⟩)] at hk
  obtain ⟨v2, hv2, hP2, hS2⟩ := hP.part (t := 22) (lo := some (.int .i64 (1 : Nat))) (hi := some (.int .i64 (1 + needN n : Nat))) (l := 1) (r := 1 + needN n) hS hO Try.underlying22 asz23 (fun c hc => abounds_lohi (by omega) (by rw [List.length_cons] at hc; omega)) (by omega) (by rw [List.length_cons]; omega)
  have hv2 : aslice Try.prog st 22 v (some (.int .i64 1)) (some (.int .i64 (1 + needN n : Nat))) none = some v2 := hv2
  rw [hvx, List.length_cons] at hv2
  have e2 : (((p :: ps').drop 1).take (1 + needN n - 1)) = ps'.take (needN n) := by
    rw [Nat.add_sub_cancel_left]; rfl
  rw [e2] at hP2
  have hfl : (flat (ps'.take (needN n))).length = needN n * 64 := by
    have key : ∀ l : List (Value × List Nat), (∀ p ∈ l, p.2.length = 64) → (flat l).length = l.length * 64 := by
      intro l
      induction l with
      | nil => intro _; rfl
      | cons a l ih => intro h; rw [flat_cons, List.length_append, ih fun p hp => h p (by simp [hp]), h a (by simp), List.length_cons]; omega
    rw [key _ fun p hp => (hE p (List.mem_cons_of_mem _ (List.mem_of_mem_take hp))).2, List.length_take, Nat.min_eq_left (by omega)]
  have hflm : flat (ps'.take (needN n)) = ((ps'.map (·.2)).take (needN n)).flatten := by unfold flat; rw [List.map_take]
  have hnn : n ≤ needN n * 64 := by unfold needN; omega
  rw [← hflm] at h0 hk
  have hfb : ∀ d ∈ flat (ps'.take (needN n)), d < 256 := by
    intro d hd
    obtain ⟨l, hl, hd⟩ := List.mem_flatten.1 hd
    obtain ⟨p, hp, rfl⟩ := List.mem_map.1 hl
    exact (hP2.2 p hp).2 d hd
  rcases hgen with hz | ⟨hz, hz2⟩
  · simp (config := { implicitDefEqProofs := false }) only [↓GP, GQ, ↓awp_seq, ↓awp_block, C_ex, Nat.reduceBEq, acap, afieldAddr, aload, astore, abin, anum, astr, aun, isAggD, cond_true, cond_false, ↓reduceIte, C_P, C_G, isTuple, Value.cells, setL, ares, aresL, ares1, reduceCtorEq, Nat.reduceEqDiff, eq_self, Nat.reduceAdd, if_true, if_false, one, Nat.reduceLeDiff, undef, gsl, aextract, aindexAddr, amake, implies_true, forall_const, alen, abuiltin, anil, isC, Int.reduceEq, Int.reduceLT, Int.reduceLE, Int.reduceAdd, Int.reduceToNat, Int.reduceNeg, Nat.reduceMul, Nat.reduceSub, abuild, afill, Int.reduceBNe, Int.reduceBEq, Try.underlying22, Try.underlying23, Try.underlying3, beqF (show ¬ (g : Int) = 0 by omega), bneF (show (gen : Int) = 0 by omega), wL, show ¬ (n : Int) > (((ps'.length + 1) * 64 : Nat) : Int) by omega, decide_false]
    refine ACallF.enter Try.func38 rfl (by kernel_rfl) (need_spec st n hnb _ _ ?_)
    simp (config := { implicitDefEqProofs := false }) only [↓GP, GQ, ↓awp_seq, ↓awp_block, C_ex, Nat.reduceBEq, acap, afieldAddr, aload, astore, abin, anum, astr, aun, isAggD, cond_true, cond_false, ↓reduceIte, C_P, C_G, isTuple, Value.cells, setL, ares, aresL, ares1, reduceCtorEq, Nat.reduceEqDiff, eq_self, Nat.reduceAdd, if_true, if_false, one, Nat.reduceLeDiff, undef, gsl, aextract, aindexAddr, amake, implies_true, forall_const, alen, abuiltin, anil, isC, Int.reduceEq, Int.reduceLT, Int.reduceLE, Int.reduceAdd, Int.reduceToNat, Int.reduceNeg, Nat.reduceMul, Nat.reduceSub, abuild, afill, Int.reduceBNe, Int.reduceBEq, Try.underlying22, Try.underlying23, Try.underlying3, wn, show ¬ ((1 + needN n : Nat) : Int) > ((ps'.length + 1 : Nat) : Int) by omega, decide_false]
    refine ACallF.enter Try.func38 rfl (by kernel_rfl) (need_spec st n hnb _ _ ?_)
    simp (config := { implicitDefEqProofs := false }) only [↓GP, GQ, ↓awp_seq, ↓awp_block, C_ex, Nat.reduceBEq, acap, afieldAddr, aload, astore, abin, anum, astr, aun, isAggD, cond_true, cond_false, ↓reduceIte, C_P, C_G, isTuple, Value.cells, setL, ares, aresL, ares1, reduceCtorEq, Nat.reduceEqDiff, eq_self, Nat.reduceAdd, if_true, if_false, one, Nat.reduceLeDiff, undef, gsl, aextract, aindexAddr, amake, implies_true, forall_const, alen, abuiltin, anil, isC, Int.reduceEq, Int.reduceLT, Int.reduceLE, Int.reduceAdd, Int.reduceToNat, Int.reduceNeg, Nat.reduceMul, Nat.reduceSub, abuild, afill, Int.reduceBNe, Int.reduceBEq, Try.underlying22, Try.underlying23, Try.underlying3, wn, hv2]
    refine ACallF.enter Try.func57 rfl (by kernel_rfl) (Concat_spec st r v2 _ hP2 (by rw [hfl]; omega) (by rw [List.length_take]; omega) hO _ _ fun vb hb sb hGb hOb => ?_)
    have hNb : Nb hb vb (flat (ps'.take (needN n))) := by
      have := hGb.nb (r := []) rfl hfb
      rwa [List.append_nil] at this
    have hSb : Sl Try.prog hb vb 1 := by
      rcases hGb with ⟨rfl, _⟩ | ⟨b, rfl, _⟩ | ⟨b, c, D, rfl, rfl, _, hc⟩
      · exact .inl rfl
      · exact .inr ⟨b, 0, none, 0, 0, rfl, Nat.le_refl _, .inl rfl⟩
      · exact .inr ⟨b, 0, some 0, _, c, rfl, hc, .inr ⟨rfl, D, 5, true, by simp, fun _ => asz5⟩⟩
    obtain ⟨v3, hv3, hN3, _⟩ := hNb.part (t := 23) (lo := none) (hi := some (.int .i64 n)) (l := 0) (r := n) hSb hOb.left Try.underlying23 asz5 (fun c hc => abounds_hi (by rw [hfl] at hc; omega)) (by omega) (by rw [hfl]; omega)
    rw [List.drop_zero, Nat.sub_zero] at hN3
    have hl3 : ((flat (ps'.take (needN n))).take n).length ≤ 1000000 := by rw [List.length_take]; omega
    have hBs := hOb.get (b := B) (o := .cells cs ty own) (List.mem_append_right _ hmem)
    simp (config := { implicitDefEqProofs := false }) only [↓GP, GQ, ↓awp_seq, ↓awp_block, C_ex, Nat.reduceBEq, acap, afieldAddr, aload, astore, abin, anum, astr, aun, isAggD, cond_true, cond_false, ↓reduceIte, C_P, C_G, isTuple, Value.cells, setL, ares, aresL, ares1, reduceCtorEq, Nat.reduceEqDiff, eq_self, Nat.reduceAdd, if_true, if_false, one, Nat.reduceLeDiff, undef, gsl, aextract, aindexAddr, amake, implies_true, forall_const, alen, abuiltin, anil, isC, Int.reduceEq, Int.reduceLT, Int.reduceLE, Int.reduceAdd, Int.reduceToNat, Int.reduceNeg, Nat.reduceMul, Nat.reduceSub, abuild, afill, Int.reduceBNe, Int.reduceBEq, Try.underlying22, Try.underlying23, Try.underlying3, hv3]
    refine ADraw.of [(0, false, []), (1, false, []), (2, false, []), (3, false, []), (4, false, []), (6, false, []), (7, false, []), (8, true, []), (5, false, [8]), (9, false, []), (10, false, []), (11, false, []), (12, false, [])] [8] [(8, 5)] (by kernel_rfl) ?_
    simp (config := { implicitDefEqProofs := false }) only [↓GP, GQ, ↓awp_seq, ↓awp_block, C_ex, Nat.reduceBEq, acap, afieldAddr, aload, astore, abin, anum, astr, aun, isAggD, cond_true, cond_false, ↓reduceIte, C_P, C_G, isTuple, Value.cells, setL, ares, aresL, ares1, reduceCtorEq, Nat.reduceEqDiff, eq_self, Nat.reduceAdd, if_true, if_false, one, Nat.reduceLeDiff, undef, gsl, aextract, aindexAddr, amake, implies_true, forall_const, alen, abuiltin, anil, isC, Int.reduceEq, Int.reduceLT, Int.reduceLE, Int.reduceAdd, Int.reduceToNat, Int.reduceNeg, Nat.reduceMul, Nat.reduceSub, abuild, afill, Int.reduceBNe, Int.reduceBEq, Try.underlying22, Try.underlying23, Try.underlying3, asz23, hBs, g0]
    refine ⟨by omega, ACallF.enter Try.func50 rfl (by kernel_rfl) (head_spec sb (hb ++ r) v3 _ g num (hN3.sub fun e he => List.mem_append_left _ he) hl3 hgl hnum hOb _ _ fun v4 h4 s4 hG4 hO4 => ?_)⟩
    have hB4 := hO4.get (b := B) (o := .cells cs ty own) (by simp [hmem])
    simp (config := { implicitDefEqProofs := false }) only [↓GP, GQ, ↓awp_seq, ↓awp_block, C_ex, Nat.reduceBEq, acap, afieldAddr, aload, astore, abin, anum, astr, aun, isAggD, cond_true, cond_false, ↓reduceIte, C_P, C_G, isTuple, Value.cells, setL, ares, aresL, ares1, reduceCtorEq, Nat.reduceEqDiff, eq_self, Nat.reduceAdd, if_true, if_false, one, Nat.reduceLeDiff, undef, gsl, aextract, aindexAddr, amake, implies_true, forall_const, alen, abuiltin, anil, isC, Int.reduceEq, Int.reduceLT, Int.reduceLE, Int.reduceAdd, Int.reduceToNat, Int.reduceNeg, Nat.reduceMul, Nat.reduceSub, abuild, afill, Int.reduceBNe, Int.reduceBEq, Try.underlying22, Try.underlying23, Try.underlying3, asz23, hB4, g0]
    refine ACallF.enter Try.func48 rfl (by kernel_rfl) (Equal_spec s4 (h4 ++ (hb ++ r)) v4 p.1 _ _ (hG4.c.nb rfl (headL_lt _ _ _)) (hNp.sub fun e he => by simp [he]) hO4 _ _ ?_)
    simp (config := { implicitDefEqProofs := false }) only [↓GP, GQ, ↓awp_seq, ↓awp_block, C_ex, Nat.reduceBEq, acap, afieldAddr, aload, astore, abin, anum, astr, aun, isAggD, cond_true, cond_false, ↓reduceIte, C_P, C_G, isTuple, Value.cells, setL, ares, aresL, ares1, reduceCtorEq, Nat.reduceEqDiff, eq_self, Nat.reduceAdd, if_true, if_false, one, Nat.reduceLeDiff, undef, gsl, aextract, aindexAddr, amake, implies_true, forall_const, alen, abuiltin, anil, isC, Int.reduceEq, Int.reduceLT, Int.reduceLE, Int.reduceAdd, Int.reduceToNat, Int.reduceNeg, Nat.reduceMul, Nat.reduceSub, abuild, afill, Int.reduceBNe, Int.reduceBEq, Try.underlying22, Try.underlying23, Try.underlying3]
    by_cases hE : headL g num ((flat (ps'.take (needN n))).take n) = p.2
    · rw [decide_eq_true hE]
      exact hk _ g v3 hb s4 (by rw [if_pos hE]) hN3 hO4.right
    · rw [decide_eq_false hE]
      exact h0 (by rw [if_neg hE]) _ _ _ hO4.right.right
  · simp (config := { implicitDefEqProofs := false }) only [↓GP, GQ, ↓awp_seq, ↓awp_block, C_ex, Nat.reduceBEq, acap, afieldAddr, aload, astore, abin, anum, astr, aun, isAggD, cond_true, cond_false, ↓reduceIte, C_P, C_G, isTuple, Value.cells, setL, ares, aresL, ares1, reduceCtorEq, Nat.reduceEqDiff, eq_self, Nat.reduceAdd, if_true, if_false, one, Nat.reduceLeDiff, undef, gsl, aextract, aindexAddr, amake, implies_true, forall_const, alen, abuiltin, anil, isC, Int.reduceEq, Int.reduceLT, Int.reduceLE, Int.reduceAdd, Int.reduceToNat, Int.reduceNeg, Nat.reduceMul, Nat.reduceSub, abuild, afill, Int.reduceBNe, Int.reduceBEq, Try.underlying22, Try.underlying23, Try.underlying3, beqF (show ¬ (g : Int) = 0 by omega), bneT (show ¬ (gen : Int) = 0 by omega), bneF (show (g : Int) = gen by omega), wL, show ¬ (n : Int) > (((ps'.length + 1) * 64 : Nat) : Int) by omega, decide_false]
    refine ACallF.enter Try.func38 rfl (by kernel_rfl) (need_spec st n hnb _ _ ?_)
    simp (config := { implicitDefEqProofs := false }) only [↓GP, GQ, ↓awp_seq, ↓awp_block, C_ex, Nat.reduceBEq, acap, afieldAddr, aload, astore, abin, anum, astr, aun, isAggD, cond_true, cond_false, ↓reduceIte, C_P, C_G, isTuple, Value.cells, setL, ares, aresL, ares1, reduceCtorEq, Nat.reduceEqDiff, eq_self, Nat.reduceAdd, if_true, if_false, one, Nat.reduceLeDiff, undef, gsl, aextract, aindexAddr, amake, implies_true, forall_const, alen, abuiltin, anil, isC, Int.reduceEq, Int.reduceLT, Int.reduceLE, Int.reduceAdd, Int.reduceToNat, Int.reduceNeg, Nat.reduceMul, Nat.reduceSub, abuild, afill, Int.reduceBNe, Int.reduceBEq, Try.underlying22, Try.underlying23, Try.underlying3, wn, show ¬ ((1 + needN n : Nat) : Int) > ((ps'.length + 1 : Nat) : Int) by omega, decide_false]
    refine ACallF.enter Try.func38 rfl (by kernel_rfl) (need_spec st n hnb _ _ ?_)
    simp (config := { implicitDefEqProofs := false }) only [↓GP, GQ, ↓awp_seq, ↓awp_block, C_ex, Nat.reduceBEq, acap, afieldAddr, aload, astore, abin, anum, astr, aun, isAggD, cond_true, cond_false, ↓reduceIte, C_P, C_G, isTuple, Value.cells, setL, ares, aresL, ares1, reduceCtorEq, Nat.reduceEqDiff, eq_self, Nat.reduceAdd, if_true, if_false, one, Nat.reduceLeDiff, undef, gsl, aextract, aindexAddr, amake, implies_true, forall_const, alen, abuiltin, anil, isC, Int.reduceEq, Int.reduceLT, Int.reduceLE, Int.reduceAdd, Int.reduceToNat, Int.reduceNeg, Nat.reduceMul, Nat.reduceSub, abuild, afill, Int.reduceBNe, Int.reduceBEq, Try.underlying22, Try.underlying23, Try.underlying3, wn, hv2]
    refine ACallF.enter Try.func57 rfl (by kernel_rfl) (Concat_spec st r v2 _ hP2 (by rw [hfl]; omega) (by rw [List.length_take]; omega) hO _ _ fun vb hb sb hGb hOb => ?_)
    have hNb : Nb hb vb (flat (ps'.take (needN n))) := by
      have := hGb.nb (r := []) rfl hfb
      rwa [List.append_nil] at this
    have hSb : Sl Try.prog hb vb 1 := by
      rcases hGb with ⟨rfl, _⟩ | ⟨b, rfl, _⟩ | ⟨b, c, D, rfl, rfl, _, hc⟩
      · exact .inl rfl
      · exact .inr ⟨b, 0, none, 0, 0, rfl, Nat.le_refl _, .inl rfl⟩
      · exact .inr ⟨b, 0, some 0, _, c, rfl, hc, .inr ⟨rfl, D, 5, true, by simp, fun _ => asz5⟩⟩
    obtain ⟨v3, hv3, hN3, _⟩ := hNb.part (t := 23) (lo := none) (hi := some (.int .i64 n)) (l := 0) (r := n) hSb hOb.left Try.underlying23 asz5 (fun c hc => abounds_hi (by rw [hfl] at hc; omega)) (by omega) (by rw [hfl]; omega)
    rw [List.drop_zero, Nat.sub_zero] at hN3
    have hl3 : ((flat (ps'.take (needN n))).take n).length ≤ 1000000 := by rw [List.length_take]; omega
    have hBs := hOb.get (b := B) (o := .cells cs ty own) (List.mem_append_right _ hmem)
    simp (config := { implicitDefEqProofs := false }) only [↓GP, GQ, ↓awp_seq, ↓awp_block, C_ex, Nat.reduceBEq, acap, afieldAddr, aload, astore, abin, anum, astr, aun, isAggD, cond_true, cond_false, ↓reduceIte, C_P, C_G, isTuple, Value.cells, setL, ares, aresL, ares1, reduceCtorEq, Nat.reduceEqDiff, eq_self, Nat.reduceAdd, if_true, if_false, one, Nat.reduceLeDiff, undef, gsl, aextract, aindexAddr, amake, implies_true, forall_const, alen, abuiltin, anil, isC, Int.reduceEq, Int.reduceLT, Int.reduceLE, Int.reduceAdd, Int.reduceToNat, Int.reduceNeg, Nat.reduceMul, Nat.reduceSub, abuild, afill, Int.reduceBNe, Int.reduceBEq, Try.underlying22, Try.underlying23, Try.underlying3, hv3]
    refine ADraw.of [(0, false, []), (1, false, []), (2, false, []), (3, false, []), (4, false, []), (6, false, []), (7, false, []), (8, true, []), (5, false, [8]), (9, false, []), (10, false, []), (11, false, []), (12, false, [])] [8] [(8, 5)] (by kernel_rfl) ?_
    simp (config := { implicitDefEqProofs := false }) only [↓GP, GQ, ↓awp_seq, ↓awp_block, C_ex, Nat.reduceBEq, acap, afieldAddr, aload, astore, abin, anum, astr, aun, isAggD, cond_true, cond_false, ↓reduceIte, C_P, C_G, isTuple, Value.cells, setL, ares, aresL, ares1, reduceCtorEq, Nat.reduceEqDiff, eq_self, Nat.reduceAdd, if_true, if_false, one, Nat.reduceLeDiff, undef, gsl, aextract, aindexAddr, amake, implies_true, forall_const, alen, abuiltin, anil, isC, Int.reduceEq, Int.reduceLT, Int.reduceLE, Int.reduceAdd, Int.reduceToNat, Int.reduceNeg, Nat.reduceMul, Nat.reduceSub, abuild, afill, Int.reduceBNe, Int.reduceBEq, Try.underlying22, Try.underlying23, Try.underlying3, asz23, hBs, g0]
    refine ⟨by omega, ACallF.enter Try.func50 rfl (by kernel_rfl) (head_spec sb (hb ++ r) v3 _ g num (hN3.sub fun e he => List.mem_append_left _ he) hl3 hgl hnum hOb _ _ fun v4 h4 s4 hG4 hO4 => ?_)⟩
    have hB4 := hO4.get (b := B) (o := .cells cs ty own) (by simp [hmem])
    simp (config := { implicitDefEqProofs := false }) only [↓GP, GQ, ↓awp_seq, ↓awp_block, C_ex, Nat.reduceBEq, acap, afieldAddr, aload, astore, abin, anum, astr, aun, isAggD, cond_true, cond_false, ↓reduceIte, C_P, C_G, isTuple, Value.cells, setL, ares, aresL, ares1, reduceCtorEq, Nat.reduceEqDiff, eq_self, Nat.reduceAdd, if_true, if_false, one, Nat.reduceLeDiff, undef, gsl, aextract, aindexAddr, amake, implies_true, forall_const, alen, abuiltin, anil, isC, Int.reduceEq, Int.reduceLT, Int.reduceLE, Int.reduceAdd, Int.reduceToNat, Int.reduceNeg, Nat.reduceMul, Nat.reduceSub, abuild, afill, Int.reduceBNe, Int.reduceBEq, Try.underlying22, Try.underlying23, Try.underlying3, asz23, hB4, g0]
    refine ACallF.enter Try.func48 rfl (by kernel_rfl) (Equal_spec s4 (h4 ++ (hb ++ r)) v4 p.1 _ _ (hG4.c.nb rfl (headL_lt _ _ _)) (hNp.sub fun e he => by simp [he]) hO4 _ _ ?_)
    simp (config := { implicitDefEqProofs := false }) only [↓GP, GQ, ↓awp_seq, ↓awp_block, C_ex, Nat.reduceBEq, acap, afieldAddr, aload, astore, abin, anum, astr, aun, isAggD, cond_true, cond_false, ↓reduceIte, C_P, C_G, isTuple, Value.cells, setL, ares, aresL, ares1, reduceCtorEq, Nat.reduceEqDiff, eq_self, Nat.reduceAdd, if_true, if_false, one, Nat.reduceLeDiff, undef, gsl, aextract, aindexAddr, amake, implies_true, forall_const, alen, abuiltin, anil, isC, Int.reduceEq, Int.reduceLT, Int.reduceLE, Int.reduceAdd, Int.reduceToNat, Int.reduceNeg, Nat.reduceMul, Nat.reduceSub, abuild, afill, Int.reduceBNe, Int.reduceBEq, Try.underlying22, Try.underlying23, Try.underlying3]
    by_cases hE : headL g num ((flat (ps'.take (needN n))).take n) = p.2
    · rw [decide_eq_true hE]
      exact hk _ g v3 hb s4 (by rw [if_pos hE]) hN3 hO4.right
    · rw [decide_eq_false hE]
      exact h0 (by rw [if_neg hE]) _ _ _ hO4.right.right
end Go.Proofs.Ytiooigkcliomlaa
/- The records of a half. No conditions. -/
set_option linter.unusedVariables false
set_option linter.unusedSimpArgs false
namespace Go.Proofs.Ytiooigkcliomlaa
open Go Go.Abs Go.RowKit
variable {base : Nat} {w0 : World} {G : Nat}

def halfF : Nat → List (List Nat) → Nat → List (List Nat) → Nat → Nat × List (List Nat) × Nat
  | 0, _, gen, out, at_ => (gen, out, at_)
  | f + 1, l, gen, out, at_ => match readM (l.drop at_) gen out.length with
    | none => (gen, out, at_)
    | some (b, g) => halfF f l g (out ++ [b]) (at_ + 1 + needN b.length)
def halfM (l : List (List Nat)) : Nat × List (List Nat) × Nat := halfF (l.length + 1) l 0 [] 0
/-- A slice of slices of bytes that may be cut. -/
def Recs (h : Hp) (v : Value) (l : List (List Nat)) : Prop := ∃ qs : List (Value × List Nat), qs.map (·.2) = l ∧ Ps h v qs ∧ Sl Try.prog h v 1
theorem flat_64 : ∀ l : List (List Nat), (∀ p ∈ l, p.length = 64) → l.flatten.length = l.length * 64
  | [], _ => rfl
  | a :: l, h => by rw [List.flatten_cons, List.length_append, flat_64 l fun p hp => h p (by simp [hp]), h a (by simp), List.length_cons]; omega
theorem readM_some {l : List (List Nat)} {gen num : Nat} {b : List Nat} {g : Nat} (h64 : ∀ s ∈ l, s.length = 64 ∧ ∀ d ∈ s, d < 256) (h : readM l gen num = some (b, g)) : l ≠ [] ∧ 1 + needN b.length ≤ l.length ∧ g < 4294967296 ∧ g ≠ 0 ∧ (gen ≠ 0 → g = gen) ∧ b.length ≤ l.length * 64 := by
  unfold readM at h
  split at h
  · cases h
  · rename_i l0 rest
    split at h
    · cases h
    · rename_i hc
      simp only [not_or, not_and, Decidable.not_not] at hc
      obtain ⟨c1, c2, c3, c4⟩ := hc
      split at h
      · injection h with h
        injection h with h1 h2
        subst h1 h2
        have hl : ((rest.take (needN (word4 l0 9))).flatten.take (word4 l0 9)).length = word4 l0 9 := by
          rw [List.length_take, flat_64 _ fun s hs => (h64 s (List.mem_cons_of_mem _ (List.mem_of_mem_take hs))).1, List.length_take]
          unfold needN at *
          omega
        rw [hl]
        refine ⟨by simp, by simp; omega, word4_lt (h64 l0 (by simp)).2 1, c1, fun h => c2 h, by simp; omega⟩
      · cases h
theorem halfF_stop {f : Nat} {l : List (List Nat)} {gen : Nat} {out : List (List Nat)} {at_ : Nat} (h : readM (l.drop at_) gen out.length = none) : halfF f l gen out at_ = (gen, out, at_) := by
  cases f with
  | zero => rfl
  | succ f => rw [halfF, h]
set_option maxRecDepth 10000 in
theorem half_spec (st : St) (r : Hp) (v : Value) (ps : List (Value × List Nat)) (hv : Secs r v ps) (hl : ps.length ≤ 1500) (hO : Own st r) (k q : Value → St → Prop)
    (hk : ∀ outv H st', Recs H outv (halfM (ps.map (·.2))).2.1 → Own st' (H ++ r) → k (.tuple #[.int .i64 (halfM (ps.map (·.2))).1, outv, .int .i64 (halfM (ps.map (·.2))).2.2]) st') :
    ACall (C base w0 G) 36 [v] st k q := by
  obtain ⟨hP, hS, hE⟩ := hv
  obtain ⟨a, c, hvs⟩ : ∃ a c, v = .slice a ps.length c := by
    obtain ⟨a, c, h, _⟩ := hP.1.isSlice
    rw [List.length_map] at h
    exact ⟨a, c, h⟩
  have h64 : ∀ s ∈ ps.map (·.2), s.length = 64 ∧ ∀ d ∈ s, d < 256 := fun s hs => by
    obtain ⟨p, hp, rfl⟩ := List.mem_map.1 hs
    exact ⟨(hE p hp).2, (hP.2 p hp).2⟩
  refine ACall.of (cx := C base w0 G) mixed Try.func36 rfl (by kernel_rfl) (by simp [Try.ntmps36]) ?_
  simp only [Try.results36]
  simp (config := { implicitDefEqProofs := false }) only [↓GP, GQ, ↓awp_seq, ↓awp_block, C_ex, Nat.reduceBEq, acap, afieldAddr, aload, astore, abin, anum, astr, aun, isAggD, cond_true, cond_false, ↓reduceIte, C_P, C_G, isTuple, Value.cells, setL, ares, aresL, ares1, reduceCtorEq, Nat.reduceEqDiff, eq_self, Nat.reduceAdd, if_true, if_false, one, Nat.reduceLeDiff, undef, gsl, aextract, aindexAddr, amake, implies_true, forall_const, alen, abuiltin, anil, isC, Int.reduceEq, Int.reduceLT, Int.reduceLE, Int.reduceAdd, Int.reduceToNat, Int.reduceNeg, Nat.reduceMul, Nat.reduceSub, abuild, afill, Int.reduceBNe, Int.reduceBEq, hvs, Try.underlying22, Try.underlying3]
  refine ⟨fun m ρ s => ∃ (at_ f gen : Nat) (qs : List (Value × List Nat)) (ov : Value) (ho hr : Hp), m = ps.length - at_ ∧ at_ ≤ ps.length ∧ ρ 0 = v ∧ ρ 5 = ov ∧ ρ 6 = .int .i64 gen ∧ ρ 7 = .int .i64 at_ ∧ gen < 4294967296 ∧ qs.length ≤ at_ ∧
    ps.length + 1 ≤ f + at_ ∧ halfF f (ps.map (·.2)) gen (qs.map (·.2)) at_ = halfM (ps.map (·.2)) ∧ GVc ov (qs.map (·.1)) qs.length 1 23 ho ∧ (∀ q ∈ qs, Nb hr q.1 q.2) ∧ Own s (ho ++ (hr ++ r)),
    ⟨ps.length, 0, ps.length + 1, 0, [], _, [], [], rfl, Nat.zero_le _, hvs.symm, rfl, rfl, rfl, by decide, Nat.le_refl _, Nat.le_refl _, by rw [halfM, List.length_map]; rfl, GVc.nil, by simp, hO⟩, ?_⟩
  rintro m ρ s ⟨at_, f, gen, qs, ov, ho, hr, rfl, hat, h0, h5, h6, h7, hgen, hql, hf, hF, hG, hQ, hO⟩
  have hsub : ∀ e ∈ r, e ∈ ho ++ (hr ++ r) := fun e he => by simp [he]
  obtain ⟨v2, hv2, hP2, hS2⟩ := (hP.sub hsub).part (t := 22) (lo := some (.int .i64 at_)) (hi := none) (l := at_) (r := ps.length) (hS.sub hsub) hO Try.underlying22 asz23 (fun c hc => abounds_lo hat hc) hat (Nat.le_refl _)
  have e2 : (ps.drop at_).take (ps.length - at_) = ps.drop at_ := List.take_of_length_le (by rw [List.length_drop]; exact Nat.le_refl _)
  rw [e2] at hP2
  obtain ⟨oa, oc, hov⟩ := hG.isSlice
  have hsec : Secs (ho ++ (hr ++ r)) v2 (ps.drop at_) := ⟨hP2, hS2, fun p hp => ⟨(hE p (List.mem_of_mem_drop hp)).1.sub hsub, (hE p (List.mem_of_mem_drop hp)).2⟩⟩
  have hdm : (ps.drop at_).map (·.2) = (ps.map (·.2)).drop at_ := List.map_drop
  simp (config := { implicitDefEqProofs := false }) only [↓GP, GQ, ↓awp_seq, ↓awp_block, C_ex, Nat.reduceBEq, acap, afieldAddr, aload, astore, abin, anum, astr, aun, isAggD, cond_true, cond_false, ↓reduceIte, C_P, C_G, isTuple, Value.cells, setL, ares, aresL, ares1, reduceCtorEq, Nat.reduceEqDiff, eq_self, Nat.reduceAdd, if_true, if_false, one, Nat.reduceLeDiff, undef, gsl, aextract, aindexAddr, amake, implies_true, forall_const, alen, abuiltin, anil, isC, Int.reduceEq, Int.reduceLT, Int.reduceLE, Int.reduceAdd, Int.reduceToNat, Int.reduceNeg, Nat.reduceMul, Nat.reduceSub, abuild, afill, Int.reduceBNe, Int.reduceBEq, h0, h5, h6, h7, hv2, hov, Try.underlying22]
  refine ACallF.enter Try.func51 rfl (by kernel_rfl) (read_spec s _ v2 (ps.drop at_) gen qs.length hsec (by rw [List.length_drop]; omega) hgen (by omega) hO _ _ (fun hnone bv g s2 hO2 => ?_) (fun b g bv hb s2 hsome hNb hO2 => ?_))
  · rw [hdm] at hnone
    rw [halfF_stop (by rw [List.length_map]; exact hnone)] at hF
    simp (config := { implicitDefEqProofs := false }) only [↓GP, GQ, ↓awp_seq, ↓awp_block, C_ex, Nat.reduceBEq, acap, afieldAddr, aload, astore, abin, anum, astr, aun, isAggD, cond_true, cond_false, ↓reduceIte, C_P, C_G, isTuple, Value.cells, setL, ares, aresL, ares1, reduceCtorEq, Nat.reduceEqDiff, eq_self, Nat.reduceAdd, if_true, if_false, one, Nat.reduceLeDiff, undef, gsl, aextract, aindexAddr, amake, implies_true, forall_const, alen, abuiltin, anil, isC, Int.reduceEq, Int.reduceLT, Int.reduceLE, Int.reduceAdd, Int.reduceToNat, Int.reduceNeg, Nat.reduceMul, Nat.reduceSub, abuild, afill, Int.reduceBNe, Int.reduceBEq, h0, h5, h6, h7, hov, Try.underlying22]
    rw [← hov]
    have e1 := congrArg Prod.fst hF
    have e2 := congrArg (fun x => x.2.1) hF
    have e3 := congrArg (fun x => x.2.2) hF
    simp only at e1 e2 e3
    have hk := hk ov (ho ++ hr) s2 ⟨qs, e2, (hG.ps rfl asz23 hQ).1, (hG.ps rfl asz23 hQ).2⟩ (by rw [List.append_assoc]; exact hO2)
    rw [← e1, ← e3] at hk
    exact hk
  · rw [hdm] at hsome
    obtain ⟨s1, s2', s3, s4, s5, s6⟩ := readM_some (fun s hs => h64 s (List.mem_of_mem_drop hs)) hsome
    rw [List.length_drop, List.length_map] at s2' s6
    obtain ⟨ba, bc, hbv⟩ := hNb.isSlice
    simp (config := { implicitDefEqProofs := false }) only [↓GP, GQ, ↓awp_seq, ↓awp_block, C_ex, Nat.reduceBEq, acap, afieldAddr, aload, astore, abin, anum, astr, aun, isAggD, cond_true, cond_false, ↓reduceIte, C_P, C_G, isTuple, Value.cells, setL, ares, aresL, ares1, reduceCtorEq, Nat.reduceEqDiff, eq_self, Nat.reduceAdd, if_true, if_false, one, Nat.reduceLeDiff, undef, gsl, aextract, aindexAddr, amake, implies_true, forall_const, alen, abuiltin, anil, isC, Int.reduceEq, Int.reduceLT, Int.reduceLE, Int.reduceAdd, Int.reduceToNat, Int.reduceNeg, Nat.reduceMul, Nat.reduceSub, abuild, afill, Int.reduceBNe, Int.reduceBEq, h0, h5, h6, h7, hov, hbv, Try.underlying22]
    have hb1 := abuildSlice_one (st := s2) (v := .slice ba b.length bc) Try.underlying22 asz23 azc23 rfl rfl rfl (by decide)
    simp (config := { implicitDefEqProofs := false }) only [↓GP, GQ, ↓awp_seq, ↓awp_block, C_ex, Nat.reduceBEq, acap, afieldAddr, aload, astore, abin, anum, astr, aun, isAggD, cond_true, cond_false, ↓reduceIte, C_P, C_G, isTuple, Value.cells, setL, ares, aresL, ares1, reduceCtorEq, Nat.reduceEqDiff, eq_self, Nat.reduceAdd, if_true, if_false, one, Nat.reduceLeDiff, undef, gsl, aextract, aindexAddr, amake, implies_true, forall_const, alen, abuiltin, anil, isC, Int.reduceEq, Int.reduceLT, Int.reduceLE, Int.reduceAdd, Int.reduceToNat, Int.reduceNeg, Nat.reduceMul, Nat.reduceSub, abuild, afill, Int.reduceBNe, Int.reduceBEq, h0, h5, h6, h7, hov, hbv, Try.underlying22, hb1]
    rw [← hov]
    have hO3 : Own s2 (ho ++ ((hb ++ hr) ++ r)) := hO2.perm (by simpa using perm_of [hb, ho, hr, r] [0, 1, 2, 3] [1, 0, 2, 3] rfl)
    refine GVc.append1 (c := [.slice ba b.length bc]) Try.underlying22 (by rw [Try.underlying22]; rfl) asz23 azc23 aby23 hG hO3 rfl rfl (by omega) fun v7 h7' s7 hG7 hO7 => ?_
    have hO7' : Own s7 (h7' ++ ((hb ++ hr) ++ r)) := hO7
    obtain ⟨a7, c7, hv7⟩ := hG7.isSlice
    simp (config := { implicitDefEqProofs := false }) only [↓GP, GQ, ↓awp_seq, ↓awp_block, C_ex, Nat.reduceBEq, acap, afieldAddr, aload, astore, abin, anum, astr, aun, isAggD, cond_true, cond_false, ↓reduceIte, C_P, C_G, isTuple, Value.cells, setL, ares, aresL, ares1, reduceCtorEq, Nat.reduceEqDiff, eq_self, Nat.reduceAdd, if_true, if_false, one, Nat.reduceLeDiff, undef, gsl, aextract, aindexAddr, amake, implies_true, forall_const, alen, abuiltin, anil, isC, Int.reduceEq, Int.reduceLT, Int.reduceLE, Int.reduceAdd, Int.reduceToNat, Int.reduceNeg, Nat.reduceMul, Nat.reduceSub, abuild, afill, Int.reduceBNe, Int.reduceBEq, h0, h5, h6, h7, hbv, Try.underlying23]
    refine ACallF.enter Try.func38 rfl (by kernel_rfl) (need_spec s7 b.length (by omega) _ _ ?_)
    simp (config := { implicitDefEqProofs := false }) only [↓GP, GQ, ↓awp_seq, ↓awp_block, C_ex, Nat.reduceBEq, acap, afieldAddr, aload, astore, abin, anum, astr, aun, isAggD, cond_true, cond_false, ↓reduceIte, C_P, C_G, isTuple, Value.cells, setL, ares, aresL, ares1, reduceCtorEq, Nat.reduceEqDiff, eq_self, Nat.reduceAdd, if_true, if_false, one, Nat.reduceLeDiff, undef, gsl, aextract, aindexAddr, amake, implies_true, forall_const, alen, abuiltin, anil, isC, Int.reduceEq, Int.reduceLT, Int.reduceLE, Int.reduceAdd, Int.reduceToNat, Int.reduceNeg, Nat.reduceMul, Nat.reduceSub, abuild, afill, Int.reduceBNe, Int.reduceBEq, h0, h5, h6, h7, hbv, Try.underlying23, Try.underlying3]
    obtain ⟨f', rfl⟩ : ∃ f', f = f' + 1 := ⟨f - 1, by omega⟩
    rw [halfF, List.length_map, hsome] at hF
    refine ⟨ps.length - (at_ + 1 + needN b.length), by omega, at_ + 1 + needN b.length, f', g, qs ++ [(bv, b)], v7, h7', hb ++ hr, rfl, by omega, rfl, rfl, ?_, s3, by simp; omega, by omega, by rw [List.map_append]; exact hF, ?_, fun q hq => ?_, hO7'⟩
    · rw [w_i64 (x := (at_ : Int) + 1) (by omega), w_i64 (by omega)]; rfl
    · rw [List.map_append, List.length_append, List.map_singleton, hbv]
      exact hG7
    · rcases List.mem_append.1 hq with h | h
      · exact (hQ q h).sub fun e he => List.mem_append_right _ he
      · simp at h
        subst h
        exact hNb.sub fun e he => List.mem_append_left _ he
end Go.Proofs.Ytiooigkcliomlaa
/- Which half is valid. No conditions. -/
set_option linter.unusedVariables false
set_option linter.unusedSimpArgs false
namespace Go.Proofs.Ytiooigkcliomlaa
open Go Go.Abs Go.RowKit
variable {base : Nat} {w0 : World} {G : Nat}

def scanM (l : List (List Nat)) : Int × Nat × List (List Nat) :=
  if l.length < 4 ∨ (l.any fun s => decide (s.length ≠ 64)) = true then (0, 0, [])
  else if (halfM (l.take (l.length / 2))).1 = 0 ∧ (halfM ((l.drop (l.length / 2)).take (l.length / 2))).1 = 0 then (-1, 0, [])
  else if (halfM (l.take (l.length / 2))).1 ≥ (halfM ((l.drop (l.length / 2)).take (l.length / 2))).1 then (0, (halfM (l.take (l.length / 2))).1, (halfM (l.take (l.length / 2))).2.1)
  else (1, (halfM ((l.drop (l.length / 2)).take (l.length / 2))).1, (halfM ((l.drop (l.length / 2)).take (l.length / 2))).2.1)
theorem Recs.sub {h h' : Hp} {v : Value} {l : List (List Nat)} (hb : Recs h v l) (hs : ∀ e ∈ h, e ∈ h') : Recs h' v l := by
  obtain ⟨qs, h1, h2, h3⟩ := hb
  exact ⟨qs, h1, h2.sub hs, h3.sub hs⟩
theorem Recs.nil {h : Hp} : Recs h (.slice none 0 0) [] := ⟨[], rfl, ⟨.inl ⟨rfl, .inl rfl⟩, by simp⟩, .inl rfl⟩
set_option maxRecDepth 10000 in
theorem not64_spec (st : St) (a : Option Addr) (n c : Nat) (k q : Value → St → Prop) (hk : k (.bool (decide (n ≠ 64))) st) : ACall (C base w0 G) 41 [.slice a n c] st k q := by
  refine ACall.of (cx := C base w0 G) mixed Try.func41 rfl (by kernel_rfl) (by simp [Try.ntmps41]) ?_
  simp only [Try.results41]
  by_cases h : n = 64
  · subst h
    simp (config := { implicitDefEqProofs := false }) only [↓GP, GQ, ↓awp_seq, ↓awp_block, C_ex, Nat.reduceBEq, acap, afieldAddr, aload, astore, abin, anum, astr, aun, isAggD, cond_true, cond_false, ↓reduceIte, C_P, C_G, isTuple, Value.cells, setL, ares, aresL, ares1, reduceCtorEq, Nat.reduceEqDiff, eq_self, Nat.reduceAdd, if_true, if_false, one, Nat.reduceLeDiff, undef, gsl, aextract, aindexAddr, amake, implies_true, forall_const, alen, abuiltin, anil, isC, Int.reduceEq, Int.reduceLT, Int.reduceLE, Int.reduceAdd, Int.reduceToNat, Int.reduceNeg, Nat.reduceMul, Nat.reduceSub, abuild, afill, Int.reduceBNe, Int.reduceBEq, Try.underlying23, Try.underlying3]
    exact hk
  · simp (config := { implicitDefEqProofs := false }) only [↓GP, GQ, ↓awp_seq, ↓awp_block, C_ex, Nat.reduceBEq, acap, afieldAddr, aload, astore, abin, anum, astr, aun, isAggD, cond_true, cond_false, ↓reduceIte, C_P, C_G, isTuple, Value.cells, setL, ares, aresL, ares1, reduceCtorEq, Nat.reduceEqDiff, eq_self, Nat.reduceAdd, if_true, if_false, one, Nat.reduceLeDiff, undef, gsl, aextract, aindexAddr, amake, implies_true, forall_const, alen, abuiltin, anil, isC, Int.reduceEq, Int.reduceLT, Int.reduceLE, Int.reduceAdd, Int.reduceToNat, Int.reduceNeg, Nat.reduceMul, Nat.reduceSub, abuild, afill, Int.reduceBNe, Int.reduceBEq, Try.underlying23, Try.underlying3, bneT (show ¬ (n : Int) = 64 by omega)]
    rw [decide_eq_true h] at hk
    exact hk
set_option maxRecDepth 10000 in
theorem index_spec (st : St) (r : Hp) (v : Value) (ps : List (Value × List Nat)) (hP : Ps r v ps) (hl : ps.length ≤ 100000) (hO : Own st r) (k q : Value → St → Prop)
    (hk : ∀ i : Int, (0 ≤ i ↔ (ps.any fun s => decide (s.2.length ≠ 64)) = true) → k (.int .i64 i) st) : ACall (C base w0 G) 52 [v, .func (.func 41) #[] #[]] st k q := by
  obtain ⟨a, c, hvs⟩ : ∃ a c, v = .slice a ps.length c := by
    obtain ⟨a, c, h, _⟩ := hP.1.isSlice
    rw [List.length_map] at h
    exact ⟨a, c, h⟩
  refine ACall.of (cx := C base w0 G) mixed Try.func52 rfl (by kernel_rfl) (by simp [Try.ntmps52]) ?_
  simp only [Try.results52]
  simp (config := { implicitDefEqProofs := false }) only [↓GP, GQ, ↓awp_seq, ↓awp_block, C_ex, Nat.reduceBEq, acap, afieldAddr, aload, astore, abin, anum, astr, aun, isAggD, cond_true, cond_false, ↓reduceIte, C_P, C_G, isTuple, Value.cells, setL, ares, aresL, ares1, reduceCtorEq, Nat.reduceEqDiff, eq_self, Nat.reduceAdd, if_true, if_false, one, Nat.reduceLeDiff, undef, gsl, aextract, aindexAddr, amake, implies_true, forall_const, alen, abuiltin, anil, isC, Int.reduceEq, Int.reduceLT, Int.reduceLE, Int.reduceAdd, Int.reduceToNat, Int.reduceNeg, Nat.reduceMul, Nat.reduceSub, abuild, afill, Int.reduceBNe, Int.reduceBEq, hvs, Try.underlying22, Try.underlying3]
  refine ⟨fun m ρ s => ∃ i : Nat, m = ps.length - i ∧ i ≤ ps.length ∧ ρ 0 = v ∧ ρ 1 = .func (.func 41) #[] #[] ∧ ρ 7 = .int .i64 ps.length ∧ ρ 8 = .int .i64 i ∧ (∀ p ∈ ps.take i, p.2.length = 64) ∧ s = st, ⟨ps.length, 0, rfl, Nat.zero_le _, hvs.symm, rfl, rfl, rfl, by simp, rfl⟩, ?_⟩
  rintro m ρ s ⟨i, rfl, hi, h0, h1, h7, h8, hall, rfl⟩
  by_cases him : i < ps.length
  · obtain ⟨B, o, sp, c', cs, ty, own, hvx, hmem, hget⟩ := hP.at hO (by intro e; rw [e] at him; simp at him)
    have hp : ps[i]? = some ps[i] := List.getElem?_eq_getElem him
    generalize ps[i] = p at hp
    have hg := hget i p hp
    have hB := hO.get hmem
    obtain ⟨pa, pc', hps⟩ := (hP.2 p (List.mem_of_getElem? hp)).isSlice
    simp (config := { implicitDefEqProofs := false }) only [↓GP, GQ, ↓awp_seq, ↓awp_block, C_ex, Nat.reduceBEq, acap, afieldAddr, aload, astore, abin, anum, astr, aun, isAggD, cond_true, cond_false, ↓reduceIte, C_P, C_G, isTuple, Value.cells, setL, ares, aresL, ares1, reduceCtorEq, Nat.reduceEqDiff, eq_self, Nat.reduceAdd, if_true, if_false, one, Nat.reduceLeDiff, undef, gsl, aextract, aindexAddr, amake, implies_true, forall_const, alen, abuiltin, anil, isC, Int.reduceEq, Int.reduceLT, Int.reduceLE, Int.reduceAdd, Int.reduceToNat, Int.reduceNeg, Nat.reduceMul, Nat.reduceSub, abuild, afill, Int.reduceBNe, Int.reduceBEq, h0, h1, h7, h8, him, Int.ofNat_lt, decide_true, hvx, Try.underlying22, Try.underlying23, asz23, hB, hg, hps]
    refine ⟨by omega, ACallF.enter Try.func41 rfl (by kernel_rfl) (not64_spec s pa _ pc' _ _ ?_)⟩
    by_cases h64 : p.2.length = 64
    · rw [decide_eq_false (by simpa using h64)]
      simp (config := { implicitDefEqProofs := false }) only [↓GP, GQ, ↓awp_seq, ↓awp_block, C_ex, Nat.reduceBEq, acap, afieldAddr, aload, astore, abin, anum, astr, aun, isAggD, cond_true, cond_false, ↓reduceIte, C_P, C_G, isTuple, Value.cells, setL, ares, aresL, ares1, reduceCtorEq, Nat.reduceEqDiff, eq_self, Nat.reduceAdd, if_true, if_false, one, Nat.reduceLeDiff, undef, gsl, aextract, aindexAddr, amake, implies_true, forall_const, alen, abuiltin, anil, isC, Int.reduceEq, Int.reduceLT, Int.reduceLE, Int.reduceAdd, Int.reduceToNat, Int.reduceNeg, Nat.reduceMul, Nat.reduceSub, abuild, afill, Int.reduceBNe, Int.reduceBEq, h0, h1, h7, h8]
      refine ⟨ps.length - (i + 1), by omega, i + 1, rfl, by omega, by rw [w_i64 (by omega)]; rfl, fun x hx => ?_⟩
      rw [List.take_add_one, hp] at hx
      rcases List.mem_append.1 hx with h | h
      · exact hall x h
      · simp at h; subst h; exact h64
    · rw [decide_eq_true h64]
      simp (config := { implicitDefEqProofs := false }) only [↓GP, GQ, ↓awp_seq, ↓awp_block, C_ex, Nat.reduceBEq, acap, afieldAddr, aload, astore, abin, anum, astr, aun, isAggD, cond_true, cond_false, ↓reduceIte, C_P, C_G, isTuple, Value.cells, setL, ares, aresL, ares1, reduceCtorEq, Nat.reduceEqDiff, eq_self, Nat.reduceAdd, if_true, if_false, one, Nat.reduceLeDiff, undef, gsl, aextract, aindexAddr, amake, implies_true, forall_const, alen, abuiltin, anil, isC, Int.reduceEq, Int.reduceLT, Int.reduceLE, Int.reduceAdd, Int.reduceToNat, Int.reduceNeg, Nat.reduceMul, Nat.reduceSub, abuild, afill, Int.reduceBNe, Int.reduceBEq, h0, h1, h7, h8]
      exact hk i ⟨fun _ => List.any_eq_true.2 ⟨p, List.mem_of_getElem? hp, by simpa using h64⟩, fun _ => by omega⟩
  · obtain rfl : i = ps.length := by omega
    rw [List.take_length] at hall
    simp (config := { implicitDefEqProofs := false }) only [↓GP, GQ, ↓awp_seq, ↓awp_block, C_ex, Nat.reduceBEq, acap, afieldAddr, aload, astore, abin, anum, astr, aun, isAggD, cond_true, cond_false, ↓reduceIte, C_P, C_G, isTuple, Value.cells, setL, ares, aresL, ares1, reduceCtorEq, Nat.reduceEqDiff, eq_self, Nat.reduceAdd, if_true, if_false, one, Nat.reduceLeDiff, undef, gsl, aextract, aindexAddr, amake, implies_true, forall_const, alen, abuiltin, anil, isC, Int.reduceEq, Int.reduceLT, Int.reduceLE, Int.reduceAdd, Int.reduceToNat, Int.reduceNeg, Nat.reduceMul, Nat.reduceSub, abuild, afill, Int.reduceBNe, Int.reduceBEq, h0, h1, h7, h8, Nat.lt_irrefl, Int.ofNat_lt, decide_false]
    refine hk (-1) ⟨fun h => absurd h (by decide), fun h => ?_⟩
    obtain ⟨p, hp, hx⟩ := List.any_eq_true.1 h
    exact absurd (hall p hp) (by simpa using hx)
set_option maxRecDepth 10000 in
theorem contains_spec (st : St) (r : Hp) (v : Value) (ps : List (Value × List Nat)) (hP : Ps r v ps) (hl : ps.length ≤ 100000) (hO : Own st r) (k q : Value → St → Prop)
    (hk : k (.bool (ps.any fun s => decide (s.2.length ≠ 64))) st) : ACall (C base w0 G) 40 [v, .func (.func 41) #[] #[]] st k q := by
  refine ACall.of (cx := C base w0 G) mixed Try.func40 rfl (by kernel_rfl) (by simp [Try.ntmps40]) ?_
  simp only [Try.results40]
  simp (config := { implicitDefEqProofs := false }) only [↓GP, GQ, ↓awp_seq, ↓awp_block, C_ex, Nat.reduceBEq, acap, afieldAddr, aload, astore, abin, anum, astr, aun, isAggD, cond_true, cond_false, ↓reduceIte, C_P, C_G, isTuple, Value.cells, setL, ares, aresL, ares1, reduceCtorEq, Nat.reduceEqDiff, eq_self, Nat.reduceAdd, if_true, if_false, one, Nat.reduceLeDiff, undef, gsl, aextract, aindexAddr, amake, implies_true, forall_const, alen, abuiltin, anil, isC, Int.reduceEq, Int.reduceLT, Int.reduceLE, Int.reduceAdd, Int.reduceToNat, Int.reduceNeg, Nat.reduceMul, Nat.reduceSub, abuild, afill, Int.reduceBNe, Int.reduceBEq, Try.underlying3]
  refine ACallF.enter Try.func52 rfl (by kernel_rfl) (index_spec st r v ps hP hl hO _ _ fun i hi => ?_)
  cases h : (ps.any fun s => decide (s.2.length ≠ 64)) with
  | true =>
    rw [h] at hi hk
    simp (config := { implicitDefEqProofs := false }) only [↓GP, GQ, ↓awp_seq, ↓awp_block, C_ex, Nat.reduceBEq, acap, afieldAddr, aload, astore, abin, anum, astr, aun, isAggD, cond_true, cond_false, ↓reduceIte, C_P, C_G, isTuple, Value.cells, setL, ares, aresL, ares1, reduceCtorEq, Nat.reduceEqDiff, eq_self, Nat.reduceAdd, if_true, if_false, one, Nat.reduceLeDiff, undef, gsl, aextract, aindexAddr, amake, implies_true, forall_const, alen, abuiltin, anil, isC, Int.reduceEq, Int.reduceLT, Int.reduceLE, Int.reduceAdd, Int.reduceToNat, Int.reduceNeg, Nat.reduceMul, Nat.reduceSub, abuild, afill, Int.reduceBNe, Int.reduceBEq, Try.underlying3, ge_iff_le, hi.2 rfl, decide_true]
    exact hk
  | false =>
    rw [h] at hi hk
    have : ¬ 0 ≤ i := fun e => by have := hi.1 e; cases this
    simp (config := { implicitDefEqProofs := false }) only [↓GP, GQ, ↓awp_seq, ↓awp_block, C_ex, Nat.reduceBEq, acap, afieldAddr, aload, astore, abin, anum, astr, aun, isAggD, cond_true, cond_false, ↓reduceIte, C_P, C_G, isTuple, Value.cells, setL, ares, aresL, ares1, reduceCtorEq, Nat.reduceEqDiff, eq_self, Nat.reduceAdd, if_true, if_false, one, Nat.reduceLeDiff, undef, gsl, aextract, aindexAddr, amake, implies_true, forall_const, alen, abuiltin, anil, isC, Int.reduceEq, Int.reduceLT, Int.reduceLE, Int.reduceAdd, Int.reduceToNat, Int.reduceNeg, Nat.reduceMul, Nat.reduceSub, abuild, afill, Int.reduceBNe, Int.reduceBEq, Try.underlying3, ge_iff_le, this, decide_false]
    exact hk
set_option maxRecDepth 10000 in
theorem Scan_spec (st : St) (r : Hp) (v : Value) (ps : List (Value × List Nat)) (hP : Ps r v ps) (hS : Sl Try.prog r v 1) (hE : ∀ p ∈ ps, Sl Try.prog r p.1 1) (hl : ps.length ≤ 1500) (hO : Own st r) (k q : Value → St → Prop)
    (hk : ∀ outv H st', Recs H outv (scanM (ps.map (·.2))).2.2 → Own st' (H ++ r) → k (.tuple #[.int .i64 (scanM (ps.map (·.2))).1, .int .i64 (scanM (ps.map (·.2))).2.1, outv]) st') :
    ACall (C base w0 G) 16 [v] st k q := by
  obtain ⟨a, c, hvs⟩ : ∃ a c, v = .slice a ps.length c := by
    obtain ⟨a, c, h, _⟩ := hP.1.isSlice
    rw [List.length_map] at h
    exact ⟨a, c, h⟩
  have hany : ((ps.map (·.2)).any fun s => decide (s.length ≠ 64)) = (ps.any fun s => decide (s.2.length ≠ 64)) := by rw [List.any_map]; rfl
  refine ACall.of (cx := C base w0 G) mixed Try.func16 rfl (by kernel_rfl) (by simp [Try.ntmps16]) ?_
  simp only [Try.results16]
  rw [scanM, List.length_map, hany] at hk
  by_cases h4 : ps.length < 4
  · rw [if_pos (.inl h4)] at hk
    simp (config := { implicitDefEqProofs := false }) only [↓GP, GQ, ↓awp_seq, ↓awp_block, C_ex, Nat.reduceBEq, acap, afieldAddr, aload, astore, abin, anum, astr, aun, isAggD, cond_true, cond_false, ↓reduceIte, C_P, C_G, isTuple, Value.cells, setL, ares, aresL, ares1, reduceCtorEq, Nat.reduceEqDiff, eq_self, Nat.reduceAdd, if_true, if_false, one, Nat.reduceLeDiff, undef, gsl, aextract, aindexAddr, amake, implies_true, forall_const, alen, abuiltin, anil, isC, Int.reduceEq, Int.reduceLT, Int.reduceLE, Int.reduceAdd, Int.reduceToNat, Int.reduceNeg, Nat.reduceMul, Nat.reduceSub, abuild, afill, Int.reduceBNe, Int.reduceBEq, hvs, Try.underlying22, Try.underlying3, show (ps.length : Int) < 4 by omega, decide_true]
    exact hk _ [] st Recs.nil hO
  simp (config := { implicitDefEqProofs := false }) only [↓GP, GQ, ↓awp_seq, ↓awp_block, C_ex, Nat.reduceBEq, acap, afieldAddr, aload, astore, abin, anum, astr, aun, isAggD, cond_true, cond_false, ↓reduceIte, C_P, C_G, isTuple, Value.cells, setL, ares, aresL, ares1, reduceCtorEq, Nat.reduceEqDiff, eq_self, Nat.reduceAdd, if_true, if_false, one, Nat.reduceLeDiff, undef, gsl, aextract, aindexAddr, amake, implies_true, forall_const, alen, abuiltin, anil, isC, Int.reduceEq, Int.reduceLT, Int.reduceLE, Int.reduceAdd, Int.reduceToNat, Int.reduceNeg, Nat.reduceMul, Nat.reduceSub, abuild, afill, Int.reduceBNe, Int.reduceBEq, hvs, Try.underlying22, Try.underlying3, show ¬ (ps.length : Int) < 4 by omega, decide_false]
  rw [← hvs]
  refine ACallF.enter Try.func40 rfl (by kernel_rfl) (contains_spec st r v ps hP (by omega) hO _ _ ?_)
  cases hc : (ps.any fun s => decide (s.2.length ≠ 64)) with
  | true =>
    rw [hc, if_pos (.inr rfl)] at hk
    simp (config := { implicitDefEqProofs := false }) only [↓GP, GQ, ↓awp_seq, ↓awp_block, C_ex, Nat.reduceBEq, acap, afieldAddr, aload, astore, abin, anum, astr, aun, isAggD, cond_true, cond_false, ↓reduceIte, C_P, C_G, isTuple, Value.cells, setL, ares, aresL, ares1, reduceCtorEq, Nat.reduceEqDiff, eq_self, Nat.reduceAdd, if_true, if_false, one, Nat.reduceLeDiff, undef, gsl, aextract, aindexAddr, amake, implies_true, forall_const, alen, abuiltin, anil, isC, Int.reduceEq, Int.reduceLT, Int.reduceLE, Int.reduceAdd, Int.reduceToNat, Int.reduceNeg, Nat.reduceMul, Nat.reduceSub, abuild, afill, Int.reduceBNe, Int.reduceBEq, hvs, Try.underlying22, Try.underlying3]
    exact hk _ [] st Recs.nil hO
  | false =>
  rw [hc, if_neg (by simpa using h4)] at hk
  have h64 : ∀ p ∈ ps, Sl Try.prog r p.1 1 ∧ p.2.length = 64 := fun p hp => ⟨hE p hp, by
    have := List.any_eq_false.1 hc p hp
    simpa using this⟩
  have wq : IntKind.i64.wrap ((ps.length : Int).tdiv 2) = ((ps.length / 2 : Nat) : Int) := by rw [Int.tdiv_eq_ediv_of_nonneg (by omega), w_i64 (by omega)]; omega
  generalize hn : ps.length / 2 = n at *
  obtain ⟨v1, hv1, hP1, hS1⟩ := hP.part (t := 22) (lo := none) (hi := some (.int .i64 n)) (l := 0) (r := n) hS hO Try.underlying22 asz23 (fun c hc => abounds_hi (by omega)) (by omega) (by omega)
  rw [List.drop_zero, Nat.sub_zero] at hP1
  simp (config := { implicitDefEqProofs := false }) only [↓GP, GQ, ↓awp_seq, ↓awp_block, C_ex, Nat.reduceBEq, acap, afieldAddr, aload, astore, abin, anum, astr, aun, isAggD, cond_true, cond_false, ↓reduceIte, C_P, C_G, isTuple, Value.cells, setL, ares, aresL, ares1, reduceCtorEq, Nat.reduceEqDiff, eq_self, Nat.reduceAdd, if_true, if_false, one, Nat.reduceLeDiff, undef, gsl, aextract, aindexAddr, amake, implies_true, forall_const, alen, abuiltin, anil, isC, Int.reduceEq, Int.reduceLT, Int.reduceLE, Int.reduceAdd, Int.reduceToNat, Int.reduceNeg, Nat.reduceMul, Nat.reduceSub, abuild, afill, Int.reduceBNe, Int.reduceBEq, hvs, Try.underlying22, Try.underlying3, wq]
  rw [← hvs, hv1]
  simp (config := { implicitDefEqProofs := false }) only [↓GP, GQ, ↓awp_seq, ↓awp_block, C_ex, Nat.reduceBEq, acap, afieldAddr, aload, astore, abin, anum, astr, aun, isAggD, cond_true, cond_false, ↓reduceIte, C_P, C_G, isTuple, Value.cells, setL, ares, aresL, ares1, reduceCtorEq, Nat.reduceEqDiff, eq_self, Nat.reduceAdd, if_true, if_false, one, Nat.reduceLeDiff, undef, gsl, aextract, aindexAddr, amake, implies_true, forall_const, alen, abuiltin, anil, isC, Int.reduceEq, Int.reduceLT, Int.reduceLE, Int.reduceAdd, Int.reduceToNat, Int.reduceNeg, Nat.reduceMul, Nat.reduceSub, abuild, afill, Int.reduceBNe, Int.reduceBEq]
  refine ACallF.enter Try.func36 rfl (by kernel_rfl) (half_spec st r v1 (ps.take n) ⟨hP1, hS1, fun p hp => h64 p (List.mem_of_mem_take hp)⟩ (by rw [List.length_take]; omega) hO _ _ fun ov1 H1 s1 hR1 hO1 => ?_)
  rw [List.map_take] at hR1 ⊢
  have hsub1 : ∀ e ∈ r, e ∈ H1 ++ r := fun e he => List.mem_append_right _ he
  obtain ⟨v2, hv2, hP2, hS2⟩ := (hP.sub hsub1).part (t := 22) (lo := some (.int .i64 n)) (hi := some (.int .i64 (n * 2 : Nat))) (l := n) (r := n * 2) (hS.sub hsub1) hO1 Try.underlying22 asz23 (fun c hc => abounds_lohi (by omega) (by omega)) (by omega) (by omega)
  have e2 : n * 2 - n = n := by omega
  rw [e2] at hP2
  have w2 : IntKind.i64.wrap (2 * (n : Int)) = ((n * 2 : Nat) : Int) := by rw [w_i64 (by omega)]; omega
  simp (config := { implicitDefEqProofs := false }) only [↓GP, GQ, ↓awp_seq, ↓awp_block, C_ex, Nat.reduceBEq, acap, afieldAddr, aload, astore, abin, anum, astr, aun, isAggD, cond_true, cond_false, ↓reduceIte, C_P, C_G, isTuple, Value.cells, setL, ares, aresL, ares1, reduceCtorEq, Nat.reduceEqDiff, eq_self, Nat.reduceAdd, if_true, if_false, one, Nat.reduceLeDiff, undef, gsl, aextract, aindexAddr, amake, implies_true, forall_const, alen, abuiltin, anil, isC, Int.reduceEq, Int.reduceLT, Int.reduceLE, Int.reduceAdd, Int.reduceToNat, Int.reduceNeg, Nat.reduceMul, Nat.reduceSub, abuild, afill, Int.reduceBNe, Int.reduceBEq, Try.underlying22, Try.underlying3, w2, hv2]
  refine ACallF.enter Try.func36 rfl (by kernel_rfl) (half_spec s1 (H1 ++ r) v2 ((ps.drop n).take n) ⟨hP2, hS2, fun p hp => ⟨(h64 p (List.mem_of_mem_drop (List.mem_of_mem_take hp))).1.sub hsub1, (h64 p (List.mem_of_mem_drop (List.mem_of_mem_take hp))).2⟩⟩ (by rw [List.length_take]; omega) hO1 _ _ fun ov2 H2 s2 hR2 hO2 => ?_)
  rw [List.map_take, List.map_drop] at hR2 ⊢
  generalize halfM ((ps.map (·.2)).take n) = A at *
  generalize halfM (((ps.map (·.2)).drop n).take n) = D at *
  have hO2' : Own s2 ((H2 ++ H1) ++ r) := by rw [List.append_assoc]; exact hO2
  by_cases hA : A.1 = 0
  · by_cases hD : D.1 = 0
    · rw [if_pos ⟨hA, hD⟩] at hk
      simp (config := { implicitDefEqProofs := false }) only [↓GP, GQ, ↓awp_seq, ↓awp_block, C_ex, Nat.reduceBEq, acap, afieldAddr, aload, astore, abin, anum, astr, aun, isAggD, cond_true, cond_false, ↓reduceIte, C_P, C_G, isTuple, Value.cells, setL, ares, aresL, ares1, reduceCtorEq, Nat.reduceEqDiff, eq_self, Nat.reduceAdd, if_true, if_false, one, Nat.reduceLeDiff, undef, gsl, aextract, aindexAddr, amake, implies_true, forall_const, alen, abuiltin, anil, isC, Int.reduceEq, Int.reduceLT, Int.reduceLE, Int.reduceAdd, Int.reduceToNat, Int.reduceNeg, Nat.reduceMul, Nat.reduceSub, abuild, afill, Int.reduceBNe, Int.reduceBEq, Try.underlying22, Try.underlying3, beqT (show (A.1 : Int) = 0 by omega), beqT (show (D.1 : Int) = 0 by omega)]
      exact hk _ (H2 ++ H1) s2 Recs.nil hO2'
    · rw [if_neg (fun h => hD h.2), if_neg (by omega)] at hk
      simp (config := { implicitDefEqProofs := false }) only [↓GP, GQ, ↓awp_seq, ↓awp_block, C_ex, Nat.reduceBEq, acap, afieldAddr, aload, astore, abin, anum, astr, aun, isAggD, cond_true, cond_false, ↓reduceIte, C_P, C_G, isTuple, Value.cells, setL, ares, aresL, ares1, reduceCtorEq, Nat.reduceEqDiff, eq_self, Nat.reduceAdd, if_true, if_false, one, Nat.reduceLeDiff, undef, gsl, aextract, aindexAddr, amake, implies_true, forall_const, alen, abuiltin, anil, isC, Int.reduceEq, Int.reduceLT, Int.reduceLE, Int.reduceAdd, Int.reduceToNat, Int.reduceNeg, Nat.reduceMul, Nat.reduceSub, abuild, afill, Int.reduceBNe, Int.reduceBEq, Try.underlying22, Try.underlying3, beqT (show (A.1 : Int) = 0 by omega), beqF (show ¬ (D.1 : Int) = 0 by omega), show ¬ (A.1 : Int) ≥ (D.1 : Int) by omega, decide_false]
      exact hk _ (H2 ++ H1) s2 (hR2.sub fun e he => List.mem_append_left _ he) hO2'
  · by_cases hAD : A.1 ≥ D.1
    · rw [if_neg (fun h => hA h.1), if_pos hAD] at hk
      simp (config := { implicitDefEqProofs := false }) only [↓GP, GQ, ↓awp_seq, ↓awp_block, C_ex, Nat.reduceBEq, acap, afieldAddr, aload, astore, abin, anum, astr, aun, isAggD, cond_true, cond_false, ↓reduceIte, C_P, C_G, isTuple, Value.cells, setL, ares, aresL, ares1, reduceCtorEq, Nat.reduceEqDiff, eq_self, Nat.reduceAdd, if_true, if_false, one, Nat.reduceLeDiff, undef, gsl, aextract, aindexAddr, amake, implies_true, forall_const, alen, abuiltin, anil, isC, Int.reduceEq, Int.reduceLT, Int.reduceLE, Int.reduceAdd, Int.reduceToNat, Int.reduceNeg, Nat.reduceMul, Nat.reduceSub, abuild, afill, Int.reduceBNe, Int.reduceBEq, Try.underlying22, Try.underlying3, beqF (show ¬ (A.1 : Int) = 0 by omega), show (A.1 : Int) ≥ (D.1 : Int) by omega, decide_true]
      exact hk _ (H2 ++ H1) s2 (hR1.sub fun e he => List.mem_append_right _ he) hO2'
    · rw [if_neg (fun h => hA h.1), if_neg hAD] at hk
      simp (config := { implicitDefEqProofs := false }) only [↓GP, GQ, ↓awp_seq, ↓awp_block, C_ex, Nat.reduceBEq, acap, afieldAddr, aload, astore, abin, anum, astr, aun, isAggD, cond_true, cond_false, ↓reduceIte, C_P, C_G, isTuple, Value.cells, setL, ares, aresL, ares1, reduceCtorEq, Nat.reduceEqDiff, eq_self, Nat.reduceAdd, if_true, if_false, one, Nat.reduceLeDiff, undef, gsl, aextract, aindexAddr, amake, implies_true, forall_const, alen, abuiltin, anil, isC, Int.reduceEq, Int.reduceLT, Int.reduceLE, Int.reduceAdd, Int.reduceToNat, Int.reduceNeg, Nat.reduceMul, Nat.reduceSub, abuild, afill, Int.reduceBNe, Int.reduceBEq, Try.underlying22, Try.underlying3, beqF (show ¬ (A.1 : Int) = 0 by omega), show ¬ (A.1 : Int) ≥ (D.1 : Int) by omega, decide_false]
      exact hk _ (H2 ++ H1) s2 (hR2.sub fun e he => List.mem_append_left _ he) hO2'
end Go.Proofs.Ytiooigkcliomlaa
