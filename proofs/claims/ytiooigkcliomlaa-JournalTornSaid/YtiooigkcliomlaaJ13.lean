/- A record is read. No conditions. -/
import Derived.Test.YtiooigkcliomlaaJ12
set_option linter.unusedVariables false
set_option linter.unusedSimpArgs false
namespace Go.Proofs.Ytiooigkcliomlaa
open Go Go.Abs Go.RowKit
variable {base : Nat} {w0 : World} {G : Nat}

theorem beqF {a b : Int} (h : ¬ a = b) : (a == b) = false := by simpa using h
theorem beqT {a b : Int} (h : a = b) : (a == b) = true := by simpa using h
theorem bneT {a b : Int} (h : ¬ a = b) : (a != b) = true := by simpa using h
theorem bneF {a b : Int} (h : a = b) : (a != b) = false := by simpa using h
/-- Sectors: slices of 64 bytes each, that may be cut. -/
def Secs (r : Hp) (v : Value) (ps : List (Value × List Nat)) : Prop := Ps r v ps ∧ Sl Try.prog r v 1 ∧ ∀ p ∈ ps, Sl Try.prog r p.1 1 ∧ p.2.length = 64
def heads (l : List (List Nat)) : List Nat := l.headD []
/-- The record at the beginning of sectors. -/
def readM (l : List (List Nat)) (gen num : Nat) : Option (List Nat × Nat) :=
  match l with
  | [] => none
  | l0 :: rest =>
    if word4 l0 1 = 0 ∨ (gen ≠ 0 ∧ word4 l0 1 ≠ gen) ∨ word4 l0 9 > (rest.length + 1) * 64 ∨ 1 + needN (word4 l0 9) > rest.length + 1 then none
    else if headL (word4 l0 1) num ((rest.take (needN (word4 l0 9))).flatten.take (word4 l0 9)) = l0 then some ((rest.take (needN (word4 l0 9))).flatten.take (word4 l0 9), word4 l0 1) else none
theorem _root_.Go.Abs.Nb.word {r : Hp} {v : Value} {m : List Nat} (hv : Nb r v m) (hlen : m.length = 64) {st : St} (hO : Own st r) (hs : Sl Try.prog r v 1) {o : Nat} (ho : o ≤ 16) :
    ∃ B oo sp n c cs ty own, aslice Try.prog st 23 v (some (.int .i64 o)) none none = some (.slice (some ⟨B, oo, sp⟩) n c) ∧ (B, Ob.cells cs ty own) ∈ r ∧ (∀ i, i < 4 → cs[oo + i]? = some (.int .u8 (m.getD (o + i) 0 : Nat))) ∧ 4 ≤ n := by
  obtain ⟨v', h1, h2, h3⟩ := hv.part (lo := some (.int .i64 o)) (hi := none) (l := o) (r := 64) hs hO Try.underlying23 asz5 (fun c hc => by rw [hlen] at hc ⊢; exact abounds_lo (by omega) hc) (by omega) (by omega)
  have hne : ((m.drop o).take (64 - o)) ≠ [] := fun e => by
    have := congrArg List.length e
    simp [hlen] at this
    omega
  obtain ⟨B, oo, sp, c, cs, ty, own, rfl, hm, hg⟩ := h2.at hne
  have hl2 : ((m.drop o).take (64 - o)).length = 64 - o := by simp [hlen]
  refine ⟨B, oo, sp, _, c, cs, ty, own, h1, hm, fun i hi => ?_, by omega⟩
  rw [hg i (by omega)]
  simp [List.getD_eq_getElem?_getD, List.getElem?_take, show i < 64 - o by omega]
set_option maxRecDepth 10000 in
theorem read_spec (st : St) (r : Hp) (v : Value) (ps : List (Value × List Nat)) (gen num : Nat) (hv : Secs r v ps) (hl : ps.length ≤ 1500) (hg : gen < 4294967296) (hnum : num < 4294967296) (hO : Own st r) (k q : Value → St → Prop)
    (h0 : readM (ps.map (·.2)) gen num = none → ∀ bv (g : Int) st', Own st' r → k (.tuple #[bv, .int .i64 g, .bool false]) st')
    (hk : ∀ b g bv h st', readM (ps.map (·.2)) gen num = some (b, g) → Nb h bv b → Own st' (h ++ r) → k (.tuple #[bv, .int .i64 g, .bool true]) st') :
    ACall (C base w0 G) 51 [v, .int .i64 gen, .int .i64 num] st k q := by
  obtain ⟨hP, hS, hE⟩ := hv
  obtain ⟨a, c, hvs⟩ : ∃ a c, v = .slice a ps.length c := by
    obtain ⟨a, c, h, _⟩ := hP.1.isSlice
    rw [List.length_map] at h
    exact ⟨a, c, h⟩
  refine ACall.of (cx := C base w0 G) mixed Try.func51 rfl (by kernel_rfl) (by simp [Try.ntmps51]) ?_
  simp only [Try.results51]
  cases ps with
  | nil =>
    simp (config := { implicitDefEqProofs := false }) only [↓GP, GQ, ↓awp_seq, ↓awp_block, C_ex, Nat.reduceBEq, acap, afieldAddr, aload, astore, abin, anum, astr, aun, isAggD, cond_true, cond_false, ↓reduceIte, C_P, C_G, isTuple, Value.cells, setL, ares, aresL, ares1, reduceCtorEq, Nat.reduceEqDiff, eq_self, Nat.reduceAdd, if_true, if_false, one, Nat.reduceLeDiff, undef, gsl, aextract, aindexAddr, amake, implies_true, forall_const, alen, abuiltin, anil, isC, Int.reduceEq, Int.reduceLT, Int.reduceLE, Int.reduceAdd, Int.reduceToNat, Int.reduceNeg, Nat.reduceMul, Nat.reduceSub, abuild, afill, Int.reduceBNe, Int.reduceBEq, hvs, Try.underlying22, Try.underlying3]
    exact h0 rfl _ _ _ hO
  | cons p ps' =>
  obtain ⟨B, o, sp, c', cs, ty, own, hvx, hmem, hget⟩ := hP.at hO (by simp)
  have hB := hO.get hmem
  have g0 := hget 0 p rfl
  rw [Nat.add_zero] at g0
  obtain ⟨hSp, hlp⟩ := hE p (by simp)
  have hNp := hP.2 p (by simp)
  obtain ⟨ap, cp, hps⟩ := hNp.isSlice
  obtain ⟨B1, o1, sp1, n1, c1, cs1, ty1, own1, hw1, hm1, hg1, hn1⟩ := hNp.word hlp hO hSp (o := 1) (by decide)
  obtain ⟨B9, o9, sp9, n9, c9, cs9, ty9, own9, hw9, hm9, hg9, hn9⟩ := hNp.word hlp hO hSp (o := 9) (by decide)
  have hw1 : aslice Try.prog st 23 p.1 (some (.int .i64 1)) none none = _ := hw1
  have hw9 : aslice Try.prog st 23 p.1 (some (.int .i64 9)) none none = _ := hw9
  simp (config := { implicitDefEqProofs := false }) only [↓GP, GQ, ↓awp_seq, ↓awp_block, C_ex, Nat.reduceBEq, acap, afieldAddr, aload, astore, abin, anum, astr, aun, isAggD, cond_true, cond_false, ↓reduceIte, C_P, C_G, isTuple, Value.cells, setL, ares, aresL, ares1, reduceCtorEq, Nat.reduceEqDiff, eq_self, Nat.reduceAdd, if_true, if_false, one, Nat.reduceLeDiff, undef, gsl, aextract, aindexAddr, amake, implies_true, forall_const, alen, abuiltin, anil, isC, Int.reduceEq, Int.reduceLT, Int.reduceLE, Int.reduceAdd, Int.reduceToNat, Int.reduceNeg, Nat.reduceMul, Nat.reduceSub, abuild, afill, Int.reduceBNe, Int.reduceBEq, hvs, Try.underlying22, Try.underlying3]
  refine ⟨fun h => absurd h (by omega), fun _ => ?_⟩
  refine ADraw.of [(0, false, []), (1, false, []), (2, false, []), (3, false, []), (5, false, []), (6, false, []), (7, true, []), (8, true, []), (4, false, [7, 8]), (9, false, []), (10, false, []), (11, false, [])] [7, 8] [(7, 4), (8, 4)] (by kernel_rfl) ?_
  rw [← List.length_cons (a := p), ← hvs, hvx]
  simp (config := { implicitDefEqProofs := false }) only [↓GP, GQ, ↓awp_seq, ↓awp_block, C_ex, Nat.reduceBEq, acap, afieldAddr, aload, astore, abin, anum, astr, aun, isAggD, cond_true, cond_false, ↓reduceIte, C_P, C_G, isTuple, Value.cells, setL, ares, aresL, ares1, reduceCtorEq, Nat.reduceEqDiff, eq_self, Nat.reduceAdd, if_true, if_false, one, Nat.reduceLeDiff, undef, gsl, aextract, aindexAddr, amake, implies_true, forall_const, alen, abuiltin, anil, isC, Int.reduceEq, Int.reduceLT, Int.reduceLE, Int.reduceAdd, Int.reduceToNat, Int.reduceNeg, Nat.reduceMul, Nat.reduceSub, abuild, afill, Int.reduceBNe, Int.reduceBEq, Try.underlying22, Try.underlying23, Try.underlying3, asz23, hB, g0, hw1, hw9]
  refine ⟨by omega, by omega, ACallF.enter Try.func56 rfl (by kernel_rfl) (word_spec st r p.2 B1 o1 1 n1 c1 sp1 cs1 ty1 own1 hNp.2 hm1 hg1 hn1 hO _ _ ?_)⟩
  simp (config := { implicitDefEqProofs := false }) only [↓GP, GQ, ↓awp_seq, ↓awp_block, C_ex, Nat.reduceBEq, acap, afieldAddr, aload, astore, abin, anum, astr, aun, isAggD, cond_true, cond_false, ↓reduceIte, C_P, C_G, isTuple, Value.cells, setL, ares, aresL, ares1, reduceCtorEq, Nat.reduceEqDiff, eq_self, Nat.reduceAdd, if_true, if_false, one, Nat.reduceLeDiff, undef, gsl, aextract, aindexAddr, amake, implies_true, forall_const, alen, abuiltin, anil, isC, Int.reduceEq, Int.reduceLT, Int.reduceLE, Int.reduceAdd, Int.reduceToNat, Int.reduceNeg, Nat.reduceMul, Nat.reduceSub, abuild, afill, Int.reduceBNe, Int.reduceBEq, Try.underlying22, Try.underlying23, Try.underlying3, asz23, hB, g0, hw9]
  refine ACallF.enter Try.func56 rfl (by kernel_rfl) (word_spec st r p.2 B9 o9 9 n9 c9 sp9 cs9 ty9 own9 hNp.2 hm9 hg9 hn9 hO _ _ ?_)
  have hgl := word4_lt hNp.2 1
  have hnl := word4_lt hNp.2 9
  have hm : (p :: ps').map (·.2) = p.2 :: ps'.map (·.2) := rfl
  rw [hm] at h0 hk
  simp only [readM, List.length_map] at h0 hk
  generalize hG1 : word4 p.2 1 = g at *
  generalize hN1 : word4 p.2 9 = n at *
  have hL : ps'.length + 1 ≤ 1500 := hl
  have wL : IntKind.i64.wrap (((ps'.length + 1 : Nat) : Int) * 64) = (((ps'.length + 1) * 64 : Nat) : Int) := by rw [w_i64 (by omega)]; omega
  by_cases c1 : g = 0
  · have h0 := h0 (by rw [if_pos (.inl c1)])
    simp (config := { implicitDefEqProofs := false }) only [↓GP, GQ, ↓awp_seq, ↓awp_block, C_ex, Nat.reduceBEq, acap, afieldAddr, aload, astore, abin, anum, astr, aun, isAggD, cond_true, cond_false, ↓reduceIte, C_P, C_G, isTuple, Value.cells, setL, ares, aresL, ares1, reduceCtorEq, Nat.reduceEqDiff, eq_self, Nat.reduceAdd, if_true, if_false, one, Nat.reduceLeDiff, undef, gsl, aextract, aindexAddr, amake, implies_true, forall_const, alen, abuiltin, anil, isC, Int.reduceEq, Int.reduceLT, Int.reduceLE, Int.reduceAdd, Int.reduceToNat, Int.reduceNeg, Nat.reduceMul, Nat.reduceSub, abuild, afill, Int.reduceBNe, Int.reduceBEq, Try.underlying22, Try.underlying23, Try.underlying3, beqT (show (g : Int) = 0 by omega)]
    exact h0 _ _ _ hO
  by_cases c2 : gen ≠ 0 ∧ g ≠ gen
  · have h0 := h0 (by rw [if_pos (.inr (.inl c2))])
    simp (config := { implicitDefEqProofs := false }) only [↓GP, GQ, ↓awp_seq, ↓awp_block, C_ex, Nat.reduceBEq, acap, afieldAddr, aload, astore, abin, anum, astr, aun, isAggD, cond_true, cond_false, ↓reduceIte, C_P, C_G, isTuple, Value.cells, setL, ares, aresL, ares1, reduceCtorEq, Nat.reduceEqDiff, eq_self, Nat.reduceAdd, if_true, if_false, one, Nat.reduceLeDiff, undef, gsl, aextract, aindexAddr, amake, implies_true, forall_const, alen, abuiltin, anil, isC, Int.reduceEq, Int.reduceLT, Int.reduceLE, Int.reduceAdd, Int.reduceToNat, Int.reduceNeg, Nat.reduceMul, Nat.reduceSub, abuild, afill, Int.reduceBNe, Int.reduceBEq, Try.underlying22, Try.underlying23, Try.underlying3, beqF (show ¬ (g : Int) = 0 by omega), bneT (show ¬ (gen : Int) = 0 by omega), bneT (show ¬ (g : Int) = gen by omega)]
    exact h0 _ _ _ hO
  have hgen : gen = 0 ∨ (gen ≠ 0 ∧ g = gen) := by omega
  by_cases c3 : n > (ps'.length + 1) * 64
  · have h0 := h0 (by rw [if_pos (.inr (.inr (.inl c3)))])
    rcases hgen with hz | ⟨hz, hz2⟩
    · simp (config := { implicitDefEqProofs := false }) only [↓GP, GQ, ↓awp_seq, ↓awp_block, C_ex, Nat.reduceBEq, acap, afieldAddr, aload, astore, abin, anum, astr, aun, isAggD, cond_true, cond_false, ↓reduceIte, C_P, C_G, isTuple, Value.cells, setL, ares, aresL, ares1, reduceCtorEq, Nat.reduceEqDiff, eq_self, Nat.reduceAdd, if_true, if_false, one, Nat.reduceLeDiff, undef, gsl, aextract, aindexAddr, amake, implies_true, forall_const, alen, abuiltin, anil, isC, Int.reduceEq, Int.reduceLT, Int.reduceLE, Int.reduceAdd, Int.reduceToNat, Int.reduceNeg, Nat.reduceMul, Nat.reduceSub, abuild, afill, Int.reduceBNe, Int.reduceBEq, Try.underlying22, Try.underlying23, Try.underlying3, beqF (show ¬ (g : Int) = 0 by omega), bneF (show (gen : Int) = 0 by omega), wL, show (n : Int) > (((ps'.length + 1) * 64 : Nat) : Int) by omega, decide_true]
      exact h0 _ _ _ hO
    · simp (config := { implicitDefEqProofs := false }) only [↓GP, GQ, ↓awp_seq, ↓awp_block, C_ex, Nat.reduceBEq, acap, afieldAddr, aload, astore, abin, anum, astr, aun, isAggD, cond_true, cond_false, ↓reduceIte, C_P, C_G, isTuple, Value.cells, setL, ares, aresL, ares1, reduceCtorEq, Nat.reduceEqDiff, eq_self, Nat.reduceAdd, if_true, if_false, one, Nat.reduceLeDiff, undef, gsl, aextract, aindexAddr, amake, implies_true, forall_const, alen, abuiltin, anil, isC, Int.reduceEq, Int.reduceLT, Int.reduceLE, Int.reduceAdd, Int.reduceToNat, Int.reduceNeg, Nat.reduceMul, Nat.reduceSub, abuild, afill, Int.reduceBNe, Int.reduceBEq, Try.underlying22, Try.underlying23, Try.underlying3, beqF (show ¬ (g : Int) = 0 by omega), bneT (show ¬ (gen : Int) = 0 by omega), bneF (show (g : Int) = gen by omega), wL, show (n : Int) > (((ps'.length + 1) * 64 : Nat) : Int) by omega, decide_true]
      exact h0 _ _ _ hO
  have hnb : n ≤ 1000000 := by omega
  have wn : IntKind.i64.wrap (1 + ((needN n : Nat) : Int)) = ((1 + needN n : Nat) : Int) := by rw [w_i64 (by unfold needN; omega)]; omega
  by_cases c4 : 1 + needN n > ps'.length + 1
  · have h0 := h0 (by rw [if_pos (.inr (.inr (.inr c4)))])
    rcases hgen with hz | ⟨hz, hz2⟩
    · simp (config := { implicitDefEqProofs := false }) only [↓GP, GQ, ↓awp_seq, ↓awp_block, C_ex, Nat.reduceBEq, acap, afieldAddr, aload, astore, abin, anum, astr, aun, isAggD, cond_true, cond_false, ↓reduceIte, C_P, C_G, isTuple, Value.cells, setL, ares, aresL, ares1, reduceCtorEq, Nat.reduceEqDiff, eq_self, Nat.reduceAdd, if_true, if_false, one, Nat.reduceLeDiff, undef, gsl, aextract, aindexAddr, amake, implies_true, forall_const, alen, abuiltin, anil, isC, Int.reduceEq, Int.reduceLT, Int.reduceLE, Int.reduceAdd, Int.reduceToNat, Int.reduceNeg, Nat.reduceMul, Nat.reduceSub, abuild, afill, Int.reduceBNe, Int.reduceBEq, Try.underlying22, Try.underlying23, Try.underlying3, beqF (show ¬ (g : Int) = 0 by omega), bneF (show (gen : Int) = 0 by omega), wL, show ¬ (n : Int) > (((ps'.length + 1) * 64 : Nat) : Int) by omega, decide_false]
      refine ACallF.enter Try.func38 rfl (by kernel_rfl) (need_spec st n hnb _ _ ?_)
      simp (config := { implicitDefEqProofs := false }) only [↓GP, GQ, ↓awp_seq, ↓awp_block, C_ex, Nat.reduceBEq, acap, afieldAddr, aload, astore, abin, anum, astr, aun, isAggD, cond_true, cond_false, ↓reduceIte, C_P, C_G, isTuple, Value.cells, setL, ares, aresL, ares1, reduceCtorEq, Nat.reduceEqDiff, eq_self, Nat.reduceAdd, if_true, if_false, one, Nat.reduceLeDiff, undef, gsl, aextract, aindexAddr, amake, implies_true, forall_const, alen, abuiltin, anil, isC, Int.reduceEq, Int.reduceLT, Int.reduceLE, Int.reduceAdd, Int.reduceToNat, Int.reduceNeg, Nat.reduceMul, Nat.reduceSub, abuild, afill, Int.reduceBNe, Int.reduceBEq, Try.underlying22, Try.underlying23, Try.underlying3, wn, show ((1 + needN n : Nat) : Int) > ((ps'.length + 1 : Nat) : Int) by omega, decide_true]
      exact h0 _ _ _ hO
    · simp (config := { implicitDefEqProofs := false }) only [↓GP, GQ, ↓awp_seq, ↓awp_block, C_ex, Nat.reduceBEq, acap, afieldAddr, aload, astore, abin, anum, astr, aun, isAggD, cond_true, cond_false, ↓reduceIte, C_P, C_G, isTuple, Value.cells, setL, ares, aresL, ares1, reduceCtorEq, Nat.reduceEqDiff, eq_self, Nat.reduceAdd, if_true, if_false, one, Nat.reduceLeDiff, undef, gsl, aextract, aindexAddr, amake, implies_true, forall_const, alen, abuiltin, anil, isC, Int.reduceEq, Int.reduceLT, Int.reduceLE, Int.reduceAdd, Int.reduceToNat, Int.reduceNeg, Nat.reduceMul, Nat.reduceSub, abuild, afill, Int.reduceBNe, Int.reduceBEq, Try.underlying22, Try.underlying23, Try.underlying3, beqF (show ¬ (g : Int) = 0 by omega), bneT (show ¬ (gen : Int) = 0 by omega), bneF (show (g : Int) = gen by omega), wL, show ¬ (n : Int) > (((ps'.length + 1) * 64 : Nat) : Int) by omega, decide_false]
      refine ACallF.enter Try.func38 rfl (by kernel_rfl) (need_spec st n hnb _ _ ?_)
      simp (config := { implicitDefEqProofs := false }) only [↓GP, GQ, ↓awp_seq, ↓awp_block, C_ex, Nat.reduceBEq, acap, afieldAddr, aload, astore, abin, anum, astr, aun, isAggD, cond_true, cond_false, ↓reduceIte, C_P, C_G, isTuple, Value.cells, setL, ares, aresL, ares1, reduceCtorEq, Nat.reduceEqDiff, eq_self, Nat.reduceAdd, if_true, if_false, one, Nat.reduceLeDiff, undef, gsl, aextract, aindexAddr, amake, implies_true, forall_const, alen, abuiltin, anil, isC, Int.reduceEq, Int.reduceLT, Int.reduceLE, Int.reduceAdd, Int.reduceToNat, Int.reduceNeg, Nat.reduceMul, Nat.reduceSub, abuild, afill, Int.reduceBNe, Int.reduceBEq, Try.underlying22, Try.underlying23, Try.underlying3, wn, show ((1 + needN n : Nat) : Int) > ((ps'.length + 1 : Nat) : Int) by omega, decide_true]
      exact h0 _ _ _ hO
  rw [if_neg (by simp only [not_or]; exact ⟨c1, c2, c3, c4⟩)] at h0
  simp only [if_neg (show ¬ (g = 0 ∨ gen ≠ 0 ∧ g ≠ gen ∨ n > (ps'.length + 1) * 64 ∨ 1 + needN n > ps'.length + 1) by simp only [not_or]; exact ⟨c1, c2, c3, c4⟩)] at hk
  obtain ⟨v2, hv2, hP2, hS2⟩ := hP.part (t := 22) (lo := some (.int .i64 (1 : Nat))) (hi := some (.int .i64 (1 + needN n : Nat))) (l := 1) (r := 1 + needN n) hS hO Try.underlying22 asz23 (fun c hc => abounds_lohi (by omega) (by rw [List.length_cons] at hc; omega)) (by omega) (by rw [List.length_cons]; omega)
  have hv2 : aslice Try.prog st 22 v (some (.int .i64 1)) (some (.int .i64 (1 + needN n : Nat))) none = some v2 := hv2
  rw [hvx, List.length_cons] at hv2
  have e2 : (((p :: ps').drop 1).take (1 + needN n - 1)) = ps'.take (needN n) := by
    rw [Nat.add_sub_cancel_left]; rfl
  rw [e2] at hP2
  have hfl : (flat (ps'.take (needN n))).length = needN n * 64 := by
    have key : ∀ l : List (Value × List Nat), (∀ p ∈ l, p.2.length = 64) → (flat l).length = l.length * 64 := by
      intro l
      induction l with
      | nil => intro _; rfl
      | cons a l ih => intro h; rw [flat_cons, List.length_append, ih fun p hp => h p (by simp [hp]), h a (by simp), List.length_cons]; omega
    rw [key _ fun p hp => (hE p (List.mem_cons_of_mem _ (List.mem_of_mem_take hp))).2, List.length_take, Nat.min_eq_left (by omega)]
  have hflm : flat (ps'.take (needN n)) = ((ps'.map (·.2)).take (needN n)).flatten := by unfold flat; rw [List.map_take]
  have hnn : n ≤ needN n * 64 := by unfold needN; omega
  rw [← hflm] at h0 hk
  have hfb : ∀ d ∈ flat (ps'.take (needN n)), d < 256 := by
    intro d hd
    obtain ⟨l, hl, hd⟩ := List.mem_flatten.1 hd
    obtain ⟨p, hp, rfl⟩ := List.mem_map.1 hl
    exact (hP2.2 p hp).2 d hd
  rcases hgen with hz | ⟨hz, hz2⟩
  · simp (config := { implicitDefEqProofs := false }) only [↓GP, GQ, ↓awp_seq, ↓awp_block, C_ex, Nat.reduceBEq, acap, afieldAddr, aload, astore, abin, anum, astr, aun, isAggD, cond_true, cond_false, ↓reduceIte, C_P, C_G, isTuple, Value.cells, setL, ares, aresL, ares1, reduceCtorEq, Nat.reduceEqDiff, eq_self, Nat.reduceAdd, if_true, if_false, one, Nat.reduceLeDiff, undef, gsl, aextract, aindexAddr, amake, implies_true, forall_const, alen, abuiltin, anil, isC, Int.reduceEq, Int.reduceLT, Int.reduceLE, Int.reduceAdd, Int.reduceToNat, Int.reduceNeg, Nat.reduceMul, Nat.reduceSub, abuild, afill, Int.reduceBNe, Int.reduceBEq, Try.underlying22, Try.underlying23, Try.underlying3, beqF (show ¬ (g : Int) = 0 by omega), bneF (show (gen : Int) = 0 by omega), wL, show ¬ (n : Int) > (((ps'.length + 1) * 64 : Nat) : Int) by omega, decide_false]
    refine ACallF.enter Try.func38 rfl (by kernel_rfl) (need_spec st n hnb _ _ ?_)
    simp (config := { implicitDefEqProofs := false }) only [↓GP, GQ, ↓awp_seq, ↓awp_block, C_ex, Nat.reduceBEq, acap, afieldAddr, aload, astore, abin, anum, astr, aun, isAggD, cond_true, cond_false, ↓reduceIte, C_P, C_G, isTuple, Value.cells, setL, ares, aresL, ares1, reduceCtorEq, Nat.reduceEqDiff, eq_self, Nat.reduceAdd, if_true, if_false, one, Nat.reduceLeDiff, undef, gsl, aextract, aindexAddr, amake, implies_true, forall_const, alen, abuiltin, anil, isC, Int.reduceEq, Int.reduceLT, Int.reduceLE, Int.reduceAdd, Int.reduceToNat, Int.reduceNeg, Nat.reduceMul, Nat.reduceSub, abuild, afill, Int.reduceBNe, Int.reduceBEq, Try.underlying22, Try.underlying23, Try.underlying3, wn, show ¬ ((1 + needN n : Nat) : Int) > ((ps'.length + 1 : Nat) : Int) by omega, decide_false]
    refine ACallF.enter Try.func38 rfl (by kernel_rfl) (need_spec st n hnb _ _ ?_)
    simp (config := { implicitDefEqProofs := false }) only [↓GP, GQ, ↓awp_seq, ↓awp_block, C_ex, Nat.reduceBEq, acap, afieldAddr, aload, astore, abin, anum, astr, aun, isAggD, cond_true, cond_false, ↓reduceIte, C_P, C_G, isTuple, Value.cells, setL, ares, aresL, ares1, reduceCtorEq, Nat.reduceEqDiff, eq_self, Nat.reduceAdd, if_true, if_false, one, Nat.reduceLeDiff, undef, gsl, aextract, aindexAddr, amake, implies_true, forall_const, alen, abuiltin, anil, isC, Int.reduceEq, Int.reduceLT, Int.reduceLE, Int.reduceAdd, Int.reduceToNat, Int.reduceNeg, Nat.reduceMul, Nat.reduceSub, abuild, afill, Int.reduceBNe, Int.reduceBEq, Try.underlying22, Try.underlying23, Try.underlying3, wn, hv2]
    refine ACallF.enter Try.func57 rfl (by kernel_rfl) (Concat_spec st r v2 _ hP2 (by rw [hfl]; omega) (by rw [List.length_take]; omega) hO _ _ fun vb hb sb hGb hOb => ?_)
    have hNb : Nb hb vb (flat (ps'.take (needN n))) := by
      have := hGb.nb (r := []) rfl hfb
      rwa [List.append_nil] at this
    have hSb : Sl Try.prog hb vb 1 := by
      rcases hGb with ⟨rfl, _⟩ | ⟨b, rfl, _⟩ | ⟨b, c, D, rfl, rfl, _, hc⟩
      · exact .inl rfl
      · exact .inr ⟨b, 0, none, 0, 0, rfl, Nat.le_refl _, .inl rfl⟩
      · exact .inr ⟨b, 0, some 0, _, c, rfl, hc, .inr ⟨rfl, D, 5, true, by simp, fun _ => asz5⟩⟩
    obtain ⟨v3, hv3, hN3, _⟩ := hNb.part (t := 23) (lo := none) (hi := some (.int .i64 n)) (l := 0) (r := n) hSb hOb.left Try.underlying23 asz5 (fun c hc => abounds_hi (by rw [hfl] at hc; omega)) (by omega) (by rw [hfl]; omega)
    rw [List.drop_zero, Nat.sub_zero] at hN3
    have hl3 : ((flat (ps'.take (needN n))).take n).length ≤ 1000000 := by rw [List.length_take]; omega
    have hBs := hOb.get (b := B) (o := .cells cs ty own) (List.mem_append_right _ hmem)
    simp (config := { implicitDefEqProofs := false }) only [↓GP, GQ, ↓awp_seq, ↓awp_block, C_ex, Nat.reduceBEq, acap, afieldAddr, aload, astore, abin, anum, astr, aun, isAggD, cond_true, cond_false, ↓reduceIte, C_P, C_G, isTuple, Value.cells, setL, ares, aresL, ares1, reduceCtorEq, Nat.reduceEqDiff, eq_self, Nat.reduceAdd, if_true, if_false, one, Nat.reduceLeDiff, undef, gsl, aextract, aindexAddr, amake, implies_true, forall_const, alen, abuiltin, anil, isC, Int.reduceEq, Int.reduceLT, Int.reduceLE, Int.reduceAdd, Int.reduceToNat, Int.reduceNeg, Nat.reduceMul, Nat.reduceSub, abuild, afill, Int.reduceBNe, Int.reduceBEq, Try.underlying22, Try.underlying23, Try.underlying3, hv3]
    refine ADraw.of [(0, false, []), (1, false, []), (2, false, []), (3, false, []), (4, false, []), (6, false, []), (7, false, []), (8, true, []), (5, false, [8]), (9, false, []), (10, false, []), (11, false, []), (12, false, [])] [8] [(8, 5)] (by kernel_rfl) ?_
    simp (config := { implicitDefEqProofs := false }) only [↓GP, GQ, ↓awp_seq, ↓awp_block, C_ex, Nat.reduceBEq, acap, afieldAddr, aload, astore, abin, anum, astr, aun, isAggD, cond_true, cond_false, ↓reduceIte, C_P, C_G, isTuple, Value.cells, setL, ares, aresL, ares1, reduceCtorEq, Nat.reduceEqDiff, eq_self, Nat.reduceAdd, if_true, if_false, one, Nat.reduceLeDiff, undef, gsl, aextract, aindexAddr, amake, implies_true, forall_const, alen, abuiltin, anil, isC, Int.reduceEq, Int.reduceLT, Int.reduceLE, Int.reduceAdd, Int.reduceToNat, Int.reduceNeg, Nat.reduceMul, Nat.reduceSub, abuild, afill, Int.reduceBNe, Int.reduceBEq, Try.underlying22, Try.underlying23, Try.underlying3, asz23, hBs, g0]
    refine ⟨by omega, ACallF.enter Try.func50 rfl (by kernel_rfl) (head_spec sb (hb ++ r) v3 _ g num (hN3.sub fun e he => List.mem_append_left _ he) hl3 hgl hnum hOb _ _ fun v4 h4 s4 hG4 hO4 => ?_)⟩
    have hB4 := hO4.get (b := B) (o := .cells cs ty own) (by simp [hmem])
    simp (config := { implicitDefEqProofs := false }) only [↓GP, GQ, ↓awp_seq, ↓awp_block, C_ex, Nat.reduceBEq, acap, afieldAddr, aload, astore, abin, anum, astr, aun, isAggD, cond_true, cond_false, ↓reduceIte, C_P, C_G, isTuple, Value.cells, setL, ares, aresL, ares1, reduceCtorEq, Nat.reduceEqDiff, eq_self, Nat.reduceAdd, if_true, if_false, one, Nat.reduceLeDiff, undef, gsl, aextract, aindexAddr, amake, implies_true, forall_const, alen, abuiltin, anil, isC, Int.reduceEq, Int.reduceLT, Int.reduceLE, Int.reduceAdd, Int.reduceToNat, Int.reduceNeg, Nat.reduceMul, Nat.reduceSub, abuild, afill, Int.reduceBNe, Int.reduceBEq, Try.underlying22, Try.underlying23, Try.underlying3, asz23, hB4, g0]
    refine ACallF.enter Try.func48 rfl (by kernel_rfl) (Equal_spec s4 (h4 ++ (hb ++ r)) v4 p.1 _ _ (hG4.c.nb rfl (headL_lt _ _ _)) (hNp.sub fun e he => by simp [he]) hO4 _ _ ?_)
    simp (config := { implicitDefEqProofs := false }) only [↓GP, GQ, ↓awp_seq, ↓awp_block, C_ex, Nat.reduceBEq, acap, afieldAddr, aload, astore, abin, anum, astr, aun, isAggD, cond_true, cond_false, ↓reduceIte, C_P, C_G, isTuple, Value.cells, setL, ares, aresL, ares1, reduceCtorEq, Nat.reduceEqDiff, eq_self, Nat.reduceAdd, if_true, if_false, one, Nat.reduceLeDiff, undef, gsl, aextract, aindexAddr, amake, implies_true, forall_const, alen, abuiltin, anil, isC, Int.reduceEq, Int.reduceLT, Int.reduceLE, Int.reduceAdd, Int.reduceToNat, Int.reduceNeg, Nat.reduceMul, Nat.reduceSub, abuild, afill, Int.reduceBNe, Int.reduceBEq, Try.underlying22, Try.underlying23, Try.underlying3]
    by_cases hE : headL g num ((flat (ps'.take (needN n))).take n) = p.2
    · rw [decide_eq_true hE]
      exact hk _ g v3 hb s4 (by rw [if_pos hE]) hN3 hO4.right
    · rw [decide_eq_false hE]
      exact h0 (by rw [if_neg hE]) _ _ _ hO4.right.right
  · simp (config := { implicitDefEqProofs := false }) only [↓GP, GQ, ↓awp_seq, ↓awp_block, C_ex, Nat.reduceBEq, acap, afieldAddr, aload, astore, abin, anum, astr, aun, isAggD, cond_true, cond_false, ↓reduceIte, C_P, C_G, isTuple, Value.cells, setL, ares, aresL, ares1, reduceCtorEq, Nat.reduceEqDiff, eq_self, Nat.reduceAdd, if_true, if_false, one, Nat.reduceLeDiff, undef, gsl, aextract, aindexAddr, amake, implies_true, forall_const, alen, abuiltin, anil, isC, Int.reduceEq, Int.reduceLT, Int.reduceLE, Int.reduceAdd, Int.reduceToNat, Int.reduceNeg, Nat.reduceMul, Nat.reduceSub, abuild, afill, Int.reduceBNe, Int.reduceBEq, Try.underlying22, Try.underlying23, Try.underlying3, beqF (show ¬ (g : Int) = 0 by omega), bneT (show ¬ (gen : Int) = 0 by omega), bneF (show (g : Int) = gen by omega), wL, show ¬ (n : Int) > (((ps'.length + 1) * 64 : Nat) : Int) by omega, decide_false]
    refine ACallF.enter Try.func38 rfl (by kernel_rfl) (need_spec st n hnb _ _ ?_)
    simp (config := { implicitDefEqProofs := false }) only [↓GP, GQ, ↓awp_seq, ↓awp_block, C_ex, Nat.reduceBEq, acap, afieldAddr, aload, astore, abin, anum, astr, aun, isAggD, cond_true, cond_false, ↓reduceIte, C_P, C_G, isTuple, Value.cells, setL, ares, aresL, ares1, reduceCtorEq, Nat.reduceEqDiff, eq_self, Nat.reduceAdd, if_true, if_false, one, Nat.reduceLeDiff, undef, gsl, aextract, aindexAddr, amake, implies_true, forall_const, alen, abuiltin, anil, isC, Int.reduceEq, Int.reduceLT, Int.reduceLE, Int.reduceAdd, Int.reduceToNat, Int.reduceNeg, Nat.reduceMul, Nat.reduceSub, abuild, afill, Int.reduceBNe, Int.reduceBEq, Try.underlying22, Try.underlying23, Try.underlying3, wn, show ¬ ((1 + needN n : Nat) : Int) > ((ps'.length + 1 : Nat) : Int) by omega, decide_false]
    refine ACallF.enter Try.func38 rfl (by kernel_rfl) (need_spec st n hnb _ _ ?_)
    simp (config := { implicitDefEqProofs := false }) only [↓GP, GQ, ↓awp_seq, ↓awp_block, C_ex, Nat.reduceBEq, acap, afieldAddr, aload, astore, abin, anum, astr, aun, isAggD, cond_true, cond_false, ↓reduceIte, C_P, C_G, isTuple, Value.cells, setL, ares, aresL, ares1, reduceCtorEq, Nat.reduceEqDiff, eq_self, Nat.reduceAdd, if_true, if_false, one, Nat.reduceLeDiff, undef, gsl, aextract, aindexAddr, amake, implies_true, forall_const, alen, abuiltin, anil, isC, Int.reduceEq, Int.reduceLT, Int.reduceLE, Int.reduceAdd, Int.reduceToNat, Int.reduceNeg, Nat.reduceMul, Nat.reduceSub, abuild, afill, Int.reduceBNe, Int.reduceBEq, Try.underlying22, Try.underlying23, Try.underlying3, wn, hv2]
    refine ACallF.enter Try.func57 rfl (by kernel_rfl) (Concat_spec st r v2 _ hP2 (by rw [hfl]; omega) (by rw [List.length_take]; omega) hO _ _ fun vb hb sb hGb hOb => ?_)
    have hNb : Nb hb vb (flat (ps'.take (needN n))) := by
      have := hGb.nb (r := []) rfl hfb
      rwa [List.append_nil] at this
    have hSb : Sl Try.prog hb vb 1 := by
      rcases hGb with ⟨rfl, _⟩ | ⟨b, rfl, _⟩ | ⟨b, c, D, rfl, rfl, _, hc⟩
      · exact .inl rfl
      · exact .inr ⟨b, 0, none, 0, 0, rfl, Nat.le_refl _, .inl rfl⟩
      · exact .inr ⟨b, 0, some 0, _, c, rfl, hc, .inr ⟨rfl, D, 5, true, by simp, fun _ => asz5⟩⟩
    obtain ⟨v3, hv3, hN3, _⟩ := hNb.part (t := 23) (lo := none) (hi := some (.int .i64 n)) (l := 0) (r := n) hSb hOb.left Try.underlying23 asz5 (fun c hc => abounds_hi (by rw [hfl] at hc; omega)) (by omega) (by rw [hfl]; omega)
    rw [List.drop_zero, Nat.sub_zero] at hN3
    have hl3 : ((flat (ps'.take (needN n))).take n).length ≤ 1000000 := by rw [List.length_take]; omega
    have hBs := hOb.get (b := B) (o := .cells cs ty own) (List.mem_append_right _ hmem)
    simp (config := { implicitDefEqProofs := false }) only [↓GP, GQ, ↓awp_seq, ↓awp_block, C_ex, Nat.reduceBEq, acap, afieldAddr, aload, astore, abin, anum, astr, aun, isAggD, cond_true, cond_false, ↓reduceIte, C_P, C_G, isTuple, Value.cells, setL, ares, aresL, ares1, reduceCtorEq, Nat.reduceEqDiff, eq_self, Nat.reduceAdd, if_true, if_false, one, Nat.reduceLeDiff, undef, gsl, aextract, aindexAddr, amake, implies_true, forall_const, alen, abuiltin, anil, isC, Int.reduceEq, Int.reduceLT, Int.reduceLE, Int.reduceAdd, Int.reduceToNat, Int.reduceNeg, Nat.reduceMul, Nat.reduceSub, abuild, afill, Int.reduceBNe, Int.reduceBEq, Try.underlying22, Try.underlying23, Try.underlying3, hv3]
    refine ADraw.of [(0, false, []), (1, false, []), (2, false, []), (3, false, []), (4, false, []), (6, false, []), (7, false, []), (8, true, []), (5, false, [8]), (9, false, []), (10, false, []), (11, false, []), (12, false, [])] [8] [(8, 5)] (by kernel_rfl) ?_
    simp (config := { implicitDefEqProofs := false }) only [↓GP, GQ, ↓awp_seq, ↓awp_block, C_ex, Nat.reduceBEq, acap, afieldAddr, aload, astore, abin, anum, astr, aun, isAggD, cond_true, cond_false, ↓reduceIte, C_P, C_G, isTuple, Value.cells, setL, ares, aresL, ares1, reduceCtorEq, Nat.reduceEqDiff, eq_self, Nat.reduceAdd, if_true, if_false, one, Nat.reduceLeDiff, undef, gsl, aextract, aindexAddr, amake, implies_true, forall_const, alen, abuiltin, anil, isC, Int.reduceEq, Int.reduceLT, Int.reduceLE, Int.reduceAdd, Int.reduceToNat, Int.reduceNeg, Nat.reduceMul, Nat.reduceSub, abuild, afill, Int.reduceBNe, Int.reduceBEq, Try.underlying22, Try.underlying23, Try.underlying3, asz23, hBs, g0]
    refine ⟨by omega, ACallF.enter Try.func50 rfl (by kernel_rfl) (head_spec sb (hb ++ r) v3 _ g num (hN3.sub fun e he => List.mem_append_left _ he) hl3 hgl hnum hOb _ _ fun v4 h4 s4 hG4 hO4 => ?_)⟩
    have hB4 := hO4.get (b := B) (o := .cells cs ty own) (by simp [hmem])
    simp (config := { implicitDefEqProofs := false }) only [↓GP, GQ, ↓awp_seq, ↓awp_block, C_ex, Nat.reduceBEq, acap, afieldAddr, aload, astore, abin, anum, astr, aun, isAggD, cond_true, cond_false, ↓reduceIte, C_P, C_G, isTuple, Value.cells, setL, ares, aresL, ares1, reduceCtorEq, Nat.reduceEqDiff, eq_self, Nat.reduceAdd, if_true, if_false, one, Nat.reduceLeDiff, undef, gsl, aextract, aindexAddr, amake, implies_true, forall_const, alen, abuiltin, anil, isC, Int.reduceEq, Int.reduceLT, Int.reduceLE, Int.reduceAdd, Int.reduceToNat, Int.reduceNeg, Nat.reduceMul, Nat.reduceSub, abuild, afill, Int.reduceBNe, Int.reduceBEq, Try.underlying22, Try.underlying23, Try.underlying3, asz23, hB4, g0]
    refine ACallF.enter Try.func48 rfl (by kernel_rfl) (Equal_spec s4 (h4 ++ (hb ++ r)) v4 p.1 _ _ (hG4.c.nb rfl (headL_lt _ _ _)) (hNp.sub fun e he => by simp [he]) hO4 _ _ ?_)
    simp (config := { implicitDefEqProofs := false }) only [↓GP, GQ, ↓awp_seq, ↓awp_block, C_ex, Nat.reduceBEq, acap, afieldAddr, aload, astore, abin, anum, astr, aun, isAggD, cond_true, cond_false, ↓reduceIte, C_P, C_G, isTuple, Value.cells, setL, ares, aresL, ares1, reduceCtorEq, Nat.reduceEqDiff, eq_self, Nat.reduceAdd, if_true, if_false, one, Nat.reduceLeDiff, undef, gsl, aextract, aindexAddr, amake, implies_true, forall_const, alen, abuiltin, anil, isC, Int.reduceEq, Int.reduceLT, Int.reduceLE, Int.reduceAdd, Int.reduceToNat, Int.reduceNeg, Nat.reduceMul, Nat.reduceSub, abuild, afill, Int.reduceBNe, Int.reduceBEq, Try.underlying22, Try.underlying23, Try.underlying3]
    by_cases hE : headL g num ((flat (ps'.take (needN n))).take n) = p.2
    · rw [decide_eq_true hE]
      exact hk _ g v3 hb s4 (by rw [if_pos hE]) hN3 hO4.right
    · rw [decide_eq_false hE]
      exact h0 (by rw [if_neg hE]) _ _ _ hO4.right.right
end Go.Proofs.Ytiooigkcliomlaa
