/- A journal: what it tells; a record more. No conditions. -/
import Derived.Test.YtiooigkcliomlaaJ19
set_option linter.unusedVariables false
set_option linter.unusedSimpArgs false
namespace Go.Proofs.Ytiooigkcliomlaa
open Go Go.Abs Go.RowKit
variable {base : Nat} {w0 : World} {G : Nat}

/-- A journal's cells. -/
def jc (p size which gen num end_ : Nat) (pl : Bool) : Ob := .cells [.pointer (some ⟨p, 0, none⟩), .int .i64 size, .int .i64 which, .int .i64 gen, .int .i64 num, .int .i64 end_, .bool pl] 69 true
set_option maxRecDepth 10000 in
theorem Left_spec (st : St) (jp p size which gen num end_ : Nat) (pl : Bool) (hj : st.H jp = some (jc p size which gen num end_ pl)) (he : end_ ≤ size) (hs : size ≤ 5000) (k q : Value → St → Prop) (hk : k (.int .i64 (size - end_ : Nat)) st) :
    ACallF (C base w0 G) 22 [.pointer (some ⟨jp, 0, none⟩)] st k q := by
  refine ACallF.enter Try.func22 rfl (by kernel_rfl) ?_
  refine ACall.of (cx := C base w0 G) mixed Try.func22 rfl (by kernel_rfl) (by simp [Try.ntmps22]) ?_
  simp only [Try.results22]
  unfold jc at hj
  have w1 : IntKind.i64.wrap ((size : Int) - (end_ : Int)) = ((size - end_ : Nat) : Int) := by rw [w_i64 (by omega)]; omega
  simp (config := { implicitDefEqProofs := false }) only [↓GP, GQ, ↓awp_seq, ↓awp_block, C_ex, Nat.reduceBEq, acap, afieldAddr, aload, astore, abin, anum, astr, aun, isAggD, cond_true, cond_false, ↓reduceIte, C_P, C_G, isTuple, Value.cells, setL, ares, aresL, ares1, reduceCtorEq, Nat.reduceEqDiff, eq_self, Nat.reduceAdd, if_true, if_false, one, Nat.reduceLeDiff, undef, gsl, aextract, aindexAddr, amake, implies_true, forall_const, alen, abuiltin, anil, isC, Int.reduceEq, Int.reduceLT, Int.reduceLE, Int.reduceAdd, Int.reduceToNat, Int.reduceNeg, Nat.reduceMul, Nat.reduceSub, abuild, afill, Int.reduceBNe, Int.reduceBEq]
  refine ADraw.of [(0, false, []), (1, false, []), (2, false, []), (3, false, []), (4, false, []), (5, false, []), (6, false, []), (7, false, []), (8, false, []), (9, false, [])] [] [] (by kernel_rfl) ?_
  simp (config := { implicitDefEqProofs := false }) only [↓GP, GQ, ↓awp_seq, ↓awp_block, C_ex, Nat.reduceBEq, acap, afieldAddr, aload, astore, abin, anum, astr, aun, isAggD, cond_true, cond_false, ↓reduceIte, C_P, C_G, isTuple, Value.cells, setL, ares, aresL, ares1, reduceCtorEq, Nat.reduceEqDiff, eq_self, Nat.reduceAdd, if_true, if_false, one, Nat.reduceLeDiff, undef, gsl, aextract, aindexAddr, amake, implies_true, forall_const, alen, abuiltin, anil, isC, Int.reduceEq, Int.reduceLT, Int.reduceLE, Int.reduceAdd, Int.reduceToNat, Int.reduceNeg, Nat.reduceMul, Nat.reduceSub, abuild, afill, Int.reduceBNe, Int.reduceBEq, hj, afo69_1, afo69_5, asz3, Try.underlying3, w1]
  exact hk
set_option maxRecDepth 10000 in
theorem Generation_spec (st : St) (jp p size which gen num end_ : Nat) (pl : Bool) (hj : st.H jp = some (jc p size which gen num end_ pl)) (k q : Value → St → Prop) (hk : k (.int .i64 gen) st) :
    ACallF (C base w0 G) 19 [.pointer (some ⟨jp, 0, none⟩)] st k q := by
  refine ACallF.enter Try.func19 rfl (by kernel_rfl) ?_
  refine ACall.of (cx := C base w0 G) mixed Try.func19 rfl (by kernel_rfl) (by simp [Try.ntmps19]) ?_
  simp only [Try.results19]
  unfold jc at hj
  simp (config := { implicitDefEqProofs := false }) only [↓GP, GQ, ↓awp_seq, ↓awp_block, C_ex, Nat.reduceBEq, acap, afieldAddr, aload, astore, abin, anum, astr, aun, isAggD, cond_true, cond_false, ↓reduceIte, C_P, C_G, isTuple, Value.cells, setL, ares, aresL, ares1, reduceCtorEq, Nat.reduceEqDiff, eq_self, Nat.reduceAdd, if_true, if_false, one, Nat.reduceLeDiff, undef, gsl, aextract, aindexAddr, amake, implies_true, forall_const, alen, abuiltin, anil, isC, Int.reduceEq, Int.reduceLT, Int.reduceLE, Int.reduceAdd, Int.reduceToNat, Int.reduceNeg, Nat.reduceMul, Nat.reduceSub, abuild, afill, Int.reduceBNe, Int.reduceBEq, hj, afo69_3, asz3, Try.underlying3]
  exact hk
def fitsN (n : Int) (size end_ : Nat) : Bool := decide (0 ≤ n ∧ n ≤ 262144 ∧ 1 + needN n.toNat ≤ size - end_)
set_option maxRecDepth 10000 in
theorem Fits_spec (st : St) (jp p size which gen num end_ : Nat) (pl : Bool) (n : Int) (hj : st.H jp = some (jc p size which gen num end_ pl)) (he : end_ ≤ size) (hs : size ≤ 5000) (k q : Value → St → Prop) (hk : k (.bool (fitsN n size end_)) st) :
    ACallF (C base w0 G) 26 [.pointer (some ⟨jp, 0, none⟩), .int .i64 n] st k q := by
  refine ACallF.enter Try.func26 rfl (by kernel_rfl) ?_
  refine ACall.of (cx := C base w0 G) mixed Try.func26 rfl (by kernel_rfl) (by simp [Try.ntmps26]) ?_
  simp only [Try.results26]
  unfold fitsN at hk
  by_cases h0 : 0 ≤ n
  · by_cases h1 : n ≤ 262144
    · obtain ⟨m, rfl⟩ : ∃ m : Nat, n = m := ⟨n.toNat, by omega⟩
      rw [Int.toNat_natCast] at hk
      have w1 : IntKind.i64.wrap (1 + ((needN m : Nat) : Int)) = ((1 + needN m : Nat) : Int) := by unfold needN; rw [w_i64 (by omega)]; omega
      simp (config := { implicitDefEqProofs := false }) only [↓GP, GQ, ↓awp_seq, ↓awp_block, C_ex, Nat.reduceBEq, acap, afieldAddr, aload, astore, abin, anum, astr, aun, isAggD, cond_true, cond_false, ↓reduceIte, C_P, C_G, isTuple, Value.cells, setL, ares, aresL, ares1, reduceCtorEq, Nat.reduceEqDiff, eq_self, Nat.reduceAdd, if_true, if_false, one, Nat.reduceLeDiff, undef, gsl, aextract, aindexAddr, amake, implies_true, forall_const, alen, abuiltin, anil, isC, Int.reduceEq, Int.reduceLT, Int.reduceLE, Int.reduceAdd, Int.reduceToNat, Int.reduceNeg, Nat.reduceMul, Nat.reduceSub, abuild, afill, Int.reduceBNe, Int.reduceBEq, ge_iff_le, h0, h1, decide_true, Try.underlying3]
      refine ACallF.enter Try.func38 rfl (by kernel_rfl) (need_spec st m (by omega) _ _ ?_)
      simp (config := { implicitDefEqProofs := false }) only [↓GP, GQ, ↓awp_seq, ↓awp_block, C_ex, Nat.reduceBEq, acap, afieldAddr, aload, astore, abin, anum, astr, aun, isAggD, cond_true, cond_false, ↓reduceIte, C_P, C_G, isTuple, Value.cells, setL, ares, aresL, ares1, reduceCtorEq, Nat.reduceEqDiff, eq_self, Nat.reduceAdd, if_true, if_false, one, Nat.reduceLeDiff, undef, gsl, aextract, aindexAddr, amake, implies_true, forall_const, alen, abuiltin, anil, isC, Int.reduceEq, Int.reduceLT, Int.reduceLE, Int.reduceAdd, Int.reduceToNat, Int.reduceNeg, Nat.reduceMul, Nat.reduceSub, abuild, afill, Int.reduceBNe, Int.reduceBEq, w1, Try.underlying3]
      refine Left_spec st jp p size which gen num end_ pl hj he hs _ _ ?_
      by_cases h2 : 1 + needN m ≤ size - end_
      · rw [decide_eq_true (by omega)] at hk
        simp (config := { implicitDefEqProofs := false }) only [↓GP, GQ, ↓awp_seq, ↓awp_block, C_ex, Nat.reduceBEq, acap, afieldAddr, aload, astore, abin, anum, astr, aun, isAggD, cond_true, cond_false, ↓reduceIte, C_P, C_G, isTuple, Value.cells, setL, ares, aresL, ares1, reduceCtorEq, Nat.reduceEqDiff, eq_self, Nat.reduceAdd, if_true, if_false, one, Nat.reduceLeDiff, undef, gsl, aextract, aindexAddr, amake, implies_true, forall_const, alen, abuiltin, anil, isC, Int.reduceEq, Int.reduceLT, Int.reduceLE, Int.reduceAdd, Int.reduceToNat, Int.reduceNeg, Nat.reduceMul, Nat.reduceSub, abuild, afill, Int.reduceBNe, Int.reduceBEq, show ((1 + needN m : Nat) : Int) ≤ ((size - end_ : Nat) : Int) by omega, decide_true, Try.underlying3]
        exact hk
      · rw [decide_eq_false (by omega)] at hk
        simp (config := { implicitDefEqProofs := false }) only [↓GP, GQ, ↓awp_seq, ↓awp_block, C_ex, Nat.reduceBEq, acap, afieldAddr, aload, astore, abin, anum, astr, aun, isAggD, cond_true, cond_false, ↓reduceIte, C_P, C_G, isTuple, Value.cells, setL, ares, aresL, ares1, reduceCtorEq, Nat.reduceEqDiff, eq_self, Nat.reduceAdd, if_true, if_false, one, Nat.reduceLeDiff, undef, gsl, aextract, aindexAddr, amake, implies_true, forall_const, alen, abuiltin, anil, isC, Int.reduceEq, Int.reduceLT, Int.reduceLE, Int.reduceAdd, Int.reduceToNat, Int.reduceNeg, Nat.reduceMul, Nat.reduceSub, abuild, afill, Int.reduceBNe, Int.reduceBEq, show ¬ ((1 + needN m : Nat) : Int) ≤ ((size - end_ : Nat) : Int) by omega, decide_false, Try.underlying3]
        exact hk
    · rw [decide_eq_false (by omega)] at hk
      simp (config := { implicitDefEqProofs := false }) only [↓GP, GQ, ↓awp_seq, ↓awp_block, C_ex, Nat.reduceBEq, acap, afieldAddr, aload, astore, abin, anum, astr, aun, isAggD, cond_true, cond_false, ↓reduceIte, C_P, C_G, isTuple, Value.cells, setL, ares, aresL, ares1, reduceCtorEq, Nat.reduceEqDiff, eq_self, Nat.reduceAdd, if_true, if_false, one, Nat.reduceLeDiff, undef, gsl, aextract, aindexAddr, amake, implies_true, forall_const, alen, abuiltin, anil, isC, Int.reduceEq, Int.reduceLT, Int.reduceLE, Int.reduceAdd, Int.reduceToNat, Int.reduceNeg, Nat.reduceMul, Nat.reduceSub, abuild, afill, Int.reduceBNe, Int.reduceBEq, ge_iff_le, h0, h1, decide_true, decide_false, Try.underlying3]
      exact hk
  · rw [decide_eq_false (by omega)] at hk
    simp (config := { implicitDefEqProofs := false }) only [↓GP, GQ, ↓awp_seq, ↓awp_block, C_ex, Nat.reduceBEq, acap, afieldAddr, aload, astore, abin, anum, astr, aun, isAggD, cond_true, cond_false, ↓reduceIte, C_P, C_G, isTuple, Value.cells, setL, ares, aresL, ares1, reduceCtorEq, Nat.reduceEqDiff, eq_self, Nat.reduceAdd, if_true, if_false, one, Nat.reduceLeDiff, undef, gsl, aextract, aindexAddr, amake, implies_true, forall_const, alen, abuiltin, anil, isC, Int.reduceEq, Int.reduceLT, Int.reduceLE, Int.reduceAdd, Int.reduceToNat, Int.reduceNeg, Nat.reduceMul, Nat.reduceSub, abuild, afill, Int.reduceBNe, Int.reduceBEq, ge_iff_le, h0, decide_false, Try.underlying3]
    exact hk
set_option maxRecDepth 10000 in
theorem did_spec (st : St) (r : Hp) (jp p size which gen num end_ : Nat) (pl : Bool) (e : Int) (hO : Own st ((jp, jc p size which gen num end_ pl) :: r)) (k q : Value → St → Prop) (hk : ∀ st', Own st' ((jp, jc p size which gen num end_ (pl || decide (e = 50))) :: r) → k (.int .i64 e) st') :
    ACallF (C base w0 G) 37 [.pointer (some ⟨jp, 0, none⟩), .int .i64 e] st k q := by
  refine ACallF.enter Try.func37 rfl (by kernel_rfl) ?_
  refine ACall.of (cx := C base w0 G) mixed Try.func37 rfl (by kernel_rfl) (by simp [Try.ntmps37]) ?_
  simp only [Try.results37]
  have hj := hO.head
  have hs := hO.set rfl (jc p size which gen num end_ (pl || decide (e = 50))) rfl
  unfold jc at hj hs
  cases pl with
  | true =>
    simp (config := { implicitDefEqProofs := false }) only [↓GP, GQ, ↓awp_seq, ↓awp_block, C_ex, Nat.reduceBEq, acap, afieldAddr, aload, astore, abin, anum, astr, aun, isAggD, cond_true, cond_false, ↓reduceIte, C_P, C_G, isTuple, Value.cells, setL, ares, aresL, ares1, reduceCtorEq, Nat.reduceEqDiff, eq_self, Nat.reduceAdd, if_true, if_false, one, Nat.reduceLeDiff, undef, gsl, aextract, aindexAddr, amake, implies_true, forall_const, alen, abuiltin, anil, isC, Int.reduceEq, Int.reduceLT, Int.reduceLE, Int.reduceAdd, Int.reduceToNat, Int.reduceNeg, Nat.reduceMul, Nat.reduceSub, abuild, afill, Int.reduceBNe, Int.reduceBEq, hj, afo69_6, asz4, Try.underlying4]
    exact hk _ hs
  | false =>
    by_cases he : e = 50
    · subst he
      simp (config := { implicitDefEqProofs := false }) only [↓GP, GQ, ↓awp_seq, ↓awp_block, C_ex, Nat.reduceBEq, acap, afieldAddr, aload, astore, abin, anum, astr, aun, isAggD, cond_true, cond_false, ↓reduceIte, C_P, C_G, isTuple, Value.cells, setL, ares, aresL, ares1, reduceCtorEq, Nat.reduceEqDiff, eq_self, Nat.reduceAdd, if_true, if_false, one, Nat.reduceLeDiff, undef, gsl, aextract, aindexAddr, amake, implies_true, forall_const, alen, abuiltin, anil, isC, Int.reduceEq, Int.reduceLT, Int.reduceLE, Int.reduceAdd, Int.reduceToNat, Int.reduceNeg, Nat.reduceMul, Nat.reduceSub, abuild, afill, Int.reduceBNe, Int.reduceBEq, hj, afo69_6, asz4, Try.underlying4, Try.underlying27]
      exact hk _ hs
    · rw [decide_eq_false he] at hs hk
      simp (config := { implicitDefEqProofs := false }) only [↓GP, GQ, ↓awp_seq, ↓awp_block, C_ex, Nat.reduceBEq, acap, afieldAddr, aload, astore, abin, anum, astr, aun, isAggD, cond_true, cond_false, ↓reduceIte, C_P, C_G, isTuple, Value.cells, setL, ares, aresL, ares1, reduceCtorEq, Nat.reduceEqDiff, eq_self, Nat.reduceAdd, if_true, if_false, one, Nat.reduceLeDiff, undef, gsl, aextract, aindexAddr, amake, implies_true, forall_const, alen, abuiltin, anil, isC, Int.reduceEq, Int.reduceLT, Int.reduceLE, Int.reduceAdd, Int.reduceToNat, Int.reduceNeg, Nat.reduceMul, Nat.reduceSub, abuild, afill, Int.reduceBNe, Int.reduceBEq, hj, afo69_6, asz4, Try.underlying4, Try.underlying27, beqF he]
      exact hk _ hs
set_option maxHeartbeats 1000000 in
set_option maxRecDepth 10000 in
theorem Append_spec (st : St) (r h : Hp) (jp p size which gen num end_ : Nat) (pl : Bool) (S : List (List Nat)) (L : List LN) (fz : Int) (bv : Value) (l : List Nat) (hD : DN p S L fz h) (hO : Own st ((jp, jc p size which gen num end_ pl) :: (h ++ r))) (hb : Nb r bv l) (hL : pl = false → L = []) (hfz : FZ fz)
    (he : end_ ≤ size) (hs : size * 2 ≤ S.length) (hS : S.length ≤ 5000) (hw : which ≤ 1) (hg : gen < 4294967296) (hnum : num < 4294967295) (hl : l.length ≤ 1000000000) (k q : Value → St → Prop)
    (hlong : 262144 < l.length → k (.int .i64 12) st)
    (hfull : l.length ≤ 262144 → ¬ (1 + needN l.length ≤ size - end_) → k (.int .i64 51) st)
    (hoff : l.length ≤ 262144 → 1 + needN l.length ≤ size - end_ → pl = true → k (.int .i64 50) st)
    (hpow : ∀ S' L' h' st', l.length ≤ 262144 → 1 + needN l.length ≤ size - end_ → pl = false → fz ≠ -1 → WFail S (which * size + end_) gen num l S' L' → DN p S' L' 0 h' → Own st' ((jp, jc p size which gen num end_ true) :: (h' ++ r)) → k (.int .i64 50) st')
    (hok : ∀ fz' h' st', l.length ≤ 262144 → 1 + needN l.length ≤ size - end_ → pl = false → Spent fz fz' → DN p (wrote S (which * size + end_) gen num l) [] fz' h' → Own st' ((jp, jc p size which gen (num + 1) (end_ + 1 + needN l.length) false) :: (h' ++ r)) → k (.int .i64 0) st') :
    ACallF (C base w0 G) 11 [.pointer (some ⟨jp, 0, none⟩), bv] st k q := by
  refine ACallF.enter Try.func11 rfl (by kernel_rfl) ?_
  obtain ⟨ba, bc, hbs⟩ := hb.isSlice
  refine ACall.of (cx := C base w0 G) mixed Try.func11 rfl (by kernel_rfl) (by simp [Try.ntmps11]) ?_
  simp only [Try.results11]
  by_cases h1 : 262144 < l.length
  · simp (config := { implicitDefEqProofs := false }) only [↓GP, GQ, ↓awp_seq, ↓awp_block, C_ex, Nat.reduceBEq, acap, afieldAddr, aload, astore, abin, anum, astr, aun, isAggD, cond_true, cond_false, ↓reduceIte, C_P, C_G, isTuple, Value.cells, setL, ares, aresL, ares1, reduceCtorEq, Nat.reduceEqDiff, eq_self, Nat.reduceAdd, if_true, if_false, one, Nat.reduceLeDiff, undef, gsl, aextract, aindexAddr, amake, implies_true, forall_const, alen, abuiltin, anil, isC, Int.reduceEq, Int.reduceLT, Int.reduceLE, Int.reduceAdd, Int.reduceToNat, Int.reduceNeg, Nat.reduceMul, Nat.reduceSub, abuild, afill, Int.reduceBNe, Int.reduceBEq, hbs, Try.underlying23, Try.underlying3, show (l.length : Int) > 262144 by omega, decide_true]
    exact hlong h1
  simp (config := { implicitDefEqProofs := false }) only [↓GP, GQ, ↓awp_seq, ↓awp_block, C_ex, Nat.reduceBEq, acap, afieldAddr, aload, astore, abin, anum, astr, aun, isAggD, cond_true, cond_false, ↓reduceIte, C_P, C_G, isTuple, Value.cells, setL, ares, aresL, ares1, reduceCtorEq, Nat.reduceEqDiff, eq_self, Nat.reduceAdd, if_true, if_false, one, Nat.reduceLeDiff, undef, gsl, aextract, aindexAddr, amake, implies_true, forall_const, alen, abuiltin, anil, isC, Int.reduceEq, Int.reduceLT, Int.reduceLE, Int.reduceAdd, Int.reduceToNat, Int.reduceNeg, Nat.reduceMul, Nat.reduceSub, abuild, afill, Int.reduceBNe, Int.reduceBEq, hbs, Try.underlying23, Try.underlying3, show ¬ (l.length : Int) > 262144 by omega, decide_false]
  refine Fits_spec st jp p size which gen num end_ pl _ hO.head he (by omega) _ _ ?_
  by_cases h2 : 1 + needN l.length ≤ size - end_
  · have hf : fitsN l.length size end_ = true := by unfold fitsN; rw [Int.toNat_natCast]; exact decide_eq_true (by omega)
    have hj := hO.head
    unfold jc at hj
    rw [hf]
    simp (config := { implicitDefEqProofs := false }) only [↓GP, GQ, ↓awp_seq, ↓awp_block, C_ex, Nat.reduceBEq, acap, afieldAddr, aload, astore, abin, anum, astr, aun, isAggD, cond_true, cond_false, ↓reduceIte, C_P, C_G, isTuple, Value.cells, setL, ares, aresL, ares1, reduceCtorEq, Nat.reduceEqDiff, eq_self, Nat.reduceAdd, if_true, if_false, one, Nat.reduceLeDiff, undef, gsl, aextract, aindexAddr, amake, implies_true, forall_const, alen, abuiltin, anil, isC, Int.reduceEq, Int.reduceLT, Int.reduceLE, Int.reduceAdd, Int.reduceToNat, Int.reduceNeg, Nat.reduceMul, Nat.reduceSub, abuild, afill, Int.reduceBNe, Int.reduceBEq, hj, afo69_6, asz4, Try.underlying4]
    cases pl with
    | true =>
      simp (config := { implicitDefEqProofs := false }) only [↓GP, GQ, ↓awp_seq, ↓awp_block, C_ex, Nat.reduceBEq, acap, afieldAddr, aload, astore, abin, anum, astr, aun, isAggD, cond_true, cond_false, ↓reduceIte, C_P, C_G, isTuple, Value.cells, setL, ares, aresL, ares1, reduceCtorEq, Nat.reduceEqDiff, eq_self, Nat.reduceAdd, if_true, if_false, one, Nat.reduceLeDiff, undef, gsl, aextract, aindexAddr, amake, implies_true, forall_const, alen, abuiltin, anil, isC, Int.reduceEq, Int.reduceLT, Int.reduceLE, Int.reduceAdd, Int.reduceToNat, Int.reduceNeg, Nat.reduceMul, Nat.reduceSub, abuild, afill, Int.reduceBNe, Int.reduceBEq]
      exact hoff (by omega) h2 rfl
    | false =>
      obtain rfl := hL rfl
      have wm : IntKind.i64.wrap ((which : Int) * (size : Int)) = ((which * size : Nat) : Int) := by
        have : which * size ≤ 5000 := Nat.le_trans (Nat.mul_le_mul_right _ hw) (by omega)
        rw [w_i64 (by rw [← Int.natCast_mul]; omega), Int.natCast_mul]
      have hws : which * size + size ≤ S.length := by
        have : which * size ≤ 1 * size := Nat.mul_le_mul_right _ hw
        omega
      have wa : IntKind.i64.wrap (((which * size : Nat) : Int) + (end_ : Int)) = ((which * size + end_ : Nat) : Int) := by rw [w_i64 (by omega)]; omega
      simp (config := { implicitDefEqProofs := false }) only [↓GP, GQ, ↓awp_seq, ↓awp_block, C_ex, Nat.reduceBEq, acap, afieldAddr, aload, astore, abin, anum, astr, aun, isAggD, cond_true, cond_false, ↓reduceIte, C_P, C_G, isTuple, Value.cells, setL, ares, aresL, ares1, reduceCtorEq, Nat.reduceEqDiff, eq_self, Nat.reduceAdd, if_true, if_false, one, Nat.reduceLeDiff, undef, gsl, aextract, aindexAddr, amake, implies_true, forall_const, alen, abuiltin, anil, isC, Int.reduceEq, Int.reduceLT, Int.reduceLE, Int.reduceAdd, Int.reduceToNat, Int.reduceNeg, Nat.reduceMul, Nat.reduceSub, abuild, afill, Int.reduceBNe, Int.reduceBEq]
      refine ADraw.of [(0, false, []), (1, false, []), (2, false, []), (3, false, []), (4, false, []), (5, false, []), (6, false, []), (7, false, []), (8, false, []), (9, false, []), (10, false, []), (11, false, []), (12, false, []), (13, false, []), (14, false, []), (15, false, []), (16, false, []), (17, false, []), (18, false, []), (19, false, []), (20, false, []), (21, false, []), (22, false, []), (23, false, []), (24, false, []), (25, false, []), (26, false, []), (27, false, []), (28, false, []), (29, false, []), (30, false, [])] [] [] (by kernel_rfl) ?_
      simp (config := { implicitDefEqProofs := false }) only [↓GP, GQ, ↓awp_seq, ↓awp_block, C_ex, Nat.reduceBEq, acap, afieldAddr, aload, astore, abin, anum, astr, aun, isAggD, cond_true, cond_false, ↓reduceIte, C_P, C_G, isTuple, Value.cells, setL, ares, aresL, ares1, reduceCtorEq, Nat.reduceEqDiff, eq_self, Nat.reduceAdd, if_true, if_false, one, Nat.reduceLeDiff, undef, gsl, aextract, aindexAddr, amake, implies_true, forall_const, alen, abuiltin, anil, isC, Int.reduceEq, Int.reduceLT, Int.reduceLE, Int.reduceAdd, Int.reduceToNat, Int.reduceNeg, Nat.reduceMul, Nat.reduceSub, abuild, afill, Int.reduceBNe, Int.reduceBEq, hj, afo69_0, afo69_1, afo69_2, afo69_3, afo69_4, afo69_5, asz3, asz26, Try.underlying3, Try.underlying26, wm, wa]
      rw [← hbs]
      have hO1 : Own st (h ++ ((jp, jc p size which gen num end_ false) :: r)) := hO.perm (perm_front h _ _).symm
      refine ACallF.enter Try.func35 rfl (by kernel_rfl) (write_spec st _ h p S fz (which * size + end_) gen num bv l hD hO1 (hb.sub fun e he => List.mem_cons_of_mem _ he) (by omega) hfz (by omega) hS hg (by omega) _ _ (fun S' L' h' s2 hne hF hD2 hO2 => ?_) (fun fz' h' s2 hsp hD2 hO2 => ?_))
      · have hO3 : Own s2 ((jp, jc p size which gen num end_ false) :: (h' ++ r)) := hO2.perm (perm_front h' _ _)
        simp (config := { implicitDefEqProofs := false }) only [↓GP, GQ, ↓awp_seq, ↓awp_block, C_ex, Nat.reduceBEq, acap, afieldAddr, aload, astore, abin, anum, astr, aun, isAggD, cond_true, cond_false, ↓reduceIte, C_P, C_G, isTuple, Value.cells, setL, ares, aresL, ares1, reduceCtorEq, Nat.reduceEqDiff, eq_self, Nat.reduceAdd, if_true, if_false, one, Nat.reduceLeDiff, undef, gsl, aextract, aindexAddr, amake, implies_true, forall_const, alen, abuiltin, anil, isC, Int.reduceEq, Int.reduceLT, Int.reduceLE, Int.reduceAdd, Int.reduceToNat, Int.reduceNeg, Nat.reduceMul, Nat.reduceSub, abuild, afill, Int.reduceBNe, Int.reduceBEq]
        refine did_spec s2 _ jp p size which gen num end_ false 50 hO3 _ _ fun s3 hO4 => ?_
        simp (config := { implicitDefEqProofs := false }) only [↓GP, GQ, ↓awp_seq, ↓awp_block, C_ex, Nat.reduceBEq, acap, afieldAddr, aload, astore, abin, anum, astr, aun, isAggD, cond_true, cond_false, ↓reduceIte, C_P, C_G, isTuple, Value.cells, setL, ares, aresL, ares1, reduceCtorEq, Nat.reduceEqDiff, eq_self, Nat.reduceAdd, if_true, if_false, one, Nat.reduceLeDiff, undef, gsl, aextract, aindexAddr, amake, implies_true, forall_const, alen, abuiltin, anil, isC, Int.reduceEq, Int.reduceLT, Int.reduceLE, Int.reduceAdd, Int.reduceToNat, Int.reduceNeg, Nat.reduceMul, Nat.reduceSub, abuild, afill, Int.reduceBNe, Int.reduceBEq, Try.underlying27]
        exact hpow S' L' h' s3 (by omega) h2 rfl hne hF hD2 hO4
      · have hO3 : Own s2 ((jp, jc p size which gen num end_ false) :: (h' ++ r)) := hO2.perm (perm_front h' _ _)
        simp (config := { implicitDefEqProofs := false }) only [↓GP, GQ, ↓awp_seq, ↓awp_block, C_ex, Nat.reduceBEq, acap, afieldAddr, aload, astore, abin, anum, astr, aun, isAggD, cond_true, cond_false, ↓reduceIte, C_P, C_G, isTuple, Value.cells, setL, ares, aresL, ares1, reduceCtorEq, Nat.reduceEqDiff, eq_self, Nat.reduceAdd, if_true, if_false, one, Nat.reduceLeDiff, undef, gsl, aextract, aindexAddr, amake, implies_true, forall_const, alen, abuiltin, anil, isC, Int.reduceEq, Int.reduceLT, Int.reduceLE, Int.reduceAdd, Int.reduceToNat, Int.reduceNeg, Nat.reduceMul, Nat.reduceSub, abuild, afill, Int.reduceBNe, Int.reduceBEq]
        refine did_spec s2 _ jp p size which gen num end_ false 0 hO3 _ _ fun s3 hO4 => ?_
        have hj4 := hO4.head
        have wn : IntKind.i64.wrap ((num : Int) + 1) = ((num + 1 : Nat) : Int) := by rw [w_i64 (by omega)]; omega
        have we : IntKind.i64.wrap (1 + ((needN l.length : Nat) : Int)) = ((1 + needN l.length : Nat) : Int) := by rw [w_i64 (by omega)]; omega
        have we2 : IntKind.i64.wrap ((end_ : Int) + ((1 + needN l.length : Nat) : Int)) = ((end_ + 1 + needN l.length : Nat) : Int) := by rw [w_i64 (by omega)]; omega
        unfold jc at hj4
        have hO5 := hO4.set rfl (jc p size which gen (num + 1) end_ false) rfl
        have hO6 := hO5.set rfl (jc p size which gen (num + 1) (end_ + 1 + needN l.length) false) rfl
        unfold jc at hO5 hO6
        simp (config := { implicitDefEqProofs := false }) only [↓GP, GQ, ↓awp_seq, ↓awp_block, C_ex, Nat.reduceBEq, acap, afieldAddr, aload, astore, abin, anum, astr, aun, isAggD, cond_true, cond_false, ↓reduceIte, C_P, C_G, isTuple, Value.cells, setL, ares, aresL, ares1, reduceCtorEq, Nat.reduceEqDiff, eq_self, Nat.reduceAdd, if_true, if_false, one, Nat.reduceLeDiff, undef, gsl, aextract, aindexAddr, amake, implies_true, forall_const, alen, abuiltin, anil, isC, Int.reduceEq, Int.reduceLT, Int.reduceLE, Int.reduceAdd, Int.reduceToNat, Int.reduceNeg, Nat.reduceMul, Nat.reduceSub, abuild, afill, Int.reduceBNe, Int.reduceBEq, hj4, afo69_4, asz3, Try.underlying3, Try.underlying27, wn]
        refine ADraw.of [(0, false, []), (1, false, []), (2, false, []), (3, true, []), (4, false, []), (5, false, []), (6, false, [3]), (7, false, []), (8, false, []), (9, false, []), (10, false, []), (11, false, [])] [3] [(3, 6)] (by kernel_rfl) ?_
        simp (config := { implicitDefEqProofs := false }) only [↓GP, GQ, ↓awp_seq, ↓awp_block, C_ex, Nat.reduceBEq, acap, afieldAddr, aload, astore, abin, anum, astr, aun, isAggD, cond_true, cond_false, ↓reduceIte, C_P, C_G, isTuple, Value.cells, setL, ares, aresL, ares1, reduceCtorEq, Nat.reduceEqDiff, eq_self, Nat.reduceAdd, if_true, if_false, one, Nat.reduceLeDiff, undef, gsl, aextract, aindexAddr, amake, implies_true, forall_const, alen, abuiltin, anil, isC, Int.reduceEq, Int.reduceLT, Int.reduceLE, Int.reduceAdd, Int.reduceToNat, Int.reduceNeg, Nat.reduceMul, Nat.reduceSub, abuild, afill, Int.reduceBNe, Int.reduceBEq, hbs, afo69_5, asz3, Try.underlying3, Try.underlying23]
        refine ACallF.enter Try.func38 rfl (by kernel_rfl) (need_spec _ l.length (by omega) _ _ ?_)
        simp (config := { implicitDefEqProofs := false }) only [↓GP, GQ, ↓awp_seq, ↓awp_block, C_ex, Nat.reduceBEq, acap, afieldAddr, aload, astore, abin, anum, astr, aun, isAggD, cond_true, cond_false, ↓reduceIte, C_P, C_G, isTuple, Value.cells, setL, ares, aresL, ares1, reduceCtorEq, Nat.reduceEqDiff, eq_self, Nat.reduceAdd, if_true, if_false, one, Nat.reduceLeDiff, undef, gsl, aextract, aindexAddr, amake, implies_true, forall_const, alen, abuiltin, anil, isC, Int.reduceEq, Int.reduceLT, Int.reduceLE, Int.reduceAdd, Int.reduceToNat, Int.reduceNeg, Nat.reduceMul, Nat.reduceSub, abuild, afill, Int.reduceBNe, Int.reduceBEq, hbs, afo69_5, asz3, Try.underlying3, Try.underlying23, we, we2]
        exact hok fz' h' _ (by omega) h2 rfl hsp hD2 hO6
  · have hf : fitsN l.length size end_ = false := by unfold fitsN; rw [Int.toNat_natCast]; exact decide_eq_false (by omega)
    rw [hf]
    simp (config := { implicitDefEqProofs := false }) only [↓GP, GQ, ↓awp_seq, ↓awp_block, C_ex, Nat.reduceBEq, acap, afieldAddr, aload, astore, abin, anum, astr, aun, isAggD, cond_true, cond_false, ↓reduceIte, C_P, C_G, isTuple, Value.cells, setL, ares, aresL, ares1, reduceCtorEq, Nat.reduceEqDiff, eq_self, Nat.reduceAdd, if_true, if_false, one, Nat.reduceLeDiff, undef, gsl, aextract, aindexAddr, amake, implies_true, forall_const, alen, abuiltin, anil, isC, Int.reduceEq, Int.reduceLT, Int.reduceLE, Int.reduceAdd, Int.reduceToNat, Int.reduceNeg, Nat.reduceMul, Nat.reduceSub, abuild, afill, Int.reduceBNe, Int.reduceBEq]
    exact hfull (by omega) h2
end Go.Proofs.Ytiooigkcliomlaa
