/- Moments: a day's year, month and day. No conditions. -/
import Derived.Test.YthohmdkibkompaaDoorAbsT
import Derived.Test.YthohmdkibkompaaDoorAbsS
set_option linter.unusedVariables false
set_option linter.unusedSimpArgs false
namespace Go.Proofs.YthohmdkibkompaaDoor
open Go Go.Abs Go.RowKit
variable {base : Nat} {w0 : World} {G : Nat}

def mok (ms : Int) : Bool := decide (-62135596800000 ≤ ms ∧ ms < 253402300800000)
def leapN (y : Nat) : Bool := (y % 4 == 0 && y % 100 != 0) || y % 400 == 0
def lenN (y m : Nat) : Nat := if m = 2 then (bif leapN y then 29 else 28) else if m = 4 ∨ m = 6 ∨ m = 9 ∨ m = 11 then 30 else 31
def ysz (y : Nat) : Nat := bif leapN y then 366 else 365
def yrF : Nat → Nat → Nat → Nat × Nat
  | 0, n, y => (n, y)
  | f + 1, n, y => if n < ysz y then (n, y) else yrF f (n - ysz y) (y + 1)
def moF : Nat → Nat → Nat → Nat → Nat × Nat
  | 0, y, n, m => (n, m)
  | f + 1, y, n, m => if n < lenN y m then (n, m) else moF f y (n - lenN y m) (m + 1)
def dayN (ms : Int) : Nat := (ms + 62135596800000).toNat / 86400000
def yr0 (ms : Int) : Nat := 1 + dayN ms / 146097 * 400
def yrOf (ms : Int) : Nat × Nat := yrF 146097 (dayN ms % 146097) (yr0 ms)
def moOf (ms : Int) : Nat × Nat := moF 400 (yrOf ms).2 (yrOf ms).1 1
theorem ysz_pos (y : Nat) : 365 ≤ ysz y ∧ ysz y ≤ 366 := by unfold ysz; cases leapN y <;> simp
theorem lenN_pos (y m : Nat) : 28 ≤ lenN y m ∧ lenN y m ≤ 31 := by unfold lenN; cases leapN y <;> simp <;> split <;> (try split) <;> omega

set_option maxRecDepth 10000 in
theorem MNone_spec (st : St) (ms : Int) (k q : Value → St → Prop) (hk : k (.bool (!mok ms)) st) : ACall (C base w0 G) 46 [.int .i64 ms] st k q := by
  refine ACall.of (cx := C base w0 G) mixed Tryd.func46 rfl (by kernel_rfl) (by simp [Tryd.ntmps46]) ?_
  simp only [Tryd.results46]
  by_cases h1 : ms < -62135596800000
  · have : mok ms = false := by simp [mok]; omega
    rw [this] at hk
    simp (config := { implicitDefEqProofs := false }) only [↓GP, ↓GM, GQ, abuiltinX, ↓awp_seq, ↓awp_block, C_ex, Nat.reduceBEq, acap, afieldAddr, aload, astore, abin, anum, astr, aun, isAggD, cond_true, cond_false, ↓reduceIte, C_P, C_G, isTuple, Value.cells, setL, ares, aresL, ares1, reduceCtorEq, Nat.reduceEqDiff, eq_self, Nat.reduceAdd, if_true, if_false, Go.Abs.one, Nat.reduceLeDiff, undef, gsl, aextract, aindexAddr, amake, implies_true, forall_const, alen, abuiltin, anil, isC, Int.reduceEq, Int.reduceLT, Int.reduceLE, Int.reduceAdd, Int.reduceToNat, Int.reduceNeg, Nat.reduceMul, Nat.reduceSub, abuild, afill, Int.reduceBNe, Int.reduceBEq, h1, decide_true]
    exact hk
  · by_cases h2 : ms < 253402300800000
    · have : mok ms = true := by simp [mok]; omega
      rw [this] at hk
      simp (config := { implicitDefEqProofs := false }) only [↓GP, ↓GM, GQ, abuiltinX, ↓awp_seq, ↓awp_block, C_ex, Nat.reduceBEq, acap, afieldAddr, aload, astore, abin, anum, astr, aun, isAggD, cond_true, cond_false, ↓reduceIte, C_P, C_G, isTuple, Value.cells, setL, ares, aresL, ares1, reduceCtorEq, Nat.reduceEqDiff, eq_self, Nat.reduceAdd, if_true, if_false, Go.Abs.one, Nat.reduceLeDiff, undef, gsl, aextract, aindexAddr, amake, implies_true, forall_const, alen, abuiltin, anil, isC, Int.reduceEq, Int.reduceLT, Int.reduceLE, Int.reduceAdd, Int.reduceToNat, Int.reduceNeg, Nat.reduceMul, Nat.reduceSub, abuild, afill, Int.reduceBNe, Int.reduceBEq, h1, h2, decide_false]
      rw [show decide (ms ≥ 253402300800000) = false from decide_eq_false (by omega)]
      exact hk
    · have : mok ms = false := by simp [mok]; omega
      rw [this] at hk
      simp (config := { implicitDefEqProofs := false }) only [↓GP, ↓GM, GQ, abuiltinX, ↓awp_seq, ↓awp_block, C_ex, Nat.reduceBEq, acap, afieldAddr, aload, astore, abin, anum, astr, aun, isAggD, cond_true, cond_false, ↓reduceIte, C_P, C_G, isTuple, Value.cells, setL, ares, aresL, ares1, reduceCtorEq, Nat.reduceEqDiff, eq_self, Nat.reduceAdd, if_true, if_false, Go.Abs.one, Nat.reduceLeDiff, undef, gsl, aextract, aindexAddr, amake, implies_true, forall_const, alen, abuiltin, anil, isC, Int.reduceEq, Int.reduceLT, Int.reduceLE, Int.reduceAdd, Int.reduceToNat, Int.reduceNeg, Nat.reduceMul, Nat.reduceSub, abuild, afill, Int.reduceBNe, Int.reduceBEq, h1, h2, decide_false]
      rw [show decide (ms ≥ 253402300800000) = true from decide_eq_true (by omega)]
      exact hk
set_option maxRecDepth 10000 in
theorem MSplit_spec (st : St) (ms : Int) (hm : mok ms = true) (k q : Value → St → Prop) (hk : k (.tuple #[.int .i64 (dayN ms : Nat), .int .i64 ((ms + 62135596800000).toNat % 86400000 : Nat)]) st) : ACall (C base w0 G) 47 [.int .i64 ms] st k q := by
  refine ACall.of (cx := C base w0 G) mixed Tryd.func47 rfl (by kernel_rfl) (by simp [Tryd.ntmps47]) ?_
  simp only [Tryd.results47]
  have hm' := of_decide_eq_true hm
  have e1 : IntKind.i64.wrap (ms - -62135596800000) = (((ms + 62135596800000).toNat : Nat) : Int) := by rw [w_i64 (by omega)]; omega
  simp (config := { implicitDefEqProofs := false }) only [↓GP, ↓GM, GQ, abuiltinX, ↓awp_seq, ↓awp_block, C_ex, Nat.reduceBEq, acap, afieldAddr, aload, astore, abin, anum, astr, aun, isAggD, cond_true, cond_false, ↓reduceIte, C_P, C_G, isTuple, Value.cells, setL, ares, aresL, ares1, reduceCtorEq, Nat.reduceEqDiff, eq_self, Nat.reduceAdd, if_true, if_false, Go.Abs.one, Nat.reduceLeDiff, undef, gsl, aextract, aindexAddr, amake, implies_true, forall_const, alen, abuiltin, anil, isC, Int.reduceEq, Int.reduceLT, Int.reduceLE, Int.reduceAdd, Int.reduceToNat, Int.reduceNeg, Nat.reduceMul, Nat.reduceSub, abuild, afill, Int.reduceBNe, Int.reduceBEq, e1]
  have e2 : IntKind.i64.wrap ((((ms + 62135596800000).toNat : Nat) : Int).tdiv 86400000) = ((dayN ms : Nat) : Int) := by rw [Int.tdiv_eq_ediv_of_nonneg (by omega), w_i64 (by omega)]; unfold dayN; omega
  have e3 : (((ms + 62135596800000).toNat : Nat) : Int).tmod 86400000 = (((ms + 62135596800000).toNat % 86400000 : Nat) : Int) := by rw [Int.tmod_eq_emod_of_nonneg (by omega)]; omega
  rw [e2, e3]
  exact hk
set_option maxRecDepth 10000 in
theorem MLeap_spec (st : St) (y : Nat) (hy : y ≤ 1000000) (k q : Value → St → Prop) (hk : k (.bool (leapN y)) st) : ACall (C base w0 G) 48 [.int .i64 y] st k q := by
  refine ACall.of (cx := C base w0 G) mixed Tryd.func48 rfl (by kernel_rfl) (by simp [Tryd.ntmps48]) ?_
  simp only [Tryd.results48]
  have e : ∀ c : Nat, (((y : Int).tmod (c : Int)) == 0) = (y % c == 0) ∧ (((y : Int).tmod (c : Int)) != 0) = (y % c != 0) := fun c => by
    rw [Int.tmod_eq_emod_of_nonneg (by omega), ← Int.natCast_emod]
    have : ((((y % c : Nat) : Int)) == 0) = (y % c == 0) := by
      rw [Bool.eq_iff_iff]; simp only [beq_iff_eq]; omega
    exact ⟨this, by simp only [bne, this]⟩
  have e4 : (((y : Int).tmod 4) == 0) = (y % 4 == 0) := (e 4).1
  have e100 : (((y : Int).tmod 100) != 0) = (y % 100 != 0) := (e 100).2
  have e400 : (((y : Int).tmod 400) == 0) = (y % 400 == 0) := (e 400).1
  unfold leapN at hk
  cases h4 : (y % 4 == 0) <;> cases h1 : (y % 100 != 0) <;> rw [h4, h1] at hk <;> rw [h4] at e4 <;> rw [h1] at e100 <;>
    simp (config := { implicitDefEqProofs := false }) only [↓GP, ↓GM, GQ, abuiltinX, ↓awp_seq, ↓awp_block, C_ex, Nat.reduceBEq, acap, afieldAddr, aload, astore, abin, anum, astr, aun, isAggD, cond_true, cond_false, ↓reduceIte, C_P, C_G, isTuple, Value.cells, setL, ares, aresL, ares1, reduceCtorEq, Nat.reduceEqDiff, eq_self, Nat.reduceAdd, if_true, if_false, Go.Abs.one, Nat.reduceLeDiff, undef, gsl, aextract, aindexAddr, amake, implies_true, forall_const, alen, abuiltin, anil, isC, Int.reduceEq, Int.reduceLT, Int.reduceLE, Int.reduceAdd, Int.reduceToNat, Int.reduceNeg, Nat.reduceMul, Nat.reduceSub, abuild, afill, Int.reduceBNe, Int.reduceBEq, e4, e100, e400] <;> first | exact hk | skip
set_option maxRecDepth 10000 in
theorem MLength_spec (st : St) (y m : Nat) (hy : y ≤ 1000000) (hm : m ≤ 1000000) (k q : Value → St → Prop) (hk : k (.int .i64 (lenN y m : Nat)) st) : ACall (C base w0 G) 49 [.int .i64 y, .int .i64 m] st k q := by
  refine ACall.of (cx := C base w0 G) mixed Tryd.func49 rfl (by kernel_rfl) (by simp [Tryd.ntmps49]) ?_
  simp only [Tryd.results49]
  have e : ∀ c : Nat, (((m : Int)) == (c : Int)) = decide (m = c) := fun c => by rw [Bool.eq_iff_iff]; simp only [beq_iff_eq, decide_eq_true_eq]; omega
  have e2 : ((m : Int) == 2) = decide (m = 2) := e 2
  have e4 : ((m : Int) == 4) = decide (m = 4) := e 4
  have e6 : ((m : Int) == 6) = decide (m = 6) := e 6
  have e9 : ((m : Int) == 9) = decide (m = 9) := e 9
  have e11 : ((m : Int) == 11) = decide (m = 11) := e 11
  unfold lenN at hk
  by_cases h2 : m = 2
  · rw [if_pos h2] at hk
    simp (config := { implicitDefEqProofs := false }) only [↓GP, ↓GM, GQ, abuiltinX, ↓awp_seq, ↓awp_block, C_ex, Nat.reduceBEq, acap, afieldAddr, aload, astore, abin, anum, astr, aun, isAggD, cond_true, cond_false, ↓reduceIte, C_P, C_G, isTuple, Value.cells, setL, ares, aresL, ares1, reduceCtorEq, Nat.reduceEqDiff, eq_self, Nat.reduceAdd, if_true, if_false, Go.Abs.one, Nat.reduceLeDiff, undef, gsl, aextract, aindexAddr, amake, implies_true, forall_const, alen, abuiltin, anil, isC, Int.reduceEq, Int.reduceLT, Int.reduceLE, Int.reduceAdd, Int.reduceToNat, Int.reduceNeg, Nat.reduceMul, Nat.reduceSub, abuild, afill, Int.reduceBNe, Int.reduceBEq, e2, h2, decide_true]
    refine ACallF.enter Tryd.func48 rfl (by kernel_rfl) (MLeap_spec st y hy _ _ ?_)
    cases hl : leapN y <;> rw [hl] at hk <;> simp (config := { implicitDefEqProofs := false }) only [↓GP, ↓GM, GQ, abuiltinX, ↓awp_seq, ↓awp_block, C_ex, Nat.reduceBEq, acap, afieldAddr, aload, astore, abin, anum, astr, aun, isAggD, cond_true, cond_false, ↓reduceIte, C_P, C_G, isTuple, Value.cells, setL, ares, aresL, ares1, reduceCtorEq, Nat.reduceEqDiff, eq_self, Nat.reduceAdd, if_true, if_false, Go.Abs.one, Nat.reduceLeDiff, undef, gsl, aextract, aindexAddr, amake, implies_true, forall_const, alen, abuiltin, anil, isC, Int.reduceEq, Int.reduceLT, Int.reduceLE, Int.reduceAdd, Int.reduceToNat, Int.reduceNeg, Nat.reduceMul, Nat.reduceSub, abuild, afill, Int.reduceBNe, Int.reduceBEq] <;> exact hk
  · rw [if_neg h2] at hk
    by_cases h4 : m = 4
    · rw [if_pos (.inl h4)] at hk
      simp (config := { implicitDefEqProofs := false }) only [↓GP, ↓GM, GQ, abuiltinX, ↓awp_seq, ↓awp_block, C_ex, Nat.reduceBEq, acap, afieldAddr, aload, astore, abin, anum, astr, aun, isAggD, cond_true, cond_false, ↓reduceIte, C_P, C_G, isTuple, Value.cells, setL, ares, aresL, ares1, reduceCtorEq, Nat.reduceEqDiff, eq_self, Nat.reduceAdd, if_true, if_false, Go.Abs.one, Nat.reduceLeDiff, undef, gsl, aextract, aindexAddr, amake, implies_true, forall_const, alen, abuiltin, anil, isC, Int.reduceEq, Int.reduceLT, Int.reduceLE, Int.reduceAdd, Int.reduceToNat, Int.reduceNeg, Nat.reduceMul, Nat.reduceSub, abuild, afill, Int.reduceBNe, Int.reduceBEq, e2, e4, e6, e9, e11, h2, h4, decide_true, decide_false]
      exact hk
    by_cases h6 : m = 6
    · rw [if_pos (.inr (.inl h6))] at hk
      simp (config := { implicitDefEqProofs := false }) only [↓GP, ↓GM, GQ, abuiltinX, ↓awp_seq, ↓awp_block, C_ex, Nat.reduceBEq, acap, afieldAddr, aload, astore, abin, anum, astr, aun, isAggD, cond_true, cond_false, ↓reduceIte, C_P, C_G, isTuple, Value.cells, setL, ares, aresL, ares1, reduceCtorEq, Nat.reduceEqDiff, eq_self, Nat.reduceAdd, if_true, if_false, Go.Abs.one, Nat.reduceLeDiff, undef, gsl, aextract, aindexAddr, amake, implies_true, forall_const, alen, abuiltin, anil, isC, Int.reduceEq, Int.reduceLT, Int.reduceLE, Int.reduceAdd, Int.reduceToNat, Int.reduceNeg, Nat.reduceMul, Nat.reduceSub, abuild, afill, Int.reduceBNe, Int.reduceBEq, e2, e4, e6, e9, e11, h2, h4, h6, decide_true, decide_false]
      exact hk
    by_cases h9 : m = 9
    · rw [if_pos (.inr (.inr (.inl h9)))] at hk
      simp (config := { implicitDefEqProofs := false }) only [↓GP, ↓GM, GQ, abuiltinX, ↓awp_seq, ↓awp_block, C_ex, Nat.reduceBEq, acap, afieldAddr, aload, astore, abin, anum, astr, aun, isAggD, cond_true, cond_false, ↓reduceIte, C_P, C_G, isTuple, Value.cells, setL, ares, aresL, ares1, reduceCtorEq, Nat.reduceEqDiff, eq_self, Nat.reduceAdd, if_true, if_false, Go.Abs.one, Nat.reduceLeDiff, undef, gsl, aextract, aindexAddr, amake, implies_true, forall_const, alen, abuiltin, anil, isC, Int.reduceEq, Int.reduceLT, Int.reduceLE, Int.reduceAdd, Int.reduceToNat, Int.reduceNeg, Nat.reduceMul, Nat.reduceSub, abuild, afill, Int.reduceBNe, Int.reduceBEq, e2, e4, e6, e9, e11, h2, h4, h6, h9, decide_true, decide_false]
      exact hk
    by_cases h11 : m = 11
    · rw [if_pos (.inr (.inr (.inr h11)))] at hk
      simp (config := { implicitDefEqProofs := false }) only [↓GP, ↓GM, GQ, abuiltinX, ↓awp_seq, ↓awp_block, C_ex, Nat.reduceBEq, acap, afieldAddr, aload, astore, abin, anum, astr, aun, isAggD, cond_true, cond_false, ↓reduceIte, C_P, C_G, isTuple, Value.cells, setL, ares, aresL, ares1, reduceCtorEq, Nat.reduceEqDiff, eq_self, Nat.reduceAdd, if_true, if_false, Go.Abs.one, Nat.reduceLeDiff, undef, gsl, aextract, aindexAddr, amake, implies_true, forall_const, alen, abuiltin, anil, isC, Int.reduceEq, Int.reduceLT, Int.reduceLE, Int.reduceAdd, Int.reduceToNat, Int.reduceNeg, Nat.reduceMul, Nat.reduceSub, abuild, afill, Int.reduceBNe, Int.reduceBEq, e2, e4, e6, e9, e11, h2, h4, h6, h9, h11, decide_true, decide_false]
      exact hk
    rw [if_neg (by omega)] at hk
    simp (config := { implicitDefEqProofs := false }) only [↓GP, ↓GM, GQ, abuiltinX, ↓awp_seq, ↓awp_block, C_ex, Nat.reduceBEq, acap, afieldAddr, aload, astore, abin, anum, astr, aun, isAggD, cond_true, cond_false, ↓reduceIte, C_P, C_G, isTuple, Value.cells, setL, ares, aresL, ares1, reduceCtorEq, Nat.reduceEqDiff, eq_self, Nat.reduceAdd, if_true, if_false, Go.Abs.one, Nat.reduceLeDiff, undef, gsl, aextract, aindexAddr, amake, implies_true, forall_const, alen, abuiltin, anil, isC, Int.reduceEq, Int.reduceLT, Int.reduceLE, Int.reduceAdd, Int.reduceToNat, Int.reduceNeg, Nat.reduceMul, Nat.reduceSub, abuild, afill, Int.reduceBNe, Int.reduceBEq, e2, e4, e6, e9, e11, h2, h4, h6, h9, h11, decide_true, decide_false]
    exact hk
theorem yrF_stop {f n y : Nat} (h : n < ysz y) : yrF f n y = (n, y) := by cases f <;> simp [yrF, h]
theorem moF_stop {f y n m : Nat} (h : n < lenN y m) : moF f y n m = (n, m) := by cases f <;> simp [moF, h]
theorem yrF_le : ∀ (f n y : Nat), n ≤ f → (yrF f n y).1 < ysz (yrF f n y).2 ∧ (yrF f n y).2 ≤ y + n
  | 0, n, y, h => by have := ysz_pos y; simp [yrF]; omega
  | f + 1, n, y, h => by
    unfold yrF
    have := ysz_pos y
    split
    · rename_i h1; exact ⟨h1, by simp⟩
    · have := yrF_le f (n - ysz y) (y + 1) (by omega)
      exact ⟨this.1, by omega⟩
theorem hA3 {a b c : Int} : (setL [Value.int .i64 0, Value.int .i64 0, Value.int .i64 0] 0 [Value.int .i64 a, Value.int .i64 b, Value.int .i64 c]) = [Value.int .i64 a, Value.int .i64 b, Value.int .i64 c] := rfl
theorem cutA3 {a b c : Value} : cut [a, b, c] 0 3 = some [a, b, c] := rfl
set_option maxRecDepth 10000 in
theorem MDate_no (st : St) (r : Hp) (ms : Int) (hm : mok ms = false) (hO : Own st r) (k q : Value → St → Prop) (hk : ∀ st', Own st' r → k (.tuple #[.agg #[.int .i64 0, .int .i64 0, .int .i64 0], .int .i64 21]) st') : ACall (C base w0 G) 31 [.int .i64 ms] st k q := by
  refine ACall.of (cx := C base w0 G) mixed Tryd.func31 rfl (by kernel_rfl) (by simp [Tryd.ntmps31]) ?_
  simp only [Tryd.results31]
  simp (config := { implicitDefEqProofs := false }) only [↓GP, ↓GM, GQ, abuiltinX, ↓awp_seq, ↓awp_block, C_ex, Nat.reduceBEq, acap, afieldAddr, aload, astore, abin, anum, astr, aun, isAggD, cond_true, cond_false, ↓reduceIte, C_P, C_G, isTuple, Value.cells, setL, ares, aresL, ares1, reduceCtorEq, Nat.reduceEqDiff, eq_self, Nat.reduceAdd, if_true, if_false, Go.Abs.one, Nat.reduceLeDiff, undef, gsl, aextract, aindexAddr, amake, implies_true, forall_const, alen, abuiltin, anil, isC, Int.reduceEq, Int.reduceLT, Int.reduceLE, Int.reduceAdd, Int.reduceToNat, Int.reduceNeg, Nat.reduceMul, Nat.reduceSub, abuild, afill, Int.reduceBNe, Int.reduceBEq, aalloc, azc74]
  have hO1 := hO.new (.cells [.int .i64 0, .int .i64 0, .int .i64 0] 74 true)
  refine ACallF.enter Tryd.func46 rfl (by kernel_rfl) (MNone_spec _ ms _ _ ?_)
  have hc := hO1.head
  rw [hm]
  simp (config := { implicitDefEqProofs := false }) only [↓GP, ↓GM, GQ, abuiltinX, ↓awp_seq, ↓awp_block, C_ex, Nat.reduceBEq, acap, afieldAddr, aload, astore, abin, anum, astr, aun, isAggD, cond_true, cond_false, ↓reduceIte, C_P, C_G, isTuple, Value.cells, setL, ares, aresL, ares1, reduceCtorEq, Nat.reduceEqDiff, eq_self, Nat.reduceAdd, if_true, if_false, Go.Abs.one, Nat.reduceLeDiff, undef, gsl, aextract, aindexAddr, amake, implies_true, forall_const, alen, abuiltin, anil, isC, Int.reduceEq, Int.reduceLT, Int.reduceLE, Int.reduceAdd, Int.reduceToNat, Int.reduceNeg, Nat.reduceMul, Nat.reduceSub, abuild, afill, Int.reduceBNe, Int.reduceBEq, Bool.not_false, hc, azc74, asz74, asz3, Tryd.underlying74, List.size_toArray, List.length_cons, List.length_nil, List.toList_toArray, List.all_cons, List.all_nil, Bool.and_true, hA3, cutA3]
  exact hk _ (hO1.set rfl (.cells [.int .i64 0, .int .i64 0, .int .i64 0] 74 true) rfl).tail
set_option maxRecDepth 10000 in
theorem MDate_spec (st : St) (r : Hp) (ms : Int) (hm : mok ms = true) (hO : Own st r) (k q : Value → St → Prop) (hk : ∀ st', Own st' r → k (.tuple #[.agg #[.int .i64 (yrOf ms).2, .int .i64 (moOf ms).2, .int .i64 ((moOf ms).1 + 1 : Nat)], .int .i64 0]) st') : ACall (C base w0 G) 31 [.int .i64 ms] st k q := by
  refine ACall.of (cx := C base w0 G) mixed Tryd.func31 rfl (by kernel_rfl) (by simp [Tryd.ntmps31]) ?_
  simp only [Tryd.results31]
  simp (config := { implicitDefEqProofs := false }) only [↓GP, ↓GM, GQ, abuiltinX, ↓awp_seq, ↓awp_block, C_ex, Nat.reduceBEq, acap, afieldAddr, aload, astore, abin, anum, astr, aun, isAggD, cond_true, cond_false, ↓reduceIte, C_P, C_G, isTuple, Value.cells, setL, ares, aresL, ares1, reduceCtorEq, Nat.reduceEqDiff, eq_self, Nat.reduceAdd, if_true, if_false, Go.Abs.one, Nat.reduceLeDiff, undef, gsl, aextract, aindexAddr, amake, implies_true, forall_const, alen, abuiltin, anil, isC, Int.reduceEq, Int.reduceLT, Int.reduceLE, Int.reduceAdd, Int.reduceToNat, Int.reduceNeg, Nat.reduceMul, Nat.reduceSub, abuild, afill, Int.reduceBNe, Int.reduceBEq, aalloc, azc74]
  have hO1 := hO.new (.cells [.int .i64 0, .int .i64 0, .int .i64 0] 74 true)
  refine ACallF.enter Tryd.func46 rfl (by kernel_rfl) (MNone_spec _ ms _ _ ?_)
  rw [hm]
  simp (config := { implicitDefEqProofs := false }) only [↓GP, ↓GM, GQ, abuiltinX, ↓awp_seq, ↓awp_block, C_ex, Nat.reduceBEq, acap, afieldAddr, aload, astore, abin, anum, astr, aun, isAggD, cond_true, cond_false, ↓reduceIte, C_P, C_G, isTuple, Value.cells, setL, ares, aresL, ares1, reduceCtorEq, Nat.reduceEqDiff, eq_self, Nat.reduceAdd, if_true, if_false, Go.Abs.one, Nat.reduceLeDiff, undef, gsl, aextract, aindexAddr, amake, implies_true, forall_const, alen, abuiltin, anil, isC, Int.reduceEq, Int.reduceLT, Int.reduceLE, Int.reduceAdd, Int.reduceToNat, Int.reduceNeg, Nat.reduceMul, Nat.reduceSub, abuild, afill, Int.reduceBNe, Int.reduceBEq, Bool.not_true]
  refine ACallF.enter Tryd.func47 rfl (by kernel_rfl) (MSplit_spec _ ms hm _ _ ?_)
  have hm' := of_decide_eq_true hm
  have hd : dayN ms ≤ 3652058 := by unfold dayN; omega
  generalize hD : dayN ms = D at *
  have e1 : IntKind.i64.wrap (1 + IntKind.i64.wrap (IntKind.i64.wrap ((D : Int).tdiv 146097) * 400)) = ((1 + D / 146097 * 400 : Nat) : Int) := by
    rw [Int.tdiv_eq_ediv_of_nonneg (by omega), w_i64 (x := (D : Int) / 146097) (by omega), w_i64 (x := (D : Int) / 146097 * 400) (by omega), w_i64 (by omega)]; omega
  have e2 : (D : Int).tmod 146097 = ((D % 146097 : Nat) : Int) := by rw [Int.tmod_eq_emod_of_nonneg (by omega)]; omega
  simp (config := { implicitDefEqProofs := false }) only [↓GP, ↓GM, GQ, abuiltinX, ↓awp_seq, ↓awp_block, C_ex, Nat.reduceBEq, acap, afieldAddr, aload, astore, abin, anum, astr, aun, isAggD, cond_true, cond_false, ↓reduceIte, C_P, C_G, isTuple, Value.cells, setL, ares, aresL, ares1, reduceCtorEq, Nat.reduceEqDiff, eq_self, Nat.reduceAdd, if_true, if_false, Go.Abs.one, Nat.reduceLeDiff, undef, gsl, aextract, aindexAddr, amake, implies_true, forall_const, alen, abuiltin, anil, isC, Int.reduceEq, Int.reduceLT, Int.reduceLE, Int.reduceAdd, Int.reduceToNat, Int.reduceNeg, Nat.reduceMul, Nat.reduceSub, abuild, afill, Int.reduceBNe, Int.reduceBEq, e1, e2]
  refine ⟨fun m ρ s => ∃ (f n y : Nat), m = n ∧ n ≤ f ∧ y + n ≤ 1000000 ∧ yrF f n y = yrOf ms ∧ ρ 2 = .pointer (some ⟨st.n, 0, none⟩) ∧ ρ 4 = .int .i64 n ∧ ρ 6 = .int .i64 y ∧ Own s ((st.n, .cells [.int .i64 0, .int .i64 0, .int .i64 0] 74 true) :: r),
    ⟨_, 146097, D % 146097, 1 + D / 146097 * 400, rfl, by omega, by omega, by rw [yrOf, yr0, hD], rfl, rfl, rfl, hO1⟩, ?_⟩
  rintro n ρ s ⟨f, _, y, rfl, hf, hyn, hF, h2, h4, h6, hs⟩
  have hy := ysz_pos y
  simp (config := { implicitDefEqProofs := false }) only [↓GP, ↓GM, GQ, abuiltinX, ↓awp_seq, ↓awp_block, C_ex, Nat.reduceBEq, acap, afieldAddr, aload, astore, abin, anum, astr, aun, isAggD, cond_true, cond_false, ↓reduceIte, C_P, C_G, isTuple, Value.cells, setL, ares, aresL, ares1, reduceCtorEq, Nat.reduceEqDiff, eq_self, Nat.reduceAdd, if_true, if_false, Go.Abs.one, Nat.reduceLeDiff, undef, gsl, aextract, aindexAddr, amake, implies_true, forall_const, alen, abuiltin, anil, isC, Int.reduceEq, Int.reduceLT, Int.reduceLE, Int.reduceAdd, Int.reduceToNat, Int.reduceNeg, Nat.reduceMul, Nat.reduceSub, abuild, afill, Int.reduceBNe, Int.reduceBEq, h2, h4, h6]
  refine ACallF.enter Tryd.func48 rfl (by kernel_rfl) (MLeap_spec s y (by omega) _ _ ?_)
  have w1 : IntKind.i64.wrap 366 = 366 := by decide
  cases hl : leapN y
  case' true => have e : ysz y = 366 := by rw [ysz, hl]; rfl
  case' false => have e : ysz y = 365 := by rw [ysz, hl]; rfl
  all_goals
    simp (config := { implicitDefEqProofs := false }) only [↓GP, ↓GM, GQ, abuiltinX, ↓awp_seq, ↓awp_block, C_ex, Nat.reduceBEq, acap, afieldAddr, aload, astore, abin, anum, astr, aun, isAggD, cond_true, cond_false, ↓reduceIte, C_P, C_G, isTuple, Value.cells, setL, ares, aresL, ares1, reduceCtorEq, Nat.reduceEqDiff, eq_self, Nat.reduceAdd, if_true, if_false, Go.Abs.one, Nat.reduceLeDiff, undef, gsl, aextract, aindexAddr, amake, implies_true, forall_const, alen, abuiltin, anil, isC, Int.reduceEq, Int.reduceLT, Int.reduceLE, Int.reduceAdd, Int.reduceToNat, Int.reduceNeg, Nat.reduceMul, Nat.reduceSub, abuild, afill, Int.reduceBNe, Int.reduceBEq, h2, h4, h6, w1]
    refine ⟨fun hlt => ?_, fun hlt => ?_⟩
    · have hlt' : n < ysz y := by omega
      rw [yrF_stop hlt'] at hF
      have hyr : (yrOf ms).1 = n ∧ (yrOf ms).2 = y := by rw [← hF]; exact ⟨rfl, rfl⟩
      refine ⟨fun m ρ s => ∃ (f n' mo : Nat), m = n' ∧ n' ≤ f ∧ mo + n' ≤ 400 ∧ moF f y n' mo = moOf ms ∧ ρ 2 = .pointer (some ⟨st.n, 0, none⟩) ∧ ρ 4 = .int .i64 n' ∧ ρ 6 = .int .i64 y ∧ ρ 8 = .int .i64 mo ∧ Own s ((st.n, .cells [.int .i64 0, .int .i64 0, .int .i64 0] 74 true) :: r),
        ⟨_, 400, n, 1, rfl, by omega, by omega, by rw [moOf, hyr.1, hyr.2], h2, h4, h6, rfl, hs⟩, ?_⟩
      rintro n' ρ s ⟨f, _, mo, rfl, hf, hmn, hM, h2, h4, h6, h8, hs⟩
      have hle := lenN_pos y mo
      simp (config := { implicitDefEqProofs := false }) only [↓GP, ↓GM, GQ, abuiltinX, ↓awp_seq, ↓awp_block, C_ex, Nat.reduceBEq, acap, afieldAddr, aload, astore, abin, anum, astr, aun, isAggD, cond_true, cond_false, ↓reduceIte, C_P, C_G, isTuple, Value.cells, setL, ares, aresL, ares1, reduceCtorEq, Nat.reduceEqDiff, eq_self, Nat.reduceAdd, if_true, if_false, Go.Abs.one, Nat.reduceLeDiff, undef, gsl, aextract, aindexAddr, amake, implies_true, forall_const, alen, abuiltin, anil, isC, Int.reduceEq, Int.reduceLT, Int.reduceLE, Int.reduceAdd, Int.reduceToNat, Int.reduceNeg, Nat.reduceMul, Nat.reduceSub, abuild, afill, Int.reduceBNe, Int.reduceBEq, h2, h4, h6, h8]
      refine ACallF.enter Tryd.func49 rfl (by kernel_rfl) (MLength_spec s y mo (by omega) (by omega) _ _ ?_)
      by_cases hge : (n' : Int) ≥ ((lenN y mo : Nat) : Int)
      · have hw : IntKind.i64.wrap ((n' : Int) - ((lenN y mo : Nat) : Int)) = ((n' - lenN y mo : Nat) : Int) := by rw [w_i64 (by omega)]; omega
        have hw2 : IntKind.i64.wrap ((mo : Int) + 1) = ((mo + 1 : Nat) : Int) := by rw [w_i64 (by omega)]; rfl
        simp (config := { implicitDefEqProofs := false }) only [↓GP, ↓GM, GQ, abuiltinX, ↓awp_seq, ↓awp_block, C_ex, Nat.reduceBEq, acap, afieldAddr, aload, astore, abin, anum, astr, aun, isAggD, cond_true, cond_false, ↓reduceIte, C_P, C_G, isTuple, Value.cells, setL, ares, aresL, ares1, reduceCtorEq, Nat.reduceEqDiff, eq_self, Nat.reduceAdd, if_true, if_false, Go.Abs.one, Nat.reduceLeDiff, undef, gsl, aextract, aindexAddr, amake, implies_true, forall_const, alen, abuiltin, anil, isC, Int.reduceEq, Int.reduceLT, Int.reduceLE, Int.reduceAdd, Int.reduceToNat, Int.reduceNeg, Nat.reduceMul, Nat.reduceSub, abuild, afill, Int.reduceBNe, Int.reduceBEq, h2, h4, h6, h8, hge, decide_true]
        refine ACallF.enter Tryd.func49 rfl (by kernel_rfl) (MLength_spec s y mo (by omega) (by omega) _ _ ?_)
        simp (config := { implicitDefEqProofs := false }) only [↓GP, ↓GM, GQ, abuiltinX, ↓awp_seq, ↓awp_block, C_ex, Nat.reduceBEq, acap, afieldAddr, aload, astore, abin, anum, astr, aun, isAggD, cond_true, cond_false, ↓reduceIte, C_P, C_G, isTuple, Value.cells, setL, ares, aresL, ares1, reduceCtorEq, Nat.reduceEqDiff, eq_self, Nat.reduceAdd, if_true, if_false, Go.Abs.one, Nat.reduceLeDiff, undef, gsl, aextract, aindexAddr, amake, implies_true, forall_const, alen, abuiltin, anil, isC, Int.reduceEq, Int.reduceLT, Int.reduceLE, Int.reduceAdd, Int.reduceToNat, Int.reduceNeg, Nat.reduceMul, Nat.reduceSub, abuild, afill, Int.reduceBNe, Int.reduceBEq, h2, h4, h6, h8, hw, hw2]
        refine ⟨n' - lenN y mo, by omega, f - 1, _, mo + 1, rfl, by omega, by omega, ?_, rfl, rfl, hs⟩
        cases f with
        | zero => omega
        | succ f => rw [moF, if_neg (by omega)] at hM; exact hM
      · have hcs := hs.head
        have hw3 : IntKind.i64.wrap ((n' : Int) + 1) = ((n' + 1 : Nat) : Int) := by rw [w_i64 (by omega)]; rfl
        simp (config := { implicitDefEqProofs := false }) only [↓GP, ↓GM, GQ, abuiltinX, ↓awp_seq, ↓awp_block, C_ex, Nat.reduceBEq, acap, afieldAddr, aload, astore, abin, anum, astr, aun, isAggD, cond_true, cond_false, ↓reduceIte, C_P, C_G, isTuple, Value.cells, setL, ares, aresL, ares1, reduceCtorEq, Nat.reduceEqDiff, eq_self, Nat.reduceAdd, if_true, if_false, Go.Abs.one, Nat.reduceLeDiff, undef, gsl, aextract, aindexAddr, amake, implies_true, forall_const, alen, abuiltin, anil, isC, Int.reduceEq, Int.reduceLT, Int.reduceLE, Int.reduceAdd, Int.reduceToNat, Int.reduceNeg, Nat.reduceMul, Nat.reduceSub, abuild, afill, Int.reduceBNe, Int.reduceBEq, h2, h4, h6, h8, hge, decide_false, azc74, asz74, asz3, Tryd.underlying74, hcs, hw3, List.length_cons, List.length_nil, List.size_toArray, List.toList_toArray, List.all_cons, List.all_nil, Bool.and_true, and_self, Nat.zero_add, Nat.one_mul, Nat.mul_one, setL, cutA3, Option.map_some]
        rw [moF_stop (by omega)] at hM
        have := hk _ (hs.set rfl (.cells [.int .i64 y, .int .i64 mo, .int .i64 (n' + 1 : Nat)] 74 true) rfl).tail
        rw [hyr.2, ← hM] at this
        exact this
    · refine ⟨n - ysz y, by omega, f - 1, _, y + 1, rfl, by omega, by omega, ?_, ?_, ?_, hs⟩
      · cases f with
        | zero => omega
        | succ f => rw [yrF, if_neg (by omega)] at hF; exact hF
      · rw [w_i64 (by omega)]; congr 1; omega
      · rw [w_i64 (by omega)]; rfl
end Go.Proofs.YthohmdkibkompaaDoor
