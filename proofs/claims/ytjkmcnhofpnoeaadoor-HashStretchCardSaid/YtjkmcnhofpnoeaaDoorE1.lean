/- Contracts of the program's functions over the abstract heap, and what follows from them (a part of the proof of this seat's laws). No conditions. -/
import Derived.Test.YtjkmcnhofpnoeaaDoorAbsT
import Derived.Test.YtjkmcnhofpnoeaaDoorAbsV
set_option linter.unusedVariables false
set_option linter.unusedSimpArgs false
namespace Go.Proofs.YtjkmcnhofpnoeaaDoor
open Go Go.Abs
variable {base : Nat} {w0 : World} {G : Nat}

def lowN (x : Nat) : Nat → Nat
  | 0 => x
  | n + 1 => lowN x n / 2
def rotN (x : Nat) : Nat → Nat
  | 0 => x
  | n + 1 => rotN x n / 2 + rotN x n % 2 * 2147483648
theorem lowN_le (x : Nat) : ∀ n, lowN x n ≤ x
  | 0 => Nat.le_refl _
  | n + 1 => by have := lowN_le x n; unfold lowN; omega
theorem rotN_lt {x : Nat} (h : x < 4294967296) : ∀ n, rotN x n < 4294967296
  | 0 => h
  | n + 1 => by have := rotN_lt h n; unfold rotN; omega

set_option maxRecDepth 10000 in
theorem low_spec (st : St) (x n : Nat) (hx : x < 4294967296) (hn : n ≤ 1000) (k q : Value → St → Prop) (hk : k (.int .u32 (lowN x n : Nat)) st) :
    ACall (C base w0 G) 23 [.int .u32 x, .int .i64 n] st k q := by
  refine ACall.of (cx := C base w0 G) mixed Tryd.func23 rfl (by kernel_rfl) (by simp [Tryd.ntmps23]) ?_
  simp only [Tryd.results23]
  simp (config := { implicitDefEqProofs := false }) only [↓GP, GQ, ↓awp_seq, ↓awp_block, C_ex, Nat.reduceBEq, acap, afieldAddr, aload, astore, abin, anum, astr, aun, isAggD, cond_true, cond_false, ↓reduceIte, C_P, C_G, isTuple, Value.cells, setL, ares, aresL, ares1, reduceCtorEq, Nat.reduceEqDiff, eq_self, Nat.reduceAdd, if_true, if_false, one, Nat.reduceLeDiff, undef, gsl, aextract, aindexAddr, amake, implies_true, forall_const, alen, abuiltin, anil, isC, Int.reduceEq, Int.reduceLT, Int.reduceLE, Int.reduceAdd, Int.reduceToNat, Int.reduceNeg, Nat.reduceMul, Nat.reduceSub, abuild, afill, Int.reduceBNe, Int.reduceBEq]
  refine ⟨fun m ρ s => ∃ i : Nat, m = n - i ∧ i ≤ n ∧ ρ 0 = .int .u32 (lowN x i : Nat) ∧ ρ 1 = .int .i64 n ∧ ρ 5 = .int .i64 i ∧ s = st, ⟨n, 0, rfl, Nat.zero_le _, rfl, rfl, rfl, rfl⟩, ?_⟩
  rintro m ρ s ⟨i, rfl, hi, h0, h1, h5, rfl⟩
  have hle := lowN_le x i
  by_cases him : i < n
  · have hq : IntKind.u32.wrap (((lowN x i : Nat) : Int).tdiv 2) = (lowN x (i + 1) : Nat) := by
      rw [Int.tdiv_eq_ediv_of_nonneg (by omega), w_u32 (by omega)]
      show _ = ((lowN x i / 2 : Nat) : Int)
      omega
    simp (config := { implicitDefEqProofs := false }) only [↓GP, GQ, ↓awp_seq, ↓awp_block, C_ex, Nat.reduceBEq, acap, afieldAddr, aload, astore, abin, anum, astr, aun, isAggD, cond_true, cond_false, ↓reduceIte, C_P, C_G, isTuple, Value.cells, setL, ares, aresL, ares1, reduceCtorEq, Nat.reduceEqDiff, eq_self, Nat.reduceAdd, if_true, if_false, one, Nat.reduceLeDiff, undef, gsl, aextract, aindexAddr, amake, implies_true, forall_const, alen, abuiltin, anil, isC, Int.reduceEq, Int.reduceLT, Int.reduceLE, Int.reduceAdd, Int.reduceToNat, Int.reduceNeg, Nat.reduceMul, Nat.reduceSub, abuild, afill, Int.reduceBNe, Int.reduceBEq, h0, h1, h5, him, Int.ofNat_lt, decide_true, Tryd.underlying3, hq]
    exact ⟨n - (i + 1), by omega, i + 1, rfl, by omega, rfl, by rw [w_i64 (by omega)]; rfl⟩
  · obtain rfl : i = n := by omega
    simp (config := { implicitDefEqProofs := false }) only [↓GP, GQ, ↓awp_seq, ↓awp_block, C_ex, Nat.reduceBEq, acap, afieldAddr, aload, astore, abin, anum, astr, aun, isAggD, cond_true, cond_false, ↓reduceIte, C_P, C_G, isTuple, Value.cells, setL, ares, aresL, ares1, reduceCtorEq, Nat.reduceEqDiff, eq_self, Nat.reduceAdd, if_true, if_false, one, Nat.reduceLeDiff, undef, gsl, aextract, aindexAddr, amake, implies_true, forall_const, alen, abuiltin, anil, isC, Int.reduceEq, Int.reduceLT, Int.reduceLE, Int.reduceAdd, Int.reduceToNat, Int.reduceNeg, Nat.reduceMul, Nat.reduceSub, abuild, afill, Int.reduceBNe, Int.reduceBEq, h0, h1, h5, him, Int.ofNat_lt, decide_false, Tryd.underlying3]
    exact hk

set_option maxRecDepth 10000 in
theorem rot_spec (st : St) (x n : Nat) (hx : x < 4294967296) (hn : n ≤ 1000) (k q : Value → St → Prop) (hk : k (.int .u32 (rotN x n : Nat)) st) :
    ACall (C base w0 G) 22 [.int .u32 x, .int .i64 n] st k q := by
  refine ACall.of (cx := C base w0 G) mixed Tryd.func22 rfl (by kernel_rfl) (by simp [Tryd.ntmps22]) ?_
  simp only [Tryd.results22]
  simp (config := { implicitDefEqProofs := false }) only [↓GP, GQ, ↓awp_seq, ↓awp_block, C_ex, Nat.reduceBEq, acap, afieldAddr, aload, astore, abin, anum, astr, aun, isAggD, cond_true, cond_false, ↓reduceIte, C_P, C_G, isTuple, Value.cells, setL, ares, aresL, ares1, reduceCtorEq, Nat.reduceEqDiff, eq_self, Nat.reduceAdd, if_true, if_false, one, Nat.reduceLeDiff, undef, gsl, aextract, aindexAddr, amake, implies_true, forall_const, alen, abuiltin, anil, isC, Int.reduceEq, Int.reduceLT, Int.reduceLE, Int.reduceAdd, Int.reduceToNat, Int.reduceNeg, Nat.reduceMul, Nat.reduceSub, abuild, afill, Int.reduceBNe, Int.reduceBEq]
  refine ⟨fun m ρ s => ∃ i : Nat, m = n - i ∧ i ≤ n ∧ ρ 0 = .int .u32 (rotN x i : Nat) ∧ ρ 1 = .int .i64 n ∧ ρ 5 = .int .i64 i ∧ s = st, ⟨n, 0, rfl, Nat.zero_le _, rfl, rfl, rfl, rfl⟩, ?_⟩
  rintro m ρ s ⟨i, rfl, hi, h0, h1, h5, rfl⟩
  have hle := rotN_lt hx i
  by_cases him : i < n
  · have hq : IntKind.u32.wrap (IntKind.u32.wrap (((rotN x i : Nat) : Int).tdiv 2) + IntKind.u32.wrap (((rotN x i : Nat) : Int).tmod 2 * 2147483648)) = (rotN x (i + 1) : Nat) := by
      rw [Int.tdiv_eq_ediv_of_nonneg (by omega), Int.tmod_eq_emod_of_nonneg (by omega), w_u32 (x := (rotN x i : Int) / 2) (by omega), w_u32 (x := (rotN x i : Int) % 2 * 2147483648) (by omega), w_u32 (by omega)]
      show _ = ((rotN x i / 2 + rotN x i % 2 * 2147483648 : Nat) : Int)
      omega
    simp (config := { implicitDefEqProofs := false }) only [↓GP, GQ, ↓awp_seq, ↓awp_block, C_ex, Nat.reduceBEq, acap, afieldAddr, aload, astore, abin, anum, astr, aun, isAggD, cond_true, cond_false, ↓reduceIte, C_P, C_G, isTuple, Value.cells, setL, ares, aresL, ares1, reduceCtorEq, Nat.reduceEqDiff, eq_self, Nat.reduceAdd, if_true, if_false, one, Nat.reduceLeDiff, undef, gsl, aextract, aindexAddr, amake, implies_true, forall_const, alen, abuiltin, anil, isC, Int.reduceEq, Int.reduceLT, Int.reduceLE, Int.reduceAdd, Int.reduceToNat, Int.reduceNeg, Nat.reduceMul, Nat.reduceSub, abuild, afill, Int.reduceBNe, Int.reduceBEq, h0, h1, h5, him, Int.ofNat_lt, decide_true, Tryd.underlying3, hq]
    exact ⟨n - (i + 1), by omega, i + 1, rfl, by omega, rfl, by rw [w_i64 (by omega)]; rfl⟩
  · obtain rfl : i = n := by omega
    simp (config := { implicitDefEqProofs := false }) only [↓GP, GQ, ↓awp_seq, ↓awp_block, C_ex, Nat.reduceBEq, acap, afieldAddr, aload, astore, abin, anum, astr, aun, isAggD, cond_true, cond_false, ↓reduceIte, C_P, C_G, isTuple, Value.cells, setL, ares, aresL, ares1, reduceCtorEq, Nat.reduceEqDiff, eq_self, Nat.reduceAdd, if_true, if_false, one, Nat.reduceLeDiff, undef, gsl, aextract, aindexAddr, amake, implies_true, forall_const, alen, abuiltin, anil, isC, Int.reduceEq, Int.reduceLT, Int.reduceLE, Int.reduceAdd, Int.reduceToNat, Int.reduceNeg, Nat.reduceMul, Nat.reduceSub, abuild, afill, Int.reduceBNe, Int.reduceBEq, h0, h1, h5, him, Int.ofNat_lt, decide_false, Tryd.underlying3]
    exact hk
end Go.Proofs.YtjkmcnhofpnoeaaDoor
