/- Contracts of the program's functions over the abstract heap, and what follows from them (a part of the proof of this seat's laws). No conditions. -/
import Derived.Test.YtjkmcnhofpnoeaaDoorE3
set_option linter.unusedVariables false
set_option linter.unusedSimpArgs false
namespace Go.Proofs.YtjkmcnhofpnoeaaDoor
open Go Go.Abs Go.RowKit
variable {base : Nat} {w0 : World} {G : Nat}

def ul (l : List Nat) : List Value := l.map fun n => .int .u64 (n : Nat)
def partsN (x : Nat) : Nat → List Nat
  | 0 => []
  | n + 1 => partsN x n ++ [x / 65536 ^ n % 65536]

theorem tmod16 (y : Nat) : ((y : Int).tmod 65536) = ((y % 65536 : Nat) : Int) := by
  rw [Int.tmod_eq_emod_of_nonneg (by omega)]; omega
theorem tdiv16 (y : Nat) (h : y < 18446744073709551616) : IntKind.u64.wrap ((y : Int).tdiv 65536) = ((y / 65536 : Nat) : Int) := by
  rw [Int.tdiv_eq_ediv_of_nonneg (by omega)]
  simp [IntKind.wrap, IntKind.bits, IntKind.signed]; omega
set_option maxRecDepth 10000 in
theorem parts_spec (st : St) (r : Hp) (x : Nat) (hx : x < 18446744073709551616) (hO : Own st r) (k q : Value → St → Prop)
    (hk : ∀ v hg st', GV v (ul (partsN x 4)) 4 1 46 hg → Own st' (hg ++ r) → k v st') :
    ACall (C base w0 G) 42 [.int .u64 x] st k q := by
  refine ACall.of (cx := C base w0 G) mixed Tryd.func42 rfl (by kernel_rfl) (by simp [Tryd.ntmps42]) ?_
  simp only [Tryd.results42]
  simp (config := { implicitDefEqProofs := false }) only [↓GP, GQ, ↓awp_seq, ↓awp_block, C_ex, Nat.reduceBEq, acap, afieldAddr, aload, astore, abin, anum, astr, aun, isAggD, cond_true, cond_false, ↓reduceIte, C_P, C_G, isTuple, Value.cells, setL, ares, aresL, ares1, reduceCtorEq, Nat.reduceEqDiff, eq_self, Nat.reduceAdd, if_true, if_false, one, Nat.reduceLeDiff, undef, gsl, aextract, aindexAddr, amake, implies_true, forall_const, alen, abuiltin, anil, isC, Int.reduceEq, Int.reduceLT, Int.reduceLE, Int.reduceAdd, Int.reduceToNat, Int.reduceNeg, Nat.reduceMul, Nat.reduceSub, abuild, afill, Int.reduceBNe, Int.reduceBEq]
  refine ⟨fun m ρ s => ∃ (i : Nat) (v : Value) (hg : Hp), m = 4 - i ∧ i ≤ 4 ∧ ρ 0 = .int .u64 (x / 65536 ^ i : Nat) ∧ ρ 3 = v ∧ ρ 4 = .int .i64 i ∧ GV v (ul (partsN x i)) i 1 46 hg ∧ Own s (hg ++ r), ⟨4, 0, _, [], rfl, by decide, by rw [Nat.pow_zero, Nat.div_one]; rfl, rfl, rfl, GV.nil, hO⟩, ?_⟩
  rintro m ρ s ⟨i, v, hg, rfl, hi, h0, h3, h4, hG, hs⟩
  by_cases him : i < 4
  · have hle : x / 65536 ^ i ≤ x := Nat.div_le_self _ _
    have hm := tmod16 (x / 65536 ^ i)
    have hd := tdiv16 (x / 65536 ^ i) (by omega)
    rw [Nat.div_div_eq_div_mul, ← Nat.pow_succ] at hd
    simp (config := { implicitDefEqProofs := false }) only [↓GP, GQ, ↓awp_seq, ↓awp_block, C_ex, Nat.reduceBEq, acap, afieldAddr, aload, astore, abin, anum, astr, aun, isAggD, cond_true, cond_false, ↓reduceIte, C_P, C_G, isTuple, Value.cells, setL, ares, aresL, ares1, reduceCtorEq, Nat.reduceEqDiff, eq_self, Nat.reduceAdd, if_true, if_false, one, Nat.reduceLeDiff, undef, gsl, aextract, aindexAddr, amake, implies_true, forall_const, alen, abuiltin, anil, isC, Int.reduceEq, Int.reduceLT, Int.reduceLE, Int.reduceAdd, Int.reduceToNat, Int.reduceNeg, Nat.reduceMul, Nat.reduceSub, abuild, afill, Int.reduceBNe, Int.reduceBEq, h0, h3, h4, show (i : Int) < 4 by omega, decide_true, hm, abuildSlice_one (st := s) (v := .int .u64 (x / 65536 ^ i % 65536 : Nat)) Tryd.underlying62 asz46 azc46 rfl rfl rfl (by decide), Value.cells]
    refine GV.append1 Tryd.underlying62 (by rw [Tryd.underlying62]; rfl) asz46 azc46 aby46 hG hs rfl rfl (by omega) fun v' hg' s' hG' hs' => ?_
    simp (config := { implicitDefEqProofs := false }) only [↓GP, GQ, ↓awp_seq, ↓awp_block, C_ex, Nat.reduceBEq, acap, afieldAddr, aload, astore, abin, anum, astr, aun, isAggD, cond_true, cond_false, ↓reduceIte, C_P, C_G, isTuple, Value.cells, setL, ares, aresL, ares1, reduceCtorEq, Nat.reduceEqDiff, eq_self, Nat.reduceAdd, if_true, if_false, one, Nat.reduceLeDiff, undef, gsl, aextract, aindexAddr, amake, implies_true, forall_const, alen, abuiltin, anil, isC, Int.reduceEq, Int.reduceLT, Int.reduceLE, Int.reduceAdd, Int.reduceToNat, Int.reduceNeg, Nat.reduceMul, Nat.reduceSub, abuild, afill, Int.reduceBNe, Int.reduceBEq, h0, h3, h4, hd]
    refine ⟨4 - (i + 1), by omega, i + 1, v', hg', rfl, by omega, rfl, rfl, by rw [w_i64 (by omega)]; rfl, ?_, hs'⟩
    simpa [ul, partsN] using hG'
  · obtain rfl : i = 4 := by omega
    simp (config := { implicitDefEqProofs := false }) only [↓GP, GQ, ↓awp_seq, ↓awp_block, C_ex, Nat.reduceBEq, acap, afieldAddr, aload, astore, abin, anum, astr, aun, isAggD, cond_true, cond_false, ↓reduceIte, C_P, C_G, isTuple, Value.cells, setL, ares, aresL, ares1, reduceCtorEq, Nat.reduceEqDiff, eq_self, Nat.reduceAdd, if_true, if_false, one, Nat.reduceLeDiff, undef, gsl, aextract, aindexAddr, amake, implies_true, forall_const, alen, abuiltin, anil, isC, Int.reduceEq, Int.reduceLT, Int.reduceLE, Int.reduceAdd, Int.reduceToNat, Int.reduceNeg, Nat.reduceMul, Nat.reduceSub, abuild, afill, Int.reduceBNe, Int.reduceBEq, h0, h3, h4]
    exact hk _ _ _ hG hs
end Go.Proofs.YtjkmcnhofpnoeaaDoor
