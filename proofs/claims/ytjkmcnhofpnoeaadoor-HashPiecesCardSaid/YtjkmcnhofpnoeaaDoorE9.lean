/- The reference's roots and primes. No conditions. -/
import Derived.Test.YtjkmcnhofpnoeaaDoorE8
set_option linter.unusedVariables false
set_option linter.unusedSimpArgs false
namespace Go.Proofs.YtjkmcnhofpnoeaaDoor
open Go Go.Abs Go.RowKit
variable {base : Nat} {w0 : World} {G : Nat}

def rootI (p : Nat) (cube : Bool) : Nat → Nat
  | 0 => 0
  | i + 1 => bif belowN (rootI p cube i + 2 ^ (36 - i)) p cube then rootI p cube i + 2 ^ (36 - i) else rootI p cube i
theorem rootI_le (p : Nat) (cube : Bool) : ∀ i, rootI p cube i ≤ i * 68719476736
  | 0 => by simp [rootI]
  | i + 1 => by
    have := rootI_le p cube i
    have h2 : 2 ^ (36 - i) ≤ 68719476736 := Nat.le_trans (Nat.pow_le_pow_right (by decide) (show 36 - i ≤ 36 by omega)) (by decide +kernel)
    unfold rootI
    generalize 2 ^ (36 - i) = z at *
    generalize rootI p cube i = y at *
    rw [Nat.add_mul, Nat.one_mul]
    cases belowN (y + z) p cube
    · exact Nat.le_trans this (Nat.le_add_right _ _)
    · exact Nat.add_le_add this h2
theorem tmod32 (y : Nat) : ((y : Int).tmod 4294967296) = ((y % 4294967296 : Nat) : Int) := by
  rw [Int.tmod_eq_emod_of_nonneg (by omega)]; omega
set_option maxRecDepth 10000 in
theorem root_spec (st : St) (r : Hp) (p : Nat) (cube : Bool) (hp : p < 18446744073709551616) (hO : Own st r) (k q : Value → St → Prop)
    (hk : ∀ st', Own st' r → k (.int .u32 (rootI p cube 37 % 4294967296 : Nat)) st') :
    ACall (C base w0 G) 33 [.int .u64 p, .bool cube] st k q := by
  refine ACall.of (cx := C base w0 G) mixed Tryd.func33 rfl (by kernel_rfl) (by simp [Tryd.ntmps33]) ?_
  simp only [Tryd.results33]
  simp (config := { implicitDefEqProofs := false }) only [↓GP, GQ, ↓awp_seq, ↓awp_block, C_ex, Nat.reduceBEq, acap, afieldAddr, aload, astore, abin, anum, astr, aun, isAggD, cond_true, cond_false, ↓reduceIte, C_P, C_G, isTuple, Value.cells, setL, ares, aresL, ares1, reduceCtorEq, Nat.reduceEqDiff, eq_self, Nat.reduceAdd, if_true, if_false, one, Nat.reduceLeDiff, undef, gsl, aextract, aindexAddr, amake, implies_true, forall_const, alen, abuiltin, anil, isC, Int.reduceEq, Int.reduceLT, Int.reduceLE, Int.reduceAdd, Int.reduceToNat, Int.reduceNeg, Nat.reduceMul, Nat.reduceSub, abuild, afill, Int.reduceBNe, Int.reduceBEq]
  refine ⟨fun m ρ s => ∃ i : Nat, m = 37 - i ∧ i ≤ 37 ∧ ρ 0 = .int .u64 p ∧ ρ 1 = .bool cube ∧ ρ 5 = .int .u64 (rootI p cube i : Nat) ∧ ρ 6 = .int .i64 (36 - (i : Int)) ∧ Own s r, ⟨37, 0, rfl, by decide, rfl, rfl, rfl, rfl, hO⟩, ?_⟩
  rintro m ρ s ⟨i, rfl, hi, h0, h1, h5, h6, hs⟩
  have hle := rootI_le p cube i
  by_cases him : i < 37
  · have h6' : (36 - (i : Int)) = ((36 - i : Nat) : Int) := by omega
    rw [h6'] at h6
    have h2 : 2 ^ (36 - i) ≤ 68719476736 := Nat.le_trans (Nat.pow_le_pow_right (by decide) (show 36 - i ≤ 36 by omega)) (by decide +kernel)
    have hw : IntKind.u64.wrap (((rootI p cube i : Nat) : Int) + ((2 ^ (36 - i) : Nat) : Int)) = ((rootI p cube i + 2 ^ (36 - i) : Nat) : Int) := by
      generalize 2 ^ (36 - i) = z at *
      rw [w_u64 (by omega)]; omega
    simp (config := { implicitDefEqProofs := false }) only [↓GP, GQ, ↓awp_seq, ↓awp_block, C_ex, Nat.reduceBEq, acap, afieldAddr, aload, astore, abin, anum, astr, aun, isAggD, cond_true, cond_false, ↓reduceIte, C_P, C_G, isTuple, Value.cells, setL, ares, aresL, ares1, reduceCtorEq, Nat.reduceEqDiff, eq_self, Nat.reduceAdd, if_true, if_false, one, Nat.reduceLeDiff, undef, gsl, aextract, aindexAddr, amake, implies_true, forall_const, alen, abuiltin, anil, isC, Int.reduceEq, Int.reduceLT, Int.reduceLE, Int.reduceAdd, Int.reduceToNat, Int.reduceNeg, Nat.reduceMul, Nat.reduceSub, abuild, afill, Int.reduceBNe, Int.reduceBEq, h0, h1, h5, h6, show ((36 - i : Nat) : Int) ≥ 0 by omega, decide_true, Tryd.underlying3]
    refine ACallF.enter Tryd.func37 rfl (by kernel_rfl) (shift_spec s (36 - i) (by omega) _ _ ?_)
    simp (config := { implicitDefEqProofs := false }) only [↓GP, GQ, ↓awp_seq, ↓awp_block, C_ex, Nat.reduceBEq, acap, afieldAddr, aload, astore, abin, anum, astr, aun, isAggD, cond_true, cond_false, ↓reduceIte, C_P, C_G, isTuple, Value.cells, setL, ares, aresL, ares1, reduceCtorEq, Nat.reduceEqDiff, eq_self, Nat.reduceAdd, if_true, if_false, one, Nat.reduceLeDiff, undef, gsl, aextract, aindexAddr, amake, implies_true, forall_const, alen, abuiltin, anil, isC, Int.reduceEq, Int.reduceLT, Int.reduceLE, Int.reduceAdd, Int.reduceToNat, Int.reduceNeg, Nat.reduceMul, Nat.reduceSub, abuild, afill, Int.reduceBNe, Int.reduceBEq, h0, h1, h5, h6, hw, Tryd.underlying46]
    refine ACallF.enter Tryd.func38 rfl (by kernel_rfl) (below_spec s r _ p cube (by omega) hp hs _ _ fun s' hs' => ?_)
    have e : rootI p cube (i + 1) = bif belowN (rootI p cube i + 2 ^ (36 - i)) p cube then rootI p cube i + 2 ^ (36 - i) else rootI p cube i := rfl
    cases hb : belowN (rootI p cube i + 2 ^ (36 - i)) p cube <;> rw [hb] at e <;> simp only [cond_true, cond_false] at e <;>
      simp (config := { implicitDefEqProofs := false }) only [↓GP, GQ, ↓awp_seq, ↓awp_block, C_ex, Nat.reduceBEq, acap, afieldAddr, aload, astore, abin, anum, astr, aun, isAggD, cond_true, cond_false, ↓reduceIte, C_P, C_G, isTuple, Value.cells, setL, ares, aresL, ares1, reduceCtorEq, Nat.reduceEqDiff, eq_self, Nat.reduceAdd, if_true, if_false, one, Nat.reduceLeDiff, undef, gsl, aextract, aindexAddr, amake, implies_true, forall_const, alen, abuiltin, anil, isC, Int.reduceEq, Int.reduceLT, Int.reduceLE, Int.reduceAdd, Int.reduceToNat, Int.reduceNeg, Nat.reduceMul, Nat.reduceSub, abuild, afill, Int.reduceBNe, Int.reduceBEq, h0, h1, h5, h6, hw, Tryd.underlying3, e]
    · exact ⟨37 - (i + 1), by omega, i + 1, rfl, by omega, by rw [e], by rw [w_i64 (by omega)]; congr 1; omega, hs'⟩
    · exact ⟨37 - (i + 1), by omega, i + 1, rfl, by omega, by rw [e], by rw [w_i64 (by omega)]; congr 1; omega, hs'⟩
  · obtain rfl : i = 37 := by omega
    have hm := tmod32 (rootI p cube 37)
    have hw := w_u32 (x := ((rootI p cube 37 % 4294967296 : Nat) : Int)) (by omega)
    simp (config := { implicitDefEqProofs := false }) only [↓GP, GQ, ↓awp_seq, ↓awp_block, C_ex, Nat.reduceBEq, acap, afieldAddr, aload, astore, abin, anum, astr, aun, isAggD, cond_true, cond_false, ↓reduceIte, C_P, C_G, isTuple, Value.cells, setL, ares, aresL, ares1, reduceCtorEq, Nat.reduceEqDiff, eq_self, Nat.reduceAdd, if_true, if_false, one, Nat.reduceLeDiff, undef, gsl, aextract, aindexAddr, amake, implies_true, forall_const, alen, abuiltin, anil, isC, Int.reduceEq, Int.reduceLT, Int.reduceLE, Int.reduceAdd, Int.reduceToNat, Int.reduceNeg, Nat.reduceMul, Nat.reduceSub, abuild, afill, Int.reduceBNe, Int.reduceBEq, h0, h1, h5, h6, hm, show ¬ (36 - ((37 : Nat) : Int)) ≥ 0 by decide, decide_false, Tryd.underlying3, Tryd.underlying46, Tryd.underlying47, aconv, hw]
    exact ⟨fun h => absurd h (by decide), fun _ => hk _ hs⟩

def prs : Nat → List Nat
  | 0 => []
  | i + 1 => bif (prs i).all (fun d => (2 + i) % d != 0) then prs i ++ [2 + i] else prs i
theorem prs_ge : ∀ i, ∀ d ∈ prs i, 2 ≤ d ∧ d < 2 + i
  | 0, d, h => by simp [prs] at h
  | i + 1, d, h => by
    have ih := prs_ge i
    unfold prs at h
    cases hc : (prs i).all (fun d => (2 + i) % d != 0) <;> rw [hc] at h <;> simp only [cond_true, cond_false] at h
    · have := ih d h; omega
    · simp only [List.mem_append, List.mem_singleton] at h
      rcases h with h | rfl
      · have := ih d h; omega
      · omega
theorem prs_mono : ∀ i, (prs i).length ≤ (prs (i + 1)).length := by
  intro i
  rw [prs]
  cases (prs i).all (fun d => (2 + i) % d != 0) <;> simp
theorem prs_le : ∀ n i, (prs i).length ≤ (prs (i + n)).length
  | 0, i => Nat.le_refl _
  | n + 1, i => Nat.le_trans (prs_le n i) (prs_mono (i + n))
theorem prs_len (i : Nat) : (prs i).length ≤ i := by
  induction i with
  | zero => exact Nat.le_refl _
  | succ i ih =>
    rw [prs]
    cases (prs i).all (fun d => (2 + i) % d != 0) <;> simp <;> omega
theorem prs_310 : prs 310 = [2, 3, 5, 7, 11, 13, 17, 19, 23, 29, 31, 37, 41, 43, 47, 53, 59, 61, 67, 71, 73, 79, 83, 89, 97, 101, 103, 107, 109, 113, 127, 131, 137, 139, 149, 151, 157, 163, 167, 173, 179, 181, 191, 193, 197, 199, 211, 223, 227, 229, 233, 239, 241, 251, 257, 263, 269, 271, 277, 281, 283, 293, 307, 311] := by decide +kernel
theorem prs_309 : (prs 309).length = 63 := by decide +kernel
theorem prs_lt {i : Nat} (hi : i ≤ 310) : (prs i).length < 64 ↔ i < 310 := by
  constructor
  · intro h
    by_cases h2 : i = 310
    · subst h2; rw [prs_310] at h; simp at h
    · omega
  · intro h
    have := prs_le (309 - i) i
    rw [show i + (309 - i) = 309 by omega, prs_309] at this
    omega
end Go.Proofs.YtjkmcnhofpnoeaaDoor
