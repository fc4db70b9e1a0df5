/- Contracts of the program's functions over the abstract heap, and what follows from them (a part of the proof of this seat's laws). No conditions. -/
import Derived.Test.YtjkmcnhofpnoeaaDoorE2
set_option linter.unusedVariables false
set_option linter.unusedSimpArgs false
namespace Go.Proofs.YtjkmcnhofpnoeaaDoor
open Go Go.Abs Go.RowKit
variable {base : Nat} {w0 : World} {G : Nat}

theorem rotN_eq {x : Nat} (h : x < 4294967296) : ∀ n, n ≤ 32 → rotN x n = x / 2 ^ n + x % 2 ^ n * 2 ^ (32 - n)
  | 0, _ => by simp [rotN, Nat.mod_one]
  | n + 1, hn => by
    have ih := rotN_eq h n (by omega)
    have e1 : 2 ^ (32 - n) = 2 * 2 ^ (32 - (n + 1)) := by rw [show 32 - n = 32 - (n + 1) + 1 by omega, Nat.pow_succ]; omega
    have e2 : (2147483648 : Nat) = 2 ^ n * 2 ^ (32 - (n + 1)) := by rw [← Nat.pow_add, show n + (32 - (n + 1)) = 31 by omega]
    have hp : 0 < 2 ^ n := Nat.two_pow_pos n
    unfold rotN
    rw [ih, e1, e2, Nat.pow_succ, ← Nat.div_div_eq_div_mul]
    generalize 2 ^ (32 - (n + 1)) = c
    have hm : x % (2 ^ n * 2) = x % 2 ^ n + 2 ^ n * (x / 2 ^ n % 2) := Nat.mod_mul
    rw [hm]
    generalize x / 2 ^ n = u
    generalize x % 2 ^ n = v
    generalize 2 ^ n = p
    rw [show v * (2 * c) = 2 * (v * c) by rw [Nat.mul_left_comm], show u + 2 * (v * c) = u + (v * c) * 2 by omega, Nat.add_mul_div_right _ _ (by decide), Nat.add_mul_mod_self_right, Nat.add_mul]
    have : u % 2 * (p * c) = p * (u % 2) * c := by rw [← Nat.mul_assoc, Nat.mul_comm (u % 2) p]
    omega

/-- To the right, as shifts have it. -/
theorem rot_or {x r : Nat} (h : x < 4294967296) (hr : r ≤ 32) : ((x * 2 ^ (32 - r)) % 4294967296) ||| (x / 2 ^ r) = rotN x r := by
  rw [rotN_eq h r hr]
  have hp : 2 ^ r * 2 ^ (32 - r) = 4294967296 := by rw [← Nat.pow_add, show r + (32 - r) = 32 by omega]
  have h1 : (x * 2 ^ (32 - r)) % 4294967296 = x % 2 ^ r * 2 ^ (32 - r) := by
    rw [← hp, Nat.mul_mod_mul_right]
  have h2 : x / 2 ^ r < 2 ^ (32 - r) := by
    rw [Nat.div_lt_iff_lt_mul (Nat.two_pow_pos r), Nat.mul_comm, hp]; exact h
  rw [h1, ← Nat.shiftLeft_eq, ← Nat.shiftLeft_add_eq_or_of_lt h2, Nat.add_comm]

set_option maxRecDepth 10000 in
theorem RotateLeft32_spec (st : St) (x r : Nat) (hx : x < 4294967296) (hr : r ≤ 32) (hs : bits .and .u64 (IntKind.u64.wrap (-(r : Int))) 31 = ((32 - r : Nat) : Int)) (k q : Value → St → Prop) (hk : k (.int .u32 (rotN x r : Nat)) st) :
    ACall (C base w0 G) 31 [.int .u32 x, .int .i64 (-(r : Int))] st k q := by
  refine ACall.of (cx := C base w0 G) mixed Tryd.func31 rfl (by kernel_rfl) (by simp [Tryd.ntmps31]) ?_
  simp only [Tryd.results31]
  simp (config := { implicitDefEqProofs := false }) only [↓GP, GQ, ↓awp_seq, ↓awp_block, C_ex, Nat.reduceBEq, acap, afieldAddr, aload, astore, abin, anum, astr, aun, isAggD, cond_true, cond_false, ↓reduceIte, C_P, C_G, isTuple, Value.cells, setL, ares, aresL, ares1, reduceCtorEq, Nat.reduceEqDiff, eq_self, Nat.reduceAdd, if_true, if_false, one, Nat.reduceLeDiff, undef, gsl, aextract, aindexAddr, amake, implies_true, forall_const, alen, abuiltin, anil, isC, Int.reduceEq, Int.reduceLT, Int.reduceLE, Int.reduceAdd, Int.reduceToNat, Int.reduceNeg, Nat.reduceMul, Nat.reduceSub, abuild, afill, Int.reduceBNe, Int.reduceBEq, Tryd.underlying3, Tryd.underlying51, Tryd.underlying47, aconv, hs, ashift]
  have hw : IntKind.u64.wrap (32 - ((32 - r : Nat) : Int)) = (r : Int) := by
    rw [show (32 : Int) - ((32 - r : Nat) : Int) = r by omega]
    simp [IntKind.wrap, IntKind.bits, IntKind.signed]; omega
  have hb : (IntKind.u32.bits : Int) = 32 := rfl
  have hw2 : IntKind.u32.wrap ((x : Int) * 2 ^ (32 - r)) = (((x * 2 ^ (32 - r)) % 4294967296 : Nat) : Int) := by
    rw [show ((x : Int) * 2 ^ (32 - r)) = ((x * 2 ^ (32 - r) : Nat) : Int) by rw [Int.natCast_mul, Int.natCast_pow]; rfl]
    simp [IntKind.wrap, IntKind.bits, IntKind.signed]
  have hd : ((x : Int) / 2 ^ r) = ((x / 2 ^ r : Nat) : Int) := by rw [Int.natCast_ediv, Int.natCast_pow]; rfl
  rw [hw, hb, hw2, Int.toNat_natCast, hd, bits_or32 (Nat.mod_lt _ (by decide)) (Nat.lt_of_le_of_lt (Nat.div_le_self _ _) hx), rot_or hx hr]
  exact ⟨by omega, by omega, hk⟩
end Go.Proofs.YtjkmcnhofpnoeaaDoor
