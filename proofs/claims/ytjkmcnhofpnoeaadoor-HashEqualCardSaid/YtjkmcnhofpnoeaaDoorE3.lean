/- Contracts of the program's functions over the abstract heap, and what follows from them (a part of the proof of this seat's laws). No conditions. -/
import Derived.Test.YtjkmcnhofpnoeaaDoorE2
set_option linter.unusedVariables false
set_option linter.unusedSimpArgs false
namespace Go.Proofs.YtjkmcnhofpnoeaaDoor
open Go Go.Abs Go.RowKit
variable {base : Nat} {w0 : World} {G : Nat}

theorem rotN_eq {x : Nat} (h : x < 4294967296) : ∀ n, n ≤ 32 → rotN x n = x / 2 ^ n + x % 2 ^ n * 2 ^ (32 - n)
  | 0, _ => by simp [rotN, Nat.mod_one]
  | n + 1, hn => by
    have ih := rotN_eq h n (by omega)
    have e1 : 2 ^ (32 - n) = 2 * 2 ^ (32 - (n + 1)) := by rw [show 32 - n = 32 - (n + 1) + 1 by omega, Nat.pow_succ]; omega
    have e2 : (2147483648 : Nat) = 2 ^ n * 2 ^ (32 - (n + 1)) := by rw [← Nat.pow_add, show n + (32 - (n + 1)) = 31 by omega]
    have hp : 0 < 2 ^ n := Nat.two_pow_pos n
    unfold rotN
    rw [ih, e1, e2, Nat.pow_succ, ← Nat.div_div_eq_div_mul]
    generalize 2 ^ (32 - (n + 1)) = c
    have hm : x % (2 ^ n * 2) = x % 2 ^ n + 2 ^ n * (x / 2 ^ n % 2) := Nat.mod_mul
    rw [hm]
    generalize x / 2 ^ n = u
    generalize x % 2 ^ n = v
    generalize 2 ^ n = p
    rw [show v * (2 * c) = 2 * (v * c) by rw [Nat.mul_left_comm], show u + 2 * (v * c) = u + (v * c) * 2 by omega, Nat.add_mul_div_right _ _ (by decide), Nat.add_mul_mod_self_right, Nat.add_mul]
    have : u % 2 * (p * c) = p * (u % 2) * c := by rw [← Nat.mul_assoc, Nat.mul_comm (u % 2) p]
    omega

/-- To the right, as shifts have it. -/
theorem rot_or {x r : Nat} (h : x < 4294967296) (hr : r ≤ 32) : ((x * 2 ^ (32 - r)) % 4294967296) ||| (x / 2 ^ r) = rotN x r := by
  rw [rotN_eq h r hr]
  have hp : 2 ^ r * 2 ^ (32 - r) = 4294967296 := by rw [← Nat.pow_add, show r + (32 - r) = 32 by omega]
  have h1 : (x * 2 ^ (32 - r)) % 4294967296 = x % 2 ^ r * 2 ^ (32 - r) := by
    rw [← hp, Nat.mul_mod_mul_right]
  have h2 : x / 2 ^ r < 2 ^ (32 - r) := by
    rw [Nat.div_lt_iff_lt_mul (Nat.two_pow_pos r), Nat.mul_comm, hp]; exact h
  rw [h1, ← Nat.shiftLeft_eq, ← Nat.shiftLeft_add_eq_or_of_lt h2, Nat.add_comm]

set_option maxRecDepth 10000 in
theorem RotateLeft32_spec (st : St) (x r : Nat) (hx : x < 4294967296) (hr : r ≤ 32) (hs : bits .and .u64 (IntKind.u64.wrap (-(r : Int))) 31 = ((32 - r : Nat) : Int)) (k q : Value → St → Prop) (hk : k (.int .u32 (rotN x r : Nat)) st) :
    ACall (C base w0 G) 31 [.int .u32 x, .int .i64 (-(r : Int))] st k q := by
  refine ACall.of (cx := C base w0 G) mixed Tryd.func31 rfl (by kernel_rfl) (by simp [Tryd.ntmps31]) ?_
  simp only [Tryd.results31]
  simp (config := { implicitDefEqProofs := false }) only [↓stop1, ↓stop2, ↓stop3, ↓awp_seq, ↓awp_region, ↓awp_draw, ↓awp_cond, ↓awp_block, ↓awp_loop, ↓awp_exit, ↓awp_ret, ↓awp_skip, ↓awp_label, ↓thenQ_normal, ↓thenQ_ret, ↓thenQ_exit, ↓inBlockQ_normal, ↓inBlockQ_ret, ↓inBlockQ_exit, ↓retQ_normal, ↓retQ_ret, ↓aops_nil, ↓aops_op, ↓aops_op0, ↓aops_g, ↓adraw_nil, ↓adraw_cons, ↓apend_nil, ↓apend_cons, getR_cons, ↓yld_def, ↓atO_some, ↓aexec_plain, ↓aexec_guard, putO_some, putO_none, ↓ab_move, ↓ab_assign, ↓ab_pick, ↓ab_alloc, ↓ab_box, ↓ab_build, ↓ab_buildSlice, ↓ab_load, ↓ab_store, ↓ab_nilCheck, ↓ab_binOp, ↓ab_unOp, ↓ab_convert, ↓ab_makeInterface, ↓ab_makeFunc, ↓ab_makeSlice, ↓ab_slice, ↓ab_fieldAddr, ↓ab_field, ↓ab_indexAddr, ↓ab_index, ↓ab_extract, ↓ab_call, ↓ab_append, ↓ab_len, ↓ab_cap, ↓ab_copy, ↓ab_max, ↓ab_min, C_ex, Nat.reduceBEq, Bool.or_false, Bool.false_or, acap, ↓ab_panic, ev_tmp, ev_int, ev_bool, ev_string, ev_nilptr, ev_nilslc, ev_nilIface, ev_func, put_apply, env0_zero, env0_succ, olet_some, slet_some, alet_some, acallV_fn, apick_bool, aloadV_ptr, astoreV_ptr, anilCheck_ptr, abranch_true, abranch_false, abranch_dec, ↓acond_yes, ↓acond_no1, ↓acond_no2, afieldAddr, aload, astore, abin, anum, astr, aun, isAggD, cond_true, cond_false, ↓reduceIte, C_P, C_G, isTuple, Value.cells, setL, List.set_cons_zero, List.set_cons_succ, ares, aresL, ares1, reduceCtorEq, List.getElem?_cons_zero, List.getElem?_cons_succ, Nat.reduceEqDiff, eq_self, Nat.zero_add, Nat.reduceAdd, if_true, if_false, List.size_toArray, List.length_cons, List.length_nil, List.all_cons, List.all_nil, one, Bool.and_true, Bool.and_self, true_and, and_true, Nat.reduceLeDiff, abranch_eq, abranch_ne, abranch_not, set_H, set_n, new_n, new_H, List.map_cons, List.map_nil, Option.map_some, Option.map_none, Nat.add_zero, and_self, undef, gsl, Option.bind_some, List.getElem?_toArray, aextract, List.cons_append, List.nil_append, List.append_nil, olet_if, slet_if, alet_if, olet_mapif, aindexAddr, Int.toNat_natCast, amake, not_true_eq_false, not_false_eq_true, false_implies, true_implies, implies_true, forall_const, Bool.not_true, Bool.not_false, alen, abuiltin, anil, isC, Int.reduceEq, Int.reduceLT, Int.reduceLE, Int.reduceAdd, Int.reduceToNat, Int.reduceNeg, Nat.reduceMul, Nat.reduceSub, abuild, afill, Nat.mul_one, List.getElem?_map, Option.map_some, Option.isNone_some, Option.isNone_none, Int.reduceBNe, Int.reduceBEq, bne_self_eq_false, beq_self_eq_true, Int.cast_ofNat_Int, Nat.zero_mul, Nat.sub_zero, Tryd.underlying3, Tryd.underlying51, Tryd.underlying47, aconv, hs, ashift]
  have hw : IntKind.u64.wrap (32 - ((32 - r : Nat) : Int)) = (r : Int) := by
    rw [show (32 : Int) - ((32 - r : Nat) : Int) = r by omega]
    simp [IntKind.wrap, IntKind.bits, IntKind.signed]; omega
  have hb : (IntKind.u32.bits : Int) = 32 := rfl
  have hw2 : IntKind.u32.wrap ((x : Int) * 2 ^ (32 - r)) = (((x * 2 ^ (32 - r)) % 4294967296 : Nat) : Int) := by
    rw [show ((x : Int) * 2 ^ (32 - r)) = ((x * 2 ^ (32 - r) : Nat) : Int) by rw [Int.natCast_mul, Int.natCast_pow]; rfl]
    simp [IntKind.wrap, IntKind.bits, IntKind.signed]
  have hd : ((x : Int) / 2 ^ r) = ((x / 2 ^ r : Nat) : Int) := by rw [Int.natCast_ediv, Int.natCast_pow]; rfl
  rw [hw, hb, hw2, Int.toNat_natCast, hd, bits_or32 (Nat.mod_lt _ (by decide)) (Nat.lt_of_le_of_lt (Nat.div_le_self _ _) hx), rot_or hx hr]
  exact ⟨by omega, by omega, hk⟩
end Go.Proofs.YtjkmcnhofpnoeaaDoor
