/- Contracts of the program's functions over the abstract heap, and what follows from them (a part of the proof of this seat's laws). -/
import Derived.Test.YtfmpfgcdbpjpgaaD16
set_option linter.unusedVariables false
set_option linter.unusedSimpArgs false
namespace Go.Proofs.Ytfmpfgcdbpjpgaa
open Go Go.Abs Go.RowKit Go.ChangeShapes
variable {base : Nat} {w0 : World} {G : Nat}

def part1 (S : List (List Int)) (a : Nat) (l : List Int) (n : Nat) : List (List Int) := S.set a (l.take n ++ (S.getD a []).drop n)
theorem part1_zero (S : List (List Int)) (a : Nat) (l : List Int) : part1 S a l 0 = S := by
  unfold part1
  apply List.ext_getElem?
  intro i
  by_cases e : a = i
  · subst e
    by_cases h : a < S.length
    · simp [List.getElem?_set, h]
    · simp [List.getElem?_set, h]
  · rw [List.getElem?_set_ne e]
theorem part1_length (S : List (List Int)) (a : Nat) (l : List Int) (n : Nat) : (part1 S a l n).length = S.length := by simp [part1]
theorem part1_get {S : List (List Int)} {a : Nat} {l : List Int} {n : Nat} {s : List Int} (hs : S[a]? = some s) : (part1 S a l n)[a]? = some (l.take n ++ s.drop n) := by
  unfold part1
  rw [List.getElem?_set_self (List.getElem?_eq_some_iff.1 hs).1, List.getD_eq_getElem?_getD, hs]
  rfl
theorem part1_fine {S : List (List Int)} (h : fine S) {a : Nat} {l : List Int} {n : Nat} {s : List Int} (hs : S[a]? = some s) (hl : l.length = 64) (hn : n ≤ 64) : fine (part1 S a l n) := fun t ht => by
  have h64 := h s (List.mem_of_getElem? hs)
  rcases List.mem_or_eq_of_mem_set ht with h1 | h1
  · exact h t h1
  · rw [h1, List.getD_eq_getElem?_getD, hs]
    simp [hl, h64]; omega
theorem part1_step {S : List (List Int)} (h : fine S) {a : Nat} {l : List Int} {n : Nat} {s : List Int} {v : Int} (hs : S[a]? = some s) (hl : l.length = 64) (hn : n < 64) (hv : l[n]? = some v) :
    (part1 S a l n).flatten.set (64 * a + n) v = (part1 S a l (n + 1)).flatten := by
  have h64 := h s (List.mem_of_getElem? hs)
  rw [flat_set (part1_fine h hs hl (by omega)) a n v _ (part1_get hs) hn, take_drop_set hv (by omega)]
  congr 1
  unfold part1
  rw [List.set_set, List.getD_eq_getElem?_getD, hs]
  rfl

set_option maxRecDepth 10000 in
theorem part_spec (st : St) (r : Hp) (p bb b a n : Nat) (S : List (List Int)) (l : List Int) (wv : Value) (fz : Int) (hf : fine S) (ha : a < S.length) (hS : S.length ≤ 4096) (hl : l.length = 64) (hn : n ≤ 64)
    (hO : Own st ((p, rpc bb (64 * S.length) wv fz) :: (bb, .cells (bl S.flatten) 5 true) :: (b, .cells (bl l) 5 true) :: r)) (k q : Value → St → Prop)
    (hk : ∀ st', Own st' ((p, rpc bb (64 * S.length) wv fz) :: (bb, .cells (bl (part1 S a l n).flatten) 5 true) :: (b, .cells (bl l) 5 true) :: r) → k (.tuple #[]) st') :
    ACall (C base w0 G) 28 [.pointer (some ⟨p, 0, none⟩), .agg #[.int .i64 (a : Nat), slo b], .int .i64 n] st k q := by
  refine ACall.of (cx := C base w0 G) mixed Try.func28 rfl (by kernel_rfl) (by simp [Try.ntmps28]) ?_
  simp only [Try.results28]
  obtain ⟨s0, hs0⟩ : ∃ x, S[a]? = some x := ⟨S[a]'ha, by simp⟩
  simp (config := { implicitDefEqProofs := false }) only [↓stop1, ↓stop2, ↓stop3, ↓awp_seq, ↓awp_region, ↓awp_draw, ↓awp_cond, ↓awp_block, ↓awp_loop, ↓awp_exit, ↓awp_ret, ↓awp_skip, ↓awp_label, ↓thenQ_normal, ↓thenQ_ret, ↓thenQ_exit, ↓inBlockQ_normal, ↓inBlockQ_ret, ↓inBlockQ_exit, ↓retQ_normal, ↓retQ_ret, ↓aops_nil, ↓aops_op, ↓aops_op0, ↓aops_g, ↓adraw_nil, ↓adraw_cons, ↓apend_nil, ↓apend_cons, getR_cons, ↓yld_def, ↓atO_some, ↓aexec_plain, ↓aexec_guard, putO_some, putO_none, ↓ab_move, ↓ab_assign, ↓ab_pick, ↓ab_alloc, ↓ab_box, ↓ab_build, ↓ab_buildSlice, ↓ab_load, ↓ab_store, ↓ab_nilCheck, ↓ab_binOp, ↓ab_unOp, ↓ab_convert, ↓ab_makeInterface, ↓ab_makeFunc, ↓ab_makeSlice, ↓ab_slice, ↓ab_fieldAddr, ↓ab_field, ↓ab_indexAddr, ↓ab_index, ↓ab_extract, ↓ab_call, ↓ab_builtin, ↓ab_panic, ev_tmp, ev_int, ev_bool, ev_string, ev_nilptr, ev_nilslc, ev_nilIface, ev_func, put_apply, env0_zero, env0_succ, olet_some, slet_some, alet_some, acallV_fn, apick_bool, aloadV_ptr, astoreV_ptr, anilCheck_ptr, abranch_true, abranch_false, abranch_dec, ↓acond_yes, ↓acond_no1, ↓acond_no2, afieldAddr, aload, astore, abin, anum, astr, aun, isAggD, cond_true, cond_false, ↓reduceIte, C_P, C_G, isTuple, Value.cells, setL, List.set_cons_zero, List.set_cons_succ, ares, aresL, ares1, reduceCtorEq, List.getElem?_cons_zero, List.getElem?_cons_succ, Nat.reduceEqDiff, eq_self, Nat.zero_add, Nat.reduceAdd, if_true, if_false, List.size_toArray, List.length_cons, List.length_nil, List.all_cons, List.all_nil, one, Bool.and_true, Bool.and_self, true_and, and_true, Nat.reduceLeDiff, abranch_eq, abranch_ne, abranch_not, set_H, set_n, new_n, new_H, List.map_cons, List.map_nil, Option.map_some, Option.map_none, Nat.add_zero, and_self, undef, gsl, Option.bind_some, List.getElem?_toArray, aextract, List.cons_append, List.nil_append, List.append_nil, olet_if, slet_if, alet_if, olet_mapif, aindexAddr, Int.toNat_natCast, amake, not_true_eq_false, not_false_eq_true, false_implies, true_implies, implies_true, forall_const, Bool.not_true, Bool.not_false, alen, abuiltin, anil, isC, Int.reduceEq, Int.reduceLT, Int.reduceLE, Int.reduceAdd, Int.reduceToNat, Int.reduceNeg, Nat.reduceMul, Nat.reduceSub, abuild, afill, Nat.mul_one, List.getElem?_map, Option.map_some, Option.isNone_some, Option.isNone_none, Int.reduceBNe, Int.reduceBEq, bne_self_eq_false, beq_self_eq_true, Int.cast_ofNat_Int, Nat.zero_mul, Nat.sub_zero, abox, Value.cells]
  have hO0 := hO.new (.cells [.int .i64 (a : Nat), slo b] 60 true)
  generalize hx : st.n = x at hO0 ⊢
  generalize (St.new st (.cells [.int .i64 (a : Nat), slo b] 60 true)) = s1 at hO0 ⊢
  refine ⟨fun m ρ s => ∃ i : Nat, m = n - i ∧ i ≤ n ∧ ρ 0 = .pointer (some ⟨p, 0, none⟩) ∧ ρ 2 = .int .i64 n ∧ ρ 4 = .pointer (some ⟨x, 0, none⟩) ∧ ρ 6 = .int .i64 i ∧
    Own s ((x, .cells [.int .i64 (a : Nat), slo b] 60 true) :: (p, rpc bb (64 * S.length) wv fz) :: (bb, .cells (bl (part1 S a l i).flatten) 5 true) :: (b, .cells (bl l) 5 true) :: r),
    ⟨n, 0, rfl, Nat.zero_le _, rfl, rfl, rfl, rfl, by rw [part1_zero]; exact hO0⟩, ?_⟩
  rintro m ρ s ⟨i, rfl, hi, h0, h2, h4, h6, hs⟩
  by_cases him : i < n
  · have e1 := hs.head
    have e2 := hs.tail.head
    have e3 := hs.tail.tail.head
    have e4 := hs.tail.tail.tail.head
    obtain ⟨v, hv⟩ : ∃ v, l[i]? = some v := ⟨l[i]'(by omega), by simp⟩
    have hfl := flat_length (part1_fine hf hs0 hl (by omega : i ≤ 64))
    rw [part1_length] at hfl
    have hw1 : IntKind.i64.wrap (64 * (a : Int)) = ((64 * a : Nat) : Int) := by rw [w_i64 (by omega)]; omega
    have hw2 : IntKind.i64.wrap (((64 * a : Nat) : Int) + (i : Int)) = ((64 * a + i : Nat) : Int) := by rw [w_i64 (by omega)]; omega
    have hbv : (bl l)[i]? = some (.int .u8 v) := by simp [bl, hv]
    simp (config := { implicitDefEqProofs := false }) only [↓stop1, ↓stop2, ↓stop3, ↓awp_seq, ↓awp_region, ↓awp_draw, ↓awp_cond, ↓awp_block, ↓awp_loop, ↓awp_exit, ↓awp_ret, ↓awp_skip, ↓awp_label, ↓thenQ_normal, ↓thenQ_ret, ↓thenQ_exit, ↓inBlockQ_normal, ↓inBlockQ_ret, ↓inBlockQ_exit, ↓retQ_normal, ↓retQ_ret, ↓aops_nil, ↓aops_op, ↓aops_op0, ↓aops_g, ↓adraw_nil, ↓adraw_cons, ↓apend_nil, ↓apend_cons, getR_cons, ↓yld_def, ↓atO_some, ↓aexec_plain, ↓aexec_guard, putO_some, putO_none, ↓ab_move, ↓ab_assign, ↓ab_pick, ↓ab_alloc, ↓ab_box, ↓ab_build, ↓ab_buildSlice, ↓ab_load, ↓ab_store, ↓ab_nilCheck, ↓ab_binOp, ↓ab_unOp, ↓ab_convert, ↓ab_makeInterface, ↓ab_makeFunc, ↓ab_makeSlice, ↓ab_slice, ↓ab_fieldAddr, ↓ab_field, ↓ab_indexAddr, ↓ab_index, ↓ab_extract, ↓ab_call, ↓ab_builtin, ↓ab_panic, ev_tmp, ev_int, ev_bool, ev_string, ev_nilptr, ev_nilslc, ev_nilIface, ev_func, put_apply, env0_zero, env0_succ, olet_some, slet_some, alet_some, acallV_fn, apick_bool, aloadV_ptr, astoreV_ptr, anilCheck_ptr, abranch_true, abranch_false, abranch_dec, ↓acond_yes, ↓acond_no1, ↓acond_no2, afieldAddr, aload, astore, abin, anum, astr, aun, isAggD, cond_true, cond_false, ↓reduceIte, C_P, C_G, isTuple, Value.cells, setL, List.set_cons_zero, List.set_cons_succ, ares, aresL, ares1, reduceCtorEq, List.getElem?_cons_zero, List.getElem?_cons_succ, Nat.reduceEqDiff, eq_self, Nat.zero_add, Nat.reduceAdd, if_true, if_false, List.size_toArray, List.length_cons, List.length_nil, List.all_cons, List.all_nil, one, Bool.and_true, Bool.and_self, true_and, and_true, Nat.reduceLeDiff, abranch_eq, abranch_ne, abranch_not, set_H, set_n, new_n, new_H, List.map_cons, List.map_nil, Option.map_some, Option.map_none, Nat.add_zero, and_self, undef, gsl, Option.bind_some, List.getElem?_toArray, aextract, List.cons_append, List.nil_append, List.append_nil, olet_if, slet_if, alet_if, olet_mapif, aindexAddr, Int.toNat_natCast, amake, not_true_eq_false, not_false_eq_true, false_implies, true_implies, implies_true, forall_const, Bool.not_true, Bool.not_false, alen, abuiltin, anil, isC, Int.reduceEq, Int.reduceLT, Int.reduceLE, Int.reduceAdd, Int.reduceToNat, Int.reduceNeg, Nat.reduceMul, Nat.reduceSub, abuild, afill, Nat.mul_one, List.getElem?_map, Option.map_some, Option.isNone_some, Option.isNone_none, Int.reduceBNe, Int.reduceBEq, bne_self_eq_false, beq_self_eq_true, Int.cast_ofNat_Int, Nat.zero_mul, Nat.sub_zero, h0, h2, h4, h6, him, Int.ofNat_lt, decide_true]
    refine ADraw.of [(0, false, []), (1, false, []), (2, false, []), (3, false, []), (4, false, []), (5, false, []), (6, false, []), (7, false, []), (8, false, []), (9, false, []), (10, false, []), (11, false, []), (12, false, []), (13, false, []), (14, false, []), (15, false, [])] [] [] (by kernel_rfl) ?_
    simp (config := { implicitDefEqProofs := false }) only [↓stop1, ↓stop2, ↓stop3, ↓awp_seq, ↓awp_region, ↓awp_draw, ↓awp_cond, ↓awp_block, ↓awp_loop, ↓awp_exit, ↓awp_ret, ↓awp_skip, ↓awp_label, ↓thenQ_normal, ↓thenQ_ret, ↓thenQ_exit, ↓inBlockQ_normal, ↓inBlockQ_ret, ↓inBlockQ_exit, ↓retQ_normal, ↓retQ_ret, ↓aops_nil, ↓aops_op, ↓aops_op0, ↓aops_g, ↓adraw_nil, ↓adraw_cons, ↓apend_nil, ↓apend_cons, getR_cons, ↓yld_def, ↓atO_some, ↓aexec_plain, ↓aexec_guard, putO_some, putO_none, ↓ab_move, ↓ab_assign, ↓ab_pick, ↓ab_alloc, ↓ab_box, ↓ab_build, ↓ab_buildSlice, ↓ab_load, ↓ab_store, ↓ab_nilCheck, ↓ab_binOp, ↓ab_unOp, ↓ab_convert, ↓ab_makeInterface, ↓ab_makeFunc, ↓ab_makeSlice, ↓ab_slice, ↓ab_fieldAddr, ↓ab_field, ↓ab_indexAddr, ↓ab_index, ↓ab_extract, ↓ab_call, ↓ab_builtin, ↓ab_panic, ev_tmp, ev_int, ev_bool, ev_string, ev_nilptr, ev_nilslc, ev_nilIface, ev_func, put_apply, env0_zero, env0_succ, olet_some, slet_some, alet_some, acallV_fn, apick_bool, aloadV_ptr, astoreV_ptr, anilCheck_ptr, abranch_true, abranch_false, abranch_dec, ↓acond_yes, ↓acond_no1, ↓acond_no2, afieldAddr, aload, astore, abin, anum, astr, aun, isAggD, cond_true, cond_false, ↓reduceIte, C_P, C_G, isTuple, Value.cells, setL, List.set_cons_zero, List.set_cons_succ, ares, aresL, ares1, reduceCtorEq, List.getElem?_cons_zero, List.getElem?_cons_succ, Nat.reduceEqDiff, eq_self, Nat.zero_add, Nat.reduceAdd, if_true, if_false, List.size_toArray, List.length_cons, List.length_nil, List.all_cons, List.all_nil, one, Bool.and_true, Bool.and_self, true_and, and_true, Nat.reduceLeDiff, abranch_eq, abranch_ne, abranch_not, set_H, set_n, new_n, new_H, List.map_cons, List.map_nil, Option.map_some, Option.map_none, Nat.add_zero, and_self, undef, gsl, Option.bind_some, List.getElem?_toArray, aextract, List.cons_append, List.nil_append, List.append_nil, olet_if, slet_if, alet_if, olet_mapif, aindexAddr, Int.toNat_natCast, amake, not_true_eq_false, not_false_eq_true, false_implies, true_implies, implies_true, forall_const, Bool.not_true, Bool.not_false, alen, abuiltin, anil, isC, Int.reduceEq, Int.reduceLT, Int.reduceLE, Int.reduceAdd, Int.reduceToNat, Int.reduceNeg, Nat.reduceMul, Nat.reduceSub, abuild, afill, Nat.mul_one, List.getElem?_map, Option.map_some, Option.isNone_some, Option.isNone_none, Int.reduceBNe, Int.reduceBEq, bne_self_eq_false, beq_self_eq_true, Int.cast_ofNat_Int, Nat.zero_mul, Nat.sub_zero, h0, h2, h4, h6, e1, e2, e3, e4, rpc, afo50_0, afo60_0, afo60_1, asz28, asz3, asz5, Try.underlying28, Try.underlying3, Try.underlying5, hw1, hw2, hbv]
    refine ⟨by omega, by omega, by rw [bl_length, hfl]; omega, n - (i + 1), by omega, i + 1, rfl, by omega, by rw [w_i64 (by omega)]; rfl, ?_⟩
    have hst : (bl (part1 S a l i).flatten).set (64 * a + i) (.int .u8 v) = bl (part1 S a l (i + 1)).flatten := by
      rw [← part1_step hf hs0 hl (by omega) hv]
      simp [bl]
    rw [hst]
    exact ((hs.perm (perm_front [_, _] _ _)).set rfl (.cells (bl (part1 S a l (i + 1)).flatten) 5 true) rfl).perm (perm_front [_, _] _ _).symm
  · obtain rfl : i = n := by omega
    simp (config := { implicitDefEqProofs := false }) only [↓stop1, ↓stop2, ↓stop3, ↓awp_seq, ↓awp_region, ↓awp_draw, ↓awp_cond, ↓awp_block, ↓awp_loop, ↓awp_exit, ↓awp_ret, ↓awp_skip, ↓awp_label, ↓thenQ_normal, ↓thenQ_ret, ↓thenQ_exit, ↓inBlockQ_normal, ↓inBlockQ_ret, ↓inBlockQ_exit, ↓retQ_normal, ↓retQ_ret, ↓aops_nil, ↓aops_op, ↓aops_op0, ↓aops_g, ↓adraw_nil, ↓adraw_cons, ↓apend_nil, ↓apend_cons, getR_cons, ↓yld_def, ↓atO_some, ↓aexec_plain, ↓aexec_guard, putO_some, putO_none, ↓ab_move, ↓ab_assign, ↓ab_pick, ↓ab_alloc, ↓ab_box, ↓ab_build, ↓ab_buildSlice, ↓ab_load, ↓ab_store, ↓ab_nilCheck, ↓ab_binOp, ↓ab_unOp, ↓ab_convert, ↓ab_makeInterface, ↓ab_makeFunc, ↓ab_makeSlice, ↓ab_slice, ↓ab_fieldAddr, ↓ab_field, ↓ab_indexAddr, ↓ab_index, ↓ab_extract, ↓ab_call, ↓ab_builtin, ↓ab_panic, ev_tmp, ev_int, ev_bool, ev_string, ev_nilptr, ev_nilslc, ev_nilIface, ev_func, put_apply, env0_zero, env0_succ, olet_some, slet_some, alet_some, acallV_fn, apick_bool, aloadV_ptr, astoreV_ptr, anilCheck_ptr, abranch_true, abranch_false, abranch_dec, ↓acond_yes, ↓acond_no1, ↓acond_no2, afieldAddr, aload, astore, abin, anum, astr, aun, isAggD, cond_true, cond_false, ↓reduceIte, C_P, C_G, isTuple, Value.cells, setL, List.set_cons_zero, List.set_cons_succ, ares, aresL, ares1, reduceCtorEq, List.getElem?_cons_zero, List.getElem?_cons_succ, Nat.reduceEqDiff, eq_self, Nat.zero_add, Nat.reduceAdd, if_true, if_false, List.size_toArray, List.length_cons, List.length_nil, List.all_cons, List.all_nil, one, Bool.and_true, Bool.and_self, true_and, and_true, Nat.reduceLeDiff, abranch_eq, abranch_ne, abranch_not, set_H, set_n, new_n, new_H, List.map_cons, List.map_nil, Option.map_some, Option.map_none, Nat.add_zero, and_self, undef, gsl, Option.bind_some, List.getElem?_toArray, aextract, List.cons_append, List.nil_append, List.append_nil, olet_if, slet_if, alet_if, olet_mapif, aindexAddr, Int.toNat_natCast, amake, not_true_eq_false, not_false_eq_true, false_implies, true_implies, implies_true, forall_const, Bool.not_true, Bool.not_false, alen, abuiltin, anil, isC, Int.reduceEq, Int.reduceLT, Int.reduceLE, Int.reduceAdd, Int.reduceToNat, Int.reduceNeg, Nat.reduceMul, Nat.reduceSub, abuild, afill, Nat.mul_one, List.getElem?_map, Option.map_some, Option.isNone_some, Option.isNone_none, Int.reduceBNe, Int.reduceBEq, bne_self_eq_false, beq_self_eq_true, Int.cast_ofNat_Int, Nat.zero_mul, Nat.sub_zero, h0, h2, h4, h6, him, Int.ofNat_lt, decide_false]
    exact hk _ hs.tail
end Go.Proofs.Ytfmpfgcdbpjpgaa
