/- Contracts of the program's functions over the abstract heap, and what follows from them (a part of the proof of this seat's laws). -/
import Derived.Test.YtfmpfgcdbpjpgaaD15
set_option linter.unusedVariables false
set_option linter.unusedSimpArgs false
namespace Go.Proofs.Ytfmpfgcdbpjpgaa
open Go Go.Abs Go.RowKit Go.ChangeShapes
variable {base : Nat} {w0 : World} {G : Nat}

def fine (S : List (List Int)) : Prop := ∀ s ∈ S, s.length = 64
theorem flat_length {S : List (List Int)} (h : fine S) : S.flatten.length = 64 * S.length := by
  induction S with
  | nil => rfl
  | cons s r ih =>
    rw [List.flatten_cons, List.length_append, ih fun t ht => h t (by simp [ht]), h s (by simp), List.length_cons]
    omega
theorem flat_set : ∀ {S : List (List Int)} (h : fine S) (a i : Nat) (v : Int) (s : List Int), S[a]? = some s → i < 64 → S.flatten.set (64 * a + i) v = (S.set a (s.set i v)).flatten
  | [], h, a, i, v, s, hs, hi => by simp at hs
  | t :: r, h, 0, i, v, s, hs, hi => by
    have ht := h t (by simp)
    simp at hs
    subst hs
    simp only [Nat.mul_zero, Nat.zero_add, List.set_cons_zero, List.flatten_cons]
    rw [List.set_append_left _ _ (by omega)]
  | t :: r, h, a + 1, i, v, s, hs, hi => by
    have ht := h t (by simp)
    simp only [List.set_cons_succ, List.flatten_cons]
    rw [List.set_append_right _ _ (by omega), ht, ← flat_set (fun u hu => h u (by simp [hu])) a i v s (by simpa using hs) hi]
    congr 2
    omega
theorem flat_drop : ∀ {S : List (List Int)} (h : fine S) (a : Nat) (s : List Int), S[a]? = some s → (S.flatten.drop (64 * a)).take 64 = s
  | [], h, a, s, hs => by simp at hs
  | t :: r, h, 0, s, hs => by
    have ht := h t (by simp)
    simp at hs
    subst hs
    simp [← ht]
  | t :: r, h, a + 1, s, hs => by
    have ht := h t (by simp)
    rw [List.flatten_cons, List.drop_append, ht]
    rw [List.drop_eq_nil_of_le (by omega), List.nil_append, show 64 * (a + 1) - 64 = 64 * a by omega]
    exact flat_drop (fun u hu => h u (by simp [hu])) a s (by simpa using hs)
theorem flat_cut {S : List (List Int)} (h : fine S) {a : Nat} {s : List Int} (hs : S[a]? = some s) : cut (bl S.flatten) (64 * a) 64 = some (bl s) := by
  have hl := flat_length h
  have ha := (List.getElem?_eq_some_iff.1 hs).1
  unfold cut
  rw [if_pos (by rw [bl_length, hl]; omega)]
  congr 1
  unfold bl
  rw [← List.map_drop, ← List.map_take, flat_drop h a s hs]
theorem take_drop_set {l s : List Int} {i : Nat} {v : Int} (hl : l[i]? = some v) (hs : s.length = l.length) : (l.take i ++ s.drop i).set i v = l.take (i + 1) ++ s.drop (i + 1) := by
  have hi := (List.getElem?_eq_some_iff.1 hl).1
  rw [List.set_append_right _ _ (by simp; omega)]
  have e1 : i - (l.take i).length = 0 := by simp; omega
  have e2 : s.drop i = s[i]'(by omega) :: s.drop (i + 1) := by simp
  rw [e1, e2, List.set_cons_zero, List.take_add_one, hl]
  simp

/-! ### The document's disk -/
def rpc (bb n : Nat) (wv : Value) (fz : Int) : Ob := .cells [.slice (some ⟨bb, 0, none⟩) n n, wv, .int .i64 fz] 50 true
def WR (wv : Value) (W : List Wt) (hw : Hp) : Prop := (wv = .slice none 0 0 ∧ W = [] ∧ hw = []) ∨
  ∃ wb, wv = .slice (some ⟨wb, 0, some 0⟩) W.length W.length ∧ hw = [(wb, .cells (wc W) 60 true)]
def rW (bb : Nat) (S : List (List Int)) (wv : Value) (fz : Int) (W : List Wt) (hw : Hp) (p : Nat) : Hp :=
  (p, rpc bb (64 * S.length) wv fz) :: (bb, .cells (bl S.flatten) 5 true) :: (hw ++ wbs W)
def RK (p : Nat) (S : List (List Int)) (L : List Lt) (fz : Int) (h : Hp) : Prop :=
  ∃ bb wv hw W, h = rW bb S wv fz W hw p ∧ WR wv W hw ∧ fitW S W ∧ L = forget W
theorem rW_app (bb : Nat) (S : List (List Int)) (wv : Value) (fz : Int) (W : List Wt) (hw : Hp) (p : Nat) (r : Hp) :
    rW bb S wv fz W hw p ++ r = (p, rpc bb (64 * S.length) wv fz) :: (bb, .cells (bl S.flatten) 5 true) :: (hw ++ (wbs W ++ r)) := by
  simp [rW, List.append_assoc]
theorem WR.len {wv : Value} {W : List Wt} {hw : Hp} (h : WR wv W hw) : ∃ a, wv = .slice a W.length W.length := by
  rcases h with ⟨rfl, rfl, rfl⟩ | ⟨wb, rfl, rfl⟩
  · exact ⟨none, rfl⟩
  · exact ⟨_, rfl⟩
theorem fine_zero (n : Nat) : fine (List.replicate n zero64) := fun s hs => by rw [List.eq_of_mem_replicate hs]; rfl

set_option maxRecDepth 10000 in
theorem RNew_spec (st : St) (r : Hp) (n : Nat) (hn : n ≤ 4096) (hO : Own st r) (k q : Value → St → Prop)
    (hk : ∀ p h st', RK p (List.replicate n zero64) [] (-1) h → Own st' (h ++ r) → k (.pointer (some ⟨p, 0, none⟩)) st') :
    ACall (C base w0 G) 17 [.int .i64 n] st k q := by
  refine ACall.of (cx := C base w0 G) mixed Try.func17 rfl (by kernel_rfl) (by simp [Try.ntmps17]) ?_
  simp only [Try.results17]
  have hw : IntKind.i64.wrap (64 * (n : Int)) = ((64 * n : Nat) : Int) := by rw [w_i64 (by omega)]; omega
  simp (config := { implicitDefEqProofs := false }) only [↓stop1, ↓stop2, ↓stop3, ↓awp_seq, ↓awp_region, ↓awp_draw, ↓awp_cond, ↓awp_block, ↓awp_loop, ↓awp_exit, ↓awp_ret, ↓awp_skip, ↓awp_label, ↓thenQ_normal, ↓thenQ_ret, ↓thenQ_exit, ↓inBlockQ_normal, ↓inBlockQ_ret, ↓inBlockQ_exit, ↓retQ_normal, ↓retQ_ret, ↓aops_nil, ↓aops_op, ↓aops_op0, ↓aops_g, ↓adraw_nil, ↓adraw_cons, ↓apend_nil, ↓apend_cons, getR_cons, ↓yld_def, ↓atO_some, ↓aexec_plain, ↓aexec_guard, putO_some, putO_none, ↓ab_move, ↓ab_assign, ↓ab_pick, ↓ab_alloc, ↓ab_box, ↓ab_build, ↓ab_buildSlice, ↓ab_load, ↓ab_store, ↓ab_nilCheck, ↓ab_binOp, ↓ab_unOp, ↓ab_convert, ↓ab_makeInterface, ↓ab_makeFunc, ↓ab_makeSlice, ↓ab_slice, ↓ab_fieldAddr, ↓ab_field, ↓ab_indexAddr, ↓ab_index, ↓ab_extract, ↓ab_call, ↓ab_builtin, ↓ab_panic, ev_tmp, ev_int, ev_bool, ev_string, ev_nilptr, ev_nilslc, ev_nilIface, ev_func, put_apply, env0_zero, env0_succ, olet_some, slet_some, alet_some, acallV_fn, apick_bool, aloadV_ptr, astoreV_ptr, anilCheck_ptr, abranch_true, abranch_false, abranch_dec, ↓acond_yes, ↓acond_no1, ↓acond_no2, afieldAddr, aload, astore, abin, anum, astr, aun, isAggD, cond_true, cond_false, ↓reduceIte, C_P, C_G, isTuple, Value.cells, setL, List.set_cons_zero, List.set_cons_succ, ares, aresL, ares1, reduceCtorEq, List.getElem?_cons_zero, List.getElem?_cons_succ, Nat.reduceEqDiff, eq_self, Nat.zero_add, Nat.reduceAdd, if_true, if_false, List.size_toArray, List.length_cons, List.length_nil, List.all_cons, List.all_nil, one, Bool.and_true, Bool.and_self, true_and, and_true, Nat.reduceLeDiff, abranch_eq, abranch_ne, abranch_not, set_H, set_n, new_n, new_H, List.map_cons, List.map_nil, Option.map_some, Option.map_none, Nat.add_zero, and_self, undef, gsl, Option.bind_some, List.getElem?_toArray, aextract, List.cons_append, List.nil_append, List.append_nil, olet_if, slet_if, alet_if, olet_mapif, aindexAddr, Int.toNat_natCast, amake, not_true_eq_false, not_false_eq_true, false_implies, true_implies, implies_true, forall_const, Bool.not_true, Bool.not_false, alen, abuiltin, anil, isC, Int.reduceEq, Int.reduceLT, Int.reduceLE, Int.reduceAdd, Int.reduceToNat, Int.reduceNeg, Nat.reduceMul, Nat.reduceSub, abuild, afill, Nat.mul_one, List.getElem?_map, Option.map_some, Option.isNone_some, Option.isNone_none, Int.reduceBNe, Int.reduceBEq, bne_self_eq_false, beq_self_eq_true, Int.cast_ofNat_Int, Nat.zero_mul, Nat.sub_zero, hw, Try.underlying28, asz5, azc5, aby5, Try.underlying50, azc50, apl50, abox, Value.cells]
  have hz : zeros [.int .u8 0] (64 * n) = bl (List.replicate n zero64).flatten := by
    rw [show (List.replicate n zero64).flatten = List.replicate (64 * n) 0 by
      unfold zero64; rw [List.flatten_replicate_replicate, Nat.mul_comm]]
    simp [zeros, bl]
  rw [hz]
  refine ⟨by omega, ?_⟩
  refine hk (st.n + 1) (rW st.n (List.replicate n zero64) (.slice none 0 0) (-1) [] [] (st.n + 1)) _ ⟨st.n, _, [], [], rfl, .inl ⟨rfl, rfl, rfl⟩, ⟨fine_zero n, fun w hw => by simp at hw⟩, rfl⟩ ?_
  rw [rW_app, List.length_replicate]
  exact (hO.new (.cells (bl (List.replicate n zero64).flatten) 5 true)).new (rpc st.n (64 * n) (.slice none 0 0) (-1))

set_option maxRecDepth 10000 in
theorem power_spec (st : St) (r : Hp) (p : Nat) (sv wv : Value) (fz : Int) (hO : Own st ((p, .cells [sv, wv, .int .i64 fz] 50 true) :: r)) (hb : fz ≤ 9223372036854775807) (k q : Value → St → Prop)
    (h0 : fz = 0 → k (.bool false) st) (h1 : ∀ s, fz ≠ 0 → Own s ((p, .cells [sv, wv, .int .i64 (dec1 fz)] 50 true) :: r) → k (.bool true) s) :
    ACall (C base w0 G) 27 [.pointer (some ⟨p, 0, none⟩)] st k q := by
  refine ACall.of (cx := C base w0 G) mixed Try.func27 rfl (by kernel_rfl) (by simp [Try.ntmps27]) ?_
  simp only [Try.results27]
  have hp := hO.head
  simp (config := { implicitDefEqProofs := false }) only [↓stop1, ↓stop2, ↓stop3, ↓awp_seq, ↓awp_region, ↓awp_draw, ↓awp_cond, ↓awp_block, ↓awp_loop, ↓awp_exit, ↓awp_ret, ↓awp_skip, ↓awp_label, ↓thenQ_normal, ↓thenQ_ret, ↓thenQ_exit, ↓inBlockQ_normal, ↓inBlockQ_ret, ↓inBlockQ_exit, ↓retQ_normal, ↓retQ_ret, ↓aops_nil, ↓aops_op, ↓aops_op0, ↓aops_g, ↓adraw_nil, ↓adraw_cons, ↓apend_nil, ↓apend_cons, getR_cons, ↓yld_def, ↓atO_some, ↓aexec_plain, ↓aexec_guard, putO_some, putO_none, ↓ab_move, ↓ab_assign, ↓ab_pick, ↓ab_alloc, ↓ab_box, ↓ab_build, ↓ab_buildSlice, ↓ab_load, ↓ab_store, ↓ab_nilCheck, ↓ab_binOp, ↓ab_unOp, ↓ab_convert, ↓ab_makeInterface, ↓ab_makeFunc, ↓ab_makeSlice, ↓ab_slice, ↓ab_fieldAddr, ↓ab_field, ↓ab_indexAddr, ↓ab_index, ↓ab_extract, ↓ab_call, ↓ab_builtin, ↓ab_panic, ev_tmp, ev_int, ev_bool, ev_string, ev_nilptr, ev_nilslc, ev_nilIface, ev_func, put_apply, env0_zero, env0_succ, olet_some, slet_some, alet_some, acallV_fn, apick_bool, aloadV_ptr, astoreV_ptr, anilCheck_ptr, abranch_true, abranch_false, abranch_dec, ↓acond_yes, ↓acond_no1, ↓acond_no2, afieldAddr, aload, astore, abin, anum, astr, aun, isAggD, cond_true, cond_false, ↓reduceIte, C_P, C_G, isTuple, Value.cells, setL, List.set_cons_zero, List.set_cons_succ, ares, aresL, ares1, reduceCtorEq, List.getElem?_cons_zero, List.getElem?_cons_succ, Nat.reduceEqDiff, eq_self, Nat.zero_add, Nat.reduceAdd, if_true, if_false, List.size_toArray, List.length_cons, List.length_nil, List.all_cons, List.all_nil, one, Bool.and_true, Bool.and_self, true_and, and_true, Nat.reduceLeDiff, abranch_eq, abranch_ne, abranch_not, set_H, set_n, new_n, new_H, List.map_cons, List.map_nil, Option.map_some, Option.map_none, Nat.add_zero, and_self, undef, gsl, Option.bind_some, List.getElem?_toArray, aextract, List.cons_append, List.nil_append, List.append_nil, olet_if, slet_if, alet_if, olet_mapif, aindexAddr, Int.toNat_natCast, amake, not_true_eq_false, not_false_eq_true, false_implies, true_implies, implies_true, forall_const, Bool.not_true, Bool.not_false, alen, abuiltin, anil, isC, Int.reduceEq, Int.reduceLT, Int.reduceLE, Int.reduceAdd, Int.reduceToNat, Int.reduceNeg, Nat.reduceMul, Nat.reduceSub, abuild, afill, Nat.mul_one, List.getElem?_map, Option.map_some, Option.isNone_some, Option.isNone_none, Int.reduceBNe, Int.reduceBEq, bne_self_eq_false, beq_self_eq_true, Int.cast_ofNat_Int, Nat.zero_mul, Nat.sub_zero, hp, afo50_2, asz3, Try.underlying3]
  refine ⟨h0, fun h3 => ⟨fun h4 => ?_, fun h4 => ?_⟩⟩
  · rw [w_i64 (by omega)]
    refine h1 _ h3 ?_
    simp only [dec1, show 0 < fz from h4, if_true]; exact hO.set rfl _ rfl
  · refine h1 _ h3 ?_
    simp only [dec1, show ¬ 0 < fz from h4, if_false]; exact hO

set_option maxRecDepth 10000 in
theorem Right_spec (st : St) (r h : Hp) (p : Nat) (S : List (List Int)) (L : List Lt) (fz at_ : Int) (hD : RK p S L fz h) (hO : Own st (h ++ r)) (hn : S.length ≤ 4096) (k q : Value → St → Prop)
    (hk : k (.bool (decide (0 ≤ at_ ∧ at_ < S.length))) st) : ACall (C base w0 G) 21 [.pointer (some ⟨p, 0, none⟩), .int .i64 at_] st k q := by
  obtain ⟨bb, wv, hw, W, rfl, hW, hf, rfl⟩ := hD
  rw [rW_app] at hO
  have hp := hO.head
  refine ACall.of (cx := C base w0 G) mixed Try.func21 rfl (by kernel_rfl) (by simp [Try.ntmps21]) ?_
  simp only [Try.results21]
  have hq : IntKind.i64.wrap (((64 * S.length : Nat) : Int).tdiv 64) = S.length := by
    rw [show ((64 * S.length : Nat) : Int) = 64 * (S.length : Int) by omega, Int.mul_tdiv_cancel_left _ (by decide), w_i64 (by omega)]
  by_cases h : 0 ≤ at_
  · simp (config := { implicitDefEqProofs := false }) only [↓stop1, ↓stop2, ↓stop3, ↓awp_seq, ↓awp_region, ↓awp_draw, ↓awp_cond, ↓awp_block, ↓awp_loop, ↓awp_exit, ↓awp_ret, ↓awp_skip, ↓awp_label, ↓thenQ_normal, ↓thenQ_ret, ↓thenQ_exit, ↓inBlockQ_normal, ↓inBlockQ_ret, ↓inBlockQ_exit, ↓retQ_normal, ↓retQ_ret, ↓aops_nil, ↓aops_op, ↓aops_op0, ↓aops_g, ↓adraw_nil, ↓adraw_cons, ↓apend_nil, ↓apend_cons, getR_cons, ↓yld_def, ↓atO_some, ↓aexec_plain, ↓aexec_guard, putO_some, putO_none, ↓ab_move, ↓ab_assign, ↓ab_pick, ↓ab_alloc, ↓ab_box, ↓ab_build, ↓ab_buildSlice, ↓ab_load, ↓ab_store, ↓ab_nilCheck, ↓ab_binOp, ↓ab_unOp, ↓ab_convert, ↓ab_makeInterface, ↓ab_makeFunc, ↓ab_makeSlice, ↓ab_slice, ↓ab_fieldAddr, ↓ab_field, ↓ab_indexAddr, ↓ab_index, ↓ab_extract, ↓ab_call, ↓ab_builtin, ↓ab_panic, ev_tmp, ev_int, ev_bool, ev_string, ev_nilptr, ev_nilslc, ev_nilIface, ev_func, put_apply, env0_zero, env0_succ, olet_some, slet_some, alet_some, acallV_fn, apick_bool, aloadV_ptr, astoreV_ptr, anilCheck_ptr, abranch_true, abranch_false, abranch_dec, ↓acond_yes, ↓acond_no1, ↓acond_no2, afieldAddr, aload, astore, abin, anum, astr, aun, isAggD, cond_true, cond_false, ↓reduceIte, C_P, C_G, isTuple, Value.cells, setL, List.set_cons_zero, List.set_cons_succ, ares, aresL, ares1, reduceCtorEq, List.getElem?_cons_zero, List.getElem?_cons_succ, Nat.reduceEqDiff, eq_self, Nat.zero_add, Nat.reduceAdd, if_true, if_false, List.size_toArray, List.length_cons, List.length_nil, List.all_cons, List.all_nil, one, Bool.and_true, Bool.and_self, true_and, and_true, Nat.reduceLeDiff, abranch_eq, abranch_ne, abranch_not, set_H, set_n, new_n, new_H, List.map_cons, List.map_nil, Option.map_some, Option.map_none, Nat.add_zero, and_self, undef, gsl, Option.bind_some, List.getElem?_toArray, aextract, List.cons_append, List.nil_append, List.append_nil, olet_if, slet_if, alet_if, olet_mapif, aindexAddr, Int.toNat_natCast, amake, not_true_eq_false, not_false_eq_true, false_implies, true_implies, implies_true, forall_const, Bool.not_true, Bool.not_false, alen, abuiltin, anil, isC, Int.reduceEq, Int.reduceLT, Int.reduceLE, Int.reduceAdd, Int.reduceToNat, Int.reduceNeg, Nat.reduceMul, Nat.reduceSub, abuild, afill, Nat.mul_one, List.getElem?_map, Option.map_some, Option.isNone_some, Option.isNone_none, Int.reduceBNe, Int.reduceBEq, bne_self_eq_false, beq_self_eq_true, Int.cast_ofNat_Int, Nat.zero_mul, Nat.sub_zero, hp, rpc, afo50_0, asz28, Try.underlying28, Try.underlying3, ge_iff_le, h, decide_true, hq]
    simpa [h] using hk
  · simp (config := { implicitDefEqProofs := false }) only [↓stop1, ↓stop2, ↓stop3, ↓awp_seq, ↓awp_region, ↓awp_draw, ↓awp_cond, ↓awp_block, ↓awp_loop, ↓awp_exit, ↓awp_ret, ↓awp_skip, ↓awp_label, ↓thenQ_normal, ↓thenQ_ret, ↓thenQ_exit, ↓inBlockQ_normal, ↓inBlockQ_ret, ↓inBlockQ_exit, ↓retQ_normal, ↓retQ_ret, ↓aops_nil, ↓aops_op, ↓aops_op0, ↓aops_g, ↓adraw_nil, ↓adraw_cons, ↓apend_nil, ↓apend_cons, getR_cons, ↓yld_def, ↓atO_some, ↓aexec_plain, ↓aexec_guard, putO_some, putO_none, ↓ab_move, ↓ab_assign, ↓ab_pick, ↓ab_alloc, ↓ab_box, ↓ab_build, ↓ab_buildSlice, ↓ab_load, ↓ab_store, ↓ab_nilCheck, ↓ab_binOp, ↓ab_unOp, ↓ab_convert, ↓ab_makeInterface, ↓ab_makeFunc, ↓ab_makeSlice, ↓ab_slice, ↓ab_fieldAddr, ↓ab_field, ↓ab_indexAddr, ↓ab_index, ↓ab_extract, ↓ab_call, ↓ab_builtin, ↓ab_panic, ev_tmp, ev_int, ev_bool, ev_string, ev_nilptr, ev_nilslc, ev_nilIface, ev_func, put_apply, env0_zero, env0_succ, olet_some, slet_some, alet_some, acallV_fn, apick_bool, aloadV_ptr, astoreV_ptr, anilCheck_ptr, abranch_true, abranch_false, abranch_dec, ↓acond_yes, ↓acond_no1, ↓acond_no2, afieldAddr, aload, astore, abin, anum, astr, aun, isAggD, cond_true, cond_false, ↓reduceIte, C_P, C_G, isTuple, Value.cells, setL, List.set_cons_zero, List.set_cons_succ, ares, aresL, ares1, reduceCtorEq, List.getElem?_cons_zero, List.getElem?_cons_succ, Nat.reduceEqDiff, eq_self, Nat.zero_add, Nat.reduceAdd, if_true, if_false, List.size_toArray, List.length_cons, List.length_nil, List.all_cons, List.all_nil, one, Bool.and_true, Bool.and_self, true_and, and_true, Nat.reduceLeDiff, abranch_eq, abranch_ne, abranch_not, set_H, set_n, new_n, new_H, List.map_cons, List.map_nil, Option.map_some, Option.map_none, Nat.add_zero, and_self, undef, gsl, Option.bind_some, List.getElem?_toArray, aextract, List.cons_append, List.nil_append, List.append_nil, olet_if, slet_if, alet_if, olet_mapif, aindexAddr, Int.toNat_natCast, amake, not_true_eq_false, not_false_eq_true, false_implies, true_implies, implies_true, forall_const, Bool.not_true, Bool.not_false, alen, abuiltin, anil, isC, Int.reduceEq, Int.reduceLT, Int.reduceLE, Int.reduceAdd, Int.reduceToNat, Int.reduceNeg, Nat.reduceMul, Nat.reduceSub, abuild, afill, Nat.mul_one, List.getElem?_map, Option.map_some, Option.isNone_some, Option.isNone_none, Int.reduceBNe, Int.reduceBEq, bne_self_eq_false, beq_self_eq_true, Int.cast_ofNat_Int, Nat.zero_mul, Nat.sub_zero, hp, rpc, afo50_0, asz28, Try.underlying28, Try.underlying3, ge_iff_le, h, decide_false, hq]
    simpa [h] using hk
end Go.Proofs.Ytfmpfgcdbpjpgaa
