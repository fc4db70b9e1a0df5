/- Contracts of the program's functions over the abstract heap, and what follows from them (a part of the proof of this seat's laws). -/
import Derived.Test.YtfmpfgcdbpjpgaaD20
set_option linter.unusedVariables false
set_option linter.unusedSimpArgs false
namespace Go.Proofs.Ytfmpfgcdbpjpgaa
open Go Go.Abs Go.RowKit Go.ChangeShapes
variable {base : Nat} {w0 : World} {G : Nat}

set_option maxRecDepth 10000 in
theorem RRead_spec (st : St) (r h : Hp) (p n : Nat) (S : List (List Int)) (L : List Lt) (fz : Int) (hD : RK p S L fz h) (hO : Own st (h ++ r)) (hn : n < S.length) (hS : S.length ≤ 4096) (hl : L.length ≤ 1000000) (k q : Value → St → Prop)
    (hk : ∀ b st', (readL (S.getD n []) L n).length = 64 → Own st' ((b, .cells (bl (readL (S.getD n []) L n)) 5 true) :: (h ++ r)) → k (.slice (some ⟨b, 0, some 0⟩) 64 64) st') :
    ACall (C base w0 G) 22 [.pointer (some ⟨p, 0, none⟩), .int .i64 n] st k q := by
  obtain ⟨bb, wv, hw, W, rfl, hW, hf, rfl⟩ := hD
  rw [rW_app] at hO hk
  have hp := hO.head
  have hfl : (forget W).length = W.length := by simp [forget]
  obtain ⟨sv, hsv⟩ : ∃ sv, S[n]? = some sv := ⟨S[n]'(by omega), by simp⟩
  have hgd : S.getD n [] = sv := by rw [List.getD_eq_getElem?_getD, hsv]; rfl
  have hsl : sv.length = 64 := hf.1 sv (List.mem_of_getElem? hsv)
  rw [hgd] at hk
  have h64 : ∀ m, (readL sv (forget (W.take m)) n).length = 64 := fun m => readL_64 hsl fun w hw => by
    obtain ⟨w', h1, rfl⟩ := List.mem_map.1 hw
    exact (hf.2 w' (List.mem_of_mem_take h1)).2
  obtain ⟨wa, rfl⟩ := hW.len
  refine ACall.of (cx := C base w0 G) mixed Try.func22 rfl (by kernel_rfl) (by simp [Try.ntmps22]) ?_
  simp only [Try.results22]
  have hw1 : IntKind.i64.wrap (64 * (n : Int)) = ((64 * n : Nat) : Int) := by rw [w_i64 (by omega)]; omega
  have hw2 : IntKind.i64.wrap (((64 * n : Nat) : Int) + 64) = ((64 * n + 64 : Nat) : Int) := by rw [w_i64 (by omega)]; omega
  have hbm := hO.tail.head
  have hbl := hO.tail.lt (List.mem_cons_self ..)
  have hpl := hO.lt (List.mem_cons_self ..)
  have hpn : ¬ p = st.n := by omega
  have hbn : ¬ bb = st.n := by omega
  have hcutb := flat_cut hf.1 hsv
  have hfll := flat_length hf.1
  have hsrc : asrc (st.new (.cells [] 5 true)) 1 (.slice (some ⟨bb, 64 * n, some 0⟩) 64 (64 * S.length - 64 * n)) = some (64, bl sv) := by
    simp only [asrc, acut, new_old _ hbl, hbm, Nat.mul_one, hcutb]
  have hop : openOK Try.prog (st.new (.cells [] 5 true)) bb 0 (64 * S.length) 1 none = true := openOK_whole ((new_old _ hbl).trans hbm) asz5 (by rw [bl_length, hfll]; omega)
  simp (config := { implicitDefEqProofs := false }) only [↓stop1, ↓stop2, ↓stop3, ↓awp_seq, ↓awp_region, ↓awp_draw, ↓awp_cond, ↓awp_block, ↓awp_loop, ↓awp_exit, ↓awp_ret, ↓awp_skip, ↓awp_label, ↓thenQ_normal, ↓thenQ_ret, ↓thenQ_exit, ↓inBlockQ_normal, ↓inBlockQ_ret, ↓inBlockQ_exit, ↓retQ_normal, ↓retQ_ret, ↓aops_nil, ↓aops_op, ↓aops_op0, ↓aops_g, ↓adraw_nil, ↓adraw_cons, ↓apend_nil, ↓apend_cons, getR_cons, ↓yld_def, ↓atO_some, ↓aexec_plain, ↓aexec_guard, putO_some, putO_none, ↓ab_move, ↓ab_assign, ↓ab_pick, ↓ab_alloc, ↓ab_box, ↓ab_build, ↓ab_buildSlice, ↓ab_load, ↓ab_store, ↓ab_nilCheck, ↓ab_binOp, ↓ab_unOp, ↓ab_convert, ↓ab_makeInterface, ↓ab_makeFunc, ↓ab_makeSlice, ↓ab_slice, ↓ab_fieldAddr, ↓ab_field, ↓ab_indexAddr, ↓ab_index, ↓ab_extract, ↓ab_call, ↓ab_builtin, ↓ab_panic, ev_tmp, ev_int, ev_bool, ev_string, ev_nilptr, ev_nilslc, ev_nilIface, ev_func, put_apply, env0_zero, env0_succ, olet_some, slet_some, alet_some, acallV_fn, apick_bool, aloadV_ptr, astoreV_ptr, anilCheck_ptr, abranch_true, abranch_false, abranch_dec, ↓acond_yes, ↓acond_no1, ↓acond_no2, afieldAddr, aload, astore, abin, anum, astr, aun, isAggD, cond_true, cond_false, ↓reduceIte, C_P, C_G, isTuple, Value.cells, setL, List.set_cons_zero, List.set_cons_succ, ares, aresL, ares1, reduceCtorEq, List.getElem?_cons_zero, List.getElem?_cons_succ, Nat.reduceEqDiff, eq_self, Nat.zero_add, Nat.reduceAdd, if_true, if_false, List.size_toArray, List.length_cons, List.length_nil, List.all_cons, List.all_nil, one, Bool.and_true, Bool.and_self, true_and, and_true, Nat.reduceLeDiff, abranch_eq, abranch_ne, abranch_not, set_H, set_n, new_n, new_H, List.map_cons, List.map_nil, Option.map_some, Option.map_none, Nat.add_zero, and_self, undef, gsl, Option.bind_some, List.getElem?_toArray, aextract, List.cons_append, List.nil_append, List.append_nil, olet_if, slet_if, alet_if, olet_mapif, aindexAddr, Int.toNat_natCast, amake, not_true_eq_false, not_false_eq_true, false_implies, true_implies, implies_true, forall_const, Bool.not_true, Bool.not_false, alen, abuiltin, anil, isC, Int.reduceEq, Int.reduceLT, Int.reduceLE, Int.reduceAdd, Int.reduceToNat, Int.reduceNeg, Nat.reduceMul, Nat.reduceSub, abuild, afill, Nat.mul_one, List.getElem?_map, Option.map_some, Option.isNone_some, Option.isNone_none, Int.reduceBNe, Int.reduceBEq, bne_self_eq_false, beq_self_eq_true, Int.cast_ofNat_Int, Nat.zero_mul, Nat.sub_zero, hp, hpn, rpc, afo50_0, asz28, Try.underlying28, hw1, hw2, abuildSlice_none (st := st) Try.underlying28 asz5 azc5,
    aslice_of (st := st.new (.cells [] 5 true)) (sp := none) (B := bb) (off := 0) (len := 64 * S.length) (cap := 64 * S.length) (l := 64 * n) (h := 64 * n + 64) Try.underlying28 asz5 hop (abounds_lohi (by omega) (by omega)), Nat.add_sub_cancel_left,
    aappend_grow (t' := 28) (st := st.new (.cells [] 5 true)) (B := st.n) (off := 0) (len := 0) (cap := 0) (x := .slice (some ⟨bb, 64 * n, some 0⟩) 64 (64 * S.length - 64 * n)) (m := 64) (Cs := bl sv) (cs := []) (ty := 5) (own := true) (old := []) (n := 0) (b := 0) (e := 5) (z := [.int .u8 0]) Try.underlying28 (by rw [Try.underlying28]; rfl) asz5 azc5 aby5 hsrc (bl_one _) (new_at _) (by decide) rfl (by decide)]
  have hO1 := (hO.new (.cells [] 5 true)).tail.new (.cells (bl sv) 5 true)
  refine ⟨fun m ρ s => ∃ (i b : Nat), m = W.length - i ∧ i ≤ W.length ∧ ρ 0 = .pointer (some ⟨p, 0, none⟩) ∧ ρ 1 = .int .i64 n ∧ ρ 6 = .int .i64 i ∧ ρ 5 = .slice (some ⟨b, 0, some 0⟩) 64 64 ∧
    Own s ((b, .cells (bl (readL sv (forget (W.take i)) n)) 5 true) :: (p, rpc bb (64 * S.length) (.slice wa W.length W.length) fz) :: (bb, .cells (bl S.flatten) 5 true) :: (hw ++ (wbs W ++ r))), ⟨W.length, 0, st.n + 1, rfl, Nat.zero_le _, rfl, rfl, rfl, rfl, hO1⟩, ?_⟩
  clear hO hO1 hp hbm hsrc hop
  rintro m ρ s ⟨i, b, rfl, hi, h0, h1, h6, h5, hs⟩
  have hp := hs.tail.head
  by_cases him : i < W.length
  · obtain ⟨w, hwi⟩ : ∃ w, W[i]? = some w := ⟨W[i]'him, by simp⟩
    have hwS := hf.2 w (List.mem_of_getElem? hwi)
    have hW0 := hW
    rcases hW0 with ⟨_, rfl, _⟩ | ⟨wb, he, rfl⟩
    · simp at him
    injection he with he1 he2 he3
    subst he1
    have hcut := wc_at0 hwi
    have g0 : (wc W)[i * 2]? = some (.int .i64 (w.1 : Nat)) := by have := cut_get hcut (j := 0) (by omega); simpa using this
    have g1 : (wc W)[i * 2 + 1]? = some (slo w.2.2) := by have := cut_get hcut (j := 1) (by omega); simpa using this
    have hwm := hs.get (b := wb) (o := .cells (wc W) 60 true) (by simp)
    have htk : readL sv (forget (W.take (i + 1))) n = if w.1 = n then w.2.1 else readL sv (forget (W.take i)) n := by
      rw [List.take_add_one, hwi]; simp [forget, readL]
    by_cases hwn : w.1 = n
    · have hwl := hs.lt (b := wb) (o := .cells (wc W) 60 true) (by simp)
      have hpl := hs.tail.lt (List.mem_cons_self ..)
      have hpn : ¬ p = s.n := by omega
      have hwn0 : ¬ wb = s.n := by omega
      have hbsm : (w.2.2, Ob.cells (bl w.2.1) 5 true) ∈ wbs W := wbs_at hwi
      have hsrc : asrc (s.new (.cells [] 5 true)) 1 (slo w.2.2) = some (64, bl w.2.1) := by
        have hb2 := Bs.whole (c := 64) (sp := some 0) (h := (s.n, .cells [] 5 true) :: (b, .cells (bl (readL sv (forget (W.take i)) n)) 5 true) :: (p, rpc bb (64 * S.length) (.slice (some ⟨wb, 0, some 0⟩) W.length W.length) fz) :: (bb, .cells (bl S.flatten) 5 true) :: ([(wb, .cells (wc W) 60 true)] ++ (wbs W ++ r))) (b := w.2.2) (l := w.2.1) (ty := 5) (own := true) (by simp [hbsm])
        have := Bs.src (hs.new (.cells [] 5 true)) hb2
        rw [hwS.2] at this
        exact this
      simp (config := { implicitDefEqProofs := false }) only [↓stop1, ↓stop2, ↓stop3, ↓awp_seq, ↓awp_region, ↓awp_draw, ↓awp_cond, ↓awp_block, ↓awp_loop, ↓awp_exit, ↓awp_ret, ↓awp_skip, ↓awp_label, ↓thenQ_normal, ↓thenQ_ret, ↓thenQ_exit, ↓inBlockQ_normal, ↓inBlockQ_ret, ↓inBlockQ_exit, ↓retQ_normal, ↓retQ_ret, ↓aops_nil, ↓aops_op, ↓aops_op0, ↓aops_g, ↓adraw_nil, ↓adraw_cons, ↓apend_nil, ↓apend_cons, getR_cons, ↓yld_def, ↓atO_some, ↓aexec_plain, ↓aexec_guard, putO_some, putO_none, ↓ab_move, ↓ab_assign, ↓ab_pick, ↓ab_alloc, ↓ab_box, ↓ab_build, ↓ab_buildSlice, ↓ab_load, ↓ab_store, ↓ab_nilCheck, ↓ab_binOp, ↓ab_unOp, ↓ab_convert, ↓ab_makeInterface, ↓ab_makeFunc, ↓ab_makeSlice, ↓ab_slice, ↓ab_fieldAddr, ↓ab_field, ↓ab_indexAddr, ↓ab_index, ↓ab_extract, ↓ab_call, ↓ab_builtin, ↓ab_panic, ev_tmp, ev_int, ev_bool, ev_string, ev_nilptr, ev_nilslc, ev_nilIface, ev_func, put_apply, env0_zero, env0_succ, olet_some, slet_some, alet_some, acallV_fn, apick_bool, aloadV_ptr, astoreV_ptr, anilCheck_ptr, abranch_true, abranch_false, abranch_dec, ↓acond_yes, ↓acond_no1, ↓acond_no2, afieldAddr, aload, astore, abin, anum, astr, aun, isAggD, cond_true, cond_false, ↓reduceIte, C_P, C_G, isTuple, Value.cells, setL, List.set_cons_zero, List.set_cons_succ, ares, aresL, ares1, reduceCtorEq, List.getElem?_cons_zero, List.getElem?_cons_succ, Nat.reduceEqDiff, eq_self, Nat.zero_add, Nat.reduceAdd, if_true, if_false, List.size_toArray, List.length_cons, List.length_nil, List.all_cons, List.all_nil, one, Bool.and_true, Bool.and_self, true_and, and_true, Nat.reduceLeDiff, abranch_eq, abranch_ne, abranch_not, set_H, set_n, new_n, new_H, List.map_cons, List.map_nil, Option.map_some, Option.map_none, Nat.add_zero, and_self, undef, gsl, Option.bind_some, List.getElem?_toArray, aextract, List.cons_append, List.nil_append, List.append_nil, olet_if, slet_if, alet_if, olet_mapif, aindexAddr, Int.toNat_natCast, amake, not_true_eq_false, not_false_eq_true, false_implies, true_implies, implies_true, forall_const, Bool.not_true, Bool.not_false, alen, abuiltin, anil, isC, Int.reduceEq, Int.reduceLT, Int.reduceLE, Int.reduceAdd, Int.reduceToNat, Int.reduceNeg, Nat.reduceMul, Nat.reduceSub, abuild, afill, Nat.mul_one, List.getElem?_map, Option.map_some, Option.isNone_some, Option.isNone_none, Int.reduceBNe, Int.reduceBEq, bne_self_eq_false, beq_self_eq_true, Int.cast_ofNat_Int, Nat.zero_mul, Nat.sub_zero, h0, h1, h6, h5, him, hwn, Int.ofNat_lt, decide_true, hp, hpn, hwn0, rpc, afo50_1, afo60_0, afo60_1, asz48, asz60, asz3, asz28, Try.underlying48, Try.underlying3, Try.underlying28, hwm, g0, g1, abuildSlice_none (st := s) Try.underlying28 asz5 azc5,
        aappend_grow (t' := 28) (st := s.new (.cells [] 5 true)) (B := s.n) (off := 0) (len := 0) (cap := 0) (x := slo w.2.2) (m := 64) (Cs := bl w.2.1) (cs := []) (ty := 5) (own := true) (old := []) (n := 0) (b := 0) (e := 5) (z := [.int .u8 0]) Try.underlying28 (by rw [Try.underlying28]; rfl) asz5 azc5 aby5 hsrc (bl_one _) (new_at _) (by decide) rfl (by decide)]
      refine ⟨by omega, by omega, W.length - (i + 1), by omega, i + 1, s.n + 1, rfl, by omega, by rw [w_i64 (by omega)]; rfl, rfl, ?_⟩
      rw [htk, if_pos hwn]
      exact (hs.tail.new (.cells [] 5 true)).tail.new (.cells (bl w.2.1) 5 true)
    · simp (config := { implicitDefEqProofs := false }) only [↓stop1, ↓stop2, ↓stop3, ↓awp_seq, ↓awp_region, ↓awp_draw, ↓awp_cond, ↓awp_block, ↓awp_loop, ↓awp_exit, ↓awp_ret, ↓awp_skip, ↓awp_label, ↓thenQ_normal, ↓thenQ_ret, ↓thenQ_exit, ↓inBlockQ_normal, ↓inBlockQ_ret, ↓inBlockQ_exit, ↓retQ_normal, ↓retQ_ret, ↓aops_nil, ↓aops_op, ↓aops_op0, ↓aops_g, ↓adraw_nil, ↓adraw_cons, ↓apend_nil, ↓apend_cons, getR_cons, ↓yld_def, ↓atO_some, ↓aexec_plain, ↓aexec_guard, putO_some, putO_none, ↓ab_move, ↓ab_assign, ↓ab_pick, ↓ab_alloc, ↓ab_box, ↓ab_build, ↓ab_buildSlice, ↓ab_load, ↓ab_store, ↓ab_nilCheck, ↓ab_binOp, ↓ab_unOp, ↓ab_convert, ↓ab_makeInterface, ↓ab_makeFunc, ↓ab_makeSlice, ↓ab_slice, ↓ab_fieldAddr, ↓ab_field, ↓ab_indexAddr, ↓ab_index, ↓ab_extract, ↓ab_call, ↓ab_builtin, ↓ab_panic, ev_tmp, ev_int, ev_bool, ev_string, ev_nilptr, ev_nilslc, ev_nilIface, ev_func, put_apply, env0_zero, env0_succ, olet_some, slet_some, alet_some, acallV_fn, apick_bool, aloadV_ptr, astoreV_ptr, anilCheck_ptr, abranch_true, abranch_false, abranch_dec, ↓acond_yes, ↓acond_no1, ↓acond_no2, afieldAddr, aload, astore, abin, anum, astr, aun, isAggD, cond_true, cond_false, ↓reduceIte, C_P, C_G, isTuple, Value.cells, setL, List.set_cons_zero, List.set_cons_succ, ares, aresL, ares1, reduceCtorEq, List.getElem?_cons_zero, List.getElem?_cons_succ, Nat.reduceEqDiff, eq_self, Nat.zero_add, Nat.reduceAdd, if_true, if_false, List.size_toArray, List.length_cons, List.length_nil, List.all_cons, List.all_nil, one, Bool.and_true, Bool.and_self, true_and, and_true, Nat.reduceLeDiff, abranch_eq, abranch_ne, abranch_not, set_H, set_n, new_n, new_H, List.map_cons, List.map_nil, Option.map_some, Option.map_none, Nat.add_zero, and_self, undef, gsl, Option.bind_some, List.getElem?_toArray, aextract, List.cons_append, List.nil_append, List.append_nil, olet_if, slet_if, alet_if, olet_mapif, aindexAddr, Int.toNat_natCast, amake, not_true_eq_false, not_false_eq_true, false_implies, true_implies, implies_true, forall_const, Bool.not_true, Bool.not_false, alen, abuiltin, anil, isC, Int.reduceEq, Int.reduceLT, Int.reduceLE, Int.reduceAdd, Int.reduceToNat, Int.reduceNeg, Nat.reduceMul, Nat.reduceSub, abuild, afill, Nat.mul_one, List.getElem?_map, Option.map_some, Option.isNone_some, Option.isNone_none, Int.reduceBNe, Int.reduceBEq, bne_self_eq_false, beq_self_eq_true, Int.cast_ofNat_Int, Nat.zero_mul, Nat.sub_zero, h0, h1, h6, h5, him, show ¬ (w.1 : Int) = n by omega, Int.ofNat_lt, decide_true, hp, rpc, afo50_1, afo60_0, afo60_1, asz48, asz60, asz3, Try.underlying48, Try.underlying3, hwm, g0, g1]
      refine ⟨by omega, W.length - (i + 1), by omega, i + 1, b, rfl, by omega, by rw [w_i64 (by omega)]; rfl, rfl, ?_⟩
      rw [htk, if_neg hwn]
      exact hs
  · obtain rfl : i = W.length := by omega
    simp (config := { implicitDefEqProofs := false }) only [↓stop1, ↓stop2, ↓stop3, ↓awp_seq, ↓awp_region, ↓awp_draw, ↓awp_cond, ↓awp_block, ↓awp_loop, ↓awp_exit, ↓awp_ret, ↓awp_skip, ↓awp_label, ↓thenQ_normal, ↓thenQ_ret, ↓thenQ_exit, ↓inBlockQ_normal, ↓inBlockQ_ret, ↓inBlockQ_exit, ↓retQ_normal, ↓retQ_ret, ↓aops_nil, ↓aops_op, ↓aops_op0, ↓aops_g, ↓adraw_nil, ↓adraw_cons, ↓apend_nil, ↓apend_cons, getR_cons, ↓yld_def, ↓atO_some, ↓aexec_plain, ↓aexec_guard, putO_some, putO_none, ↓ab_move, ↓ab_assign, ↓ab_pick, ↓ab_alloc, ↓ab_box, ↓ab_build, ↓ab_buildSlice, ↓ab_load, ↓ab_store, ↓ab_nilCheck, ↓ab_binOp, ↓ab_unOp, ↓ab_convert, ↓ab_makeInterface, ↓ab_makeFunc, ↓ab_makeSlice, ↓ab_slice, ↓ab_fieldAddr, ↓ab_field, ↓ab_indexAddr, ↓ab_index, ↓ab_extract, ↓ab_call, ↓ab_builtin, ↓ab_panic, ev_tmp, ev_int, ev_bool, ev_string, ev_nilptr, ev_nilslc, ev_nilIface, ev_func, put_apply, env0_zero, env0_succ, olet_some, slet_some, alet_some, acallV_fn, apick_bool, aloadV_ptr, astoreV_ptr, anilCheck_ptr, abranch_true, abranch_false, abranch_dec, ↓acond_yes, ↓acond_no1, ↓acond_no2, afieldAddr, aload, astore, abin, anum, astr, aun, isAggD, cond_true, cond_false, ↓reduceIte, C_P, C_G, isTuple, Value.cells, setL, List.set_cons_zero, List.set_cons_succ, ares, aresL, ares1, reduceCtorEq, List.getElem?_cons_zero, List.getElem?_cons_succ, Nat.reduceEqDiff, eq_self, Nat.zero_add, Nat.reduceAdd, if_true, if_false, List.size_toArray, List.length_cons, List.length_nil, List.all_cons, List.all_nil, one, Bool.and_true, Bool.and_self, true_and, and_true, Nat.reduceLeDiff, abranch_eq, abranch_ne, abranch_not, set_H, set_n, new_n, new_H, List.map_cons, List.map_nil, Option.map_some, Option.map_none, Nat.add_zero, and_self, undef, gsl, Option.bind_some, List.getElem?_toArray, aextract, List.cons_append, List.nil_append, List.append_nil, olet_if, slet_if, alet_if, olet_mapif, aindexAddr, Int.toNat_natCast, amake, not_true_eq_false, not_false_eq_true, false_implies, true_implies, implies_true, forall_const, Bool.not_true, Bool.not_false, alen, abuiltin, anil, isC, Int.reduceEq, Int.reduceLT, Int.reduceLE, Int.reduceAdd, Int.reduceToNat, Int.reduceNeg, Nat.reduceMul, Nat.reduceSub, abuild, afill, Nat.mul_one, List.getElem?_map, Option.map_some, Option.isNone_some, Option.isNone_none, Int.reduceBNe, Int.reduceBEq, bne_self_eq_false, beq_self_eq_true, Int.cast_ofNat_Int, Nat.zero_mul, Nat.sub_zero, h0, h1, h6, h5, him, Int.ofNat_lt, decide_false, hp, rpc, afo50_1, asz48, Try.underlying48]
    have h64' := h64 W.length
    rw [List.take_length] at hs h64'
    exact hk b s h64' hs
end Go.Proofs.Ytfmpfgcdbpjpgaa
