/- Contracts of the program's functions over the abstract heap, and what follows from them (a part of the proof of this seat's laws). No conditions. -/
import Derived.Test.YtiooigkcliomlaaJ4
set_option linter.unusedVariables false
set_option linter.unusedSimpArgs false
namespace Go.Proofs.Ytiooigkcliomlaa
open Go Go.Abs
variable {base : Nat} {w0 : World} {G : Nat}

def kp (keep : Int) (n : Nat) : Nat := (max 0 (min keep n)).toNat
/-- What a crash leaves. -/
def crashS (S : List (List Int)) (L : List Lt) (keep part : Int) : List (List Int) :=
  match L.drop (kp keep L.length) with
  | [] => appL S (L.take (kp keep L.length))
  | w :: _ => (appL S (L.take (kp keep L.length))).set w.1 (w.2.take (kp part 64) ++ ((appL S (L.take (kp keep L.length))).getD w.1 []).drop (kp part 64))

theorem amm_keep (keep : Int) (n : Nat) : amm false (.int .i64 keep) [.int .i64 (n : Nat)] = some (.int .i64 (min keep n)) := by
  simp only [amm, Bool.false_eq_true, if_false, Option.some.injEq, Value.int.injEq, true_and]
  split <;> omega
theorem amm_max0 (x : Int) : amm true (.int .i64 0) [.int .i64 x] = some (.int .i64 (max 0 x)) := by
  simp only [amm, if_true, Option.some.injEq, Value.int.injEq, true_and]
  split <;> omega
theorem kp_int (keep : Int) (n : Nat) : max 0 (min keep n) = (kp keep n : Int) := by unfold kp; omega
theorem kp_le (keep : Int) (n : Nat) : kp keep n ≤ n := by unfold kp; omega

theorem crashS_eq (S : List (List Int)) (W : List Wt) (keep part : Int) : crashS S (forget W) keep part = match W.drop (kp keep W.length) with
    | [] => app S (W.take (kp keep W.length))
    | w :: _ => (app S (W.take (kp keep W.length))).set w.1 (w.2.1.take (kp part 64) ++ ((app S (W.take (kp keep W.length))).getD w.1 []).drop (kp part 64)) := by
  unfold crashS
  have h1 : (forget W).length = W.length := by simp [forget]
  have h2 : ∀ m, (forget W).drop m = forget (W.drop m) := fun m => by simp [forget]
  have h3 : ∀ m, (forget W).take m = forget (W.take m) := fun m => by simp [forget]
  rw [h1, h2, h3, ← app_forget]
  cases W.drop (kp keep W.length) <;> rfl
theorem setL_part (l sv : List Int) (c : Nat) (h : l.length = 64) (h' : sv.length = 64) (hc : c ≤ 64) : setL (bl sv) 0 ((bl l).take c) = bl (l.take c ++ sv.drop c) := by
  rw [setL_take_drop _ _ _ (by simp [bl]; omega)]
  simp [bl, Nat.min_eq_left (h ▸ hc)]

set_option maxRecDepth 10000 in
theorem Crash_spec (st : St) (r h : Hp) (p : Nat) (S : List (List Int)) (L : List Lt) (fz keep part : Int) (hD : DK p S L fz h) (hO : Own st (h ++ r)) (hl : L.length ≤ 1000000) (k q : Value → St → Prop)
    (hk : ∀ h' st', DK p (crashS S L keep part) [] (-1) h' → Own st' (h' ++ r) → k (.tuple #[]) st') : ACall (C base w0 G) 13 [.pointer (some ⟨p, 0, none⟩), .int .i64 keep, .int .i64 part] st k q := by
  obtain ⟨sb, xs, wv, hw, W, rfl, hW, hx, hf, rfl⟩ := hD
  rw [dW_app] at hO
  have hp := hO.head
  have hfl : (forget W).length = W.length := by simp [forget]
  refine ACall.of (cx := C base w0 G) mixed Try.func13 rfl (by kernel_rfl) (by simp [Try.ntmps13]) ?_
  simp only [Try.results13]
  obtain ⟨a, rfl⟩ := hW.len
  simp (config := { implicitDefEqProofs := false }) only [↓GP, GQ, ↓awp_seq, ↓awp_block, C_ex, Nat.reduceBEq, acap, afieldAddr, aload, astore, abin, anum, astr, aun, isAggD, cond_true, cond_false, ↓reduceIte, C_P, C_G, isTuple, Value.cells, setL, ares, aresL, ares1, reduceCtorEq, Nat.reduceEqDiff, eq_self, Nat.reduceAdd, if_true, if_false, one, Nat.reduceLeDiff, undef, gsl, aextract, aindexAddr, amake, implies_true, forall_const, alen, abuiltin, anil, isC, Int.reduceEq, Int.reduceLT, Int.reduceLE, Int.reduceAdd, Int.reduceToNat, Int.reduceNeg, Nat.reduceMul, Nat.reduceSub, abuild, afill, Int.reduceBNe, Int.reduceBEq, hp, pc, afo64_1, asz62, Try.underlying62, amm_keep, amm_max0, kp_int]
  refine ACallF.enter Try.func39 rfl (by kernel_rfl) (done_spec st r p sb xs S _ fz W hw (kp keep W.length) hO hW hx hf (kp_le _ _) (by rw [hfl] at hl; exact hl) _ _ (fun wv' hw' st' hW' hO' => ?_))
  have h1 := drop_own (m := kp keep W.length) hO'
  have h2 := hf.app (kp keep W.length)
  rw [crashS_eq] at hk
  have hx1 : xs.length = (app S (W.take (kp keep W.length))).length := by rw [app_length, hx]
  generalize W.drop (kp keep W.length) = W2 at *
  generalize app S (W.take (kp keep W.length)) = S1 at *
  rw [dW_app] at h1
  have hp := h1.head
  cases W2 with
  | nil =>
    obtain ⟨a', rfl⟩ := hW'.len
    simp (config := { implicitDefEqProofs := false }) only [↓GP, GQ, ↓awp_seq, ↓awp_block, C_ex, Nat.reduceBEq, acap, afieldAddr, aload, astore, abin, anum, astr, aun, isAggD, cond_true, cond_false, ↓reduceIte, C_P, C_G, isTuple, Value.cells, setL, ares, aresL, ares1, reduceCtorEq, Nat.reduceEqDiff, eq_self, Nat.reduceAdd, if_true, if_false, one, Nat.reduceLeDiff, undef, gsl, aextract, aindexAddr, amake, implies_true, forall_const, alen, abuiltin, anil, isC, Int.reduceEq, Int.reduceLT, Int.reduceLE, Int.reduceAdd, Int.reduceToNat, Int.reduceNeg, Nat.reduceMul, Nat.reduceSub, abuild, afill, Int.reduceBNe, Int.reduceBEq, Nat.lt_irrefl, hp, pc, afo64_1, afo64_2, asz62, asz3, Try.underlying62, Int.natCast_zero, Int.lt_irrefl, List.length_nil, gt_iff_lt]
    refine hk (dW sb xs S1 (.slice none 0 0) (-1) [] [] p) _ ⟨sb, xs, _, [], [], rfl, .inl ⟨rfl, rfl, rfl⟩, hx1, h2, rfl⟩ ?_
    rw [dW_app]
    rcases hW' with ⟨_, _, rfl⟩ | ⟨wb, pre, he, rfl⟩
    · exact (h1.set rfl _ rfl).set rfl (pc sb xs.length (.slice none 0 0) (-1)) rfl
    · refine ((h1.set rfl _ rfl).set rfl (pc sb xs.length (.slice none 0 0) (-1)) rfl).sub ?_
      simp
  | cons w W3 =>
    rcases hW' with ⟨_, hh, _⟩ | ⟨wb, pre, rfl, rfl⟩
    · cases hh
    have hwb := h1.get (b := wb) (o := .cells (pre ++ wc (w :: W3)) 76 true) (by simp)
    have hwf := h1.fresh (b := wb) (o := .cells (pre ++ wc (w :: W3)) 76 true) (by simp)
    have hcut := wc_at (pre := pre) (W := w :: W3) (i := 0) rfl
    rw [Nat.zero_mul, Nat.add_zero] at hcut
    simp (config := { implicitDefEqProofs := false }) only [↓GP, GQ, ↓awp_seq, ↓awp_block, C_ex, Nat.reduceBEq, acap, afieldAddr, aload, astore, abin, anum, astr, aun, isAggD, cond_true, cond_false, ↓reduceIte, C_P, C_G, isTuple, Value.cells, setL, ares, aresL, ares1, reduceCtorEq, Nat.reduceEqDiff, eq_self, Nat.reduceAdd, if_true, if_false, one, Nat.reduceLeDiff, undef, gsl, aextract, aindexAddr, amake, implies_true, forall_const, alen, abuiltin, anil, isC, Int.reduceEq, Int.reduceLT, Int.reduceLE, Int.reduceAdd, Int.reduceToNat, Int.reduceNeg, Nat.reduceMul, Nat.reduceSub, abuild, afill, Int.reduceBNe, Int.reduceBEq, Nat.lt_irrefl, hp, pc, afo64_1, afo64_2, asz62, asz3, Int.natCast_zero, Int.lt_irrefl, List.length_cons, Try.underlying62, asz76, azc76, Try.underlying76, hwb, hwf, hcut, aalloc, Value.cells, gt_iff_lt]
    refine ⟨fun _ => ⟨by omega, ?_⟩, fun h => absurd (by omega) h⟩
    have hs3 := (h1.new (.cells [.int .i64 0, .slice none 0 0] 76 true)).set rfl (.cells [.int .i64 w.1, slo w.2.2] 76 true) rfl
    have hwS := h2.2 w (by simp)
    obtain ⟨a, hxa⟩ : ∃ a, xs[w.1]? = some a := ⟨xs[w.1]'(by omega), by simp⟩
    obtain ⟨sv, hsv⟩ : ∃ sv, S1[w.1]? = some sv := ⟨S1[w.1]'(by omega), by simp⟩
    have hsl : sv.length = 64 := h2.1 sv (List.mem_of_getElem? hsv)
    generalize hn3 : st'.n = n3 at hs3 ⊢
    generalize (St.set (St.new st' _) _ _) = s3 at hs3 ⊢
    have hs4 := hs3.perm (perm_swap [_, _, _] _ _)
    have hap := fun j o => Own.apart (a := [_, _, _]) (b := _ ++ _) hs3 (i := j) (o := o) (j := a) (o' := .cells (bl sv) 5 true)
    have e3 := hs3.head
    have e3p := hs3.tail.head
    have e3s := hs3.tail.tail.head
    have hat := secs_at hxa hsv
    have e3a := hs3.get (b := a) (o := .cells (bl sv) 5 true) (by have := List.mem_of_getElem? hat; simp [this])
    have e3b := hs3.get (b := w.2.2) (o := .cells (bl w.2.1) 5 true) (by have := wbs_at (W := w :: W3) (i := 0) rfl; simp [this])
    have ham := List.mem_append_left ([(wb, Ob.cells (pre ++ wc (w :: W3)) 76 true)] ++ (wbs (w :: W3) ++ r)) (List.mem_of_getElem? hat)
    have hpa : ¬ p = a := hap p _ (.tail _ (.head _)) ham rfl rfl
    have hna : ¬ n3 = a := hap n3 _ (.head _) ham rfl rfl
    have hq : kp part 64 ≤ 64 := kp_le part 64
    have hcutb : cut (bl w.2.1) 0 (kp part 64) = some ((bl w.2.1).take (kp part 64)) := by
      simp only [cut]
      rw [if_pos (by rw [bl_length]; omega)]; rfl
    have hsrc : asrc s3 1 (.slice (some ⟨w.2.2, 0, some 0⟩) (kp part 64) 64) = some (kp part 64, (bl w.2.1).take (kp part 64)) := by
      simp only [asrc, acut, e3b, Nat.mul_one, hcutb]
    have hone : ((bl w.2.1).take (kp part 64)).all one = true := by
      rw [show (bl w.2.1).take (kp part 64) = bl (w.2.1.take (kp part 64)) by simp [bl]]; exact bl_one _
    refine ADraw.of [(0, false, []), (1, false, []), (2, false, []), (3, true, []), (4, false, []), (5, true, []), (6, false, []), (7, false, []), (8, false, []), (9, true, []), (10, false, []), (11, true, []), (12, true, []), (13, false, []), (14, false, [3, 5, 9, 11, 12])] [3, 5, 9, 11, 12] [(3, 14), (5, 14), (9, 14), (11, 14), (12, 14)] (by kernel_rfl) ?_
    have hk64 : max 0 (min part (64 : Int)) = (kp part 64 : Int) := kp_int part 64
    have hm64 : amm false (.int .i64 part) [.int .i64 64] = some (.int .i64 (min part 64)) := amm_keep part 64
    simp (config := { implicitDefEqProofs := false }) only [↓GP, GQ, ↓awp_seq, ↓awp_block, C_ex, Nat.reduceBEq, acap, afieldAddr, aload, astore, abin, anum, astr, aun, isAggD, cond_true, cond_false, ↓reduceIte, C_P, C_G, isTuple, Value.cells, setL, ares, aresL, ares1, reduceCtorEq, Nat.reduceEqDiff, eq_self, Nat.reduceAdd, if_true, if_false, one, Nat.reduceLeDiff, undef, gsl, aextract, aindexAddr, amake, implies_true, forall_const, alen, abuiltin, anil, isC, Int.reduceEq, Int.reduceLT, Int.reduceLE, Int.reduceAdd, Int.reduceToNat, Int.reduceNeg, Nat.reduceMul, Nat.reduceSub, abuild, afill, Int.reduceBNe, Int.reduceBEq, e3, e3p, e3s, pc, asz22, afo64_0, afo64_1, afo64_2, asz62, asz23, asz3, afo76_0, afo76_1, Try.underlying22, Try.underlying3, Try.underlying23, hxa, hm64, amm_max0, hk64,
      aslice_of (st := s3) (sp := 0) (B := w.2.2) (off := 0) (len := 64) (cap := 64) Try.underlying23 asz5 (openOK_open e3b asz5) (abounds_hi hq), Nat.sub_zero, Nat.zero_mul,
      acopy_of (st := s3) (t' := 23) (sp := none) (off := 0) (L := 64) (c := 64) (x := .slice (some ⟨w.2.2, 0, some 0⟩) (kp part 64) 64) Try.underlying23 asz5 hsrc hone e3a (by rw [bl_length]; omega), hpa, hna]
    have hfin : setL (bl sv) 0 (List.take (Nat.min (kp part 64) 64) (List.take (kp part 64) (bl w.2.1))) = bl (w.2.1.take (kp part 64) ++ sv.drop (kp part 64)) := by
      rw [show Nat.min (kp part 64) 64 = kp part 64 from Nat.min_eq_left hq, List.take_take, Nat.min_self]
      exact setL_part _ _ _ hwS.2 hsl hq
    refine ⟨by omega, ?_⟩
    rw [hfin]
    have hgd : S1.getD w.1 [] = sv := by rw [List.getD_eq_getElem?_getD, hsv]; rfl
    dsimp only at hk
    rw [hgd] at hk
    refine hk (dW sb xs (S1.set w.1 (w.2.1.take (kp part 64) ++ sv.drop (kp part 64))) (.slice none 0 0) (-1) [] [] p) _ ⟨sb, xs, _, [], [], rfl, .inl ⟨rfl, rfl, rfl⟩, by rw [List.length_set]; exact hx1, ⟨fun t ht => ?_, fun t ht => by simp at ht⟩, rfl⟩ ?_
    · rcases List.mem_or_eq_of_mem_set ht with h | h
      · exact h2.1 t h
      · rw [h]; simp [hwS.2, hsl]; omega
    · rw [dW_app, ← secs_set hxa]
      refine (((((hs4.setAt hat rfl (.cells (bl (w.2.1.take (kp part 64) ++ sv.drop (kp part 64))) 5 true) rfl).perm (perm_swap _ [_, _, _] _)).tail).set rfl _ rfl).set rfl (pc sb xs.length (.slice none 0 0) (-1)) rfl).sub ?_
      refine ((List.Sublist.append_left ?_ _).cons_cons _).cons_cons _
      exact ((List.sublist_append_right _ _).cons _)
end Go.Proofs.Ytiooigkcliomlaa
