/- Contracts of the program's functions over the abstract heap, and what follows from them (a part of the proof of this seat's laws). No conditions. -/
import Derived.Test.YtiooigkcliomlaaJ2
set_option linter.unusedVariables false
set_option linter.unusedSimpArgs false
namespace Go.Proofs.Ytiooigkcliomlaa
open Go Go.Abs
variable {base : Nat} {w0 : World} {G : Nat}

def secs : List Nat → List (List Int) → Hp := List.zipWith fun a s => (a, Ob.cells (bl s) 5 true)
/-- What is where, once writes have been done. -/
def app (S : List (List Int)) (W : List Wt) : List (List Int) := W.foldl (fun S w => S.set w.1 w.2.1) S
def fitW (S : List (List Int)) (W : List Wt) : Prop := (∀ s ∈ S, s.length = 64) ∧ ∀ w ∈ W, w.1 < S.length ∧ w.2.1.length = 64

theorem app_length (S : List (List Int)) (W : List Wt) : (app S W).length = S.length := by
  unfold app
  induction W generalizing S with
  | nil => rfl
  | cons w r ih => rw [List.foldl_cons, ih]; simp
theorem app_snoc (S : List (List Int)) (W : List Wt) (w : Wt) : app S (W ++ [w]) = (app S W).set w.1 w.2.1 := by simp [app]
theorem app_64 {S : List (List Int)} {W : List Wt} (h : fitW S W) : ∀ s ∈ app S W, s.length = 64 := by
  obtain ⟨h1, h2⟩ := h
  unfold app
  induction W generalizing S with
  | nil => exact h1
  | cons w r ih =>
    rw [List.foldl_cons]
    refine ih (fun s hs => ?_) fun w' hw' => by simpa using h2 w' (by simp [hw'])
    rcases List.mem_or_eq_of_mem_set hs with h | h
    · exact h1 s h
    · exact h ▸ (h2 w (by simp)).2
theorem wc_append (a b : List Wt) : wc (a ++ b) = wc a ++ wc b := by simp [wc]
theorem wc_at {pre : List Value} {W : List Wt} {i : Nat} {w : Wt} (h : W[i]? = some w) : cut (pre ++ wc W) (pre.length + i * 2) 2 = some [.int .i64 (w.1 : Nat), slo w.2.2] := by
  obtain ⟨hlt, he⟩ := List.getElem?_eq_some_iff.1 h
  have hl := wc_length W
  unfold cut
  rw [if_pos (by simp; omega), ← List.drop_drop, List.drop_left]
  congr 1
  clear hl h
  induction W generalizing i with
  | nil => simp at hlt
  | cons a r ih =>
    cases i with
    | zero => simp at he; subst he; simp [wc]
    | succ i =>
      have : wc (a :: r) = .int .i64 (a.1 : Nat) :: slo a.2.2 :: wc r := by simp [wc]
      rw [this, Nat.succ_mul, List.drop_succ_cons, List.drop_succ_cons]
      exact ih (by simpa using hlt) (by simpa using he)
theorem wbs_at {W : List Wt} {i : Nat} {w : Wt} (h : W[i]? = some w) : (w.2.2, Ob.cells (bl w.2.1) 5 true) ∈ wbs W := List.mem_map.2 ⟨w, List.mem_of_getElem? h, rfl⟩
theorem secs_at {xs : List Nat} {S : List (List Int)} {i a : Nat} {s : List Int} (ha : xs[i]? = some a) (hs : S[i]? = some s) : (secs xs S)[i]? = some (a, .cells (bl s) 5 true) := by
  simp [secs, List.getElem?_zipWith, ha, hs]
theorem secs_set {xs : List Nat} {S : List (List Int)} {i a : Nat} {s : List Int} (ha : xs[i]? = some a) : (secs xs S).set i (a, .cells (bl s) 5 true) = secs xs (S.set i s) := by
  unfold secs
  induction xs generalizing S i with
  | nil => simp at ha
  | cons x r ih =>
    cases S with
    | nil => simp
    | cons t u =>
      cases i with
      | zero => simp at ha; subst ha; rfl
      | succ i => simp only [List.zipWith_cons_cons, List.set_cons_succ]; rw [ih (by simpa using ha)]

set_option maxRecDepth 10000 in
theorem done_spec (st : St) (r : Hp) (p sb : Nat) (xs : List Nat) (S : List (List Int)) (wv : Value) (fz : Int) (W : List Wt) (hw : Hp) (m : Nat)
    (hO : Own st ((p, pc sb xs.length wv fz) :: (sb, .cells (xs.map sl) 23 true) :: (secs xs S ++ (hw ++ (wbs W ++ r)))))
    (hW : WV wv W hw) (ha : xs.length = S.length) (hS : fitW S W) (hm : m ≤ W.length) (hWl : W.length ≤ 1000000) (k q : Value → St → Prop)
    (hk : ∀ wv' hw' st', WV wv' (W.drop m) hw' → Own st' ((p, pc sb xs.length wv' fz) :: (sb, .cells (xs.map sl) 23 true) :: (secs xs (app S (W.take m)) ++ (hw' ++ (wbs W ++ r)))) → k (.tuple #[]) st') :
    ACall (C base w0 G) 39 [.pointer (some ⟨p, 0, none⟩), .int .i64 m] st k q := by
  refine ACall.of (cx := C base w0 G) mixed Try.func39 rfl (by kernel_rfl) (by simp [Try.ntmps39]) ?_
  simp only [Try.results39]
  have hp := hO.head
  rcases hW with ⟨rfl, rfl, rfl⟩ | ⟨wb, pre, rfl, rfl⟩
  · obtain rfl : m = 0 := by simpa using hm
    simp (config := { implicitDefEqProofs := false }) only [↓GP, GQ, ↓awp_seq, ↓awp_block, C_ex, Nat.reduceBEq, acap, afieldAddr, aload, astore, abin, anum, astr, aun, isAggD, cond_true, cond_false, ↓reduceIte, C_P, C_G, isTuple, Value.cells, setL, ares, aresL, ares1, reduceCtorEq, Nat.reduceEqDiff, eq_self, Nat.reduceAdd, if_true, if_false, one, Nat.reduceLeDiff, undef, gsl, aextract, aindexAddr, amake, implies_true, forall_const, alen, abuiltin, anil, isC, Int.reduceEq, Int.reduceLT, Int.reduceLE, Int.reduceAdd, Int.reduceToNat, Int.reduceNeg, Nat.reduceMul, Nat.reduceSub, abuild, afill, Int.reduceBNe, Int.reduceBEq, hp, asz62, afo64_1, Try.underlying62, pc, aslice, asz76, abounds, bnd, Int.natCast_zero, Int.toNat_zero, Option.isSome_none, Bool.false_eq_true]
    refine ⟨fun n ρ s => ρ 0 = .pointer (some ⟨p, 0, none⟩) ∧ ρ 1 = .int .i64 0 ∧ ρ 12 = .int .i64 0 ∧ ρ 13 = .int .i64 0 ∧ s = st, ⟨0, rfl, rfl, rfl, rfl, rfl⟩, ?_⟩
    rintro n ρ s ⟨h0, h1, h12, h13, rfl⟩
    simp (config := { implicitDefEqProofs := false }) only [↓GP, GQ, ↓awp_seq, ↓awp_block, C_ex, Nat.reduceBEq, acap, afieldAddr, aload, astore, abin, anum, astr, aun, isAggD, cond_true, cond_false, ↓reduceIte, C_P, C_G, isTuple, Value.cells, setL, ares, aresL, ares1, reduceCtorEq, Nat.reduceEqDiff, eq_self, Nat.reduceAdd, if_true, if_false, one, Nat.reduceLeDiff, undef, gsl, aextract, aindexAddr, amake, implies_true, forall_const, alen, abuiltin, anil, isC, Int.reduceEq, Int.reduceLT, Int.reduceLE, Int.reduceAdd, Int.reduceToNat, Int.reduceNeg, Nat.reduceMul, Nat.reduceSub, abuild, afill, Int.reduceBNe, Int.reduceBEq, h0, h1, h12, h13, hp, asz62, afo64_1, Try.underlying62, pc, aslice, asz76, abounds, bnd, Int.natCast_zero, Int.toNat_zero, Option.isSome_none, Bool.false_eq_true]
    exact hk _ [] _ (.inl ⟨rfl, rfl, rfl⟩) (hO.set rfl _ rfl)
  · have hwm : (wb, Ob.cells (pre ++ wc W) 76 true) ∈ ((p, pc sb xs.length (.slice (some ⟨wb, pre.length, some 0⟩) W.length W.length) fz) :: (sb, .cells (xs.map sl) 23 true) :: (secs xs S ++ ([(wb, Ob.cells (pre ++ wc W) 76 true)] ++ (wbs W ++ r)))) := by simp
    simp (config := { implicitDefEqProofs := false }) only [↓GP, GQ, ↓awp_seq, ↓awp_block, C_ex, Nat.reduceBEq, acap, afieldAddr, aload, astore, abin, anum, astr, aun, isAggD, cond_true, cond_false, ↓reduceIte, C_P, C_G, isTuple, Value.cells, setL, ares, aresL, ares1, reduceCtorEq, Nat.reduceEqDiff, eq_self, Nat.reduceAdd, if_true, if_false, one, Nat.reduceLeDiff, undef, gsl, aextract, aindexAddr, amake, implies_true, forall_const, alen, abuiltin, anil, isC, Int.reduceEq, Int.reduceLT, Int.reduceLE, Int.reduceAdd, Int.reduceToNat, Int.reduceNeg, Nat.reduceMul, Nat.reduceSub, abuild, afill, Int.reduceBNe, Int.reduceBEq, hp, asz62, afo64_1, Try.underlying62, pc, aslice_of (st := st) (sp := 0) Try.underlying62 asz76 (openOK_open (hO.get hwm) asz76) (abounds_hi hm)]
    refine ⟨fun n ρ s => ∃ i : Nat, n = m - i ∧ i ≤ m ∧ ρ 0 = .pointer (some ⟨p, 0, none⟩) ∧ ρ 1 = .int .i64 m ∧ ρ 11 = .slice (some ⟨wb, pre.length, some 0⟩) m W.length ∧ ρ 12 = .int .i64 m ∧ ρ 13 = .int .i64 i ∧
      Own s ((p, pc sb xs.length (.slice (some ⟨wb, pre.length, some 0⟩) W.length W.length) fz) :: (sb, .cells (xs.map sl) 23 true) :: (secs xs (app S (W.take i)) ++ ([(wb, Ob.cells (pre ++ wc W) 76 true)] ++ (wbs W ++ r)))),
      ⟨m, 0, rfl, Nat.zero_le _, rfl, rfl, rfl, rfl, rfl, by simpa [app] using hO⟩, ?_⟩
    rintro n ρ s ⟨i, rfl, hi, h0, h1, h11, h12, h13, hs⟩
    have hp := hs.head
    have hwm : (wb, Ob.cells (pre ++ wc W) 76 true) ∈ ((p, pc sb xs.length (.slice (some ⟨wb, pre.length, some 0⟩) W.length W.length) fz) :: (sb, .cells (xs.map sl) 23 true) :: (secs xs (app S (W.take i)) ++ ([(wb, Ob.cells (pre ++ wc W) 76 true)] ++ (wbs W ++ r)))) := by simp
    have hwb := hs.get hwm
    have hwf := hs.fresh hwm
    by_cases him : i < m
    · obtain ⟨w, hw⟩ : ∃ w, W[i]? = some w := ⟨W[i]'(by omega), by simp⟩
      have hcut := wc_at (pre := pre) hw
      simp (config := { implicitDefEqProofs := false }) only [↓GP, GQ, ↓awp_seq, ↓awp_block, C_ex, Nat.reduceBEq, acap, afieldAddr, aload, astore, abin, anum, astr, aun, isAggD, cond_true, cond_false, ↓reduceIte, C_P, C_G, isTuple, Value.cells, setL, ares, aresL, ares1, reduceCtorEq, Nat.reduceEqDiff, eq_self, Nat.reduceAdd, if_true, if_false, one, Nat.reduceLeDiff, undef, gsl, aextract, aindexAddr, amake, implies_true, forall_const, alen, abuiltin, anil, isC, Int.reduceEq, Int.reduceLT, Int.reduceLE, Int.reduceAdd, Int.reduceToNat, Int.reduceNeg, Nat.reduceMul, Nat.reduceSub, abuild, afill, Int.reduceBNe, Int.reduceBEq, h0, h1, h11, h12, h13, him, decide_true, hwb, asz76, azc76, Try.underlying62, Try.underlying76, hcut, aalloc, Int.ofNat_lt, hwf, Value.cells]
      refine ⟨by omega, ?_⟩
      have hs3 := (hs.new (.cells [.int .i64 0, .slice none 0 0] 76 true)).set rfl (.cells [.int .i64 w.1, slo w.2.2] 76 true) rfl
      have hwS := hS.2 w (List.mem_of_getElem? hw)
      obtain ⟨a, hxa⟩ : ∃ a, xs[w.1]? = some a := ⟨xs[w.1]'(by omega), by simp⟩
      obtain ⟨sv, hsv⟩ : ∃ sv, (app S (W.take i))[w.1]? = some sv := ⟨(app S (W.take i))[w.1]'(by rw [app_length]; omega), by simp⟩
      have hsl : sv.length = 64 := app_64 ⟨hS.1, fun w hw => hS.2 w (List.mem_of_mem_take hw)⟩ sv (List.mem_of_getElem? hsv)
      generalize hn3 : s.n = n3 at hs3 ⊢
      generalize (St.set (St.new s _) _ _) = s3 at hs3 ⊢
      have hs4 := hs3.perm (perm_swap [_, _, _] _ _)
      have hap := fun j o => Own.apart (a := [_, _, _]) (b := _ ++ _) hs3 (i := j) (o := o) (j := a) (o' := .cells (bl sv) 5 true)
      have e3 := hs3.head
      have e3p := hs3.tail.head
      have e3s := hs3.tail.tail.head
      have hat := secs_at hxa hsv
      have e3a := hs3.get (b := a) (o := .cells (bl sv) 5 true) (by have := List.mem_of_getElem? hat; simp [this])
      have e3b := hs3.get (b := w.2.2) (o := .cells (bl w.2.1) 5 true) (by have := wbs_at hw; simp [this])
      have ham := List.mem_append_left ([(wb, Ob.cells (pre ++ wc W) 76 true)] ++ (wbs W ++ r)) (List.mem_of_getElem? hat)
      have hpa : ¬ p = a := hap p _ (.tail _ (.head _)) ham rfl rfl
      have hna : ¬ n3 = a := hap n3 _ (.head _) ham rfl rfl
      have hsrc : asrc s3 1 (slo w.2.2) = some (64, bl w.2.1) := by
        have := cut_all (bl w.2.1)
        rw [bl_length, hwS.2] at this
        simp only [asrc, acut, e3b, Nat.mul_one, this]
      refine ADraw.of [(0, false, []), (1, false, []), (2, false, []), (3, true, []), (4, false, []), (5, true, []), (6, false, []), (7, false, []), (8, false, []), (9, false, []), (10, false, [3, 5])] [3, 5] [(3, 10), (5, 10)] (by kernel_rfl) ?_
      simp (config := { implicitDefEqProofs := false }) only [↓GP, GQ, ↓awp_seq, ↓awp_block, C_ex, Nat.reduceBEq, acap, afieldAddr, aload, astore, abin, anum, astr, aun, isAggD, cond_true, cond_false, ↓reduceIte, C_P, C_G, isTuple, Value.cells, setL, ares, aresL, ares1, reduceCtorEq, Nat.reduceEqDiff, eq_self, Nat.reduceAdd, if_true, if_false, one, Nat.reduceLeDiff, undef, gsl, aextract, aindexAddr, amake, implies_true, forall_const, alen, abuiltin, anil, isC, Int.reduceEq, Int.reduceLT, Int.reduceLE, Int.reduceAdd, Int.reduceToNat, Int.reduceNeg, Nat.reduceMul, Nat.reduceSub, abuild, afill, Int.reduceBNe, Int.reduceBEq, h0, h1, h11, h12, h13, e3, e3p, e3s, pc, asz22, afo64_0, asz23, asz3, afo76_0, afo76_1, Try.underlying22, Try.underlying3, Try.underlying23, hxa,
        acopy_of (st := s3) (t' := 23) (sp := none) (off := 0) (L := 64) (c := 64) (x := slo w.2.2) Try.underlying23 asz5 hsrc (bl_one _) e3a (by rw [bl_length]; omega), hpa, hna]
      have hfull : setL (bl sv) 0 (List.take (Nat.min 64 64) (bl w.2.1)) = bl w.2.1 := by
        rw [show Nat.min 64 64 = 64 from rfl, show (64 : Nat) = (bl w.2.1).length by rw [bl_length]; exact hwS.2.symm, List.take_length]
        exact setL_all _ _ (by rw [bl_length, bl_length, hsl, hwS.2])
      refine ⟨by omega, m - (i + 1), by omega, i + 1, rfl, by omega, by rw [w_i64 (by omega)]; rfl, ?_⟩
      have htk : W.take (i + 1) = W.take i ++ [w] := by rw [List.take_add_one, hw]; rfl
      rw [hfull, htk, app_snoc, ← secs_set hxa]
      exact ((hs4.setAt hat rfl (.cells (bl w.2.1) 5 true) rfl).perm (perm_swap _ [_, _, _] _)).tail
    · obtain rfl : i = m := by omega
      simp (config := { implicitDefEqProofs := false }) only [↓GP, GQ, ↓awp_seq, ↓awp_block, C_ex, Nat.reduceBEq, acap, afieldAddr, aload, astore, abin, anum, astr, aun, isAggD, cond_true, cond_false, ↓reduceIte, C_P, C_G, isTuple, Value.cells, setL, ares, aresL, ares1, reduceCtorEq, Nat.reduceEqDiff, eq_self, Nat.reduceAdd, if_true, if_false, one, Nat.reduceLeDiff, undef, gsl, aextract, aindexAddr, amake, implies_true, forall_const, alen, abuiltin, anil, isC, Int.reduceEq, Int.reduceLT, Int.reduceLE, Int.reduceAdd, Int.reduceToNat, Int.reduceNeg, Nat.reduceMul, Nat.reduceSub, abuild, afill, Int.reduceBNe, Int.reduceBEq, h0, h1, h11, h12, h13, him, decide_false, Int.ofNat_lt, hp, pc, asz62, afo64_1, Try.underlying62, aslice_of (st := s) (sp := 0) Try.underlying62 asz76 (openOK_open hwb asz76) (abounds_lo hm (Nat.le_refl _))]
      refine hk _ [(wb, .cells (pre ++ wc W) 76 true)] _ (.inr ⟨wb, pre ++ wc (W.take i), ?_, ?_⟩) (hs.set rfl _ rfl)
      · simp [wc_length, Nat.min_eq_left hm]
      · rw [List.append_assoc, ← wc_append, List.take_append_drop]
end Go.Proofs.Ytiooigkcliomlaa
