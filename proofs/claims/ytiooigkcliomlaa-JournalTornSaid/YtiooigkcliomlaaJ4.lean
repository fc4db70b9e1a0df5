/- Contracts of the program's functions over the abstract heap, and what follows from them (a part of the proof of this seat's laws). No conditions. -/
import Derived.Test.YtiooigkcliomlaaJ3
set_option linter.unusedVariables false
set_option linter.unusedSimpArgs false
namespace Go.Proofs.Ytiooigkcliomlaa
open Go Go.Abs
variable {base : Nat} {w0 : World} {G : Nat}

def dW (sb : Nat) (xs : List Nat) (S : List (List Int)) (wv : Value) (fz : Int) (W : List Wt) (hw : Hp) (p : Nat) : Hp :=
  (p, pc sb xs.length wv fz) :: (sb, .cells (xs.map sl) 23 true) :: (secs xs S ++ (hw ++ wbs W))
abbrev Lt := Nat × List Int
def forget (W : List Wt) : List Lt := W.map fun w => (w.1, w.2.1)
def appL (S : List (List Int)) (L : List Lt) : List (List Int) := L.foldl (fun S w => S.set w.1 w.2) S
theorem app_forget (S : List (List Int)) (W : List Wt) : app S W = appL S (forget W) := by simp [app, appL, forget, List.foldl_map]
/-- A disk. -/
def DK (p : Nat) (S : List (List Int)) (L : List Lt) (fz : Int) (h : Hp) : Prop :=
  ∃ sb xs wv hw W, h = dW sb xs S wv fz W hw p ∧ WV wv W hw ∧ xs.length = S.length ∧ fitW S W ∧ L = forget W

theorem dW_app (sb : Nat) (xs : List Nat) (S : List (List Int)) (wv : Value) (fz : Int) (W : List Wt) (hw : Hp) (p : Nat) (r : Hp) :
    dW sb xs S wv fz W hw p ++ r = (p, pc sb xs.length wv fz) :: (sb, .cells (xs.map sl) 23 true) :: (secs xs S ++ (hw ++ (wbs W ++ r))) := by
  simp [dW, List.append_assoc]
theorem WV.len {wv : Value} {W : List Wt} {hw : Hp} (h : WV wv W hw) : ∃ a, wv = .slice a W.length W.length := by
  rcases h with ⟨rfl, rfl, rfl⟩ | ⟨wb, pre, rfl, rfl⟩
  · exact ⟨none, rfl⟩
  · exact ⟨_, rfl⟩
theorem drop_own {st : St} {sb : Nat} {xs : List Nat} {S : List (List Int)} {wv : Value} {fz : Int} {W : List Wt} {hw : Hp} {p m : Nat} {r : Hp}
    (h : Own st ((p, pc sb xs.length wv fz) :: (sb, .cells (xs.map sl) 23 true) :: (secs xs S ++ (hw ++ (wbs W ++ r))))) : Own st (dW sb xs S wv fz (W.drop m) hw p ++ r) := by
  rw [dW_app]
  refine h.sub (((List.Sublist.append_left (List.Sublist.append_left (List.Sublist.append_right ?_ _) _) _).cons_cons _).cons_cons _)
  exact (List.drop_sublist m W).map _
theorem fitW.app {S : List (List Int)} {W : List Wt} (h : fitW S W) (m : Nat) : fitW (app S (W.take m)) (W.drop m) :=
  ⟨app_64 ⟨h.1, fun w hw => h.2 w (List.mem_of_mem_take hw)⟩, fun w hw => by rw [app_length]; exact h.2 w (List.mem_of_mem_drop hw)⟩

set_option maxRecDepth 10000 in
theorem Waiting_spec (st : St) (r h : Hp) (p : Nat) (S : List (List Int)) (L : List Lt) (fz : Int) (hD : DK p S L fz h) (hO : Own st (h ++ r)) (k q : Value → St → Prop)
    (hk : k (.int .i64 L.length) st) : ACall (C base w0 G) 23 [.pointer (some ⟨p, 0, none⟩)] st k q := by
  obtain ⟨sb, xs, wv, hw, W, rfl, hW, hx, hf, rfl⟩ := hD
  rw [dW_app] at hO
  have hp := hO.head
  obtain ⟨a, rfl⟩ := hW.len
  refine ACall.of (cx := C base w0 G) mixed Try.func23 rfl (by kernel_rfl) (by simp [Try.ntmps23]) ?_
  simp only [Try.results23]
  simp (config := { implicitDefEqProofs := false }) only [↓GP, GQ, ↓awp_seq, ↓awp_block, C_ex, Nat.reduceBEq, acap, afieldAddr, aload, astore, abin, anum, astr, aun, isAggD, cond_true, cond_false, ↓reduceIte, C_P, C_G, isTuple, Value.cells, setL, ares, aresL, ares1, reduceCtorEq, Nat.reduceEqDiff, eq_self, Nat.reduceAdd, if_true, if_false, one, Nat.reduceLeDiff, undef, gsl, aextract, aindexAddr, amake, implies_true, forall_const, alen, abuiltin, anil, isC, Int.reduceEq, Int.reduceLT, Int.reduceLE, Int.reduceAdd, Int.reduceToNat, Int.reduceNeg, Nat.reduceMul, Nat.reduceSub, abuild, afill, Int.reduceBNe, Int.reduceBEq, hp, pc, afo64_1, asz62, Try.underlying62]
  simpa [forget] using hk

set_option maxRecDepth 10000 in
theorem Size_spec (st : St) (r h : Hp) (p : Nat) (S : List (List Int)) (L : List Lt) (fz : Int) (hD : DK p S L fz h) (hO : Own st (h ++ r)) (k q : Value → St → Prop)
    (hk : k (.int .i64 S.length) st) : ACall (C base w0 G) 31 [.pointer (some ⟨p, 0, none⟩)] st k q := by
  obtain ⟨sb, xs, wv, hw, W, rfl, hW, hx, hf, rfl⟩ := hD
  rw [dW_app] at hO
  have hp := hO.head
  refine ACall.of (cx := C base w0 G) mixed Try.func31 rfl (by kernel_rfl) (by simp [Try.ntmps31]) ?_
  simp only [Try.results31]
  simp (config := { implicitDefEqProofs := false }) only [↓GP, GQ, ↓awp_seq, ↓awp_block, C_ex, Nat.reduceBEq, acap, afieldAddr, aload, astore, abin, anum, astr, aun, isAggD, cond_true, cond_false, ↓reduceIte, C_P, C_G, isTuple, Value.cells, setL, ares, aresL, ares1, reduceCtorEq, Nat.reduceEqDiff, eq_self, Nat.reduceAdd, if_true, if_false, one, Nat.reduceLeDiff, undef, gsl, aextract, aindexAddr, amake, implies_true, forall_const, alen, abuiltin, anil, isC, Int.reduceEq, Int.reduceLT, Int.reduceLE, Int.reduceAdd, Int.reduceToNat, Int.reduceNeg, Nat.reduceMul, Nat.reduceSub, abuild, afill, Int.reduceBNe, Int.reduceBEq, hp, pc, afo64_0, asz22, Try.underlying22]
  rw [hx]; exact hk

set_option maxRecDepth 10000 in
theorem Fuse_spec (st : St) (r h : Hp) (p : Nat) (S : List (List Int)) (L : List Lt) (fz c : Int) (hD : DK p S L fz h) (hO : Own st (h ++ r)) (k q : Value → St → Prop)
    (hk : ∀ h' st', DK p S L (if c < -1 then -1 else c) h' → Own st' (h' ++ r) → k (.tuple #[]) st') : ACall (C base w0 G) 12 [.pointer (some ⟨p, 0, none⟩), .int .i64 c] st k q := by
  obtain ⟨sb, xs, wv, hw, W, rfl, hW, hx, hf, rfl⟩ := hD
  rw [dW_app] at hO
  have hp := hO.head
  refine ACall.of (cx := C base w0 G) mixed Try.func12 rfl (by kernel_rfl) (by simp [Try.ntmps12]) ?_
  simp only [Try.results12]
  simp (config := { implicitDefEqProofs := false }) only [↓GP, GQ, ↓awp_seq, ↓awp_block, C_ex, Nat.reduceBEq, acap, afieldAddr, aload, astore, abin, anum, astr, aun, isAggD, cond_true, cond_false, ↓reduceIte, C_P, C_G, isTuple, Value.cells, setL, ares, aresL, ares1, reduceCtorEq, Nat.reduceEqDiff, eq_self, Nat.reduceAdd, if_true, if_false, one, Nat.reduceLeDiff, undef, gsl, aextract, aindexAddr, amake, implies_true, forall_const, alen, abuiltin, anil, isC, Int.reduceEq, Int.reduceLT, Int.reduceLE, Int.reduceAdd, Int.reduceToNat, Int.reduceNeg, Nat.reduceMul, Nat.reduceSub, abuild, afill, Int.reduceBNe, Int.reduceBEq, hp, pc, afo64_2, asz3, Try.underlying3, amm]
  refine hk _ _ ⟨sb, xs, wv, hw, W, rfl, hW, hx, hf, rfl⟩ ?_
  rw [dW_app]
  exact hO.set rfl (pc sb xs.length wv (if c < -1 then -1 else c)) rfl

set_option maxRecDepth 10000 in
theorem Sync_spec (st : St) (r h : Hp) (p : Nat) (S : List (List Int)) (L : List Lt) (fz : Int) (hD : DK p S L fz h) (hO : Own st (h ++ r)) (hfz : fz ≤ 9223372036854775807) (hl : L.length ≤ 1000000) (k q : Value → St → Prop)
    (h0 : fz = 0 → k (.int .i64 50) st)
    (hk : ∀ h' st', fz ≠ 0 → DK p (appL S L) [] (dec1 fz) h' → Own st' (h' ++ r) → k (.int .i64 0) st') : ACall (C base w0 G) 32 [.pointer (some ⟨p, 0, none⟩)] st k q := by
  obtain ⟨sb, xs, wv, hw, W, rfl, hW, hx, hf, rfl⟩ := hD
  rw [dW_app] at hO
  have hp := hO.head
  refine ACall.of (cx := C base w0 G) mixed Try.func32 rfl (by kernel_rfl) (by simp [Try.ntmps32]) ?_
  simp only [Try.results32]
  simp (config := { implicitDefEqProofs := false }) only [↓GP, GQ, ↓awp_seq, ↓awp_block, C_ex, Nat.reduceBEq, acap, afieldAddr, aload, astore, abin, anum, astr, aun, isAggD, cond_true, cond_false, ↓reduceIte, C_P, C_G, isTuple, Value.cells, setL, ares, aresL, ares1, reduceCtorEq, Nat.reduceEqDiff, eq_self, Nat.reduceAdd, if_true, if_false, one, Nat.reduceLeDiff, undef, gsl, aextract, aindexAddr, amake, implies_true, forall_const, alen, abuiltin, anil, isC, Int.reduceEq, Int.reduceLT, Int.reduceLE, Int.reduceAdd, Int.reduceToNat, Int.reduceNeg, Nat.reduceMul, Nat.reduceSub, abuild, afill, Int.reduceBNe, Int.reduceBEq]
  refine ACallF.enter Try.func43 rfl (by kernel_rfl) (burn_own st _ p _ wv fz hO hfz _ _ (fun hz => ?_) (fun s hz hs => ?_))
  · simp (config := { implicitDefEqProofs := false }) only [↓GP, GQ, ↓awp_seq, ↓awp_block, C_ex, Nat.reduceBEq, acap, afieldAddr, aload, astore, abin, anum, astr, aun, isAggD, cond_true, cond_false, ↓reduceIte, C_P, C_G, isTuple, Value.cells, setL, ares, aresL, ares1, reduceCtorEq, Nat.reduceEqDiff, eq_self, Nat.reduceAdd, if_true, if_false, one, Nat.reduceLeDiff, undef, gsl, aextract, aindexAddr, amake, implies_true, forall_const, alen, abuiltin, anil, isC, Int.reduceEq, Int.reduceLT, Int.reduceLE, Int.reduceAdd, Int.reduceToNat, Int.reduceNeg, Nat.reduceMul, Nat.reduceSub, abuild, afill, Int.reduceBNe, Int.reduceBEq]
    exact h0 hz
  · have hp := hs.head
    obtain ⟨a, rfl⟩ := hW.len
    simp (config := { implicitDefEqProofs := false }) only [↓GP, GQ, ↓awp_seq, ↓awp_block, C_ex, Nat.reduceBEq, acap, afieldAddr, aload, astore, abin, anum, astr, aun, isAggD, cond_true, cond_false, ↓reduceIte, C_P, C_G, isTuple, Value.cells, setL, ares, aresL, ares1, reduceCtorEq, Nat.reduceEqDiff, eq_self, Nat.reduceAdd, if_true, if_false, one, Nat.reduceLeDiff, undef, gsl, aextract, aindexAddr, amake, implies_true, forall_const, alen, abuiltin, anil, isC, Int.reduceEq, Int.reduceLT, Int.reduceLE, Int.reduceAdd, Int.reduceToNat, Int.reduceNeg, Nat.reduceMul, Nat.reduceSub, abuild, afill, Int.reduceBNe, Int.reduceBEq, hp, pc, afo64_1, asz62, Try.underlying62]
    refine ACallF.enter Try.func39 rfl (by kernel_rfl) (done_spec s r p sb xs S _ (dec1 fz) W hw W.length hs hW hx hf (Nat.le_refl _) (by simpa [forget] using hl) _ _ (fun wv' hw' st' hW' hO' => ?_))
    simp (config := { implicitDefEqProofs := false }) only [↓GP, GQ, ↓awp_seq, ↓awp_block, C_ex, Nat.reduceBEq, acap, afieldAddr, aload, astore, abin, anum, astr, aun, isAggD, cond_true, cond_false, ↓reduceIte, C_P, C_G, isTuple, Value.cells, setL, ares, aresL, ares1, reduceCtorEq, Nat.reduceEqDiff, eq_self, Nat.reduceAdd, if_true, if_false, one, Nat.reduceLeDiff, undef, gsl, aextract, aindexAddr, amake, implies_true, forall_const, alen, abuiltin, anil, isC, Int.reduceEq, Int.reduceLT, Int.reduceLE, Int.reduceAdd, Int.reduceToNat, Int.reduceNeg, Nat.reduceMul, Nat.reduceSub, abuild, afill, Int.reduceBNe, Int.reduceBEq]
    have h1 := drop_own (m := W.length) hO'
    have h2 := hf.app W.length
    rw [List.drop_length] at h1 hW' h2
    rw [List.take_length, app_forget] at h1 h2
    exact hk _ _ hz ⟨sb, xs, wv', hw', [], rfl, hW', by rw [hx, ← app_forget, app_length], h2, rfl⟩ h1
end Go.Proofs.Ytiooigkcliomlaa
