/- Contracts of the program's functions over the abstract heap, and what follows from them (a part of the proof of this seat's laws). No conditions. -/
import Derived.Test.YtiooigkcliomlaaJ5
set_option linter.unusedVariables false
set_option linter.unusedSimpArgs false
namespace Go.Proofs.Ytiooigkcliomlaa
open Go Go.Abs
variable {base : Nat} {w0 : World} {G : Nat}

def readL (o : List Int) (L : List Lt) (a : Nat) : List Int := L.foldl (fun o w => if w.1 = a then w.2 else o) o
theorem readL_64 {o : List Int} {L : List Lt} {a : Nat} (h : o.length = 64) (hL : ∀ w ∈ L, w.2.length = 64) : (readL o L a).length = 64 := by
  unfold readL
  induction L generalizing o with
  | nil => exact h
  | cons w r ih =>
    rw [List.foldl_cons]
    refine ih ?_ fun w hw => hL w (by simp [hw])
    split
    · exact hL w (by simp)
    · exact h

set_option maxRecDepth 10000 in
theorem Read_spec (st : St) (r h : Hp) (p : Nat) (S : List (List Int)) (L : List Lt) (fz at_ : Int) (hD : DK p S L fz h) (hO : Own st (h ++ r)) (hl : L.length ≤ 1000000) (k q : Value → St → Prop)
    (h0 : ¬ (0 ≤ at_ ∧ at_ < S.length) → k (.tuple #[.slice none 0 0, .int .i64 2]) st)
    (hk : ∀ b st', 0 ≤ at_ → at_ < S.length → (readL (S.getD at_.toNat []) L at_.toNat).length = 64 → Own st' ((b, .cells (bl (readL (S.getD at_.toNat []) L at_.toNat)) 5 true) :: (h ++ r)) → k (.tuple #[.slice (some ⟨b, 0, some 0⟩) 64 64, .int .i64 0]) st') :
    ACall (C base w0 G) 33 [.pointer (some ⟨p, 0, none⟩), .int .i64 at_] st k q := by
  obtain ⟨sb, xs, wv, hw, W, rfl, hW, hx, hf, rfl⟩ := hD
  rw [dW_app] at hO hk
  have hp := hO.head
  have hfl : (forget W).length = W.length := by simp [forget]
  refine ACall.of (cx := C base w0 G) mixed Try.func33 rfl (by kernel_rfl) (by simp [Try.ntmps33]) ?_
  simp only [Try.results33]
  simp (config := { implicitDefEqProofs := false }) only [↓GP, GQ, ↓awp_seq, ↓awp_block, C_ex, Nat.reduceBEq, acap, afieldAddr, aload, astore, abin, anum, astr, aun, isAggD, cond_true, cond_false, ↓reduceIte, C_P, C_G, isTuple, Value.cells, setL, ares, aresL, ares1, reduceCtorEq, Nat.reduceEqDiff, eq_self, Nat.reduceAdd, if_true, if_false, one, Nat.reduceLeDiff, undef, gsl, aextract, aindexAddr, amake, implies_true, forall_const, alen, abuiltin, anil, isC, Int.reduceEq, Int.reduceLT, Int.reduceLE, Int.reduceAdd, Int.reduceToNat, Int.reduceNeg, Nat.reduceMul, Nat.reduceSub, abuild, afill, Int.reduceBNe, Int.reduceBEq]
  refine ACallF.enter Try.func42 rfl (by kernel_rfl) (there_spec st p _ xs.length xs.length wv (.int .i64 fz) at_ hp _ _ ?_)
  by_cases h : 0 ≤ at_ ∧ at_ < xs.length
  · obtain ⟨n, rfl⟩ : ∃ n : Nat, at_ = n := ⟨at_.toNat, by omega⟩
    obtain ⟨a, hxa⟩ : ∃ a, xs[n]? = some a := ⟨xs[n]'(by omega), by simp⟩
    obtain ⟨sv, hsv⟩ : ∃ sv, S[n]? = some sv := ⟨S[n]'(by omega), by simp⟩
    have hgd : S.getD n [] = sv := by rw [List.getD_eq_getElem?_getD, hsv]; rfl
    rw [Int.toNat_natCast, hgd] at hk
    have hsl : sv.length = 64 := hf.1 sv (List.mem_of_getElem? hsv)
    have e3s := hO.tail.head
    obtain ⟨wa, rfl⟩ := hW.len
    simp (config := { implicitDefEqProofs := false }) only [↓GP, GQ, ↓awp_seq, ↓awp_block, C_ex, Nat.reduceBEq, acap, afieldAddr, aload, astore, abin, anum, astr, aun, isAggD, cond_true, cond_false, ↓reduceIte, C_P, C_G, isTuple, Value.cells, setL, ares, aresL, ares1, reduceCtorEq, Nat.reduceEqDiff, eq_self, Nat.reduceAdd, if_true, if_false, one, Nat.reduceLeDiff, undef, gsl, aextract, aindexAddr, amake, implies_true, forall_const, alen, abuiltin, anil, isC, Int.reduceEq, Int.reduceLT, Int.reduceLE, Int.reduceAdd, Int.reduceToNat, Int.reduceNeg, Nat.reduceMul, Nat.reduceSub, abuild, afill, Int.reduceBNe, Int.reduceBEq, h, decide_true, hp, pc, afo64_0, afo64_1, asz22, asz23, asz62, Try.underlying22, Try.underlying23, Try.underlying62, e3s, hxa]
    have hat := secs_at hxa hsv
    have h64 : ∀ m, (readL sv (forget (W.take m)) n).length = 64 := fun m => readL_64 hsl fun w hw => by
      obtain ⟨w', h1, rfl⟩ := List.mem_map.1 hw
      exact (hf.2 w' (List.mem_of_mem_take h1)).2
    refine ⟨fun m ρ s => ∃ (i b : Nat) (sp : Option Nat), m = W.length - i ∧ i ≤ W.length ∧ ρ 1 = .int .i64 n ∧ ρ 23 = .slice wa W.length W.length ∧ ρ 24 = .int .i64 W.length ∧ ρ 25 = .int .i64 i ∧ ρ 6 = .slice (some ⟨b, 0, sp⟩) 64 64 ∧
      (b, Ob.cells (bl (readL sv (forget (W.take i)) n)) 5 true) ∈ ((p, pc sb xs.length (.slice wa W.length W.length) fz) :: (sb, Ob.cells (xs.map sl) 23 true) :: (secs xs S ++ (hw ++ (wbs W ++ r)))) ∧
      Own s ((p, pc sb xs.length (.slice wa W.length W.length) fz) :: (sb, .cells (xs.map sl) 23 true) :: (secs xs S ++ (hw ++ (wbs W ++ r)))), ⟨W.length, 0, a, none, rfl, Nat.zero_le _, rfl, rfl, rfl, rfl, rfl, ?_, hO⟩, ?_⟩
    · have := List.mem_of_getElem? hat
      simp [forget, readL, this]
    rintro m ρ s ⟨i, b, sp, rfl, hi, h1, h23, h24, h25, h6, hm, hs⟩
    have hp := hs.head
    by_cases him : i < W.length
    · obtain ⟨w, hwi⟩ : ∃ w, W[i]? = some w := ⟨W[i]'(by omega), by simp⟩
      rcases hW with ⟨_, rfl, _⟩ | ⟨wb, pre, he, rfl⟩
      · simp at him
      injection he with he1 he2 he3
      subst he1
      have hcut := wc_at (pre := pre) hwi
      have hwm := hs.get (b := wb) (o := .cells (pre ++ wc W) 76 true) (by simp)
      have hwf := hs.fresh (b := wb) (o := .cells (pre ++ wc W) 76 true) (by simp)
      simp (config := { implicitDefEqProofs := false }) only [↓GP, GQ, ↓awp_seq, ↓awp_block, C_ex, Nat.reduceBEq, acap, afieldAddr, aload, astore, abin, anum, astr, aun, isAggD, cond_true, cond_false, ↓reduceIte, C_P, C_G, isTuple, Value.cells, setL, ares, aresL, ares1, reduceCtorEq, Nat.reduceEqDiff, eq_self, Nat.reduceAdd, if_true, if_false, one, Nat.reduceLeDiff, undef, gsl, aextract, aindexAddr, amake, implies_true, forall_const, alen, abuiltin, anil, isC, Int.reduceEq, Int.reduceLT, Int.reduceLE, Int.reduceAdd, Int.reduceToNat, Int.reduceNeg, Nat.reduceMul, Nat.reduceSub, abuild, afill, Int.reduceBNe, Int.reduceBEq, h1, h23, h24, h25, h6, him, decide_true, hwm, hwf, asz76, azc76, asz3, asz23, afo76_0, afo76_1, Try.underlying3, Try.underlying23, Try.underlying62, Try.underlying76, hcut, aalloc, Int.ofNat_lt, Value.cells]
      have htk : readL sv (forget (W.take (i + 1))) n = if w.1 = n then w.2.1 else readL sv (forget (W.take i)) n := by
        rw [List.take_add_one, hwi]; simp [forget, readL]
      have hs2 := ((hs.new (.cells [.int .i64 0, .slice none 0 0] 76 true)).set rfl (.cells [.int .i64 w.1, slo w.2.2] 76 true) rfl).tail
      refine ⟨by omega, fun e => ⟨W.length - (i + 1), by omega, i + 1, w.2.2, some 0, rfl, by omega, by rw [w_i64 (by omega)]; rfl, rfl, ?_, hs2⟩, fun e => ⟨W.length - (i + 1), by omega, i + 1, b, sp, rfl, by omega, by rw [w_i64 (by omega)]; rfl, rfl, ?_, hs2⟩⟩
      · rw [htk, if_pos (by omega)]
        have := wbs_at hwi
        simp [this]
      · rw [htk, if_neg (by omega)]
        exact hm
    · obtain rfl : i = W.length := by omega
      have h64 := h64 W.length
      rw [List.take_length] at hm h64
      simp (config := { implicitDefEqProofs := false }) only [↓GP, GQ, ↓awp_seq, ↓awp_block, C_ex, Nat.reduceBEq, acap, afieldAddr, aload, astore, abin, anum, astr, aun, isAggD, cond_true, cond_false, ↓reduceIte, C_P, C_G, isTuple, Value.cells, setL, ares, aresL, ares1, reduceCtorEq, Nat.reduceEqDiff, eq_self, Nat.reduceAdd, if_true, if_false, one, Nat.reduceLeDiff, undef, gsl, aextract, aindexAddr, amake, implies_true, forall_const, alen, abuiltin, anil, isC, Int.reduceEq, Int.reduceLT, Int.reduceLE, Int.reduceAdd, Int.reduceToNat, Int.reduceNeg, Nat.reduceMul, Nat.reduceSub, abuild, afill, Int.reduceBNe, Int.reduceBEq, h1, h23, h24, h25, h6, him, decide_false, Int.ofNat_lt]
      have hb := Bs.whole (c := 64) (sp := sp) hm
      rw [h64] at hb
      refine ACallF.enter Try.func44 rfl (by kernel_rfl) (Clone_spec s _ _ _ hs hb (fun e => by rw [e] at h64; cases h64) (by rw [h64]; omega) _ _ fun b2 s2 hs2 => ?_)
      simp (config := { implicitDefEqProofs := false }) only [↓GP, GQ, ↓awp_seq, ↓awp_block, C_ex, Nat.reduceBEq, acap, afieldAddr, aload, astore, abin, anum, astr, aun, isAggD, cond_true, cond_false, ↓reduceIte, C_P, C_G, isTuple, Value.cells, setL, ares, aresL, ares1, reduceCtorEq, Nat.reduceEqDiff, eq_self, Nat.reduceAdd, if_true, if_false, one, Nat.reduceLeDiff, undef, gsl, aextract, aindexAddr, amake, implies_true, forall_const, alen, abuiltin, anil, isC, Int.reduceEq, Int.reduceLT, Int.reduceLE, Int.reduceAdd, Int.reduceToNat, Int.reduceNeg, Nat.reduceMul, Nat.reduceSub, abuild, afill, Int.reduceBNe, Int.reduceBEq]
      rw [h64]
      exact hk b2 s2 (by omega) (by omega) h64 hs2
  · simp (config := { implicitDefEqProofs := false }) only [↓GP, GQ, ↓awp_seq, ↓awp_block, C_ex, Nat.reduceBEq, acap, afieldAddr, aload, astore, abin, anum, astr, aun, isAggD, cond_true, cond_false, ↓reduceIte, C_P, C_G, isTuple, Value.cells, setL, ares, aresL, ares1, reduceCtorEq, Nat.reduceEqDiff, eq_self, Nat.reduceAdd, if_true, if_false, one, Nat.reduceLeDiff, undef, gsl, aextract, aindexAddr, amake, implies_true, forall_const, alen, abuiltin, anil, isC, Int.reduceEq, Int.reduceLT, Int.reduceLE, Int.reduceAdd, Int.reduceToNat, Int.reduceNeg, Nat.reduceMul, Nat.reduceSub, abuild, afill, Int.reduceBNe, Int.reduceBEq, h, decide_false]
    exact h0 (by rw [← hx]; exact h)
end Go.Proofs.Ytiooigkcliomlaa
