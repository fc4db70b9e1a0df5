/- Contracts of the program's functions over the abstract heap, and what follows from them (a part of the proof of this seat's laws). No conditions. -/
import Derived.Test.YtiooigkcliomlaaAbsT
import Derived.Test.YtiooigkcliomlaaAbsR
set_option linter.unusedVariables false
set_option linter.unusedSimpArgs false
namespace Go.Proofs.Ytiooigkcliomlaa
open Go Go.Abs
variable {base : Nat} {w0 : World} {G : Nat}

set_option maxRecDepth 10000 in
theorem Clone_spec (st : St) (h : Hp) (v : Value) (l : List Int) (hO : Own st h) (hb : Bs h v l) (hl : l ≠ []) (hlim : l.length ≤ 140737488355328) (k q : Value → St → Prop)
    (hk : ∀ b st', Own st' ((b, .cells (bl l) 5 true) :: h) → k (.slice (some ⟨b, 0, some 0⟩) l.length l.length) st') :
    ACall (C base w0 G) 44 [v] st k q := by
  refine ACall.of (cx := C base w0 G) mixed Try.func44 rfl (by kernel_rfl) (by simp [Try.ntmps44]) ?_
  simp only [Try.results44]
  obtain ⟨a, c, rfl, ha⟩ := hb.isSlice
  have hne : l.length ≠ 0 := by simpa using hl
  have hs := Bs.src (hO.new (.cells [] 5 true)) (hb.sub fun e he => List.mem_cons_of_mem _ he)
  simp (config := { implicitDefEqProofs := false }) only [↓GP, GQ, ↓awp_seq, ↓awp_block, C_ex, Nat.reduceBEq, acap, afieldAddr, aload, astore, abin, anum, astr, aun, isAggD, cond_true, cond_false, ↓reduceIte, C_P, C_G, isTuple, Value.cells, setL, ares, aresL, ares1, reduceCtorEq, Nat.reduceEqDiff, eq_self, Nat.reduceAdd, if_true, if_false, one, Nat.reduceLeDiff, undef, gsl, aextract, aindexAddr, amake, implies_true, forall_const, alen, abuiltin, anil, isC, Int.reduceEq, Int.reduceLT, Int.reduceLE, Int.reduceAdd, Int.reduceToNat, Int.reduceNeg, Nat.reduceMul, Nat.reduceSub, abuild, afill, Int.reduceBNe, Int.reduceBEq, Try.underlying23, anil, isC, ha hl, abuiltin, abuildSlice_none (st := st) Try.underlying23 asz5 azc5,
    aappend_grow (t' := 23) (st := st.new (.cells [] 5 true)) (B := st.n) (off := 0) (len := 0) (cap := 0) (x := .slice a l.length c) (m := l.length) (Cs := bl l) (cs := []) (ty := 5) (own := true) (old := []) (n := 0) (b := 0) (e := 5) (z := [.int .u8 0]) Try.underlying23 (by rw [Try.underlying23]; rfl) asz5 azc5 aby5 hs (bl_one l) (new_at _) (by omega) rfl (by omega)]
  exact hk _ _ ((hO.new (.cells [] 5 true)).tail.new (.cells (bl l) 5 true))
set_option maxRecDepth 10000 in
theorem burn_spec (st : St) (p : Nat) (sv wv : Value) (fz : Int) (hp : st.H p = some (.cells [sv, wv, .int .i64 fz] 64 true)) (hb : fz ≤ 9223372036854775807) (k q : Value → St → Prop)
    (h0 : fz = 0 → k (.int .i64 50) st) (h1 : 0 < fz → k (.int .i64 0) (st.set p (some (.cells [sv, wv, .int .i64 (fz - 1)] 64 true)))) (h2 : fz < 0 → k (.int .i64 0) st) :
    ACall (C base w0 G) 43 [.pointer (some ⟨p, 0, none⟩)] st k q := by
  refine ACall.of (cx := C base w0 G) mixed Try.func43 rfl (by kernel_rfl) (by simp [Try.ntmps43]) ?_
  simp only [Try.results43]
  simp (config := { implicitDefEqProofs := false }) only [↓GP, GQ, ↓awp_seq, ↓awp_block, C_ex, Nat.reduceBEq, acap, afieldAddr, aload, astore, abin, anum, astr, aun, isAggD, cond_true, cond_false, ↓reduceIte, C_P, C_G, isTuple, Value.cells, setL, ares, aresL, ares1, reduceCtorEq, Nat.reduceEqDiff, eq_self, Nat.reduceAdd, if_true, if_false, one, Nat.reduceLeDiff, undef, gsl, aextract, aindexAddr, amake, implies_true, forall_const, alen, abuiltin, anil, isC, Int.reduceEq, Int.reduceLT, Int.reduceLE, Int.reduceAdd, Int.reduceToNat, Int.reduceNeg, Nat.reduceMul, Nat.reduceSub, abuild, afill, Int.reduceBNe, Int.reduceBEq, hp, afo64_2, asz3, Try.underlying3]
  refine ⟨h0, fun h3 => ⟨fun h4 => ?_, fun h4 => ?_⟩⟩
  · rw [w_i64 (by omega)]; exact h1 h4
  · exact h2 (by omega)

set_option maxRecDepth 10000 in
theorem there_spec (st : St) (p : Nat) (a : Option Addr) (n c : Nat) (wv fv : Value) (at_ : Int) (hp : st.H p = some (.cells [.slice a n c, wv, fv] 64 true)) (k q : Value → St → Prop)
    (h0 : k (.bool (decide (0 ≤ at_ ∧ at_ < n))) st) :
    ACall (C base w0 G) 42 [.pointer (some ⟨p, 0, none⟩), .int .i64 at_] st k q := by
  refine ACall.of (cx := C base w0 G) mixed Try.func42 rfl (by kernel_rfl) (by simp [Try.ntmps42]) ?_
  simp only [Try.results42]
  by_cases h : 0 ≤ at_
  · simp (config := { implicitDefEqProofs := false }) only [↓GP, GQ, ↓awp_seq, ↓awp_block, C_ex, Nat.reduceBEq, acap, afieldAddr, aload, astore, abin, anum, astr, aun, isAggD, cond_true, cond_false, ↓reduceIte, C_P, C_G, isTuple, Value.cells, setL, ares, aresL, ares1, reduceCtorEq, Nat.reduceEqDiff, eq_self, Nat.reduceAdd, if_true, if_false, one, Nat.reduceLeDiff, undef, gsl, aextract, aindexAddr, amake, implies_true, forall_const, alen, abuiltin, anil, isC, Int.reduceEq, Int.reduceLT, Int.reduceLE, Int.reduceAdd, Int.reduceToNat, Int.reduceNeg, Nat.reduceMul, Nat.reduceSub, abuild, afill, Int.reduceBNe, Int.reduceBEq, hp, afo64_0, asz22, Try.underlying22, Try.underlying3, abuiltin, alen, ge_iff_le, h, decide_true]
    simpa [h] using h0
  · simp (config := { implicitDefEqProofs := false }) only [↓GP, GQ, ↓awp_seq, ↓awp_block, C_ex, Nat.reduceBEq, acap, afieldAddr, aload, astore, abin, anum, astr, aun, isAggD, cond_true, cond_false, ↓reduceIte, C_P, C_G, isTuple, Value.cells, setL, ares, aresL, ares1, reduceCtorEq, Nat.reduceEqDiff, eq_self, Nat.reduceAdd, if_true, if_false, one, Nat.reduceLeDiff, undef, gsl, aextract, aindexAddr, amake, implies_true, forall_const, alen, abuiltin, anil, isC, Int.reduceEq, Int.reduceLT, Int.reduceLE, Int.reduceAdd, Int.reduceToNat, Int.reduceNeg, Nat.reduceMul, Nat.reduceSub, abuild, afill, Int.reduceBNe, Int.reduceBEq, hp, afo64_0, asz22, Try.underlying22, Try.underlying3, abuiltin, alen, ge_iff_le, h, decide_false]
    simpa [h] using h0
end Go.Proofs.Ytiooigkcliomlaa
