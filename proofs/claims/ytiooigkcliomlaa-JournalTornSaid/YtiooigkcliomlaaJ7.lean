/- Contracts of the program's functions over the abstract heap, and what follows from them (a part of the proof of this seat's laws). No conditions. -/
import Derived.Test.YtiooigkcliomlaaJ6
set_option linter.unusedVariables false
set_option linter.unusedSimpArgs false
namespace Go.Proofs.Ytiooigkcliomlaa
open Go Go.Abs
variable {base : Nat} {w0 : World} {G : Nat}

def SV (sv : Value) (xs : List Nat) (hs : Hp) : Prop := (sv = .slice none 0 0 ∧ xs = [] ∧ hs = []) ∨ ∃ sb, sv = .slice (some ⟨sb, 0, some 0⟩) xs.length xs.length ∧ hs = [(sb, .cells (xs.map sl) 23 true)]
def zero64 : List Int := List.replicate 64 0
theorem bl_zero64 : zeros [.int .u8 0] 64 = bl zero64 := by simp [zeros, bl, zero64]
theorem secs_snoc (xs : List Nat) (S : List (List Int)) (a : Nat) (s : List Int) (h : xs.length = S.length) : secs (xs ++ [a]) (S ++ [s]) = secs xs S ++ [(a, .cells (bl s) 5 true)] := by
  simp [secs, List.zipWith_append, h]
theorem sl_cut (xs : List Nat) : cut (xs.map sl) 0 (xs.length * 1) = some (xs.map sl) := by
  have := cut_all (xs.map sl)
  simpa using this

set_option maxRecDepth 10000 in
theorem New_spec (st : St) (r : Hp) (n : Int) (hO : Own st r) (k q : Value → St → Prop)
    (h0 : ¬ (1 ≤ n ∧ n ≤ 4096) → k (.tuple #[.pointer none, .int .i64 2]) st)
    (hk : ∀ p h st', 1 ≤ n → n ≤ 4096 → DK p (List.replicate n.toNat zero64) [] (-1) h → Own st' (h ++ r) → k (.tuple #[.pointer (some ⟨p, 0, none⟩), .int .i64 0]) st') :
    ACall (C base w0 G) 9 [.int .i64 n] st k q := by
  refine ACall.of (cx := C base w0 G) mixed Try.func9 rfl (by kernel_rfl) (by simp [Try.ntmps9]) ?_
  simp only [Try.results9]
  by_cases h1 : n < 1
  · simp (config := { implicitDefEqProofs := false }) only [↓GP, GQ, ↓awp_seq, ↓awp_block, C_ex, Nat.reduceBEq, acap, afieldAddr, aload, astore, abin, anum, astr, aun, isAggD, cond_true, cond_false, ↓reduceIte, C_P, C_G, isTuple, Value.cells, setL, ares, aresL, ares1, reduceCtorEq, Nat.reduceEqDiff, eq_self, Nat.reduceAdd, if_true, if_false, one, Nat.reduceLeDiff, undef, gsl, aextract, aindexAddr, amake, implies_true, forall_const, alen, abuiltin, anil, isC, Int.reduceEq, Int.reduceLT, Int.reduceLE, Int.reduceAdd, Int.reduceToNat, Int.reduceNeg, Nat.reduceMul, Nat.reduceSub, abuild, afill, Int.reduceBNe, Int.reduceBEq, h1, decide_true, Try.underlying3]
    exact h0 (by omega)
  by_cases h2 : n > 4096
  · simp (config := { implicitDefEqProofs := false }) only [↓GP, GQ, ↓awp_seq, ↓awp_block, C_ex, Nat.reduceBEq, acap, afieldAddr, aload, astore, abin, anum, astr, aun, isAggD, cond_true, cond_false, ↓reduceIte, C_P, C_G, isTuple, Value.cells, setL, ares, aresL, ares1, reduceCtorEq, Nat.reduceEqDiff, eq_self, Nat.reduceAdd, if_true, if_false, one, Nat.reduceLeDiff, undef, gsl, aextract, aindexAddr, amake, implies_true, forall_const, alen, abuiltin, anil, isC, Int.reduceEq, Int.reduceLT, Int.reduceLE, Int.reduceAdd, Int.reduceToNat, Int.reduceNeg, Nat.reduceMul, Nat.reduceSub, abuild, afill, Int.reduceBNe, Int.reduceBEq, h1, h2, decide_true, decide_false, Try.underlying3]
    exact h0 (by omega)
  obtain ⟨m, rfl⟩ : ∃ m : Nat, n = m := ⟨n.toNat, by omega⟩
  simp (config := { implicitDefEqProofs := false }) only [↓GP, GQ, ↓awp_seq, ↓awp_block, C_ex, Nat.reduceBEq, acap, afieldAddr, aload, astore, abin, anum, astr, aun, isAggD, cond_true, cond_false, ↓reduceIte, C_P, C_G, isTuple, Value.cells, setL, ares, aresL, ares1, reduceCtorEq, Nat.reduceEqDiff, eq_self, Nat.reduceAdd, if_true, if_false, one, Nat.reduceLeDiff, undef, gsl, aextract, aindexAddr, amake, implies_true, forall_const, alen, abuiltin, anil, isC, Int.reduceEq, Int.reduceLT, Int.reduceLE, Int.reduceAdd, Int.reduceToNat, Int.reduceNeg, Nat.reduceMul, Nat.reduceSub, abuild, afill, Int.reduceBNe, Int.reduceBEq, h1, h2, decide_true, decide_false, Try.underlying3, Try.underlying64, azc64, apl64, abox, Value.cells]
  refine ⟨fun c ρ s => ∃ (i p : Nat) (xs : List Nat) (sv : Value) (hs : Hp), c = m - i ∧ i ≤ m ∧ xs.length = i ∧ ρ 4 = .pointer (some ⟨p, 0, none⟩) ∧ ρ 13 = .int .i64 m ∧ ρ 14 = .int .i64 i ∧ SV sv xs hs ∧
    Own s ((p, .cells [sv, .slice none 0 0, .int .i64 (-1)] 64 true) :: (hs ++ (secs xs (List.replicate i zero64) ++ r))), ⟨m, 0, st.n, [], .slice none 0 0, [], rfl, Nat.zero_le _, rfl, rfl, rfl, rfl, .inl ⟨rfl, rfl, rfl⟩, hO.new _⟩, ?_⟩
  rintro c ρ s ⟨i, p, xs, sv, hs, rfl, hi, hx, h4, h13, h14, hsv, hO'⟩
  have hp := hO'.head
  have hlt := hO'.lt (List.mem_cons_self ..)
  by_cases him : i < m
  · simp (config := { implicitDefEqProofs := false }) only [↓GP, GQ, ↓awp_seq, ↓awp_block, C_ex, Nat.reduceBEq, acap, afieldAddr, aload, astore, abin, anum, astr, aun, isAggD, cond_true, cond_false, ↓reduceIte, C_P, C_G, isTuple, Value.cells, setL, ares, aresL, ares1, reduceCtorEq, Nat.reduceEqDiff, eq_self, Nat.reduceAdd, if_true, if_false, one, Nat.reduceLeDiff, undef, gsl, aextract, aindexAddr, amake, implies_true, forall_const, alen, abuiltin, anil, isC, Int.reduceEq, Int.reduceLT, Int.reduceLE, Int.reduceAdd, Int.reduceToNat, Int.reduceNeg, Nat.reduceMul, Nat.reduceSub, abuild, afill, Int.reduceBNe, Int.reduceBEq, h4, h13, h14, him, decide_true, Int.ofNat_lt]
    refine ADraw.of [(0, false, []), (1, false, []), (2, false, []), (3, false, []), (4, true, []), (5, false, [4]), (6, false, [4]), (7, false, []), (8, false, []), (9, false, []), (10, false, [])] [4] [(4, 5), (4, 6)] (by kernel_rfl) ?_
    have hp1 : ¬ p = s.n := by omega
    have hp2 : ¬ p = s.n + 1 := by omega
    have hp3 : ¬ p = s.n + 2 := by omega
    have e1 := abuildSlice_one (st := s.new (.cells (zeros [.int .u8 0] 64) 5 true)) (v := sl s.n) Try.underlying22 asz23 azc23 rfl rfl rfl (by decide)
    have hsrc : asrc ((s.new (.cells (zeros [.int .u8 0] 64) 5 true)).new (.cells [sl s.n] 23 true)) 1 (.slice (some ⟨s.n + 1, 0, none⟩) 1 1) = some (1, [sl s.n]) := asrc_one (new_at _) rfl
    rcases hsv with ⟨rfl, rfl, rfl⟩ | ⟨sb, rfl, rfl⟩
    · simp (config := { implicitDefEqProofs := false }) only [↓GP, GQ, ↓awp_seq, ↓awp_block, C_ex, Nat.reduceBEq, acap, afieldAddr, aload, astore, abin, anum, astr, aun, isAggD, cond_true, cond_false, ↓reduceIte, C_P, C_G, isTuple, Value.cells, setL, ares, aresL, ares1, reduceCtorEq, Nat.reduceEqDiff, eq_self, Nat.reduceAdd, if_true, if_false, one, Nat.reduceLeDiff, undef, gsl, aextract, aindexAddr, amake, implies_true, forall_const, alen, abuiltin, anil, isC, Int.reduceEq, Int.reduceLT, Int.reduceLE, Int.reduceAdd, Int.reduceToNat, Int.reduceNeg, Nat.reduceMul, Nat.reduceSub, abuild, afill, Int.reduceBNe, Int.reduceBEq, h4, h13, h14, hp, hp1, hp2, hp3, afo64_0, asz22, asz23, azc23, aby23, asz5, azc5, aby5, Try.underlying22, Try.underlying23, e1,
        aappend_nil (t' := 22) (st := (s.new (.cells (zeros [.int .u8 0] 64) 5 true)).new (.cells [sl s.n] 23 true)) Try.underlying22 (by rw [Try.underlying22]; rfl) asz23 azc23 aby23 hsrc rfl (by decide) (by decide)]
      refine ⟨by decide, m - (i + 1), by omega, i + 1, p, [] ++ [s.n], .slice (some ⟨s.n + 2, 0, some 0⟩) 1 1, [(s.n + 2, .cells [sl s.n] 23 true)], rfl, by omega, by simp at hx; simp [← hx], rfl, by rw [w_i64 (by omega)]; rfl, .inr ⟨s.n + 2, rfl, rfl⟩, ?_⟩
      rw [List.replicate_succ', secs_snoc _ _ _ _ (by simpa using hx), List.append_assoc, bl_zero64]
      exact (((((((hO'.new (.cells (bl zero64) 5 true)).new (.cells [sl s.n] 23 true)).tail).new (.cells [sl s.n] 23 true)).perm (perm_front [_, _] _ _)).set rfl _ rfl).perm (((perm_front (secs _ _) _ r).symm.cons _).cons _))
    · have hq := hO'.tail.head
      have hql := hO'.tail.lt (List.mem_cons_self ..)
      have hq1 : ¬ sb = s.n := by omega
      have hq2 : ¬ sb = s.n + 1 := by omega
      have hpq : ¬ p = sb := fun e => hO'.ne rfl (List.mem_cons_self ..) e.symm
      simp (config := { implicitDefEqProofs := false }) only [↓GP, GQ, ↓awp_seq, ↓awp_block, C_ex, Nat.reduceBEq, acap, afieldAddr, aload, astore, abin, anum, astr, aun, isAggD, cond_true, cond_false, ↓reduceIte, C_P, C_G, isTuple, Value.cells, setL, ares, aresL, ares1, reduceCtorEq, Nat.reduceEqDiff, eq_self, Nat.reduceAdd, if_true, if_false, one, Nat.reduceLeDiff, undef, gsl, aextract, aindexAddr, amake, implies_true, forall_const, alen, abuiltin, anil, isC, Int.reduceEq, Int.reduceLT, Int.reduceLE, Int.reduceAdd, Int.reduceToNat, Int.reduceNeg, Nat.reduceMul, Nat.reduceSub, abuild, afill, Int.reduceBNe, Int.reduceBEq, h4, h13, h14, hp, hp1, hp2, hp3, hpq, hq1, hq2, afo64_0, asz22, asz23, azc23, aby23, asz5, azc5, aby5, Try.underlying22, Try.underlying23, e1,
        aappend_open (t' := 22) (st := (s.new (.cells (zeros [.int .u8 0] 64) 5 true)).new (.cells [sl s.n] 23 true)) (B := sb) (off := 0) (len := xs.length) (cap := xs.length) (cs := xs.map sl) Try.underlying22 (by rw [Try.underlying22]; rfl) asz23 azc23 aby23 hsrc rfl
          ((new_old _ (Nat.lt_succ_of_lt hql)).trans ((new_old _ hql).trans hq)) (sl_cut xs) (by omega)]
      refine ⟨by decide, m - (i + 1), by omega, i + 1, p, xs ++ [s.n], .slice (some ⟨s.n + 2, 0, some 0⟩) (xs.length + 1) (xs.length + 1), [(s.n + 2, .cells ((xs ++ [s.n]).map sl) 23 true)], rfl, by omega, by simp [hx], rfl, by rw [w_i64 (by omega)]; rfl, .inr ⟨s.n + 2, by simp, rfl⟩, ?_⟩
      rw [List.replicate_succ', secs_snoc _ _ _ _ (by simpa using hx), List.append_assoc, bl_zero64, List.map_append]
      exact (((((((((hO'.new (.cells (bl zero64) 5 true)).new (.cells [sl s.n] 23 true)).tail).perm (perm_front [_, _] _ _)).kill rfl).new (.cells (xs.map sl ++ [sl s.n]) 23 true)).perm (perm_front [_, _] _ _)).set rfl _ rfl).perm (((perm_front (secs _ _) _ r).symm.cons _).cons _))
  · obtain rfl : i = m := by omega
    simp (config := { implicitDefEqProofs := false }) only [↓GP, GQ, ↓awp_seq, ↓awp_block, C_ex, Nat.reduceBEq, acap, afieldAddr, aload, astore, abin, anum, astr, aun, isAggD, cond_true, cond_false, ↓reduceIte, C_P, C_G, isTuple, Value.cells, setL, ares, aresL, ares1, reduceCtorEq, Nat.reduceEqDiff, eq_self, Nat.reduceAdd, if_true, if_false, one, Nat.reduceLeDiff, undef, gsl, aextract, aindexAddr, amake, implies_true, forall_const, alen, abuiltin, anil, isC, Int.reduceEq, Int.reduceLT, Int.reduceLE, Int.reduceAdd, Int.reduceToNat, Int.reduceNeg, Nat.reduceMul, Nat.reduceSub, abuild, afill, Int.reduceBNe, Int.reduceBEq, h4, h13, h14, him, decide_false, Int.ofNat_lt]
    rcases hsv with ⟨rfl, rfl, rfl⟩ | ⟨sb, rfl, rfl⟩
    · simp at hx; omega
    refine hk p (dW sb xs (List.replicate i zero64) (.slice none 0 0) (-1) [] [] p) s (by omega) (by omega) ⟨sb, xs, _, [], [], ?_, .inl ⟨rfl, rfl, rfl⟩, ?_, ⟨fun t ht => ?_, fun t ht => by simp at ht⟩, rfl⟩ ?_
    · rw [Int.toNat_natCast]
    · simpa using hx
    · rw [Int.toNat_natCast] at ht
      rw [List.eq_of_mem_replicate ht]; rfl
    · rw [dW_app]
      exact hO'
end Go.Proofs.Ytiooigkcliomlaa
