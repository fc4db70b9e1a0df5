/- bytes.Clone; slices.Chunk, whatever is done with the chunks. No conditions. -/
import Derived.Test.YtiooigkcliomlaaJ17
set_option linter.unusedVariables false
set_option linter.unusedSimpArgs false
namespace Go.Proofs.Ytiooigkcliomlaa
open Go Go.Abs Go.RowKit
variable {base : Nat} {w0 : World} {G : Nat}

set_option maxRecDepth 10000 in
theorem CloneN (st : St) (r : Hp) (v : Value) (l : List Nat) (hv : Nb r v l) (hl : l.length ≤ 1000000) (hO : Own st r) (k q : Value → St → Prop)
    (hk : ∀ v' h' st', GVc v' (nl l) l.length 1 5 h' → Own st' (h' ++ r) → k v' st') : ACallF (C base w0 G) 44 [v] st k q := by
  by_cases hne : l = []
  · subst hne
    refine ACallF.enter Try.func44 rfl (by kernel_rfl) ?_
    refine ACall.of (cx := C base w0 G) mixed Try.func44 rfl (by kernel_rfl) (by simp [Try.ntmps44]) ?_
    simp only [Try.results44]
    obtain ⟨a, c, hvs⟩ := hv.isSlice
    rcases hv.1 with ⟨_, rfl | ⟨x, o, sp, c', rfl⟩⟩ | ⟨x, o, sp, c', cs, ty, own, rfl, hm, hc⟩
    · simp (config := { implicitDefEqProofs := false }) only [↓GP, GQ, ↓awp_seq, ↓awp_block, C_ex, Nat.reduceBEq, acap, afieldAddr, aload, astore, abin, anum, astr, aun, isAggD, cond_true, cond_false, ↓reduceIte, C_P, C_G, isTuple, Value.cells, setL, ares, aresL, ares1, reduceCtorEq, Nat.reduceEqDiff, eq_self, Nat.reduceAdd, if_true, if_false, one, Nat.reduceLeDiff, undef, gsl, aextract, aindexAddr, amake, implies_true, forall_const, alen, abuiltin, anil, isC, Int.reduceEq, Int.reduceLT, Int.reduceLE, Int.reduceAdd, Int.reduceToNat, Int.reduceNeg, Nat.reduceMul, Nat.reduceSub, abuild, afill, Int.reduceBNe, Int.reduceBEq, Try.underlying23]
      exact hk _ [] st GVc.nil hO
    all_goals
      have hO1 := hO.new (.cells [] 5 true)
      have hs := (hv.sub fun e he => List.mem_cons_of_mem _ he).src hO1
      simp (config := { implicitDefEqProofs := false }) only [↓GP, GQ, ↓awp_seq, ↓awp_block, C_ex, Nat.reduceBEq, acap, afieldAddr, aload, astore, abin, anum, astr, aun, isAggD, cond_true, cond_false, ↓reduceIte, C_P, C_G, isTuple, Value.cells, setL, ares, aresL, ares1, reduceCtorEq, Nat.reduceEqDiff, eq_self, Nat.reduceAdd, if_true, if_false, one, Nat.reduceLeDiff, undef, gsl, aextract, aindexAddr, amake, implies_true, forall_const, alen, abuiltin, anil, isC, Int.reduceEq, Int.reduceLT, Int.reduceLE, Int.reduceAdd, Int.reduceToNat, Int.reduceNeg, Nat.reduceMul, Nat.reduceSub, abuild, afill, Int.reduceBNe, Int.reduceBEq, Try.underlying23, abuildSlice_none (st := st) Try.underlying23 asz5 azc5, List.map_nil]
      simp only [List.map_nil, List.length_nil] at hs
      rw [aappend_fit (cs := []) (m := 0) (Cs := []) (len := 0) (cap := 0) Try.underlying23 (by rw [Try.underlying23]; rfl) asz5 azc5 aby5 hs rfl hO1.head (by omega) (by simp), setL, set_self hO1.head]
      simp (config := { implicitDefEqProofs := false }) only [↓GP, GQ, ↓awp_seq, ↓awp_block, C_ex, Nat.reduceBEq, acap, afieldAddr, aload, astore, abin, anum, astr, aun, isAggD, cond_true, cond_false, ↓reduceIte, C_P, C_G, isTuple, Value.cells, setL, ares, aresL, ares1, reduceCtorEq, Nat.reduceEqDiff, eq_self, Nat.reduceAdd, if_true, if_false, one, Nat.reduceLeDiff, undef, gsl, aextract, aindexAddr, amake, implies_true, forall_const, alen, abuiltin, anil, isC, Int.reduceEq, Int.reduceLT, Int.reduceLE, Int.reduceAdd, Int.reduceToNat, Int.reduceNeg, Nat.reduceMul, Nat.reduceSub, abuild, afill, Int.reduceBNe, Int.reduceBEq]
      exact hk _ [(st.n, .cells [] 5 true)] _ (.inr (.inl ⟨st.n, rfl, rfl, rfl, rfl⟩)) hO1
  · refine ACallF.enter Try.func44 rfl (by kernel_rfl) (Clone_spec st r v (ci l) hO hv.1 (by simpa [ci] using hne) (by rw [ci_length]; omega) k q fun b st' hO' => ?_)
    rw [ci_length]
    refine hk _ [(b, .cells (nl l) 5 true)] st' (GV.c (.inr ⟨b, rfl, rfl, by rw [nl_length, Nat.mul_one]⟩)) hO'
set_option maxRecDepth 10000 in
theorem Chunk_spec (st : St) (r : Hp) (v : Value) (hv : ∃ a n c, v = .slice a n c) (hO : Own st r) (k q : Value → St → Prop)
    (hk : ∀ X N st', Own st' ((N, .cells [.int .i64 64] 3 true) :: (X, .cells [v] 23 true) :: r) → k (.func (.func 53) #[] #[.pointer (some ⟨X, 0, none⟩), .pointer (some ⟨N, 0, none⟩)]) st') :
    ACallF (C base w0 G) 49 [v, .int .i64 64] st k q := by
  refine ACallF.enter Try.func49 rfl (by kernel_rfl) ?_
  refine ACall.of (cx := C base w0 G) mixed Try.func49 rfl (by kernel_rfl) (by simp [Try.ntmps49]) ?_
  simp only [Try.results49]
  obtain ⟨a, n, c, rfl⟩ := hv
  simp (config := { implicitDefEqProofs := false }) only [↓GP, GQ, ↓awp_seq, ↓awp_block, C_ex, Nat.reduceBEq, acap, afieldAddr, aload, astore, abin, anum, astr, aun, isAggD, cond_true, cond_false, ↓reduceIte, C_P, C_G, isTuple, Value.cells, setL, ares, aresL, ares1, reduceCtorEq, Nat.reduceEqDiff, eq_self, Nat.reduceAdd, if_true, if_false, one, Nat.reduceLeDiff, undef, gsl, aextract, aindexAddr, amake, implies_true, forall_const, alen, abuiltin, anil, isC, Int.reduceEq, Int.reduceLT, Int.reduceLE, Int.reduceAdd, Int.reduceToNat, Int.reduceNeg, Nat.reduceMul, Nat.reduceSub, abuild, afill, Int.reduceBNe, Int.reduceBEq, Try.underlying3, abox, asz3, List.map_toArray]
  exact hk st.n (st.n + 1) _ ((hO.new (.cells [.slice a n c] 23 true)).new (.cells [.int .i64 64] 3 true))
def abounds3 (lo hi len cap : Nat) : Prop := lo ≤ hi ∧ hi ≤ cap
theorem abounds_three {len cap lo hi : Nat} (h : lo ≤ hi) (h2 : hi ≤ cap) : abounds len cap (some (.int .i64 lo)) (some (.int .i64 hi)) (some (.int .i64 hi)) = some (lo, hi, hi) := by
  simp [abounds, bnd, h, h2]
theorem aslice_three {P : Program} {st : St} {t e : TypeId} {n B off len cap : Nat} {sp : Option Nat} {lo hi : Nat} (hu : P.underlying t = some (.slice e)) (hn : asz P e = some n) (h : lo ≤ hi) (h2 : hi ≤ cap) :
    aslice P st t (.slice (some ⟨B, off, sp⟩) len cap) (some (.int .i64 lo)) (some (.int .i64 hi)) (some (.int .i64 hi)) = some (.slice (some ⟨B, off + lo * n, none⟩) (hi - lo) (hi - lo)) := by
  simp [aslice, hu, hn, abounds_three h h2]
set_option maxRecDepth 10000 in
theorem chunks_spec (st : St) (B X N m z : Nat) (v : Value) (hv : (m = 0 ∧ ∃ a c, v = .slice a 0 c) ∨ ∃ cap, 64 * m ≤ cap ∧ v = .slice (some ⟨z, 0, some 0⟩) (64 * m) cap) (hm : m ≤ 20000) (J : Nat → St → Prop) (E : St → Prop) (k q : Value → St → Prop)
    (hJ : ∀ i s, J i s → s.H X = some (.cells [v] 23 true) ∧ s.H N = some (.cells [.int .i64 64] 3 true) ∧ (m ≠ 0 → ∃ cs, s.H z = some (.cells cs 5 true)))
    (h0 : J 0 st) (hy : ∀ i s, i < m → J i s → AYield (C base w0 G) B [.slice (some ⟨z, 64 * i, none⟩) 64 64] s fun V s' => (V = .bool true ∧ J (i + 1) s') ∨ (V = .bool false ∧ E s'))
    (hk1 : ∀ s, J m s → k (.tuple #[]) s) (hk2 : ∀ s, E s → k (.tuple #[]) s) :
    ACall (C base w0 G) 53 [.func (.yield B) #[] #[], .pointer (some ⟨X, 0, none⟩), .pointer (some ⟨N, 0, none⟩)] st k q := by
  refine ACall.of (cx := C base w0 G) mixed Try.func53 rfl (by kernel_rfl) (by simp [Try.ntmps53]) ?_
  simp only [Try.results53]
  have hlen : ∃ a c, v = .slice a (64 * m) c := by
    rcases hv with ⟨rfl, a, c, rfl⟩ | ⟨cap, hcap, rfl⟩
    · exact ⟨a, c, rfl⟩
    · exact ⟨_, _, rfl⟩
  simp (config := { implicitDefEqProofs := false }) only [↓GP, GQ, ↓awp_seq, ↓awp_block, C_ex, Nat.reduceBEq, acap, afieldAddr, aload, astore, abin, anum, astr, aun, isAggD, cond_true, cond_false, ↓reduceIte, C_P, C_G, isTuple, Value.cells, setL, ares, aresL, ares1, reduceCtorEq, Nat.reduceEqDiff, eq_self, Nat.reduceAdd, if_true, if_false, one, Nat.reduceLeDiff, undef, gsl, aextract, aindexAddr, amake, implies_true, forall_const, alen, abuiltin, anil, isC, Int.reduceEq, Int.reduceLT, Int.reduceLE, Int.reduceAdd, Int.reduceToNat, Int.reduceNeg, Nat.reduceMul, Nat.reduceSub, abuild, afill, Int.reduceBNe, Int.reduceBEq]
  refine ⟨fun c ρ s => ∃ i : Nat, c = m - i ∧ i ≤ m ∧ ρ 0 = .func (.yield B) #[] #[] ∧ ρ 1 = .pointer (some ⟨X, 0, none⟩) ∧ ρ 2 = .pointer (some ⟨N, 0, none⟩) ∧ ρ 4 = .int .i64 (64 * i : Nat) ∧ J i s, ⟨m, 0, rfl, Nat.zero_le _, rfl, rfl, rfl, rfl, h0⟩, ?_⟩
  rintro c ρ s ⟨i, rfl, hi, p0, p1, p2, p4, hJi⟩
  obtain ⟨hX, hN, hz⟩ := hJ i s hJi
  obtain ⟨a, c, hvl⟩ := hlen
  by_cases him : i < m
  · rcases hv with ⟨rfl, _⟩ | ⟨cap, hcap, rfl⟩
    · omega
    obtain ⟨cs, hz⟩ := hz (by omega)
    have e1 : aslice Try.prog s 23 (.slice (some ⟨z, 0, some 0⟩) (64 * m) cap) (some (.int .i64 (64 * i : Nat))) none none = some (.slice (some ⟨z, 64 * i, some 0⟩) (64 * m - 64 * i) (cap - 64 * i)) := by
      have := aslice_of (P := Try.prog) (st := s) (sp := 0) (B := z) (off := 0) (len := 64 * m) (cap := cap) (lo := some (.int .i64 (64 * i : Nat))) (hi := none) Try.underlying23 asz5 (openOK_open hz asz5) (abounds_lo (lo := 64 * i) (by omega) hcap)
      simpa using this
    have hmin : amm false (.int .i64 64) [.int .i64 (64 * m - 64 * i : Nat)] = some (.int .i64 64) := by
      simp only [amm, Bool.false_eq_true, if_false]
      rw [if_neg (by omega)]
    have w1 : IntKind.i64.wrap ((64 * i : Nat) + 64) = ((64 * i + 64 : Nat) : Int) := by rw [w_i64 (by omega)]; omega
    have e2 : aslice Try.prog s 23 (.slice (some ⟨z, 0, some 0⟩) (64 * m) cap) (some (.int .i64 (64 * i : Nat))) (some (.int .i64 (64 * i + 64 : Nat))) (some (.int .i64 (64 * i + 64 : Nat))) = some (.slice (some ⟨z, 64 * i, none⟩) 64 64) := by
      rw [aslice_three Try.underlying23 asz5 (by omega) (by omega)]
      simp
    simp (config := { implicitDefEqProofs := false }) only [↓GP, GQ, ↓awp_seq, ↓awp_block, C_ex, Nat.reduceBEq, acap, afieldAddr, aload, astore, abin, anum, astr, aun, isAggD, cond_true, cond_false, ↓reduceIte, C_P, C_G, isTuple, Value.cells, setL, ares, aresL, ares1, reduceCtorEq, Nat.reduceEqDiff, eq_self, Nat.reduceAdd, if_true, if_false, one, Nat.reduceLeDiff, undef, gsl, aextract, aindexAddr, amake, implies_true, forall_const, alen, abuiltin, anil, isC, Int.reduceEq, Int.reduceLT, Int.reduceLE, Int.reduceAdd, Int.reduceToNat, Int.reduceNeg, Nat.reduceMul, Nat.reduceSub, abuild, afill, Int.reduceBNe, Int.reduceBEq, p0, p1, p2, p4, hX, hN, asz23, asz3, Try.underlying23, Try.underlying3, show ((64 * i : Nat) : Int) < ((64 * m : Nat) : Int) by omega, decide_true]
    refine ADraw.of [(0, false, []), (1, false, []), (2, false, []), (3, false, []), (4, false, []), (5, false, []), (6, false, [])] [] [] (by kernel_rfl) ?_
    simp (config := { implicitDefEqProofs := false }) only [↓GP, GQ, ↓awp_seq, ↓awp_block, C_ex, Nat.reduceBEq, acap, afieldAddr, aload, astore, abin, anum, astr, aun, isAggD, cond_true, cond_false, ↓reduceIte, C_P, C_G, isTuple, Value.cells, setL, ares, aresL, ares1, reduceCtorEq, Nat.reduceEqDiff, eq_self, Nat.reduceAdd, if_true, if_false, one, Nat.reduceLeDiff, undef, gsl, aextract, aindexAddr, amake, implies_true, forall_const, alen, abuiltin, anil, isC, Int.reduceEq, Int.reduceLT, Int.reduceLE, Int.reduceAdd, Int.reduceToNat, Int.reduceNeg, Nat.reduceMul, Nat.reduceSub, abuild, afill, Int.reduceBNe, Int.reduceBEq, p0, p1, p2, p4, hX, hN, asz23, asz3, Try.underlying23, Try.underlying3, e1, hmin, w1, e2]
    refine (hy i s him hJi).mono fun V s' hV => ?_
    rcases hV with ⟨rfl, hJ'⟩ | ⟨rfl, hE⟩
    · obtain ⟨hX', hN', _⟩ := hJ _ _ hJ'
      simp (config := { implicitDefEqProofs := false }) only [↓GP, GQ, ↓awp_seq, ↓awp_block, C_ex, Nat.reduceBEq, acap, afieldAddr, aload, astore, abin, anum, astr, aun, isAggD, cond_true, cond_false, ↓reduceIte, C_P, C_G, isTuple, Value.cells, setL, ares, aresL, ares1, reduceCtorEq, Nat.reduceEqDiff, eq_self, Nat.reduceAdd, if_true, if_false, one, Nat.reduceLeDiff, undef, gsl, aextract, aindexAddr, amake, implies_true, forall_const, alen, abuiltin, anil, isC, Int.reduceEq, Int.reduceLT, Int.reduceLE, Int.reduceAdd, Int.reduceToNat, Int.reduceNeg, Nat.reduceMul, Nat.reduceSub, abuild, afill, Int.reduceBNe, Int.reduceBEq, p0, p1, p2, p4, hX', hN', asz3, Try.underlying3, w1]
      exact ⟨m - (i + 1), by omega, i + 1, rfl, by omega, rfl, hJ'⟩
    · simp (config := { implicitDefEqProofs := false }) only [↓GP, GQ, ↓awp_seq, ↓awp_block, C_ex, Nat.reduceBEq, acap, afieldAddr, aload, astore, abin, anum, astr, aun, isAggD, cond_true, cond_false, ↓reduceIte, C_P, C_G, isTuple, Value.cells, setL, ares, aresL, ares1, reduceCtorEq, Nat.reduceEqDiff, eq_self, Nat.reduceAdd, if_true, if_false, one, Nat.reduceLeDiff, undef, gsl, aextract, aindexAddr, amake, implies_true, forall_const, alen, abuiltin, anil, isC, Int.reduceEq, Int.reduceLT, Int.reduceLE, Int.reduceAdd, Int.reduceToNat, Int.reduceNeg, Nat.reduceMul, Nat.reduceSub, abuild, afill, Int.reduceBNe, Int.reduceBEq]
      exact hk2 s' hE
  · obtain rfl : i = m := by omega
    simp (config := { implicitDefEqProofs := false }) only [↓GP, GQ, ↓awp_seq, ↓awp_block, C_ex, Nat.reduceBEq, acap, afieldAddr, aload, astore, abin, anum, astr, aun, isAggD, cond_true, cond_false, ↓reduceIte, C_P, C_G, isTuple, Value.cells, setL, ares, aresL, ares1, reduceCtorEq, Nat.reduceEqDiff, eq_self, Nat.reduceAdd, if_true, if_false, one, Nat.reduceLeDiff, undef, gsl, aextract, aindexAddr, amake, implies_true, forall_const, alen, abuiltin, anil, isC, Int.reduceEq, Int.reduceLT, Int.reduceLE, Int.reduceAdd, Int.reduceToNat, Int.reduceNeg, Nat.reduceMul, Nat.reduceSub, abuild, afill, Int.reduceBNe, Int.reduceBEq, p0, p1, p2, p4, hX, hN, hvl, asz23, asz3, Try.underlying23, Try.underlying3, Int.lt_irrefl, decide_false]
    exact hk1 s hJi
/-- A loop over chunks: what holds behind so many rounds (of the blocks, the loop's record left out); what holds where a round has returned. -/
theorem range_chunks (st : St) (F0 : Hp) {X N m z t : Nat} {v : Value} (hv : (m = 0 ∧ ∃ a c, v = .slice a 0 c) ∨ ∃ cap, 64 * m ≤ cap ∧ v = .slice (some ⟨z, 0, some 0⟩) (64 * m) cap) (hm : m ≤ 20000) {x y : Code} {ρ : Env} {Q : Post} {q : PostP} (P : Nat → Hp → Prop) (R : Hp → Prop) (ρx : Env → Value → Env)
    (hO : Own st F0) (h0 : P 0 F0) (hP : ∀ i F, P i F → (X, Ob.cells [v] 23 true) ∈ F ∧ (N, Ob.cells [.int .i64 64] 3 true) ∈ F ∧ (m ≠ 0 → ∃ cs, (z, Ob.cells cs 5 true) ∈ F))
    (hx : ∀ c s (K : Post) (q : PostP), K .normal (ρx ρ c) s → awp (C base w0 G) x K q (put ρ t c) s)
    (hy : ∀ i s F B o (K : Post), i < m → P i F → Own s ((B, .loop o) :: F) → (∀ ρ' s' F', P (i + 1) F' → Own s' ((B, .loop o) :: F') → K .normal ρ' s') → (∀ ρ' s' F', R F' → Own s' ((B, .loop o) :: F') → K .ret ρ' s') →
      awp (C base w0 G) y K (fun _ _ => False) (ρx ρ (.slice (some ⟨z, 64 * i, none⟩) 64 64)) s)
    (hq1 : ∀ s F, P m F → Own s F → Q .normal ρ s) (hq2 : ∀ s F, R F → Own s F → Q .ret ρ s) :
    arange (C base w0 G) (.func (.func 53) #[] #[.pointer (some ⟨X, 0, none⟩), .pointer (some ⟨N, 0, none⟩)]) #[t] x y Q q ρ st := by
  refine arange.enter Try.func53 rfl (by kernel_rfl) ?_
  refine chunks_spec (base := base) (w0 := w0) (G := G) _ st.n X N m z v hv hm (fun i s => ∃ F, P i F ∧ Own s ((st.n, .loop ⟨ρ, #[t], x, y, .ready, none⟩) :: F)) (fun s => ∃ F, R F ∧ Own s ((st.n, .loop ⟨ρ, #[t], x, y, .done, some .ret⟩) :: F)) _ q
    (fun i s hJ => ?_) ⟨F0, h0, hO.new _⟩ (fun i s hi hJ => ?_) (fun s hJ => ?_) (fun s hE => ?_)
  · obtain ⟨F, hF, hs⟩ := hJ
    obtain ⟨a1, a2, a3⟩ := hP i F hF
    exact ⟨hs.get (List.mem_cons_of_mem _ a1), hs.get (List.mem_cons_of_mem _ a2), fun h => let ⟨cs, h⟩ := a3 h; ⟨cs, hs.get (List.mem_cons_of_mem _ h)⟩⟩
  · obtain ⟨F, hF, hs⟩ := hJ
    refine AYield.of mixed hs.head rfl ?_
    refine hx _ s _ _ ?_
    show abegin st.n _ s (s.H st.n)
    rw [hs.head]
    refine ⟨rfl, hy i _ F st.n _ _ hi hF (hs.set rfl (.loop ⟨ρ, #[t], x, y, .busy, none⟩) rfl) (fun ρ' s' F' hF' hs' => ?_) (fun ρ' s' F' hF' hs' => ?_)⟩
    · dsimp only [roundQ]
      rw [hs'.head]
      exact .inl ⟨rfl, F', hF', hs'.set rfl (.loop ⟨ρ, #[t], x, y, .ready, none⟩) rfl⟩
    · dsimp only [roundQ]
      rw [hs'.head]
      exact .inr ⟨rfl, F', hF', hs'.set rfl (.loop ⟨ρ, #[t], x, y, .done, some .ret⟩) rfl⟩
  · obtain ⟨F, hF, hs⟩ := hJ
    show aend st.n Q ρ s (s.H st.n)
    rw [hs.head]
    exact ⟨by simp, hq1 _ F hF (hs.kill rfl)⟩
  · obtain ⟨F, hF, hs⟩ := hE
    show aend st.n Q ρ s (s.H st.n)
    rw [hs.head]
    exact ⟨by simp, hq2 _ F hF (hs.kill rfl)⟩
end Go.Proofs.Ytiooigkcliomlaa
