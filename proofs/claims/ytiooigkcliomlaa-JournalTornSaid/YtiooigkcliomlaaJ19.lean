/- A record is written. No conditions. -/
import Derived.Test.YtiooigkcliomlaaJ18
set_option linter.unusedVariables false
set_option linter.unusedSimpArgs false
namespace Go.Proofs.Ytiooigkcliomlaa
open Go Go.Abs Go.RowKit
variable {base : Nat} {w0 : World} {G : Nat}

def padN (l : List Nat) : List Nat := l ++ List.replicate (needN l.length * 64 - l.length) 0
def chunkN (l : List Nat) (i : Nat) : List Nat := ((padN l).drop (64 * i)).take 64
/-- The writes of a record's sectors behind its head. -/
def payF (l : List Nat) (a : Nat) : Nat → List LN
  | 0 => []
  | k + 1 => payF l a k ++ [(a + 1 + k, chunkN l k)]
theorem payF_length (l : List Nat) (a : Nat) : ∀ k, (payF l a k).length = k
  | 0 => rfl
  | k + 1 => by rw [payF, List.length_append, payF_length l a k]; rfl
theorem padN_length (l : List Nat) : (padN l).length = 64 * needN l.length := by
  unfold padN
  rw [List.length_append, List.length_replicate]
  unfold needN; omega
theorem padN_lt {l : List Nat} (h : ∀ d ∈ l, d < 256) : ∀ d ∈ padN l, d < 256 := by
  intro d hd
  rcases List.mem_append.1 hd with e | e
  · exact h d e
  · rw [List.eq_of_mem_replicate e]; decide
theorem chunkN_sec {l : List Nat} (h : ∀ d ∈ l, d < 256) {i : Nat} (hi : i < needN l.length) : Sec (chunkN l i) := by
  refine ⟨?_, fun d hd => padN_lt h d (List.mem_of_mem_drop (List.mem_of_mem_take hd))⟩
  unfold chunkN
  rw [List.length_take, List.length_drop, padN_length]; omega
/-- How a write may fail. -/
def WFail (S : List (List Nat)) (a g num : Nat) (l : List Nat) (S' : List (List Nat)) (L' : List LN) : Prop :=
  (S' = S ∧ ∃ j, j ≤ needN l.length ∧ L' = payF l a j) ∨ (S' = appN S (payF l a (needN l.length)) ∧ (L' = [] ∨ L' = [(a, headL g num l)]))
def wrote (S : List (List Nat)) (a g num : Nat) (l : List Nat) : List (List Nat) := appN (appN S (payF l a (needN l.length))) [(a, headL g num l)]
theorem chunk_nb {h : Hp} {z : Nat} {D : List Value} {l : List Nat} (hl : ∀ d ∈ l, d < 256) (hm : (z, Ob.cells D 5 true) ∈ h) (hc : cut D 0 (64 * needN l.length * 1) = some (nl (padN l))) {i : Nat} (hi : i < needN l.length) : Nb h (.slice (some ⟨z, 64 * i, none⟩) 64 64) (chunkN l i) := by
  have hs := chunkN_sec hl hi
  obtain ⟨c1, c2, c3⟩ := cut_spec hc
  refine ⟨.inr ⟨z, 64 * i, none, 64, D, 5, true, by rw [List.length_map, hs.1], hm, ?_⟩, hs.2⟩
  rw [List.length_map, hs.1, cut, if_pos (by omega)]
  show some _ = some (nl (chunkN l i))
  rw [chunkN, ← nl_take, ← nl_drop, c2, List.drop_zero, List.drop_take, List.take_take]
  congr 1
  rw [Nat.min_eq_left (by omega)]
set_option maxHeartbeats 1000000 in
set_option maxRecDepth 10000 in
theorem write_spec (st : St) (r h : Hp) (p : Nat) (S : List (List Nat)) (fz : Int) (a g num : Nat) (bv : Value) (l : List Nat) (hD : DN p S [] fz h) (hO : Own st (h ++ r)) (hb : Nb r bv l) (hl : l.length ≤ 300000) (hfz : FZ fz) (hn : a + 1 + needN l.length ≤ S.length) (hS : S.length ≤ 5000)
    (hg : g < 4294967296) (hnum : num < 4294967296) (k q : Value → St → Prop)
    (hpow : ∀ S' L' h' st', fz ≠ -1 → WFail S a g num l S' L' → DN p S' L' 0 h' → Own st' (h' ++ r) → k (.int .i64 50) st')
    (hok : ∀ fz' h' st', Spent fz fz' → DN p (wrote S a g num l) [] fz' h' → Own st' (h' ++ r) → k (.int .i64 0) st') :
    ACall (C base w0 G) 35 [.pointer (some ⟨p, 0, none⟩), .int .i64 a, .int .i64 g, .int .i64 num, bv] st k q := by
  obtain ⟨ba, bc, hbs⟩ := hb.isSlice
  have hml : needN l.length ≤ 5000 := by omega
  have hpl := padN_length l
  refine ACall.of (cx := C base w0 G) mixed Try.func35 rfl (by kernel_rfl) (by simp [Try.ntmps35]) ?_
  simp only [Try.results35]
  simp (config := { implicitDefEqProofs := false }) only [↓GP, GQ, ↓awp_seq, ↓awp_block, C_ex, Nat.reduceBEq, acap, afieldAddr, aload, astore, abin, anum, astr, aun, isAggD, cond_true, cond_false, ↓reduceIte, C_P, C_G, isTuple, Value.cells, setL, ares, aresL, ares1, reduceCtorEq, Nat.reduceEqDiff, eq_self, Nat.reduceAdd, if_true, if_false, one, Nat.reduceLeDiff, undef, gsl, aextract, aindexAddr, amake, implies_true, forall_const, alen, abuiltin, anil, isC, Int.reduceEq, Int.reduceLT, Int.reduceLE, Int.reduceAdd, Int.reduceToNat, Int.reduceNeg, Nat.reduceMul, Nat.reduceSub, abuild, afill, Int.reduceBNe, Int.reduceBEq, abox, asz26, aalloc, azc27]
  have hO1 : Own _ ((st.n + 1, .cells [.int .i64 0] 27 true) :: (st.n, .cells [.pointer (some ⟨p, 0, none⟩)] 26 true) :: (h ++ r)) := (hO.new (.cells [.pointer (some ⟨p, 0, none⟩)] 26 true)).new (.cells [.int .i64 0] 27 true)
  generalize st.n + 1 = c10 at *
  generalize st.n = c5 at *
  generalize St.new (St.new st _) _ = s1 at *
  have hb1 : Nb ((c10, .cells [.int .i64 0] 27 true) :: (c5, .cells [.pointer (some ⟨p, 0, none⟩)] 26 true) :: (h ++ r)) bv l := hb.sub fun e he => by simp [he]
  refine CloneN s1 _ bv l hb1 (by omega) hO1 _ _ fun v2 h2 s2 hG2 hO2 => ?_
  obtain ⟨a2, c2, hv2⟩ := hG2.isSlice
  have wm : IntKind.i64.wrap (((needN l.length : Nat) : Int) * 64) = ((needN l.length * 64 : Nat) : Int) := by rw [w_i64 (by omega)]; omega
  have ws : IntKind.i64.wrap (((needN l.length * 64 : Nat) : Int) - (l.length : Int)) = ((needN l.length * 64 - l.length : Nat) : Int) := by unfold needN; rw [w_i64 (by omega)]; omega
  simp (config := { implicitDefEqProofs := false }) only [↓GP, GQ, ↓awp_seq, ↓awp_block, C_ex, Nat.reduceBEq, acap, afieldAddr, aload, astore, abin, anum, astr, aun, isAggD, cond_true, cond_false, ↓reduceIte, C_P, C_G, isTuple, Value.cells, setL, ares, aresL, ares1, reduceCtorEq, Nat.reduceEqDiff, eq_self, Nat.reduceAdd, if_true, if_false, one, Nat.reduceLeDiff, undef, gsl, aextract, aindexAddr, amake, implies_true, forall_const, alen, abuiltin, anil, isC, Int.reduceEq, Int.reduceLT, Int.reduceLE, Int.reduceAdd, Int.reduceToNat, Int.reduceNeg, Nat.reduceMul, Nat.reduceSub, abuild, afill, Int.reduceBNe, Int.reduceBEq, hbs, Try.underlying23, Try.underlying3]
  refine ACallF.enter Try.func38 rfl (by kernel_rfl) (need_spec s2 l.length (by omega) _ _ ?_)
  simp (config := { implicitDefEqProofs := false }) only [↓GP, GQ, ↓awp_seq, ↓awp_block, C_ex, Nat.reduceBEq, acap, afieldAddr, aload, astore, abin, anum, astr, aun, isAggD, cond_true, cond_false, ↓reduceIte, C_P, C_G, isTuple, Value.cells, setL, ares, aresL, ares1, reduceCtorEq, Nat.reduceEqDiff, eq_self, Nat.reduceAdd, if_true, if_false, one, Nat.reduceLeDiff, undef, gsl, aextract, aindexAddr, amake, implies_true, forall_const, alen, abuiltin, anil, isC, Int.reduceEq, Int.reduceLT, Int.reduceLE, Int.reduceAdd, Int.reduceToNat, Int.reduceNeg, Nat.reduceMul, Nat.reduceSub, abuild, afill, Int.reduceBNe, Int.reduceBEq, hbs, Try.underlying23, Try.underlying3, wm, ws]
  refine GVc.appendZ (m := needN l.length * 64 - l.length) Try.underlying23 (by rw [Try.underlying3]; rfl) asz5 azc5 aby5 hG2 hO2 (by unfold needN; omega) rfl rfl (by unfold needN; omega) fun v3 h3 s3 hG3 hO3 => ?_
  have hn3 : l.length + (needN l.length * 64 - l.length) = 64 * needN l.length := by unfold needN; omega
  rw [zeros_nl, ← nl_append, hn3] at hG3
  have hG3 : GVc v3 (nl (padN l)) (64 * needN l.length) 1 5 h3 := hG3
  have hO4 : Own _ ((s3.n, .cells [.int .i64 a] 3 true) :: (h3 ++ ((c10, .cells [.int .i64 0] 27 true) :: (c5, .cells [.pointer (some ⟨p, 0, none⟩)] 26 true) :: (h ++ r)))) := (hO3.new (.cells [.int .i64 0] 3 true)).set rfl (.cells [.int .i64 a] 3 true) rfl
  obtain ⟨a3, c3, hv3⟩ := hG3.isSlice
  simp (config := { implicitDefEqProofs := false }) only [↓GP, GQ, ↓awp_seq, ↓awp_block, C_ex, Nat.reduceBEq, acap, afieldAddr, aload, astore, abin, anum, astr, aun, isAggD, cond_true, cond_false, ↓reduceIte, C_P, C_G, isTuple, Value.cells, setL, ares, aresL, ares1, reduceCtorEq, Nat.reduceEqDiff, eq_self, Nat.reduceAdd, if_true, if_false, one, Nat.reduceLeDiff, undef, gsl, aextract, aindexAddr, amake, implies_true, forall_const, alen, abuiltin, anil, isC, Int.reduceEq, Int.reduceLT, Int.reduceLE, Int.reduceAdd, Int.reduceToNat, Int.reduceNeg, Nat.reduceMul, Nat.reduceSub, abuild, afill, Int.reduceBNe, Int.reduceBEq, hv3, Try.underlying23, Try.underlying3, aalloc, azc3, asz3]
  generalize s3.n = c12 at *
  generalize St.set (St.new s3 _) _ _ = s4 at *
  rw [← hv3]
  refine Chunk_spec s4 _ v3 ⟨_, _, _, hv3⟩ hO4 _ _ fun X N s5 hO5 => ?_
  simp (config := { implicitDefEqProofs := false }) only [↓GP, GQ, ↓awp_seq, ↓awp_block, C_ex, Nat.reduceBEq, acap, afieldAddr, aload, astore, abin, anum, astr, aun, isAggD, cond_true, cond_false, ↓reduceIte, C_P, C_G, isTuple, Value.cells, setL, ares, aresL, ares1, reduceCtorEq, Nat.reduceEqDiff, eq_self, Nat.reduceAdd, if_true, if_false, one, Nat.reduceLeDiff, undef, gsl, aextract, aindexAddr, amake, implies_true, forall_const, alen, abuiltin, anil, isC, Int.reduceEq, Int.reduceLT, Int.reduceLE, Int.reduceAdd, Int.reduceToNat, Int.reduceNeg, Nat.reduceMul, Nat.reduceSub, abuild, afill, Int.reduceBNe, Int.reduceBEq]
  obtain ⟨z, hz1, hz2⟩ : ∃ z, ((needN l.length = 0 ∧ ∃ a c, v3 = .slice a 0 c) ∨ ∃ cap, 64 * needN l.length ≤ cap ∧ v3 = .slice (some ⟨z, 0, some 0⟩) (64 * needN l.length) cap) ∧
      (needN l.length ≠ 0 → ∃ D, (z, Ob.cells D 5 true) ∈ h3 ∧ cut D 0 (64 * needN l.length * 1) = some (nl (padN l))) := by
    rcases hG3 with ⟨rfl, h2, _⟩ | ⟨b, rfl, h2, _⟩ | ⟨b, c, D, rfl, rfl, hc, hnc⟩
    · exact ⟨0, .inl ⟨by omega, _, _, rfl⟩, fun h => absurd h2 (by omega)⟩
    · exact ⟨0, .inl ⟨by omega, _, _, rfl⟩, fun h => absurd h2 (by omega)⟩
    · exact ⟨b, .inr ⟨c, hnc, rfl⟩, fun _ => ⟨D, by simp, hc⟩⟩
  have hO6 := hO5.perm (by
    simpa using perm_of [[(N, Ob.cells [.int .i64 64] 3 true)], [(X, .cells [v3] 23 true)], [(c12, .cells [.int .i64 a] 3 true)], h3, [(c10, .cells [.int .i64 0] 27 true)], [(c5, .cells [.pointer (some ⟨p, 0, none⟩)] 26 true)], h, r] [0, 1, 2, 3, 4, 5, 6, 7] [2, 4, 5, 0, 1, 3, 6, 7] rfl)
  refine range_chunks s5 _ (z := z) hz1 (by omega) (fun i F => ∃ hd fz', F = (c12, .cells [.int .i64 (a + i : Nat)] 3 true) :: (c10, .cells [.int .i64 0] 27 true) :: (c5, .cells [.pointer (some ⟨p, 0, none⟩)] 26 true) :: (N, Ob.cells [.int .i64 64] 3 true) :: (X, .cells [v3] 23 true) :: (h3 ++ (hd ++ r)) ∧ DN p S (payF l a i) fz' hd ∧ Spent fz fz')
    (fun F => ∃ hd j c, F = c :: (c10, .cells [.int .i64 50] 27 true) :: (c5, .cells [.pointer (some ⟨p, 0, none⟩)] 26 true) :: (N, Ob.cells [.int .i64 64] 3 true) :: (X, .cells [v3] 23 true) :: (h3 ++ (hd ++ r)) ∧ j ≤ needN l.length ∧ fz ≠ -1 ∧ DN p S (payF l a j) 0 hd)
    (fun ρ c => put (put ρ 30 c) 13 c) hO6 ⟨h, fz, rfl, hD, Spent.refl hfz⟩ (fun i F hF => ?_) (fun c s K q hK => ?_) (fun i s F B o K hi hF hs k1 k2 => ?_) (fun s F hF hs => ?_) (fun s F hF hs => ?_)
  · obtain ⟨hd, fz', rfl, _⟩ := hF
    exact ⟨by simp, by simp, fun hm => let ⟨D, h1, _⟩ := hz2 hm; ⟨D, by simp [h1]⟩⟩
  · simp (config := { implicitDefEqProofs := false }) only [↓GP, GQ, ↓awp_seq, ↓awp_block, C_ex, Nat.reduceBEq, acap, afieldAddr, aload, astore, abin, anum, astr, aun, isAggD, cond_true, cond_false, ↓reduceIte, C_P, C_G, isTuple, Value.cells, setL, ares, aresL, ares1, reduceCtorEq, Nat.reduceEqDiff, eq_self, Nat.reduceAdd, if_true, if_false, one, Nat.reduceLeDiff, undef, gsl, aextract, aindexAddr, amake, implies_true, forall_const, alen, abuiltin, anil, isC, Int.reduceEq, Int.reduceLT, Int.reduceLE, Int.reduceAdd, Int.reduceToNat, Int.reduceNeg, Nat.reduceMul, Nat.reduceSub, abuild, afill, Int.reduceBNe, Int.reduceBEq]
    exact hK
  · obtain ⟨hd, fz', rfl, hDi, hsp⟩ := hF
    obtain ⟨D, hzm, hcut⟩ := hz2 (by omega)
    have g12 := hs.get (b := c12) (o := .cells [.int .i64 (a + i : Nat)] 3 true) (by simp)
    have wi : IntKind.i64.wrap (((a + i : Nat) : Int) + 1) = ((a + (i + 1) : Nat) : Int) := by rw [w_i64 (by omega)]; omega
    have hs2 := (hs.perm (by simpa using perm_of [[(B, Ob.loop o)], [(c12, Ob.cells [.int .i64 (a + i : Nat)] 3 true)], _] [0, 1, 2] [1, 0, 2] rfl)).set rfl (.cells [.int .i64 (a + (i + 1) : Nat)] 3 true) rfl
    have n5 : ¬ c5 = c12 := hs2.ne rfl (b' := c5) (o' := .cells [.pointer (some ⟨p, 0, none⟩)] 26 true) (by simp)
    have g5 := hs.get (b := c5) (o := .cells [.pointer (some ⟨p, 0, none⟩)] 26 true) (by simp)
    have hs3 : Own _ (hd ++ ((c12, Ob.cells [.int .i64 (a + (i + 1) : Nat)] 3 true) :: (B, Ob.loop o) :: (c10, .cells [.int .i64 0] 27 true) :: (c5, .cells [.pointer (some ⟨p, 0, none⟩)] 26 true) :: (N, Ob.cells [.int .i64 64] 3 true) :: (X, .cells [v3] 23 true) :: (h3 ++ r))) := hs2.perm (by simpa using perm_of [[(c12, Ob.cells [.int .i64 (a + (i + 1) : Nat)] 3 true)], [(B, Ob.loop o)], [(c10, .cells [.int .i64 0] 27 true)], [(c5, .cells [.pointer (some ⟨p, 0, none⟩)] 26 true)], [(N, Ob.cells [.int .i64 64] 3 true)], [(X, .cells [v3] 23 true)], h3, hd, r] [0, 1, 2, 3, 4, 5, 6, 7, 8] [7, 0, 1, 2, 3, 4, 5, 6, 8] rfl)
    have hLl : (payF l a i).length ≤ 1000000 := by rw [payF_length]; omega
    have step : payF l a (i + 1) = payF l a i ++ [(a + (i + 1), chunkN l i)] := by rw [payF]; congr 3; omega
    simp (config := { implicitDefEqProofs := false }) only [↓GP, GQ, ↓awp_seq, ↓awp_block, C_ex, Nat.reduceBEq, acap, afieldAddr, aload, astore, abin, anum, astr, aun, isAggD, cond_true, cond_false, ↓reduceIte, C_P, C_G, isTuple, Value.cells, setL, ares, aresL, ares1, reduceCtorEq, Nat.reduceEqDiff, eq_self, Nat.reduceAdd, if_true, if_false, one, Nat.reduceLeDiff, undef, gsl, aextract, aindexAddr, amake, implies_true, forall_const, alen, abuiltin, anil, isC, Int.reduceEq, Int.reduceLT, Int.reduceLE, Int.reduceAdd, Int.reduceToNat, Int.reduceNeg, Nat.reduceMul, Nat.reduceSub, abuild, afill, Int.reduceBNe, Int.reduceBEq, g12, g5, n5, asz3, asz26, Try.underlying3, Try.underlying26, wi]
    refine WriteN _ _ hd p S _ fz' (a + (i + 1) : Nat) _ (chunkN l i) hDi hs3 (chunk_nb (h := _) hb.2 (by simp [hzm]) hcut hi) hsp.1.2 hLl _ _ (fun hh => absurd ⟨by omega, by omega, (chunkN_sec hb.2 hi).1⟩ hh) (fun _ _ _ hz => ?_) (fun h7 s7 _ _ _ hz hD7 hO7 => ?_)
    · subst hz
      have hs4a : Own _ ((c10, .cells [.int .i64 0] 27 true) :: (B, Ob.loop o) :: (c12, Ob.cells [.int .i64 (a + (i + 1) : Nat)] 3 true) :: (c5, .cells [.pointer (some ⟨p, 0, none⟩)] 26 true) :: (N, Ob.cells [.int .i64 64] 3 true) :: (X, .cells [v3] 23 true) :: (h3 ++ (hd ++ r))) := hs3.perm (by simpa using perm_of [hd, [(c12, Ob.cells [.int .i64 (a + (i + 1) : Nat)] 3 true)], [(B, Ob.loop o)], [(c10, .cells [.int .i64 0] 27 true)], [(c5, .cells [.pointer (some ⟨p, 0, none⟩)] 26 true)], [(N, Ob.cells [.int .i64 64] 3 true)], [(X, .cells [v3] 23 true)], h3, r] [0, 1, 2, 3, 4, 5, 6, 7, 8] [3, 2, 1, 4, 5, 6, 7, 0, 8] rfl)
      have hs4 := hs4a.set rfl (.cells [.int .i64 50] 27 true) rfl
      have g10 := hs.get (b := c10) (o := .cells [.int .i64 0] 27 true) (by simp)
      have n10 : ¬ c10 = c12 := hs2.ne rfl (b' := c10) (o' := .cells [.int .i64 0] 27 true) (by simp)
      simp (config := { implicitDefEqProofs := false }) only [↓GP, GQ, ↓awp_seq, ↓awp_block, C_ex, Nat.reduceBEq, acap, afieldAddr, aload, astore, abin, anum, astr, aun, isAggD, cond_true, cond_false, ↓reduceIte, C_P, C_G, isTuple, Value.cells, setL, ares, aresL, ares1, reduceCtorEq, Nat.reduceEqDiff, eq_self, Nat.reduceAdd, if_true, if_false, one, Nat.reduceLeDiff, undef, gsl, aextract, aindexAddr, amake, implies_true, forall_const, alen, abuiltin, anil, isC, Int.reduceEq, Int.reduceLT, Int.reduceLE, Int.reduceAdd, Int.reduceToNat, Int.reduceNeg, Nat.reduceMul, Nat.reduceSub, abuild, afill, Int.reduceBNe, Int.reduceBEq, asz27, Try.underlying27, g10, n10]
      refine k2 _ _ _ ⟨hd, i, (c12, Ob.cells [.int .i64 (a + (i + 1) : Nat)] 3 true), rfl, by omega, fun e => by have := hsp.2.1 e; omega, hDi⟩ ?_
      exact hs4.perm ((by simpa using perm_of [[(c10, Ob.cells [.int .i64 50] 27 true)], [(B, Ob.loop o)], [(c12, Ob.cells [.int .i64 (a + (i + 1) : Nat)] 3 true)]] [0, 1, 2] [1, 2, 0] rfl : List.Perm [(c10, Ob.cells [.int .i64 50] 27 true), (B, Ob.loop o), (c12, Ob.cells [.int .i64 (a + (i + 1) : Nat)] 3 true)] [(B, Ob.loop o), (c12, Ob.cells [.int .i64 (a + (i + 1) : Nat)] 3 true), (c10, Ob.cells [.int .i64 50] 27 true)]).append_right _)
    · simp (config := { implicitDefEqProofs := false }) only [↓GP, GQ, ↓awp_seq, ↓awp_block, C_ex, Nat.reduceBEq, acap, afieldAddr, aload, astore, abin, anum, astr, aun, isAggD, cond_true, cond_false, ↓reduceIte, C_P, C_G, isTuple, Value.cells, setL, ares, aresL, ares1, reduceCtorEq, Nat.reduceEqDiff, eq_self, Nat.reduceAdd, if_true, if_false, one, Nat.reduceLeDiff, undef, gsl, aextract, aindexAddr, amake, implies_true, forall_const, alen, abuiltin, anil, isC, Int.reduceEq, Int.reduceLT, Int.reduceLE, Int.reduceAdd, Int.reduceToNat, Int.reduceNeg, Nat.reduceMul, Nat.reduceSub, abuild, afill, Int.reduceBNe, Int.reduceBEq, asz27, Try.underlying27]
      rw [Int.toNat_natCast, ← step] at hD7
      refine k1 _ _ _ ⟨h7, _, rfl, hD7, hsp.dec hz⟩ ?_
      exact hO7.perm (by simpa using perm_of [h7, [(c12, Ob.cells [.int .i64 (a + (i + 1) : Nat)] 3 true)], [(B, Ob.loop o)], [(c10, .cells [.int .i64 0] 27 true)], [(c5, .cells [.pointer (some ⟨p, 0, none⟩)] 26 true)], [(N, Ob.cells [.int .i64 64] 3 true)], [(X, .cells [v3] 23 true)], h3, r] [0, 1, 2, 3, 4, 5, 6, 7, 8] [2, 1, 3, 4, 5, 6, 7, 0, 8] rfl)
  · obtain ⟨hd, fz', rfl, hDi, hsp⟩ := hF
    have g12 := hs.get (b := c12) (o := .cells [.int .i64 (a + needN l.length : Nat)] 3 true) (by simp)
    have g5 := hs.get (b := c5) (o := .cells [.pointer (some ⟨p, 0, none⟩)] 26 true) (by simp)
    simp (config := { implicitDefEqProofs := false }) only [↓GP, GQ, ↓awp_seq, ↓awp_block, C_ex, Nat.reduceBEq, acap, afieldAddr, aload, astore, abin, anum, astr, aun, isAggD, cond_true, cond_false, ↓reduceIte, C_P, C_G, isTuple, Value.cells, setL, ares, aresL, ares1, reduceCtorEq, Nat.reduceEqDiff, eq_self, Nat.reduceAdd, if_true, if_false, one, Nat.reduceLeDiff, undef, gsl, aextract, aindexAddr, amake, implies_true, forall_const, alen, abuiltin, anil, isC, Int.reduceEq, Int.reduceLT, Int.reduceLE, Int.reduceAdd, Int.reduceToNat, Int.reduceNeg, Nat.reduceMul, Nat.reduceSub, abuild, afill, Int.reduceBNe, Int.reduceBEq, g12, g5, asz3, asz26, Try.underlying3, Try.underlying26]
    obtain ⟨S1, hS1⟩ : ∃ S1, S1 = appN S (payF l a (needN l.length)) := ⟨_, rfl⟩
    have hS1l : S1.length = S.length := by rw [hS1, appN_length]
    refine ⟨fun hgt => ?_, fun hgt => ?_⟩
    · have hO0 : Own s (hd ++ ((c12, Ob.cells [.int .i64 (a + needN l.length : Nat)] 3 true) :: (c10, Ob.cells [.int .i64 0] 27 true) :: (c5, Ob.cells [.pointer (some ⟨p, 0, none⟩)] 26 true) :: (N, Ob.cells [.int .i64 64] 3 true) :: (X, Ob.cells [v3] 23 true) :: (h3 ++ r))) := hs.perm (by simpa using perm_of [[(c12, Ob.cells [.int .i64 (a + needN l.length : Nat)] 3 true)], [(c10, Ob.cells [.int .i64 0] 27 true)], [(c5, Ob.cells [.pointer (some ⟨p, 0, none⟩)] 26 true)], [(N, Ob.cells [.int .i64 64] 3 true)], [(X, Ob.cells [v3] 23 true)], h3, hd, r] [0, 1, 2, 3, 4, 5, 6, 7] [6, 0, 1, 2, 3, 4, 5, 7] rfl)
      refine SyncN s _ hd p S _ fz' hDi hO0 hsp.1.2 (by rw [payF_length]; omega) _ _ (fun hz => ?_) (fun h7 s7 hz hD7 hO7 => ?_)
      · subst hz
        have hO0b : Own s ((c10, Ob.cells [.int .i64 0] 27 true) :: (hd ++ ((c12, Ob.cells [.int .i64 (a + needN l.length : Nat)] 3 true) :: (c5, Ob.cells [.pointer (some ⟨p, 0, none⟩)] 26 true) :: (N, Ob.cells [.int .i64 64] 3 true) :: (X, Ob.cells [v3] 23 true) :: (h3 ++ r)))) := hs.perm (by simpa using perm_of [[(c12, Ob.cells [.int .i64 (a + needN l.length : Nat)] 3 true)], [(c10, Ob.cells [.int .i64 0] 27 true)], [(c5, Ob.cells [.pointer (some ⟨p, 0, none⟩)] 26 true)], [(N, Ob.cells [.int .i64 64] 3 true)], [(X, Ob.cells [v3] 23 true)], h3, hd, r] [0, 1, 2, 3, 4, 5, 6, 7] [1, 6, 0, 2, 3, 4, 5, 7] rfl)
        have g10 := hO0b.head
        have hO0c := hO0b.set rfl (.cells [.int .i64 50] 27 true) rfl
        simp (config := { implicitDefEqProofs := false }) only [↓GP, GQ, ↓awp_seq, ↓awp_block, C_ex, Nat.reduceBEq, acap, afieldAddr, aload, astore, abin, anum, astr, aun, isAggD, cond_true, cond_false, ↓reduceIte, C_P, C_G, isTuple, Value.cells, setL, ares, aresL, ares1, reduceCtorEq, Nat.reduceEqDiff, eq_self, Nat.reduceAdd, if_true, if_false, one, Nat.reduceLeDiff, undef, gsl, aextract, aindexAddr, amake, implies_true, forall_const, alen, abuiltin, anil, isC, Int.reduceEq, Int.reduceLT, Int.reduceLE, Int.reduceAdd, Int.reduceToNat, Int.reduceNeg, Nat.reduceMul, Nat.reduceSub, abuild, afill, Int.reduceBNe, Int.reduceBEq, g10, asz27, Try.underlying27]
        refine hpow S _ hd _ (fun e => by have := hsp.2.1 e; omega) (.inl ⟨rfl, _, Nat.le_refl _, rfl⟩) hDi ?_
        exact hO0c.tail.sub (List.Sublist.append_left (((List.sublist_append_right h3 r).cons _).cons _ |>.cons _ |>.cons _) _)
      · rw [← hS1] at hD7
        have hsp7 := hsp.dec hz
        generalize dec1 fz' = fz7 at hD7 hsp7
        have hO7t : Own s7 ((c12, Ob.cells [.int .i64 (a + needN l.length : Nat)] 3 true) :: (c10, Ob.cells [.int .i64 0] 27 true) :: (c5, Ob.cells [.pointer (some ⟨p, 0, none⟩)] 26 true) :: (N, Ob.cells [.int .i64 64] 3 true) :: (X, Ob.cells [v3] 23 true) :: (h3 ++ (h7 ++ r))) := hO7.perm (by simpa using perm_of [h7, [(c12, Ob.cells [.int .i64 (a + needN l.length : Nat)] 3 true)], [(c10, Ob.cells [.int .i64 0] 27 true)], [(c5, Ob.cells [.pointer (some ⟨p, 0, none⟩)] 26 true)], [(N, Ob.cells [.int .i64 64] 3 true)], [(X, Ob.cells [v3] 23 true)], h3, r] [0, 1, 2, 3, 4, 5, 6, 7] [1, 2, 3, 4, 5, 6, 0, 7] rfl)
        simp (config := { implicitDefEqProofs := false }) only [↓GP, GQ, ↓awp_seq, ↓awp_block, C_ex, Nat.reduceBEq, acap, afieldAddr, aload, astore, abin, anum, astr, aun, isAggD, cond_true, cond_false, ↓reduceIte, C_P, C_G, isTuple, Value.cells, setL, ares, aresL, ares1, reduceCtorEq, Nat.reduceEqDiff, eq_self, Nat.reduceAdd, if_true, if_false, one, Nat.reduceLeDiff, undef, gsl, aextract, aindexAddr, amake, implies_true, forall_const, alen, abuiltin, anil, isC, Int.reduceEq, Int.reduceLT, Int.reduceLE, Int.reduceAdd, Int.reduceToNat, Int.reduceNeg, Nat.reduceMul, Nat.reduceSub, abuild, afill, Int.reduceBNe, Int.reduceBEq, asz27, Try.underlying27]
        have gt5 := hO7t.get (b := c5) (o := .cells [.pointer (some ⟨p, 0, none⟩)] 26 true) (by simp)
        refine ADraw.of [(0, true, []), (1, false, []), (2, false, []), (3, false, []), (4, false, []), (5, false, [0]), (6, false, []), (7, false, [])] [0] [(0, 5)] (by kernel_rfl) ?_
        simp (config := { implicitDefEqProofs := false }) only [↓GP, GQ, ↓awp_seq, ↓awp_block, C_ex, Nat.reduceBEq, acap, afieldAddr, aload, astore, abin, anum, astr, aun, isAggD, cond_true, cond_false, ↓reduceIte, C_P, C_G, isTuple, Value.cells, setL, ares, aresL, ares1, reduceCtorEq, Nat.reduceEqDiff, eq_self, Nat.reduceAdd, if_true, if_false, one, Nat.reduceLeDiff, undef, gsl, aextract, aindexAddr, amake, implies_true, forall_const, alen, abuiltin, anil, isC, Int.reduceEq, Int.reduceLT, Int.reduceLE, Int.reduceAdd, Int.reduceToNat, Int.reduceNeg, Nat.reduceMul, Nat.reduceSub, abuild, afill, Int.reduceBNe, Int.reduceBEq, gt5, asz26, Try.underlying26]
        refine ACallF.enter Try.func50 rfl (by kernel_rfl) (head_spec s7 _ bv l g num (hb.sub fun e he => by simp [he]) (by omega) hg hnum hO7t _ _ fun v4 h4 s4 hG4 hO4 => ?_)
        have hO4a : Own s4 (h7 ++ (h4 ++ ((c12, Ob.cells [.int .i64 (a + needN l.length : Nat)] 3 true) :: (c10, Ob.cells [.int .i64 0] 27 true) :: (c5, Ob.cells [.pointer (some ⟨p, 0, none⟩)] 26 true) :: (N, Ob.cells [.int .i64 64] 3 true) :: (X, Ob.cells [v3] 23 true) :: (h3 ++ r)))) := hO4.perm (by simpa using perm_of [h4, [(c12, Ob.cells [.int .i64 (a + needN l.length : Nat)] 3 true)], [(c10, Ob.cells [.int .i64 0] 27 true)], [(c5, Ob.cells [.pointer (some ⟨p, 0, none⟩)] 26 true)], [(N, Ob.cells [.int .i64 64] 3 true)], [(X, Ob.cells [v3] 23 true)], h3, h7, r] [0, 1, 2, 3, 4, 5, 6, 7, 8] [7, 0, 1, 2, 3, 4, 5, 6, 8] rfl)
        have gt4 := hO4a.get (b := c5) (o := .cells [.pointer (some ⟨p, 0, none⟩)] 26 true) (by simp)
        simp (config := { implicitDefEqProofs := false }) only [↓GP, GQ, ↓awp_seq, ↓awp_block, C_ex, Nat.reduceBEq, acap, afieldAddr, aload, astore, abin, anum, astr, aun, isAggD, cond_true, cond_false, ↓reduceIte, C_P, C_G, isTuple, Value.cells, setL, ares, aresL, ares1, reduceCtorEq, Nat.reduceEqDiff, eq_self, Nat.reduceAdd, if_true, if_false, one, Nat.reduceLeDiff, undef, gsl, aextract, aindexAddr, amake, implies_true, forall_const, alen, abuiltin, anil, isC, Int.reduceEq, Int.reduceLT, Int.reduceLE, Int.reduceAdd, Int.reduceToNat, Int.reduceNeg, Nat.reduceMul, Nat.reduceSub, abuild, afill, Int.reduceBNe, Int.reduceBEq, gt4, asz26, Try.underlying26]
        refine WriteN s4 _ h7 p S1 _ fz7 (a : Nat) v4 (headL g num l) hD7 hO4a (hG4.c.nb rfl (headL_lt _ _ _)) hsp7.1.2 (by decide) _ _ (fun hh => absurd ⟨by omega, by omega, headL_length _ _ _⟩ hh) (fun _ _ _ hz => ?_) (fun h9 s9 _ _ _ hz hD9 hO9 => ?_)
        · subst hz
          have hO4b : Own s4 ((c10, Ob.cells [.int .i64 0] 27 true) :: (h7 ++ (h4 ++ ((c12, Ob.cells [.int .i64 (a + needN l.length : Nat)] 3 true) :: (c5, Ob.cells [.pointer (some ⟨p, 0, none⟩)] 26 true) :: (N, Ob.cells [.int .i64 64] 3 true) :: (X, Ob.cells [v3] 23 true) :: (h3 ++ r))))) := hO4a.perm (by simpa using perm_of [h7, h4, [(c12, Ob.cells [.int .i64 (a + needN l.length : Nat)] 3 true)], [(c10, Ob.cells [.int .i64 0] 27 true)], [(c5, Ob.cells [.pointer (some ⟨p, 0, none⟩)] 26 true)], [(N, Ob.cells [.int .i64 64] 3 true)], [(X, Ob.cells [v3] 23 true)], h3, r] [0, 1, 2, 3, 4, 5, 6, 7, 8] [3, 0, 1, 2, 4, 5, 6, 7, 8] rfl)
          have g10 := hO4b.head
          have hO4c := hO4b.set rfl (.cells [.int .i64 50] 27 true) rfl
          simp (config := { implicitDefEqProofs := false }) only [↓GP, GQ, ↓awp_seq, ↓awp_block, C_ex, Nat.reduceBEq, acap, afieldAddr, aload, astore, abin, anum, astr, aun, isAggD, cond_true, cond_false, ↓reduceIte, C_P, C_G, isTuple, Value.cells, setL, ares, aresL, ares1, reduceCtorEq, Nat.reduceEqDiff, eq_self, Nat.reduceAdd, if_true, if_false, one, Nat.reduceLeDiff, undef, gsl, aextract, aindexAddr, amake, implies_true, forall_const, alen, abuiltin, anil, isC, Int.reduceEq, Int.reduceLT, Int.reduceLE, Int.reduceAdd, Int.reduceToNat, Int.reduceNeg, Nat.reduceMul, Nat.reduceSub, abuild, afill, Int.reduceBNe, Int.reduceBEq, g10, asz27, Try.underlying27]
          refine hpow S1 [] h7 _ (fun e => by have := hsp7.2.1 e; omega) (.inr ⟨hS1, .inl rfl⟩) hD7 ?_
          refine hO4c.tail.sub (List.Sublist.append_left ?_ _)
          exact (((List.sublist_append_right h3 r).cons _).cons _ |>.cons _ |>.cons _).trans (List.sublist_append_right _ _)
        · rw [Int.toNat_natCast, List.nil_append] at hD9
          have gt9 := hO9.get (b := c5) (o := .cells [.pointer (some ⟨p, 0, none⟩)] 26 true) (by simp)
          simp (config := { implicitDefEqProofs := false }) only [↓GP, GQ, ↓awp_seq, ↓awp_block, C_ex, Nat.reduceBEq, acap, afieldAddr, aload, astore, abin, anum, astr, aun, isAggD, cond_true, cond_false, ↓reduceIte, C_P, C_G, isTuple, Value.cells, setL, ares, aresL, ares1, reduceCtorEq, Nat.reduceEqDiff, eq_self, Nat.reduceAdd, if_true, if_false, one, Nat.reduceLeDiff, undef, gsl, aextract, aindexAddr, amake, implies_true, forall_const, alen, abuiltin, anil, isC, Int.reduceEq, Int.reduceLT, Int.reduceLE, Int.reduceAdd, Int.reduceToNat, Int.reduceNeg, Nat.reduceMul, Nat.reduceSub, abuild, afill, Int.reduceBNe, Int.reduceBEq, gt9, asz26, asz27, Try.underlying26, Try.underlying27]
          have hO9b : Own s9 ((c10, Ob.cells [.int .i64 0] 27 true) :: (h9 ++ (h4 ++ ((c12, Ob.cells [.int .i64 (a + needN l.length : Nat)] 3 true) :: (c5, Ob.cells [.pointer (some ⟨p, 0, none⟩)] 26 true) :: (N, Ob.cells [.int .i64 64] 3 true) :: (X, Ob.cells [v3] 23 true) :: (h3 ++ r))))) := hO9.perm (by simpa using perm_of [h9, h4, [(c12, Ob.cells [.int .i64 (a + needN l.length : Nat)] 3 true)], [(c10, Ob.cells [.int .i64 0] 27 true)], [(c5, Ob.cells [.pointer (some ⟨p, 0, none⟩)] 26 true)], [(N, Ob.cells [.int .i64 64] 3 true)], [(X, Ob.cells [v3] 23 true)], h3, r] [0, 1, 2, 3, 4, 5, 6, 7, 8] [3, 0, 1, 2, 4, 5, 6, 7, 8] rfl)
          have hsp9 := hsp7.dec hz
          refine SyncN s9 _ h9 p S1 _ _ hD9 hO9 hsp9.1.2 (by simp) _ _ (fun hz2 => ?_) (fun ha sa hz2 hDa hOa => ?_)
          · have g10 := hO9b.head
            have hO9c := hO9b.set rfl (.cells [.int .i64 50] 27 true) rfl
            simp (config := { implicitDefEqProofs := false }) only [↓GP, GQ, ↓awp_seq, ↓awp_block, C_ex, Nat.reduceBEq, acap, afieldAddr, aload, astore, abin, anum, astr, aun, isAggD, cond_true, cond_false, ↓reduceIte, C_P, C_G, isTuple, Value.cells, setL, ares, aresL, ares1, reduceCtorEq, Nat.reduceEqDiff, eq_self, Nat.reduceAdd, if_true, if_false, one, Nat.reduceLeDiff, undef, gsl, aextract, aindexAddr, amake, implies_true, forall_const, alen, abuiltin, anil, isC, Int.reduceEq, Int.reduceLT, Int.reduceLE, Int.reduceAdd, Int.reduceToNat, Int.reduceNeg, Nat.reduceMul, Nat.reduceSub, abuild, afill, Int.reduceBNe, Int.reduceBEq, g10, asz27, Try.underlying27]
            rw [hz2] at hD9
            refine hpow S1 _ h9 _ (fun e => by have := hsp9.2.1 e; omega) (.inr ⟨hS1, .inr rfl⟩) hD9 ?_
            refine hO9c.tail.sub (List.Sublist.append_left ?_ _)
            exact (((List.sublist_append_right h3 r).cons _).cons _ |>.cons _ |>.cons _).trans (List.sublist_append_right _ _)
          · have hOab : Own sa ((c10, Ob.cells [.int .i64 0] 27 true) :: (ha ++ (h4 ++ ((c12, Ob.cells [.int .i64 (a + needN l.length : Nat)] 3 true) :: (c5, Ob.cells [.pointer (some ⟨p, 0, none⟩)] 26 true) :: (N, Ob.cells [.int .i64 64] 3 true) :: (X, Ob.cells [v3] 23 true) :: (h3 ++ r))))) := hOa.perm (by simpa using perm_of [ha, h4, [(c12, Ob.cells [.int .i64 (a + needN l.length : Nat)] 3 true)], [(c10, Ob.cells [.int .i64 0] 27 true)], [(c5, Ob.cells [.pointer (some ⟨p, 0, none⟩)] 26 true)], [(N, Ob.cells [.int .i64 64] 3 true)], [(X, Ob.cells [v3] 23 true)], h3, r] [0, 1, 2, 3, 4, 5, 6, 7, 8] [3, 0, 1, 2, 4, 5, 6, 7, 8] rfl)
            have g10 := hOab.head
            have hOac := hOab.set rfl (.cells [.int .i64 0] 27 true) rfl
            simp (config := { implicitDefEqProofs := false }) only [↓GP, GQ, ↓awp_seq, ↓awp_block, C_ex, Nat.reduceBEq, acap, afieldAddr, aload, astore, abin, anum, astr, aun, isAggD, cond_true, cond_false, ↓reduceIte, C_P, C_G, isTuple, Value.cells, setL, ares, aresL, ares1, reduceCtorEq, Nat.reduceEqDiff, eq_self, Nat.reduceAdd, if_true, if_false, one, Nat.reduceLeDiff, undef, gsl, aextract, aindexAddr, amake, implies_true, forall_const, alen, abuiltin, anil, isC, Int.reduceEq, Int.reduceLT, Int.reduceLE, Int.reduceAdd, Int.reduceToNat, Int.reduceNeg, Nat.reduceMul, Nat.reduceSub, abuild, afill, Int.reduceBNe, Int.reduceBEq, g10, asz27, Try.underlying27]
            rw [hS1] at hDa
            refine hok _ ha _ (hsp9.dec hz2) hDa ?_
            refine hOac.tail.sub (List.Sublist.append_left ?_ _)
            exact (((List.sublist_append_right h3 r).cons _).cons _ |>.cons _ |>.cons _).trans (List.sublist_append_right _ _)
    · have hm0 : needN l.length = 0 := by omega
      have hD0 : DN p S1 [] fz' hd := by
        rw [hS1]
        rw [hm0] at hDi ⊢
        exact hDi
      have gt5 := hs.get (b := c5) (o := .cells [.pointer (some ⟨p, 0, none⟩)] 26 true) (by simp)
      refine ADraw.of [(0, true, []), (1, false, []), (2, false, []), (3, false, []), (4, false, []), (5, false, [0]), (6, false, []), (7, false, [])] [0] [(0, 5)] (by kernel_rfl) ?_
      simp (config := { implicitDefEqProofs := false }) only [↓GP, GQ, ↓awp_seq, ↓awp_block, C_ex, Nat.reduceBEq, acap, afieldAddr, aload, astore, abin, anum, astr, aun, isAggD, cond_true, cond_false, ↓reduceIte, C_P, C_G, isTuple, Value.cells, setL, ares, aresL, ares1, reduceCtorEq, Nat.reduceEqDiff, eq_self, Nat.reduceAdd, if_true, if_false, one, Nat.reduceLeDiff, undef, gsl, aextract, aindexAddr, amake, implies_true, forall_const, alen, abuiltin, anil, isC, Int.reduceEq, Int.reduceLT, Int.reduceLE, Int.reduceAdd, Int.reduceToNat, Int.reduceNeg, Nat.reduceMul, Nat.reduceSub, abuild, afill, Int.reduceBNe, Int.reduceBEq, gt5, asz26, Try.underlying26]
      refine ACallF.enter Try.func50 rfl (by kernel_rfl) (head_spec s _ bv l g num (hb.sub fun e he => by simp [he]) (by omega) hg hnum hs _ _ fun v4 h4 s4 hG4 hO4 => ?_)
      have hO4a : Own s4 (hd ++ (h4 ++ ((c12, Ob.cells [.int .i64 (a + needN l.length : Nat)] 3 true) :: (c10, Ob.cells [.int .i64 0] 27 true) :: (c5, Ob.cells [.pointer (some ⟨p, 0, none⟩)] 26 true) :: (N, Ob.cells [.int .i64 64] 3 true) :: (X, Ob.cells [v3] 23 true) :: (h3 ++ r)))) := hO4.perm (by simpa using perm_of [h4, [(c12, Ob.cells [.int .i64 (a + needN l.length : Nat)] 3 true)], [(c10, Ob.cells [.int .i64 0] 27 true)], [(c5, Ob.cells [.pointer (some ⟨p, 0, none⟩)] 26 true)], [(N, Ob.cells [.int .i64 64] 3 true)], [(X, Ob.cells [v3] 23 true)], h3, hd, r] [0, 1, 2, 3, 4, 5, 6, 7, 8] [7, 0, 1, 2, 3, 4, 5, 6, 8] rfl)
      have gt4 := hO4a.get (b := c5) (o := .cells [.pointer (some ⟨p, 0, none⟩)] 26 true) (by simp)
      simp (config := { implicitDefEqProofs := false }) only [↓GP, GQ, ↓awp_seq, ↓awp_block, C_ex, Nat.reduceBEq, acap, afieldAddr, aload, astore, abin, anum, astr, aun, isAggD, cond_true, cond_false, ↓reduceIte, C_P, C_G, isTuple, Value.cells, setL, ares, aresL, ares1, reduceCtorEq, Nat.reduceEqDiff, eq_self, Nat.reduceAdd, if_true, if_false, one, Nat.reduceLeDiff, undef, gsl, aextract, aindexAddr, amake, implies_true, forall_const, alen, abuiltin, anil, isC, Int.reduceEq, Int.reduceLT, Int.reduceLE, Int.reduceAdd, Int.reduceToNat, Int.reduceNeg, Nat.reduceMul, Nat.reduceSub, abuild, afill, Int.reduceBNe, Int.reduceBEq, gt4, asz26, Try.underlying26]
      refine WriteN s4 _ hd p S1 _ fz' (a : Nat) v4 (headL g num l) hD0 hO4a (hG4.c.nb rfl (headL_lt _ _ _)) hsp.1.2 (by decide) _ _ (fun hh => absurd ⟨by omega, by omega, headL_length _ _ _⟩ hh) (fun _ _ _ hz => ?_) (fun h9 s9 _ _ _ hz hD9 hO9 => ?_)
      · subst hz
        have hO4b : Own s4 ((c10, Ob.cells [.int .i64 0] 27 true) :: (hd ++ (h4 ++ ((c12, Ob.cells [.int .i64 (a + needN l.length : Nat)] 3 true) :: (c5, Ob.cells [.pointer (some ⟨p, 0, none⟩)] 26 true) :: (N, Ob.cells [.int .i64 64] 3 true) :: (X, Ob.cells [v3] 23 true) :: (h3 ++ r))))) := hO4a.perm (by simpa using perm_of [hd, h4, [(c12, Ob.cells [.int .i64 (a + needN l.length : Nat)] 3 true)], [(c10, Ob.cells [.int .i64 0] 27 true)], [(c5, Ob.cells [.pointer (some ⟨p, 0, none⟩)] 26 true)], [(N, Ob.cells [.int .i64 64] 3 true)], [(X, Ob.cells [v3] 23 true)], h3, r] [0, 1, 2, 3, 4, 5, 6, 7, 8] [3, 0, 1, 2, 4, 5, 6, 7, 8] rfl)
        have g10 := hO4b.head
        have hO4c := hO4b.set rfl (.cells [.int .i64 50] 27 true) rfl
        simp (config := { implicitDefEqProofs := false }) only [↓GP, GQ, ↓awp_seq, ↓awp_block, C_ex, Nat.reduceBEq, acap, afieldAddr, aload, astore, abin, anum, astr, aun, isAggD, cond_true, cond_false, ↓reduceIte, C_P, C_G, isTuple, Value.cells, setL, ares, aresL, ares1, reduceCtorEq, Nat.reduceEqDiff, eq_self, Nat.reduceAdd, if_true, if_false, one, Nat.reduceLeDiff, undef, gsl, aextract, aindexAddr, amake, implies_true, forall_const, alen, abuiltin, anil, isC, Int.reduceEq, Int.reduceLT, Int.reduceLE, Int.reduceAdd, Int.reduceToNat, Int.reduceNeg, Nat.reduceMul, Nat.reduceSub, abuild, afill, Int.reduceBNe, Int.reduceBEq, g10, asz27, Try.underlying27]
        refine hpow S1 [] hd _ (fun e => by have := hsp.2.1 e; omega) (.inr ⟨hS1, .inl rfl⟩) hD0 ?_
        refine hO4c.tail.sub (List.Sublist.append_left ?_ _)
        exact (((List.sublist_append_right h3 r).cons _).cons _ |>.cons _ |>.cons _).trans (List.sublist_append_right _ _)
      · rw [Int.toNat_natCast, List.nil_append] at hD9
        have gt9 := hO9.get (b := c5) (o := .cells [.pointer (some ⟨p, 0, none⟩)] 26 true) (by simp)
        simp (config := { implicitDefEqProofs := false }) only [↓GP, GQ, ↓awp_seq, ↓awp_block, C_ex, Nat.reduceBEq, acap, afieldAddr, aload, astore, abin, anum, astr, aun, isAggD, cond_true, cond_false, ↓reduceIte, C_P, C_G, isTuple, Value.cells, setL, ares, aresL, ares1, reduceCtorEq, Nat.reduceEqDiff, eq_self, Nat.reduceAdd, if_true, if_false, one, Nat.reduceLeDiff, undef, gsl, aextract, aindexAddr, amake, implies_true, forall_const, alen, abuiltin, anil, isC, Int.reduceEq, Int.reduceLT, Int.reduceLE, Int.reduceAdd, Int.reduceToNat, Int.reduceNeg, Nat.reduceMul, Nat.reduceSub, abuild, afill, Int.reduceBNe, Int.reduceBEq, gt9, asz26, asz27, Try.underlying26, Try.underlying27]
        have hO9b : Own s9 ((c10, Ob.cells [.int .i64 0] 27 true) :: (h9 ++ (h4 ++ ((c12, Ob.cells [.int .i64 (a + needN l.length : Nat)] 3 true) :: (c5, Ob.cells [.pointer (some ⟨p, 0, none⟩)] 26 true) :: (N, Ob.cells [.int .i64 64] 3 true) :: (X, Ob.cells [v3] 23 true) :: (h3 ++ r))))) := hO9.perm (by simpa using perm_of [h9, h4, [(c12, Ob.cells [.int .i64 (a + needN l.length : Nat)] 3 true)], [(c10, Ob.cells [.int .i64 0] 27 true)], [(c5, Ob.cells [.pointer (some ⟨p, 0, none⟩)] 26 true)], [(N, Ob.cells [.int .i64 64] 3 true)], [(X, Ob.cells [v3] 23 true)], h3, r] [0, 1, 2, 3, 4, 5, 6, 7, 8] [3, 0, 1, 2, 4, 5, 6, 7, 8] rfl)
        have hsp9 := hsp.dec hz
        refine SyncN s9 _ h9 p S1 _ _ hD9 hO9 hsp9.1.2 (by simp) _ _ (fun hz2 => ?_) (fun ha sa hz2 hDa hOa => ?_)
        · have g10 := hO9b.head
          have hO9c := hO9b.set rfl (.cells [.int .i64 50] 27 true) rfl
          simp (config := { implicitDefEqProofs := false }) only [↓GP, GQ, ↓awp_seq, ↓awp_block, C_ex, Nat.reduceBEq, acap, afieldAddr, aload, astore, abin, anum, astr, aun, isAggD, cond_true, cond_false, ↓reduceIte, C_P, C_G, isTuple, Value.cells, setL, ares, aresL, ares1, reduceCtorEq, Nat.reduceEqDiff, eq_self, Nat.reduceAdd, if_true, if_false, one, Nat.reduceLeDiff, undef, gsl, aextract, aindexAddr, amake, implies_true, forall_const, alen, abuiltin, anil, isC, Int.reduceEq, Int.reduceLT, Int.reduceLE, Int.reduceAdd, Int.reduceToNat, Int.reduceNeg, Nat.reduceMul, Nat.reduceSub, abuild, afill, Int.reduceBNe, Int.reduceBEq, g10, asz27, Try.underlying27]
          rw [hz2] at hD9
          refine hpow S1 _ h9 _ (fun e => by have := hsp9.2.1 e; omega) (.inr ⟨hS1, .inr rfl⟩) hD9 ?_
          refine hO9c.tail.sub (List.Sublist.append_left ?_ _)
          exact (((List.sublist_append_right h3 r).cons _).cons _ |>.cons _ |>.cons _).trans (List.sublist_append_right _ _)
        · have hOab : Own sa ((c10, Ob.cells [.int .i64 0] 27 true) :: (ha ++ (h4 ++ ((c12, Ob.cells [.int .i64 (a + needN l.length : Nat)] 3 true) :: (c5, Ob.cells [.pointer (some ⟨p, 0, none⟩)] 26 true) :: (N, Ob.cells [.int .i64 64] 3 true) :: (X, Ob.cells [v3] 23 true) :: (h3 ++ r))))) := hOa.perm (by simpa using perm_of [ha, h4, [(c12, Ob.cells [.int .i64 (a + needN l.length : Nat)] 3 true)], [(c10, Ob.cells [.int .i64 0] 27 true)], [(c5, Ob.cells [.pointer (some ⟨p, 0, none⟩)] 26 true)], [(N, Ob.cells [.int .i64 64] 3 true)], [(X, Ob.cells [v3] 23 true)], h3, r] [0, 1, 2, 3, 4, 5, 6, 7, 8] [3, 0, 1, 2, 4, 5, 6, 7, 8] rfl)
          have g10 := hOab.head
          have hOac := hOab.set rfl (.cells [.int .i64 0] 27 true) rfl
          simp (config := { implicitDefEqProofs := false }) only [↓GP, GQ, ↓awp_seq, ↓awp_block, C_ex, Nat.reduceBEq, acap, afieldAddr, aload, astore, abin, anum, astr, aun, isAggD, cond_true, cond_false, ↓reduceIte, C_P, C_G, isTuple, Value.cells, setL, ares, aresL, ares1, reduceCtorEq, Nat.reduceEqDiff, eq_self, Nat.reduceAdd, if_true, if_false, one, Nat.reduceLeDiff, undef, gsl, aextract, aindexAddr, amake, implies_true, forall_const, alen, abuiltin, anil, isC, Int.reduceEq, Int.reduceLT, Int.reduceLE, Int.reduceAdd, Int.reduceToNat, Int.reduceNeg, Nat.reduceMul, Nat.reduceSub, abuild, afill, Int.reduceBNe, Int.reduceBEq, g10, asz27, Try.underlying27]
          rw [hS1] at hDa
          refine hok _ ha _ (hsp9.dec hz2) hDa ?_
          refine hOac.tail.sub (List.Sublist.append_left ?_ _)
          exact (((List.sublist_append_right h3 r).cons _).cons _ |>.cons _ |>.cons _).trans (List.sublist_append_right _ _)
  · obtain ⟨hd, j, c, rfl, hj, hne, hDj⟩ := hF
    have g10 := hs.get (b := c10) (o := .cells [.int .i64 50] 27 true) (by simp)
    simp (config := { implicitDefEqProofs := false }) only [↓GP, GQ, ↓awp_seq, ↓awp_block, C_ex, Nat.reduceBEq, acap, afieldAddr, aload, astore, abin, anum, astr, aun, isAggD, cond_true, cond_false, ↓reduceIte, C_P, C_G, isTuple, Value.cells, setL, ares, aresL, ares1, reduceCtorEq, Nat.reduceEqDiff, eq_self, Nat.reduceAdd, if_true, if_false, one, Nat.reduceLeDiff, undef, gsl, aextract, aindexAddr, amake, implies_true, forall_const, alen, abuiltin, anil, isC, Int.reduceEq, Int.reduceLT, Int.reduceLE, Int.reduceAdd, Int.reduceToNat, Int.reduceNeg, Nat.reduceMul, Nat.reduceSub, abuild, afill, Int.reduceBNe, Int.reduceBEq, g10, asz27, Try.underlying27]
    refine hpow S _ hd s hne (.inl ⟨rfl, j, hj, rfl⟩) hDj (hs.sub ?_)
    refine List.Sublist.cons _ (List.Sublist.cons _ (List.Sublist.cons _ (List.Sublist.cons _ (List.Sublist.cons _ ?_))))
    exact List.sublist_append_right _ _
end Go.Proofs.Ytiooigkcliomlaa
