/- Which half is valid. No conditions. -/
import Derived.Test.YtiooigkcliomlaaJ14
set_option linter.unusedVariables false
set_option linter.unusedSimpArgs false
namespace Go.Proofs.Ytiooigkcliomlaa
open Go Go.Abs Go.RowKit
variable {base : Nat} {w0 : World} {G : Nat}

def scanM (l : List (List Nat)) : Int × Nat × List (List Nat) :=
  if l.length < 4 ∨ (l.any fun s => decide (s.length ≠ 64)) = true then (0, 0, [])
  else if (halfM (l.take (l.length / 2))).1 = 0 ∧ (halfM ((l.drop (l.length / 2)).take (l.length / 2))).1 = 0 then (-1, 0, [])
  else if (halfM (l.take (l.length / 2))).1 ≥ (halfM ((l.drop (l.length / 2)).take (l.length / 2))).1 then (0, (halfM (l.take (l.length / 2))).1, (halfM (l.take (l.length / 2))).2.1)
  else (1, (halfM ((l.drop (l.length / 2)).take (l.length / 2))).1, (halfM ((l.drop (l.length / 2)).take (l.length / 2))).2.1)
theorem Recs.sub {h h' : Hp} {v : Value} {l : List (List Nat)} (hb : Recs h v l) (hs : ∀ e ∈ h, e ∈ h') : Recs h' v l := by
  obtain ⟨qs, h1, h2, h3⟩ := hb
  exact ⟨qs, h1, h2.sub hs, h3.sub hs⟩
theorem Recs.nil {h : Hp} : Recs h (.slice none 0 0) [] := ⟨[], rfl, ⟨.inl ⟨rfl, .inl rfl⟩, by simp⟩, .inl rfl⟩
set_option maxRecDepth 10000 in
theorem not64_spec (st : St) (a : Option Addr) (n c : Nat) (k q : Value → St → Prop) (hk : k (.bool (decide (n ≠ 64))) st) : ACall (C base w0 G) 41 [.slice a n c] st k q := by
  refine ACall.of (cx := C base w0 G) mixed Try.func41 rfl (by kernel_rfl) (by simp [Try.ntmps41]) ?_
  simp only [Try.results41]
  by_cases h : n = 64
  · subst h
    simp (config := { implicitDefEqProofs := false }) only [↓GP, GQ, ↓awp_seq, ↓awp_block, C_ex, Nat.reduceBEq, acap, afieldAddr, aload, astore, abin, anum, astr, aun, isAggD, cond_true, cond_false, ↓reduceIte, C_P, C_G, isTuple, Value.cells, setL, ares, aresL, ares1, reduceCtorEq, Nat.reduceEqDiff, eq_self, Nat.reduceAdd, if_true, if_false, one, Nat.reduceLeDiff, undef, gsl, aextract, aindexAddr, amake, implies_true, forall_const, alen, abuiltin, anil, isC, Int.reduceEq, Int.reduceLT, Int.reduceLE, Int.reduceAdd, Int.reduceToNat, Int.reduceNeg, Nat.reduceMul, Nat.reduceSub, abuild, afill, Int.reduceBNe, Int.reduceBEq, Try.underlying23, Try.underlying3]
    exact hk
  · simp (config := { implicitDefEqProofs := false }) only [↓GP, GQ, ↓awp_seq, ↓awp_block, C_ex, Nat.reduceBEq, acap, afieldAddr, aload, astore, abin, anum, astr, aun, isAggD, cond_true, cond_false, ↓reduceIte, C_P, C_G, isTuple, Value.cells, setL, ares, aresL, ares1, reduceCtorEq, Nat.reduceEqDiff, eq_self, Nat.reduceAdd, if_true, if_false, one, Nat.reduceLeDiff, undef, gsl, aextract, aindexAddr, amake, implies_true, forall_const, alen, abuiltin, anil, isC, Int.reduceEq, Int.reduceLT, Int.reduceLE, Int.reduceAdd, Int.reduceToNat, Int.reduceNeg, Nat.reduceMul, Nat.reduceSub, abuild, afill, Int.reduceBNe, Int.reduceBEq, Try.underlying23, Try.underlying3, bneT (show ¬ (n : Int) = 64 by omega)]
    rw [decide_eq_true h] at hk
    exact hk
set_option maxRecDepth 10000 in
theorem index_spec (st : St) (r : Hp) (v : Value) (ps : List (Value × List Nat)) (hP : Ps r v ps) (hl : ps.length ≤ 100000) (hO : Own st r) (k q : Value → St → Prop)
    (hk : ∀ i : Int, (0 ≤ i ↔ (ps.any fun s => decide (s.2.length ≠ 64)) = true) → k (.int .i64 i) st) : ACall (C base w0 G) 52 [v, .func (.func 41) #[] #[]] st k q := by
  obtain ⟨a, c, hvs⟩ : ∃ a c, v = .slice a ps.length c := by
    obtain ⟨a, c, h, _⟩ := hP.1.isSlice
    rw [List.length_map] at h
    exact ⟨a, c, h⟩
  refine ACall.of (cx := C base w0 G) mixed Try.func52 rfl (by kernel_rfl) (by simp [Try.ntmps52]) ?_
  simp only [Try.results52]
  simp (config := { implicitDefEqProofs := false }) only [↓GP, GQ, ↓awp_seq, ↓awp_block, C_ex, Nat.reduceBEq, acap, afieldAddr, aload, astore, abin, anum, astr, aun, isAggD, cond_true, cond_false, ↓reduceIte, C_P, C_G, isTuple, Value.cells, setL, ares, aresL, ares1, reduceCtorEq, Nat.reduceEqDiff, eq_self, Nat.reduceAdd, if_true, if_false, one, Nat.reduceLeDiff, undef, gsl, aextract, aindexAddr, amake, implies_true, forall_const, alen, abuiltin, anil, isC, Int.reduceEq, Int.reduceLT, Int.reduceLE, Int.reduceAdd, Int.reduceToNat, Int.reduceNeg, Nat.reduceMul, Nat.reduceSub, abuild, afill, Int.reduceBNe, Int.reduceBEq, hvs, Try.underlying22, Try.underlying3]
  refine ⟨fun m ρ s => ∃ i : Nat, m = ps.length - i ∧ i ≤ ps.length ∧ ρ 0 = v ∧ ρ 1 = .func (.func 41) #[] #[] ∧ ρ 7 = .int .i64 ps.length ∧ ρ 8 = .int .i64 i ∧ (∀ p ∈ ps.take i, p.2.length = 64) ∧ s = st, ⟨ps.length, 0, rfl, Nat.zero_le _, hvs.symm, rfl, rfl, rfl, by simp, rfl⟩, ?_⟩
  rintro m ρ s ⟨i, rfl, hi, h0, h1, h7, h8, hall, rfl⟩
  by_cases him : i < ps.length
  · obtain ⟨B, o, sp, c', cs, ty, own, hvx, hmem, hget⟩ := hP.at hO (by intro e; rw [e] at him; simp at him)
    have hp : ps[i]? = some ps[i] := List.getElem?_eq_getElem him
    generalize ps[i] = p at hp
    have hg := hget i p hp
    have hB := hO.get hmem
    obtain ⟨pa, pc', hps⟩ := (hP.2 p (List.mem_of_getElem? hp)).isSlice
    simp (config := { implicitDefEqProofs := false }) only [↓GP, GQ, ↓awp_seq, ↓awp_block, C_ex, Nat.reduceBEq, acap, afieldAddr, aload, astore, abin, anum, astr, aun, isAggD, cond_true, cond_false, ↓reduceIte, C_P, C_G, isTuple, Value.cells, setL, ares, aresL, ares1, reduceCtorEq, Nat.reduceEqDiff, eq_self, Nat.reduceAdd, if_true, if_false, one, Nat.reduceLeDiff, undef, gsl, aextract, aindexAddr, amake, implies_true, forall_const, alen, abuiltin, anil, isC, Int.reduceEq, Int.reduceLT, Int.reduceLE, Int.reduceAdd, Int.reduceToNat, Int.reduceNeg, Nat.reduceMul, Nat.reduceSub, abuild, afill, Int.reduceBNe, Int.reduceBEq, h0, h1, h7, h8, him, Int.ofNat_lt, decide_true, hvx, Try.underlying22, Try.underlying23, asz23, hB, hg, hps]
    refine ⟨by omega, ACallF.enter Try.func41 rfl (by kernel_rfl) (not64_spec s pa _ pc' _ _ ?_)⟩
    by_cases h64 : p.2.length = 64
    · rw [decide_eq_false (by simpa using h64)]
      simp (config := { implicitDefEqProofs := false }) only [↓GP, GQ, ↓awp_seq, ↓awp_block, C_ex, Nat.reduceBEq, acap, afieldAddr, aload, astore, abin, anum, astr, aun, isAggD, cond_true, cond_false, ↓reduceIte, C_P, C_G, isTuple, Value.cells, setL, ares, aresL, ares1, reduceCtorEq, Nat.reduceEqDiff, eq_self, Nat.reduceAdd, if_true, if_false, one, Nat.reduceLeDiff, undef, gsl, aextract, aindexAddr, amake, implies_true, forall_const, alen, abuiltin, anil, isC, Int.reduceEq, Int.reduceLT, Int.reduceLE, Int.reduceAdd, Int.reduceToNat, Int.reduceNeg, Nat.reduceMul, Nat.reduceSub, abuild, afill, Int.reduceBNe, Int.reduceBEq, h0, h1, h7, h8]
      refine ⟨ps.length - (i + 1), by omega, i + 1, rfl, by omega, by rw [w_i64 (by omega)]; rfl, fun x hx => ?_⟩
      rw [List.take_add_one, hp] at hx
      rcases List.mem_append.1 hx with h | h
      · exact hall x h
      · simp at h; subst h; exact h64
    · rw [decide_eq_true h64]
      simp (config := { implicitDefEqProofs := false }) only [↓GP, GQ, ↓awp_seq, ↓awp_block, C_ex, Nat.reduceBEq, acap, afieldAddr, aload, astore, abin, anum, astr, aun, isAggD, cond_true, cond_false, ↓reduceIte, C_P, C_G, isTuple, Value.cells, setL, ares, aresL, ares1, reduceCtorEq, Nat.reduceEqDiff, eq_self, Nat.reduceAdd, if_true, if_false, one, Nat.reduceLeDiff, undef, gsl, aextract, aindexAddr, amake, implies_true, forall_const, alen, abuiltin, anil, isC, Int.reduceEq, Int.reduceLT, Int.reduceLE, Int.reduceAdd, Int.reduceToNat, Int.reduceNeg, Nat.reduceMul, Nat.reduceSub, abuild, afill, Int.reduceBNe, Int.reduceBEq, h0, h1, h7, h8]
      exact hk i ⟨fun _ => List.any_eq_true.2 ⟨p, List.mem_of_getElem? hp, by simpa using h64⟩, fun _ => by omega⟩
  · obtain rfl : i = ps.length := by omega
    rw [List.take_length] at hall
    simp (config := { implicitDefEqProofs := false }) only [↓GP, GQ, ↓awp_seq, ↓awp_block, C_ex, Nat.reduceBEq, acap, afieldAddr, aload, astore, abin, anum, astr, aun, isAggD, cond_true, cond_false, ↓reduceIte, C_P, C_G, isTuple, Value.cells, setL, ares, aresL, ares1, reduceCtorEq, Nat.reduceEqDiff, eq_self, Nat.reduceAdd, if_true, if_false, one, Nat.reduceLeDiff, undef, gsl, aextract, aindexAddr, amake, implies_true, forall_const, alen, abuiltin, anil, isC, Int.reduceEq, Int.reduceLT, Int.reduceLE, Int.reduceAdd, Int.reduceToNat, Int.reduceNeg, Nat.reduceMul, Nat.reduceSub, abuild, afill, Int.reduceBNe, Int.reduceBEq, h0, h1, h7, h8, Nat.lt_irrefl, Int.ofNat_lt, decide_false]
    refine hk (-1) ⟨fun h => absurd h (by decide), fun h => ?_⟩
    obtain ⟨p, hp, hx⟩ := List.any_eq_true.1 h
    exact absurd (hall p hp) (by simpa using hx)
set_option maxRecDepth 10000 in
theorem contains_spec (st : St) (r : Hp) (v : Value) (ps : List (Value × List Nat)) (hP : Ps r v ps) (hl : ps.length ≤ 100000) (hO : Own st r) (k q : Value → St → Prop)
    (hk : k (.bool (ps.any fun s => decide (s.2.length ≠ 64))) st) : ACall (C base w0 G) 40 [v, .func (.func 41) #[] #[]] st k q := by
  refine ACall.of (cx := C base w0 G) mixed Try.func40 rfl (by kernel_rfl) (by simp [Try.ntmps40]) ?_
  simp only [Try.results40]
  simp (config := { implicitDefEqProofs := false }) only [↓GP, GQ, ↓awp_seq, ↓awp_block, C_ex, Nat.reduceBEq, acap, afieldAddr, aload, astore, abin, anum, astr, aun, isAggD, cond_true, cond_false, ↓reduceIte, C_P, C_G, isTuple, Value.cells, setL, ares, aresL, ares1, reduceCtorEq, Nat.reduceEqDiff, eq_self, Nat.reduceAdd, if_true, if_false, one, Nat.reduceLeDiff, undef, gsl, aextract, aindexAddr, amake, implies_true, forall_const, alen, abuiltin, anil, isC, Int.reduceEq, Int.reduceLT, Int.reduceLE, Int.reduceAdd, Int.reduceToNat, Int.reduceNeg, Nat.reduceMul, Nat.reduceSub, abuild, afill, Int.reduceBNe, Int.reduceBEq, Try.underlying3]
  refine ACallF.enter Try.func52 rfl (by kernel_rfl) (index_spec st r v ps hP hl hO _ _ fun i hi => ?_)
  cases h : (ps.any fun s => decide (s.2.length ≠ 64)) with
  | true =>
    rw [h] at hi hk
    simp (config := { implicitDefEqProofs := false }) only [↓GP, GQ, ↓awp_seq, ↓awp_block, C_ex, Nat.reduceBEq, acap, afieldAddr, aload, astore, abin, anum, astr, aun, isAggD, cond_true, cond_false, ↓reduceIte, C_P, C_G, isTuple, Value.cells, setL, ares, aresL, ares1, reduceCtorEq, Nat.reduceEqDiff, eq_self, Nat.reduceAdd, if_true, if_false, one, Nat.reduceLeDiff, undef, gsl, aextract, aindexAddr, amake, implies_true, forall_const, alen, abuiltin, anil, isC, Int.reduceEq, Int.reduceLT, Int.reduceLE, Int.reduceAdd, Int.reduceToNat, Int.reduceNeg, Nat.reduceMul, Nat.reduceSub, abuild, afill, Int.reduceBNe, Int.reduceBEq, Try.underlying3, ge_iff_le, hi.2 rfl, decide_true]
    exact hk
  | false =>
    rw [h] at hi hk
    have : ¬ 0 ≤ i := fun e => by have := hi.1 e; cases this
    simp (config := { implicitDefEqProofs := false }) only [↓GP, GQ, ↓awp_seq, ↓awp_block, C_ex, Nat.reduceBEq, acap, afieldAddr, aload, astore, abin, anum, astr, aun, isAggD, cond_true, cond_false, ↓reduceIte, C_P, C_G, isTuple, Value.cells, setL, ares, aresL, ares1, reduceCtorEq, Nat.reduceEqDiff, eq_self, Nat.reduceAdd, if_true, if_false, one, Nat.reduceLeDiff, undef, gsl, aextract, aindexAddr, amake, implies_true, forall_const, alen, abuiltin, anil, isC, Int.reduceEq, Int.reduceLT, Int.reduceLE, Int.reduceAdd, Int.reduceToNat, Int.reduceNeg, Nat.reduceMul, Nat.reduceSub, abuild, afill, Int.reduceBNe, Int.reduceBEq, Try.underlying3, ge_iff_le, this, decide_false]
    exact hk
set_option maxRecDepth 10000 in
theorem Scan_spec (st : St) (r : Hp) (v : Value) (ps : List (Value × List Nat)) (hP : Ps r v ps) (hS : Sl Try.prog r v 1) (hE : ∀ p ∈ ps, Sl Try.prog r p.1 1) (hl : ps.length ≤ 1500) (hO : Own st r) (k q : Value → St → Prop)
    (hk : ∀ outv H st', Recs H outv (scanM (ps.map (·.2))).2.2 → Own st' (H ++ r) → k (.tuple #[.int .i64 (scanM (ps.map (·.2))).1, .int .i64 (scanM (ps.map (·.2))).2.1, outv]) st') :
    ACall (C base w0 G) 16 [v] st k q := by
  obtain ⟨a, c, hvs⟩ : ∃ a c, v = .slice a ps.length c := by
    obtain ⟨a, c, h, _⟩ := hP.1.isSlice
    rw [List.length_map] at h
    exact ⟨a, c, h⟩
  have hany : ((ps.map (·.2)).any fun s => decide (s.length ≠ 64)) = (ps.any fun s => decide (s.2.length ≠ 64)) := by rw [List.any_map]; rfl
  refine ACall.of (cx := C base w0 G) mixed Try.func16 rfl (by kernel_rfl) (by simp [Try.ntmps16]) ?_
  simp only [Try.results16]
  rw [scanM, List.length_map, hany] at hk
  by_cases h4 : ps.length < 4
  · rw [if_pos (.inl h4)] at hk
    simp (config := { implicitDefEqProofs := false }) only [↓GP, GQ, ↓awp_seq, ↓awp_block, C_ex, Nat.reduceBEq, acap, afieldAddr, aload, astore, abin, anum, astr, aun, isAggD, cond_true, cond_false, ↓reduceIte, C_P, C_G, isTuple, Value.cells, setL, ares, aresL, ares1, reduceCtorEq, Nat.reduceEqDiff, eq_self, Nat.reduceAdd, if_true, if_false, one, Nat.reduceLeDiff, undef, gsl, aextract, aindexAddr, amake, implies_true, forall_const, alen, abuiltin, anil, isC, Int.reduceEq, Int.reduceLT, Int.reduceLE, Int.reduceAdd, Int.reduceToNat, Int.reduceNeg, Nat.reduceMul, Nat.reduceSub, abuild, afill, Int.reduceBNe, Int.reduceBEq, hvs, Try.underlying22, Try.underlying3, show (ps.length : Int) < 4 by omega, decide_true]
    exact hk _ [] st Recs.nil hO
  simp (config := { implicitDefEqProofs := false }) only [↓GP, GQ, ↓awp_seq, ↓awp_block, C_ex, Nat.reduceBEq, acap, afieldAddr, aload, astore, abin, anum, astr, aun, isAggD, cond_true, cond_false, ↓reduceIte, C_P, C_G, isTuple, Value.cells, setL, ares, aresL, ares1, reduceCtorEq, Nat.reduceEqDiff, eq_self, Nat.reduceAdd, if_true, if_false, one, Nat.reduceLeDiff, undef, gsl, aextract, aindexAddr, amake, implies_true, forall_const, alen, abuiltin, anil, isC, Int.reduceEq, Int.reduceLT, Int.reduceLE, Int.reduceAdd, Int.reduceToNat, Int.reduceNeg, Nat.reduceMul, Nat.reduceSub, abuild, afill, Int.reduceBNe, Int.reduceBEq, hvs, Try.underlying22, Try.underlying3, show ¬ (ps.length : Int) < 4 by omega, decide_false]
  rw [← hvs]
  refine ACallF.enter Try.func40 rfl (by kernel_rfl) (contains_spec st r v ps hP (by omega) hO _ _ ?_)
  cases hc : (ps.any fun s => decide (s.2.length ≠ 64)) with
  | true =>
    rw [hc, if_pos (.inr rfl)] at hk
    simp (config := { implicitDefEqProofs := false }) only [↓GP, GQ, ↓awp_seq, ↓awp_block, C_ex, Nat.reduceBEq, acap, afieldAddr, aload, astore, abin, anum, astr, aun, isAggD, cond_true, cond_false, ↓reduceIte, C_P, C_G, isTuple, Value.cells, setL, ares, aresL, ares1, reduceCtorEq, Nat.reduceEqDiff, eq_self, Nat.reduceAdd, if_true, if_false, one, Nat.reduceLeDiff, undef, gsl, aextract, aindexAddr, amake, implies_true, forall_const, alen, abuiltin, anil, isC, Int.reduceEq, Int.reduceLT, Int.reduceLE, Int.reduceAdd, Int.reduceToNat, Int.reduceNeg, Nat.reduceMul, Nat.reduceSub, abuild, afill, Int.reduceBNe, Int.reduceBEq, hvs, Try.underlying22, Try.underlying3]
    exact hk _ [] st Recs.nil hO
  | false =>
  rw [hc, if_neg (by simpa using h4)] at hk
  have h64 : ∀ p ∈ ps, Sl Try.prog r p.1 1 ∧ p.2.length = 64 := fun p hp => ⟨hE p hp, by
    have := List.any_eq_false.1 hc p hp
    simpa using this⟩
  have wq : IntKind.i64.wrap ((ps.length : Int).tdiv 2) = ((ps.length / 2 : Nat) : Int) := by rw [Int.tdiv_eq_ediv_of_nonneg (by omega), w_i64 (by omega)]; omega
  generalize hn : ps.length / 2 = n at *
  obtain ⟨v1, hv1, hP1, hS1⟩ := hP.part (t := 22) (lo := none) (hi := some (.int .i64 n)) (l := 0) (r := n) hS hO Try.underlying22 asz23 (fun c hc => abounds_hi (by omega)) (by omega) (by omega)
  rw [List.drop_zero, Nat.sub_zero] at hP1
  simp (config := { implicitDefEqProofs := false }) only [↓GP, GQ, ↓awp_seq, ↓awp_block, C_ex, Nat.reduceBEq, acap, afieldAddr, aload, astore, abin, anum, astr, aun, isAggD, cond_true, cond_false, ↓reduceIte, C_P, C_G, isTuple, Value.cells, setL, ares, aresL, ares1, reduceCtorEq, Nat.reduceEqDiff, eq_self, Nat.reduceAdd, if_true, if_false, one, Nat.reduceLeDiff, undef, gsl, aextract, aindexAddr, amake, implies_true, forall_const, alen, abuiltin, anil, isC, Int.reduceEq, Int.reduceLT, Int.reduceLE, Int.reduceAdd, Int.reduceToNat, Int.reduceNeg, Nat.reduceMul, Nat.reduceSub, abuild, afill, Int.reduceBNe, Int.reduceBEq, hvs, Try.underlying22, Try.underlying3, wq]
  rw [← hvs, hv1]
  simp (config := { implicitDefEqProofs := false }) only [↓GP, GQ, ↓awp_seq, ↓awp_block, C_ex, Nat.reduceBEq, acap, afieldAddr, aload, astore, abin, anum, astr, aun, isAggD, cond_true, cond_false, ↓reduceIte, C_P, C_G, isTuple, Value.cells, setL, ares, aresL, ares1, reduceCtorEq, Nat.reduceEqDiff, eq_self, Nat.reduceAdd, if_true, if_false, one, Nat.reduceLeDiff, undef, gsl, aextract, aindexAddr, amake, implies_true, forall_const, alen, abuiltin, anil, isC, Int.reduceEq, Int.reduceLT, Int.reduceLE, Int.reduceAdd, Int.reduceToNat, Int.reduceNeg, Nat.reduceMul, Nat.reduceSub, abuild, afill, Int.reduceBNe, Int.reduceBEq]
  refine ACallF.enter Try.func36 rfl (by kernel_rfl) (half_spec st r v1 (ps.take n) ⟨hP1, hS1, fun p hp => h64 p (List.mem_of_mem_take hp)⟩ (by rw [List.length_take]; omega) hO _ _ fun ov1 H1 s1 hR1 hO1 => ?_)
  rw [List.map_take] at hR1 ⊢
  have hsub1 : ∀ e ∈ r, e ∈ H1 ++ r := fun e he => List.mem_append_right _ he
  obtain ⟨v2, hv2, hP2, hS2⟩ := (hP.sub hsub1).part (t := 22) (lo := some (.int .i64 n)) (hi := some (.int .i64 (n * 2 : Nat))) (l := n) (r := n * 2) (hS.sub hsub1) hO1 Try.underlying22 asz23 (fun c hc => abounds_lohi (by omega) (by omega)) (by omega) (by omega)
  have e2 : n * 2 - n = n := by omega
  rw [e2] at hP2
  have w2 : IntKind.i64.wrap (2 * (n : Int)) = ((n * 2 : Nat) : Int) := by rw [w_i64 (by omega)]; omega
  simp (config := { implicitDefEqProofs := false }) only [↓GP, GQ, ↓awp_seq, ↓awp_block, C_ex, Nat.reduceBEq, acap, afieldAddr, aload, astore, abin, anum, astr, aun, isAggD, cond_true, cond_false, ↓reduceIte, C_P, C_G, isTuple, Value.cells, setL, ares, aresL, ares1, reduceCtorEq, Nat.reduceEqDiff, eq_self, Nat.reduceAdd, if_true, if_false, one, Nat.reduceLeDiff, undef, gsl, aextract, aindexAddr, amake, implies_true, forall_const, alen, abuiltin, anil, isC, Int.reduceEq, Int.reduceLT, Int.reduceLE, Int.reduceAdd, Int.reduceToNat, Int.reduceNeg, Nat.reduceMul, Nat.reduceSub, abuild, afill, Int.reduceBNe, Int.reduceBEq, Try.underlying22, Try.underlying3, w2, hv2]
  refine ACallF.enter Try.func36 rfl (by kernel_rfl) (half_spec s1 (H1 ++ r) v2 ((ps.drop n).take n) ⟨hP2, hS2, fun p hp => ⟨(h64 p (List.mem_of_mem_drop (List.mem_of_mem_take hp))).1.sub hsub1, (h64 p (List.mem_of_mem_drop (List.mem_of_mem_take hp))).2⟩⟩ (by rw [List.length_take]; omega) hO1 _ _ fun ov2 H2 s2 hR2 hO2 => ?_)
  rw [List.map_take, List.map_drop] at hR2 ⊢
  generalize halfM ((ps.map (·.2)).take n) = A at *
  generalize halfM (((ps.map (·.2)).drop n).take n) = D at *
  have hO2' : Own s2 ((H2 ++ H1) ++ r) := by rw [List.append_assoc]; exact hO2
  by_cases hA : A.1 = 0
  · by_cases hD : D.1 = 0
    · rw [if_pos ⟨hA, hD⟩] at hk
      simp (config := { implicitDefEqProofs := false }) only [↓GP, GQ, ↓awp_seq, ↓awp_block, C_ex, Nat.reduceBEq, acap, afieldAddr, aload, astore, abin, anum, astr, aun, isAggD, cond_true, cond_false, ↓reduceIte, C_P, C_G, isTuple, Value.cells, setL, ares, aresL, ares1, reduceCtorEq, Nat.reduceEqDiff, eq_self, Nat.reduceAdd, if_true, if_false, one, Nat.reduceLeDiff, undef, gsl, aextract, aindexAddr, amake, implies_true, forall_const, alen, abuiltin, anil, isC, Int.reduceEq, Int.reduceLT, Int.reduceLE, Int.reduceAdd, Int.reduceToNat, Int.reduceNeg, Nat.reduceMul, Nat.reduceSub, abuild, afill, Int.reduceBNe, Int.reduceBEq, Try.underlying22, Try.underlying3, beqT (show (A.1 : Int) = 0 by omega), beqT (show (D.1 : Int) = 0 by omega)]
      exact hk _ (H2 ++ H1) s2 Recs.nil hO2'
    · rw [if_neg (fun h => hD h.2), if_neg (by omega)] at hk
      simp (config := { implicitDefEqProofs := false }) only [↓GP, GQ, ↓awp_seq, ↓awp_block, C_ex, Nat.reduceBEq, acap, afieldAddr, aload, astore, abin, anum, astr, aun, isAggD, cond_true, cond_false, ↓reduceIte, C_P, C_G, isTuple, Value.cells, setL, ares, aresL, ares1, reduceCtorEq, Nat.reduceEqDiff, eq_self, Nat.reduceAdd, if_true, if_false, one, Nat.reduceLeDiff, undef, gsl, aextract, aindexAddr, amake, implies_true, forall_const, alen, abuiltin, anil, isC, Int.reduceEq, Int.reduceLT, Int.reduceLE, Int.reduceAdd, Int.reduceToNat, Int.reduceNeg, Nat.reduceMul, Nat.reduceSub, abuild, afill, Int.reduceBNe, Int.reduceBEq, Try.underlying22, Try.underlying3, beqT (show (A.1 : Int) = 0 by omega), beqF (show ¬ (D.1 : Int) = 0 by omega), show ¬ (A.1 : Int) ≥ (D.1 : Int) by omega, decide_false]
      exact hk _ (H2 ++ H1) s2 (hR2.sub fun e he => List.mem_append_left _ he) hO2'
  · by_cases hAD : A.1 ≥ D.1
    · rw [if_neg (fun h => hA h.1), if_pos hAD] at hk
      simp (config := { implicitDefEqProofs := false }) only [↓GP, GQ, ↓awp_seq, ↓awp_block, C_ex, Nat.reduceBEq, acap, afieldAddr, aload, astore, abin, anum, astr, aun, isAggD, cond_true, cond_false, ↓reduceIte, C_P, C_G, isTuple, Value.cells, setL, ares, aresL, ares1, reduceCtorEq, Nat.reduceEqDiff, eq_self, Nat.reduceAdd, if_true, if_false, one, Nat.reduceLeDiff, undef, gsl, aextract, aindexAddr, amake, implies_true, forall_const, alen, abuiltin, anil, isC, Int.reduceEq, Int.reduceLT, Int.reduceLE, Int.reduceAdd, Int.reduceToNat, Int.reduceNeg, Nat.reduceMul, Nat.reduceSub, abuild, afill, Int.reduceBNe, Int.reduceBEq, Try.underlying22, Try.underlying3, beqF (show ¬ (A.1 : Int) = 0 by omega), show (A.1 : Int) ≥ (D.1 : Int) by omega, decide_true]
      exact hk _ (H2 ++ H1) s2 (hR1.sub fun e he => List.mem_append_right _ he) hO2'
    · rw [if_neg (fun h => hA h.1), if_neg hAD] at hk
      simp (config := { implicitDefEqProofs := false }) only [↓GP, GQ, ↓awp_seq, ↓awp_block, C_ex, Nat.reduceBEq, acap, afieldAddr, aload, astore, abin, anum, astr, aun, isAggD, cond_true, cond_false, ↓reduceIte, C_P, C_G, isTuple, Value.cells, setL, ares, aresL, ares1, reduceCtorEq, Nat.reduceEqDiff, eq_self, Nat.reduceAdd, if_true, if_false, one, Nat.reduceLeDiff, undef, gsl, aextract, aindexAddr, amake, implies_true, forall_const, alen, abuiltin, anil, isC, Int.reduceEq, Int.reduceLT, Int.reduceLE, Int.reduceAdd, Int.reduceToNat, Int.reduceNeg, Nat.reduceMul, Nat.reduceSub, abuild, afill, Int.reduceBNe, Int.reduceBEq, Try.underlying22, Try.underlying3, beqF (show ¬ (A.1 : Int) = 0 by omega), show ¬ (A.1 : Int) ≥ (D.1 : Int) by omega, decide_false]
      exact hk _ (H2 ++ H1) s2 (hR2.sub fun e he => List.mem_append_left _ he) hO2'
end Go.Proofs.Ytiooigkcliomlaa
