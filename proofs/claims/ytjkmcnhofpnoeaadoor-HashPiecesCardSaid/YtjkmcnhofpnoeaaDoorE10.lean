/- The reference's primes. No conditions. -/
import Derived.Test.YtjkmcnhofpnoeaaDoorE9
set_option linter.unusedVariables false
set_option linter.unusedSimpArgs false
namespace Go.Proofs.YtjkmcnhofpnoeaaDoor
open Go Go.Abs Go.RowKit
variable {base : Nat} {w0 : World} {G : Nat}

theorem take_all_succ (f : Nat → Bool) (l : List Nat) (j : Nat) (h : j < l.length) : (l.take (j + 1)).all f = ((l.take j).all f && f (l.getD j 0)) := by
  rw [List.take_add_one, List.all_append, List.getD_eq_getElem?_getD, List.getElem?_eq_getElem h]
  simp
theorem tmod_nat (a b : Nat) : ((a : Int).tmod b) = ((a % b : Nat) : Int) := by
  rw [Int.tmod_eq_emod_of_nonneg (by omega)]; rfl
set_option maxRecDepth 10000 in
theorem primes_spec (st : St) (r : Hp) (hO : Own st r) (k q : Value → St → Prop)
    (hk : ∀ v hg st', GV v (ul (prs 310)) 64 1 46 hg → Own st' (hg ++ r) → k v st') :
    ACall (C base w0 G) 32 [.int .i64 64] st k q := by
  refine ACall.of (cx := C base w0 G) mixed Tryd.func32 rfl (by kernel_rfl) (by simp [Tryd.ntmps32]) ?_
  simp only [Tryd.results32]
  simp (config := { implicitDefEqProofs := false }) only [↓GP, GQ, ↓awp_seq, ↓awp_block, C_ex, Nat.reduceBEq, acap, afieldAddr, aload, astore, abin, anum, astr, aun, isAggD, cond_true, cond_false, ↓reduceIte, C_P, C_G, isTuple, Value.cells, setL, ares, aresL, ares1, reduceCtorEq, Nat.reduceEqDiff, eq_self, Nat.reduceAdd, if_true, if_false, one, Nat.reduceLeDiff, undef, gsl, aextract, aindexAddr, amake, implies_true, forall_const, alen, abuiltin, anil, isC, Int.reduceEq, Int.reduceLT, Int.reduceLE, Int.reduceAdd, Int.reduceToNat, Int.reduceNeg, Nat.reduceMul, Nat.reduceSub, abuild, afill, Int.reduceBNe, Int.reduceBEq]
  refine ⟨fun m ρ s => ∃ (i : Nat) (v : Value) (hg : Hp), m = 310 - i ∧ i ≤ 310 ∧ ρ 0 = .int .i64 64 ∧ ρ 3 = v ∧ ρ 4 = .int .u64 (2 + i : Nat) ∧ GV v (ul (prs i)) (prs i).length 1 46 hg ∧ Own s (hg ++ r), ⟨310, 0, _, [], rfl, by decide, rfl, rfl, rfl, GV.nil, hO⟩, ?_⟩
  rintro m ρ s ⟨i, v, hg, rfl, hi, h0, h3, h4, hG, hs⟩
  obtain ⟨a3, ha3⟩ := hG.isSlice
  have hlen := prs_lt hi
  by_cases him : (prs i).length < 64
  · have hi2 := hlen.1 him
    simp (config := { implicitDefEqProofs := false }) only [↓GP, GQ, ↓awp_seq, ↓awp_block, C_ex, Nat.reduceBEq, acap, afieldAddr, aload, astore, abin, anum, astr, aun, isAggD, cond_true, cond_false, ↓reduceIte, C_P, C_G, isTuple, Value.cells, setL, ares, aresL, ares1, reduceCtorEq, Nat.reduceEqDiff, eq_self, Nat.reduceAdd, if_true, if_false, one, Nat.reduceLeDiff, undef, gsl, aextract, aindexAddr, amake, implies_true, forall_const, alen, abuiltin, anil, isC, Int.reduceEq, Int.reduceLT, Int.reduceLE, Int.reduceAdd, Int.reduceToNat, Int.reduceNeg, Nat.reduceMul, Nat.reduceSub, abuild, afill, Int.reduceBNe, Int.reduceBEq, h0, h3, ha3, h4, him, show ((prs i).length : Int) < 64 by omega, decide_true, Tryd.underlying62, Tryd.underlying3]
    refine ⟨fun m ρ s' => ∃ j : Nat, m = (prs i).length - j ∧ j ≤ (prs i).length ∧ ρ 0 = .int .i64 64 ∧ ρ 3 = v ∧ ρ 4 = .int .u64 (2 + i : Nat) ∧ ρ 5 = .bool (((prs i).take j).all fun d => (2 + i) % d != 0) ∧ ρ 6 = .int .i64 j ∧ s' = s, ⟨_, 0, rfl, Nat.zero_le _, h0, (show ρ 3 = v from h3), h4, rfl, rfl, rfl⟩, ?_⟩
    rintro m ρ s' ⟨j, rfl, hj, h0, h3, h4, h5, h6, rfl⟩
    by_cases hjm : j < (prs i).length
    · obtain ⟨B, rfl, rfl, hl⟩ := hG.out (by omega)
      have hc := hs.head
      have hd := prs_ge i ((prs i).getD j 0) (by rw [List.getD_eq_getElem?_getD, List.getElem?_eq_getElem hjm]; exact List.getElem_mem hjm)
      have hne : ¬ (((prs i).getD j 0 : Nat) : Int) = 0 := by omega
      have ht := take_all_succ (fun d => (2 + i) % d != 0) (prs i) j hjm
      have htm := tmod_nat (2 + i) ((prs i).getD j 0)
      have hmi : ((((2 + i) % (prs i).getD j 0 : Nat) : Int) != 0) = ((2 + i) % (prs i).getD j 0 != 0) := by
        generalize (2 + i) % (prs i).getD j 0 = z
        cases z <;> rfl
      cases hb : ((prs i).take j).all (fun d => (2 + i) % d != 0) <;> rw [hb] at h5 ht <;>
        simp (config := { implicitDefEqProofs := false }) only [↓GP, GQ, ↓awp_seq, ↓awp_block, C_ex, Nat.reduceBEq, acap, afieldAddr, aload, astore, abin, anum, astr, aun, isAggD, cond_true, cond_false, ↓reduceIte, C_P, C_G, isTuple, Value.cells, setL, ares, aresL, ares1, reduceCtorEq, Nat.reduceEqDiff, eq_self, Nat.reduceAdd, if_true, if_false, one, Nat.reduceLeDiff, undef, gsl, aextract, aindexAddr, amake, implies_true, forall_const, alen, abuiltin, anil, isC, Int.reduceEq, Int.reduceLT, Int.reduceLE, Int.reduceAdd, Int.reduceToNat, Int.reduceNeg, Nat.reduceMul, Nat.reduceSub, abuild, afill, Int.reduceBNe, Int.reduceBEq, h0, h3, h4, h5, h6, hjm, Int.ofNat_lt, decide_true, Tryd.underlying62, Tryd.underlying46, Tryd.underlying3, asz46, hc, ul_get hjm, htm, hne]
      · exact ⟨(prs i).length - (j + 1), by omega, j + 1, rfl, by omega, by rw [ht]; rfl, by rw [w_i64 (by omega)]; rfl⟩
      · exact ⟨by omega, (prs i).length - (j + 1), by omega, j + 1, rfl, by omega, by rw [ht, hmi]; rfl, by rw [w_i64 (by omega)]; rfl⟩
    · obtain rfl : j = (prs i).length := by omega
      rw [List.take_length] at h5
      have e : prs (i + 1) = bif (prs i).all (fun d => (2 + i) % d != 0) then prs i ++ [2 + i] else prs i := rfl
      have hw : Value.int .u64 (IntKind.u64.wrap (((2 + i : Nat) : Int) + 1)) = .int .u64 (2 + (i + 1) : Nat) := by rw [w_u64 (by omega)]; rfl
      cases hb : (prs i).all (fun d => (2 + i) % d != 0) <;> rw [hb] at h5 e <;> simp only [cond_true, cond_false] at e <;>
        simp (config := { implicitDefEqProofs := false }) only [↓GP, GQ, ↓awp_seq, ↓awp_block, C_ex, Nat.reduceBEq, acap, afieldAddr, aload, astore, abin, anum, astr, aun, isAggD, cond_true, cond_false, ↓reduceIte, C_P, C_G, isTuple, Value.cells, setL, ares, aresL, ares1, reduceCtorEq, Nat.reduceEqDiff, eq_self, Nat.reduceAdd, if_true, if_false, one, Nat.reduceLeDiff, undef, gsl, aextract, aindexAddr, amake, implies_true, forall_const, alen, abuiltin, anil, isC, Int.reduceEq, Int.reduceLT, Int.reduceLE, Int.reduceAdd, Int.reduceToNat, Int.reduceNeg, Nat.reduceMul, Nat.reduceSub, abuild, afill, Int.reduceBNe, Int.reduceBEq, h0, h3, ha3, h4, h5, h6, Nat.lt_irrefl, Int.ofNat_lt, decide_false, abuildSlice_one (st := s') (v := .int .u64 (2 + i : Nat)) Tryd.underlying62 asz46 azc46 rfl rfl rfl (by decide), Tryd.underlying62, Tryd.underlying46, Tryd.underlying3]
      · refine ⟨310 - (i + 1), by omega, i + 1, v, hg, rfl, by omega, ha3.symm, hw, ?_, hs⟩
        rw [e]; exact hG
      · rw [← ha3]
        refine GV.append1 Tryd.underlying62 (by rw [Tryd.underlying62]; rfl) asz46 azc46 (c := [.int .u64 (2 + i : Nat)]) aby46 hG hs rfl rfl (by omega) fun v' hg' s' hG' hs' => ?_
        simp (config := { implicitDefEqProofs := false }) only [↓GP, GQ, ↓awp_seq, ↓awp_block, C_ex, Nat.reduceBEq, acap, afieldAddr, aload, astore, abin, anum, astr, aun, isAggD, cond_true, cond_false, ↓reduceIte, C_P, C_G, isTuple, Value.cells, setL, ares, aresL, ares1, reduceCtorEq, Nat.reduceEqDiff, eq_self, Nat.reduceAdd, if_true, if_false, one, Nat.reduceLeDiff, undef, gsl, aextract, aindexAddr, amake, implies_true, forall_const, alen, abuiltin, anil, isC, Int.reduceEq, Int.reduceLT, Int.reduceLE, Int.reduceAdd, Int.reduceToNat, Int.reduceNeg, Nat.reduceMul, Nat.reduceSub, abuild, afill, Int.reduceBNe, Int.reduceBEq, h0, h4]
        refine ⟨310 - (i + 1), by omega, i + 1, v', hg', rfl, by omega, rfl, hw, ?_, hs'⟩
        rw [e]
        simpa [ul] using hG'
  · obtain rfl : i = 310 := by have h2 : ¬ i < 310 := fun h => him (hlen.2 h); omega
    simp (config := { implicitDefEqProofs := false }) only [↓GP, GQ, ↓awp_seq, ↓awp_block, C_ex, Nat.reduceBEq, acap, afieldAddr, aload, astore, abin, anum, astr, aun, isAggD, cond_true, cond_false, ↓reduceIte, C_P, C_G, isTuple, Value.cells, setL, ares, aresL, ares1, reduceCtorEq, Nat.reduceEqDiff, eq_self, Nat.reduceAdd, if_true, if_false, one, Nat.reduceLeDiff, undef, gsl, aextract, aindexAddr, amake, implies_true, forall_const, alen, abuiltin, anil, isC, Int.reduceEq, Int.reduceLT, Int.reduceLE, Int.reduceAdd, Int.reduceToNat, Int.reduceNeg, Nat.reduceMul, Nat.reduceSub, abuild, afill, Int.reduceBNe, Int.reduceBEq, h0, h3, ha3, h4, him, show ¬ ((prs 310).length : Int) < 64 by omega, decide_false, Tryd.underlying62, Tryd.underlying3]
    rw [← ha3]
    have e : (prs 310).length = 64 := by rw [prs_310]; rfl
    rw [e] at hG
    exact hk _ _ _ hG hs
end Go.Proofs.YtjkmcnhofpnoeaaDoor
