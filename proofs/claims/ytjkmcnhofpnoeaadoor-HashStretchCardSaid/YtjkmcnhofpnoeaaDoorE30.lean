/- Bytes that are the same, or not. No conditions. -/
import Derived.Test.YtjkmcnhofpnoeaaDoorE29
set_option linter.unusedVariables false
set_option linter.unusedSimpArgs false
namespace Go.Proofs.YtjkmcnhofpnoeaaDoor
open Go Go.Abs Go.RowKit
variable {base : Nat} {w0 : World} {G : Nat}

theorem strOf_toList (a : List Nat) : (strOf (a.map fun n : Nat => (n : Int))).toList = a.map UInt8.ofNat := by
  rw [ByteArray.toList_eq]
  simp [strOf]
theorem ofNat_inj {a b : List Nat} (ha : ∀ d ∈ a, d < 256) (hb : ∀ d ∈ b, d < 256) (h : a.map UInt8.ofNat = b.map UInt8.ofNat) : a = b := by
  have key : ∀ l : List Nat, (∀ d ∈ l, d < 256) → (l.map UInt8.ofNat).map UInt8.toNat = l := by
    intro l hl
    rw [List.map_map]
    conv => rhs; rw [← List.map_id l]
    apply List.map_congr_left
    intro x hx
    have := hl x hx
    simp [UInt8.toNat_ofNat]
    omega
  rw [← key a ha, ← key b hb, h]
theorem strOf_eq {a b : List Nat} (ha : ∀ d ∈ a, d < 256) (hb : ∀ d ∈ b, d < 256) : ((strOf (a.map fun n : Nat => (n : Int))).toList == (strOf (b.map fun n : Nat => (n : Int))).toList) = decide (a = b) := by
  rw [strOf_toList, strOf_toList]
  by_cases h : a = b
  · subst h; simp
  · rw [decide_eq_false h]
    have : ¬ a.map UInt8.ofNat = b.map UInt8.ofNat := fun e => h (ofNat_inj ha hb e)
    simpa using this
set_option maxRecDepth 10000 in
theorem Equal_spec (st : St) (r : Hp) (av bv : Value) (a b : List Nat) (ha : Nb r av a) (hb : Nb r bv b) (hla : a.length ≤ 100000) (hO : Own st r) (k q : Value → St → Prop) (hk : k (.bool (decide (a = b))) st) :
    ACall (C base w0 G) 28 [av, bv] st k q := by
  refine ACall.of (cx := C base w0 G) mixed Tryd.func28 rfl (by kernel_rfl) (by simp [Tryd.ntmps28]) ?_
  simp only [Tryd.results28]
  obtain ⟨aa, ca, has⟩ := ha.isSlice
  obtain ⟨ab, cb, hbs⟩ := hb.isSlice
  by_cases hl : a.length = b.length
  · rw [← hl] at hbs
    simp (config := { implicitDefEqProofs := false }) only [↓GP, GQ, ↓awp_seq, ↓awp_block, C_ex, Nat.reduceBEq, acap, afieldAddr, aload, astore, abin, anum, astr, aun, isAggD, cond_true, cond_false, ↓reduceIte, C_P, C_G, isTuple, Value.cells, setL, ares, aresL, ares1, reduceCtorEq, Nat.reduceEqDiff, eq_self, Nat.reduceAdd, if_true, if_false, one, Nat.reduceLeDiff, undef, gsl, aextract, aindexAddr, amake, implies_true, forall_const, alen, abuiltin, anil, isC, Int.reduceEq, Int.reduceLT, Int.reduceLE, Int.reduceAdd, Int.reduceToNat, Int.reduceNeg, Nat.reduceMul, Nat.reduceSub, abuild, afill, Int.reduceBNe, Int.reduceBEq, has, hbs, Tryd.underlying23]
    refine ⟨fun m ρ s => ∃ i : Nat, m = a.length - i ∧ i ≤ a.length ∧ ρ 0 = av ∧ ρ 1 = bv ∧ ρ 12 = .int .i64 a.length ∧ ρ 13 = .int .i64 i ∧ (∀ j, j < i → a.getD j 0 = b.getD j 0) ∧ s = st, ⟨a.length, 0, rfl, Nat.zero_le _, has.symm, hbs.symm, rfl, rfl, fun j hj => absurd hj (Nat.not_lt_zero _), rfl⟩, ?_⟩
    rintro m ρ s ⟨i, rfl, hi, h0, h1, h12, h13, hE, rfl⟩
    by_cases him : i < a.length
    · obtain ⟨B, o, sp, c2, cs, ty, own, hax, hmem, hget⟩ := ha.at (by intro e; rw [e] at him; simp at him)
      obtain ⟨B', o', sp', c2', cs', ty', own', hbx, hmem', hget'⟩ := hb.at (by intro e; rw [e] at hl; simp at hl; rw [hl] at him; simp at him)
      have g1 := hget i him
      have g2 := hget' i (by omega)
      have c1 := hO.get hmem
      have c2 := hO.get hmem'
      simp (config := { implicitDefEqProofs := false }) only [↓GP, GQ, ↓awp_seq, ↓awp_block, C_ex, Nat.reduceBEq, acap, afieldAddr, aload, astore, abin, anum, astr, aun, isAggD, cond_true, cond_false, ↓reduceIte, C_P, C_G, isTuple, Value.cells, setL, ares, aresL, ares1, reduceCtorEq, Nat.reduceEqDiff, eq_self, Nat.reduceAdd, if_true, if_false, one, Nat.reduceLeDiff, undef, gsl, aextract, aindexAddr, amake, implies_true, forall_const, alen, abuiltin, anil, isC, Int.reduceEq, Int.reduceLT, Int.reduceLE, Int.reduceAdd, Int.reduceToNat, Int.reduceNeg, Nat.reduceMul, Nat.reduceSub, abuild, afill, Int.reduceBNe, Int.reduceBEq, h0, h1, h12, h13, him, Int.ofNat_lt, decide_true]
      refine ADraw.of [(0, false, []), (1, false, []), (2, false, []), (3, false, []), (4, false, []), (5, false, []), (6, false, []), (7, false, []), (8, false, [])] [] [] (by kernel_rfl) ?_
      simp (config := { implicitDefEqProofs := false }) only [↓GP, GQ, ↓awp_seq, ↓awp_block, C_ex, Nat.reduceBEq, acap, afieldAddr, aload, astore, abin, anum, astr, aun, isAggD, cond_true, cond_false, ↓reduceIte, C_P, C_G, isTuple, Value.cells, setL, ares, aresL, ares1, reduceCtorEq, Nat.reduceEqDiff, eq_self, Nat.reduceAdd, if_true, if_false, one, Nat.reduceLeDiff, undef, gsl, aextract, aindexAddr, amake, implies_true, forall_const, alen, abuiltin, anil, isC, Int.reduceEq, Int.reduceLT, Int.reduceLE, Int.reduceAdd, Int.reduceToNat, Int.reduceNeg, Nat.reduceMul, Nat.reduceSub, abuild, afill, Int.reduceBNe, Int.reduceBEq, h0, h1, h12, h13, hax, hbx, Tryd.underlying23, Tryd.underlying5, asz5, c1, c2, g1, g2]
      refine ⟨by omega, by omega, fun hne => ?_, fun he => ?_⟩
      · have e : ¬ a = b := fun e => hne (by rw [e])
        rw [decide_eq_false e] at hk
        exact hk
      · refine ⟨a.length - (i + 1), by omega, i + 1, rfl, by omega, by rw [w_i64 (by omega)]; rfl, fun j hj => ?_⟩
        by_cases hji : j < i
        · exact hE j hji
        · obtain rfl : j = i := by omega
          exact Int.ofNat.inj he
    · obtain rfl : i = a.length := by omega
      simp (config := { implicitDefEqProofs := false }) only [↓GP, GQ, ↓awp_seq, ↓awp_block, C_ex, Nat.reduceBEq, acap, afieldAddr, aload, astore, abin, anum, astr, aun, isAggD, cond_true, cond_false, ↓reduceIte, C_P, C_G, isTuple, Value.cells, setL, ares, aresL, ares1, reduceCtorEq, Nat.reduceEqDiff, eq_self, Nat.reduceAdd, if_true, if_false, one, Nat.reduceLeDiff, undef, gsl, aextract, aindexAddr, amake, implies_true, forall_const, alen, abuiltin, anil, isC, Int.reduceEq, Int.reduceLT, Int.reduceLE, Int.reduceAdd, Int.reduceToNat, Int.reduceNeg, Nat.reduceMul, Nat.reduceSub, abuild, afill, Int.reduceBNe, Int.reduceBEq, h0, h1, h12, h13, Nat.lt_irrefl, Int.ofNat_lt, decide_false]
      have e : a = b := List.ext_getElem hl fun j h1 h2 => by
        have := hE j h1
        simpa [List.getD_eq_getElem?_getD, h1, h2] using this
      rw [decide_eq_true e] at hk
      exact hk
  · have e : ¬ a = b := fun e => hl (by rw [e])
    rw [decide_eq_false e] at hk
    simp (config := { implicitDefEqProofs := false }) only [↓GP, GQ, ↓awp_seq, ↓awp_block, C_ex, Nat.reduceBEq, acap, afieldAddr, aload, astore, abin, anum, astr, aun, isAggD, cond_true, cond_false, ↓reduceIte, C_P, C_G, isTuple, Value.cells, setL, ares, aresL, ares1, reduceCtorEq, Nat.reduceEqDiff, eq_self, Nat.reduceAdd, if_true, if_false, one, Nat.reduceLeDiff, undef, gsl, aextract, aindexAddr, amake, implies_true, forall_const, alen, abuiltin, anil, isC, Int.reduceEq, Int.reduceLT, Int.reduceLE, Int.reduceAdd, Int.reduceToNat, Int.reduceNeg, Nat.reduceMul, Nat.reduceSub, abuild, afill, Int.reduceBNe, Int.reduceBEq, has, hbs, Tryd.underlying23, show ¬ (a.length : Int) = (b.length : Int) by omega]
    exact hk
end Go.Proofs.YtjkmcnhofpnoeaaDoor
