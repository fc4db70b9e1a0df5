/- Lists of changes compared; acts that are not too great; a desk made again. No conditions. -/
import Derived.Test.YthohmdkibkompaaDoorLoginP
set_option linter.unusedVariables false
set_option linter.unusedSimpArgs false
namespace Go.Proofs.YthohmdkibkompaaDoor
open Go Go.Abs Go.RowKit
variable {base : Nat} {w0 : World} {G : Nat}

theorem aqTC : aqT Tryd.prog 36 = some [(0, 3), (1, 9), (2, 9), (3, 9), (4, 9), (5, 3), (6, 3)] := by kernel_rfl
theorem aqFC (x : Chg) : aqF Tryd.prog x.cells x.cells [(0, 3), (1, 9), (2, 9), (3, 9), (4, 9), (5, 3), (6, 3)] = some true := by
  simp [aqF, alf2, Tryd.underlying3, Tryd.underlying9, Chg.cells]
set_option maxRecDepth 10000 in
theorem RSame_spec (st : St) (r : Hp) (va vb : Value) (cs : List Chg) (hn : cs.length ≤ 1000000) (ha : CL' r va cs) (hb : CL' r vb cs) (hO : Own st r) (k q : Value → St → Prop) (hk : ∀ st', Own st' r → k (.bool true) st') : ACall (C base w0 G) 17 [va, vb] st k q := by
  obtain ⟨aa, ca, hva, _⟩ := ha.isSlice
  obtain ⟨ab, cb, hvb, _⟩ := hb.isSlice
  rw [List.length_map] at hva hvb
  refine ACall.of (cx := C base w0 G) mixed Tryd.func17 rfl (by kernel_rfl) (by simp [Tryd.ntmps17]) ?_
  simp only [Tryd.results17]
  simp (config := { implicitDefEqProofs := false }) only [↓GP, ↓GM, GQ, abuiltinX, ↓awp_seq, ↓awp_block, C_ex, Nat.reduceBEq, acap, afieldAddr, aload, astore, abin, anum, astr, aun, isAggD, cond_true, cond_false, ↓reduceIte, C_P, C_G, isTuple, Value.cells, setL, ares, aresL, ares1, reduceCtorEq, Nat.reduceEqDiff, eq_self, Nat.reduceAdd, if_true, if_false, Go.Abs.one, Nat.reduceLeDiff, undef, gsl, aextract, aindexAddr, amake, implies_true, forall_const, alen, abuiltin, anil, isC, Int.reduceEq, Int.reduceLT, Int.reduceLE, Int.reduceAdd, Int.reduceToNat, Int.reduceNeg, Nat.reduceMul, Nat.reduceSub, abuild, afill, Int.reduceBNe, Int.reduceBEq, hva, hvb, Tryd.underlying31, show ((cs.length : Int) == (cs.length : Int)) = true by simp, Bool.not_true]
  refine ⟨fun m ρ s => ∃ i : Nat, m = cs.length - i ∧ i ≤ cs.length ∧ ρ 0 = va ∧ ρ 1 = vb ∧ ρ 5 = .int .i64 i ∧ Own s r, ⟨_, 0, rfl, Nat.zero_le _, hva.symm, hvb.symm, rfl, hO⟩, ?_⟩
  rintro _ ρ s ⟨i, rfl, hi, h0, h1, h5, hs⟩
  by_cases him : i < cs.length
  · obtain ⟨x, o, sp, c', ccs, ty, own, hvx, hmem, hcut⟩ := ha.mem (i := i) (l := (cs[i]).cells) (by simp [him])
    obtain ⟨x2, o2, sp2, c2', ccs2, ty2, own2, hvx2, hmem2, hcut2⟩ := hb.mem (i := i) (l := (cs[i]).cells) (by simp [him])
    rw [List.length_map] at hvx hvx2
    have hcx := hs.get hmem
    have hcx2 := hs.get hmem2
    have w1 : IntKind.i64.wrap ((i : Int) + 1) = ((i + 1 : Nat) : Int) := by rw [w_i64 (by omega)]; rfl
    have hq := aqFC cs[i]
    generalize cs[i] = X at *
    have hset : setL [Value.int .i64 0, .string ⟨#[]⟩, .string ⟨#[]⟩, .string ⟨#[]⟩, .string ⟨#[]⟩, .int .i64 0, .int .i64 0] 0 X.cells = X.cells := rfl
    simp (config := { implicitDefEqProofs := false }) only [↓GP, ↓GM, GQ, abuiltinX, ↓awp_seq, ↓awp_block, C_ex, Nat.reduceBEq, acap, afieldAddr, aload, astore, abin, anum, astr, aun, isAggD, cond_true, cond_false, ↓reduceIte, C_P, C_G, isTuple, Value.cells, setL, ares, aresL, ares1, reduceCtorEq, Nat.reduceEqDiff, eq_self, Nat.reduceAdd, if_true, if_false, Go.Abs.one, Nat.reduceLeDiff, undef, gsl, aextract, aindexAddr, amake, implies_true, forall_const, alen, abuiltin, anil, isC, Int.reduceEq, Int.reduceLT, Int.reduceLE, Int.reduceAdd, Int.reduceToNat, Int.reduceNeg, Nat.reduceMul, Nat.reduceSub, abuild, afill, Int.reduceBNe, Int.reduceBEq, h0, h1, h5, hvx, him, Int.ofNat_lt, decide_true, Tryd.underlying31]
    refine ADraw.of [(0, false, []), (1, false, []), (2, false, []), (3, false, []), (4, false, []), (5, false, []), (6, false, []), (7, false, []), (8, false, [])] [] [] (by kernel_rfl) ?_
    simp (config := { implicitDefEqProofs := false }) only [↓GP, ↓GM, GQ, abuiltinX, ↓awp_seq, ↓awp_block, C_ex, Nat.reduceBEq, acap, afieldAddr, aload, astore, abin, anum, astr, aun, isAggD, cond_true, cond_false, ↓reduceIte, C_P, C_G, isTuple, Value.cells, setL, ares, aresL, ares1, reduceCtorEq, Nat.reduceEqDiff, eq_self, Nat.reduceAdd, if_true, if_false, Go.Abs.one, Nat.reduceLeDiff, undef, gsl, aextract, aindexAddr, amake, implies_true, forall_const, alen, abuiltin, anil, isC, Int.reduceEq, Int.reduceLT, Int.reduceLE, Int.reduceAdd, Int.reduceToNat, Int.reduceNeg, Nat.reduceMul, Nat.reduceSub, abuild, afill, Int.reduceBNe, Int.reduceBEq, h0, h1, h5, hvx, hvx2, him, Int.ofNat_lt, decide_true, hcx, hcx2, hcut, hcut2, asz36, Tryd.underlying31, Tryd.underlying36, Option.map_some, aqTC, hq, Bool.not_true, w1]
    exact ⟨by omega, by omega, cs.length - (i + 1), by omega, i + 1, rfl, by omega, rfl, hs⟩
  · obtain rfl : i = cs.length := by omega
    simp (config := { implicitDefEqProofs := false }) only [↓GP, ↓GM, GQ, abuiltinX, ↓awp_seq, ↓awp_block, C_ex, Nat.reduceBEq, acap, afieldAddr, aload, astore, abin, anum, astr, aun, isAggD, cond_true, cond_false, ↓reduceIte, C_P, C_G, isTuple, Value.cells, setL, ares, aresL, ares1, reduceCtorEq, Nat.reduceEqDiff, eq_self, Nat.reduceAdd, if_true, if_false, Go.Abs.one, Nat.reduceLeDiff, undef, gsl, aextract, aindexAddr, amake, implies_true, forall_const, alen, abuiltin, anil, isC, Int.reduceEq, Int.reduceLT, Int.reduceLE, Int.reduceAdd, Int.reduceToNat, Int.reduceNeg, Nat.reduceMul, Nat.reduceSub, abuild, afill, Int.reduceBNe, Int.reduceBEq, h0, h1, h5, hva, Int.ofNat_lt, Nat.lt_irrefl, decide_false, Tryd.underlying31]
    exact hk _ hs
/-- What is asked. -/
structure AskA where
  kind : Int
  now : Int
  name : List Nat
  good : Bool
  c : Chg
def AskA.cells (a : AskA) : List Value := [.int .i64 a.kind, .int .i64 a.now, .string (str a.name), .bool a.good, .int .i64 a.c.k, .string (str a.c.a), .string (str a.c.b), .string (str a.c.c), .string (str a.c.d), .int .i64 a.c.n, .int .i64 a.c.m]
def AskA.small (a : AskA) : Bool := decide (a.name.length ≤ 200 ∧ a.c.a.length ≤ 200 ∧ a.c.b.length ≤ 200 ∧ a.c.n < 1152921504606846976)
set_option maxRecDepth 10000 in
theorem LSmall_spec (st : St) (r : Hp) (a : AskA) (hO : Own st r) (k q : Value → St → Prop) (hk : ∀ st', Own st' r → k (.bool a.small) st') : ACall (C base w0 G) 15 [.agg a.cells.toArray] st k q := by
  refine ACall.of (cx := C base w0 G) mixed Tryd.func15 rfl (by kernel_rfl) (by simp [Tryd.ntmps15]) ?_
  simp only [Tryd.results15]
  have hO1 := hO.new (.cells a.cells 47 true)
  have hc : (st.new (.cells a.cells 47 true)).H st.n = some (.cells [.int .i64 a.kind, .int .i64 a.now, .string (str a.name), .bool a.good, .int .i64 a.c.k, .string (str a.c.a), .string (str a.c.b), .string (str a.c.c), .string (str a.c.d), .int .i64 a.c.n, .int .i64 a.c.m] 47 true) := hO1.head
  by_cases c0 : a.name.length ≤ 200
  case neg =>
    have e : a.small = false := by simp [AskA.small]; omega
    rw [e] at hk
    simp (config := { implicitDefEqProofs := false }) only [↓GP, ↓GM, GQ, abuiltinX, ↓awp_seq, ↓awp_block, C_ex, Nat.reduceBEq, acap, afieldAddr, aload, astore, abin, anum, astr, aun, isAggD, cond_true, cond_false, ↓reduceIte, C_P, C_G, isTuple, Value.cells, setL, ares, aresL, ares1, reduceCtorEq, Nat.reduceEqDiff, eq_self, Nat.reduceAdd, if_true, if_false, Go.Abs.one, Nat.reduceLeDiff, undef, gsl, aextract, aindexAddr, amake, implies_true, forall_const, alen, abuiltin, anil, isC, Int.reduceEq, Int.reduceLT, Int.reduceLE, Int.reduceAdd, Int.reduceToNat, Int.reduceNeg, Nat.reduceMul, Nat.reduceSub, abuild, afill, Int.reduceBNe, Int.reduceBEq, abox, AskA.cells, hc, afo47_2, afo47_4, afo36_1, afo36_2, afo36_5, asz3, asz9, Tryd.underlying3, Tryd.underlying9, str_size, show ((a.name.length : Int) ≤ 200) = False by simp; omega, decide_true, decide_false]
    exact hk _ hO1.tail
  by_cases c1 : a.c.a.length ≤ 200
  case neg =>
    have e : a.small = false := by simp [AskA.small]; omega
    rw [e] at hk
    simp (config := { implicitDefEqProofs := false }) only [↓GP, ↓GM, GQ, abuiltinX, ↓awp_seq, ↓awp_block, C_ex, Nat.reduceBEq, acap, afieldAddr, aload, astore, abin, anum, astr, aun, isAggD, cond_true, cond_false, ↓reduceIte, C_P, C_G, isTuple, Value.cells, setL, ares, aresL, ares1, reduceCtorEq, Nat.reduceEqDiff, eq_self, Nat.reduceAdd, if_true, if_false, Go.Abs.one, Nat.reduceLeDiff, undef, gsl, aextract, aindexAddr, amake, implies_true, forall_const, alen, abuiltin, anil, isC, Int.reduceEq, Int.reduceLT, Int.reduceLE, Int.reduceAdd, Int.reduceToNat, Int.reduceNeg, Nat.reduceMul, Nat.reduceSub, abuild, afill, Int.reduceBNe, Int.reduceBEq, abox, AskA.cells, hc, afo47_2, afo47_4, afo36_1, afo36_2, afo36_5, asz3, asz9, Tryd.underlying3, Tryd.underlying9, str_size, show ((a.name.length : Int) ≤ 200) = True by simp; omega, show ((a.c.a.length : Int) ≤ 200) = False by simp; omega, decide_true, decide_false]
    exact hk _ hO1.tail
  by_cases c2 : a.c.b.length ≤ 200
  case neg =>
    have e : a.small = false := by simp [AskA.small]; omega
    rw [e] at hk
    simp (config := { implicitDefEqProofs := false }) only [↓GP, ↓GM, GQ, abuiltinX, ↓awp_seq, ↓awp_block, C_ex, Nat.reduceBEq, acap, afieldAddr, aload, astore, abin, anum, astr, aun, isAggD, cond_true, cond_false, ↓reduceIte, C_P, C_G, isTuple, Value.cells, setL, ares, aresL, ares1, reduceCtorEq, Nat.reduceEqDiff, eq_self, Nat.reduceAdd, if_true, if_false, Go.Abs.one, Nat.reduceLeDiff, undef, gsl, aextract, aindexAddr, amake, implies_true, forall_const, alen, abuiltin, anil, isC, Int.reduceEq, Int.reduceLT, Int.reduceLE, Int.reduceAdd, Int.reduceToNat, Int.reduceNeg, Nat.reduceMul, Nat.reduceSub, abuild, afill, Int.reduceBNe, Int.reduceBEq, abox, AskA.cells, hc, afo47_2, afo47_4, afo36_1, afo36_2, afo36_5, asz3, asz9, Tryd.underlying3, Tryd.underlying9, str_size, show ((a.name.length : Int) ≤ 200) = True by simp; omega, show ((a.c.a.length : Int) ≤ 200) = True by simp; omega, show ((a.c.b.length : Int) ≤ 200) = False by simp; omega, decide_true, decide_false]
    exact hk _ hO1.tail
  have e : a.small = decide (a.c.n < 1152921504606846976) := by simp [AskA.small, c0, c1, c2]
  rw [e] at hk
  simp (config := { implicitDefEqProofs := false }) only [↓GP, ↓GM, GQ, abuiltinX, ↓awp_seq, ↓awp_block, C_ex, Nat.reduceBEq, acap, afieldAddr, aload, astore, abin, anum, astr, aun, isAggD, cond_true, cond_false, ↓reduceIte, C_P, C_G, isTuple, Value.cells, setL, ares, aresL, ares1, reduceCtorEq, Nat.reduceEqDiff, eq_self, Nat.reduceAdd, if_true, if_false, Go.Abs.one, Nat.reduceLeDiff, undef, gsl, aextract, aindexAddr, amake, implies_true, forall_const, alen, abuiltin, anil, isC, Int.reduceEq, Int.reduceLT, Int.reduceLE, Int.reduceAdd, Int.reduceToNat, Int.reduceNeg, Nat.reduceMul, Nat.reduceSub, abuild, afill, Int.reduceBNe, Int.reduceBEq, abox, AskA.cells, hc, afo47_2, afo47_4, afo36_1, afo36_2, afo36_5, asz3, asz9, Tryd.underlying3, Tryd.underlying9, str_size, show ((a.name.length : Int) ≤ 200) = True by simp; omega, show ((a.c.a.length : Int) ≤ 200) = True by simp; omega, show ((a.c.b.length : Int) ≤ 200) = True by simp; omega, decide_true, decide_false]
  exact hk _ hO1.tail
end Go.Proofs.YthohmdkibkompaaDoor
