/- The reference's product of parts, and its comparison. No conditions. -/
import Derived.Test.YtjkmcnhofpnoeaaDoorE6
set_option linter.unusedVariables false
set_option linter.unusedSimpArgs false
namespace Go.Proofs.YtjkmcnhofpnoeaaDoor
open Go Go.Abs Go.RowKit
variable {base : Nat} {w0 : World} {G : Nat}

theorem ul_length (l : List Nat) : (ul l).length = l.length := by simp [ul]
theorem ul_get {l : List Nat} {i : Nat} (h : i < l.length) : (ul l)[i]? = some (.int .u64 (l.getD i 0 : Nat)) := by
  simp [ul, List.getD_eq_getElem?_getD, h]
theorem ul_set (l : List Nat) (i x : Nat) : (ul l).set i (.int .u64 x) = ul (l.set i x) := by simp [ul, List.map_set]
theorem w_u64 {x : Int} (h : 0 ≤ x ∧ x ≤ 18446744073709551615) : IntKind.u64.wrap x = x := by
  simp [IntKind.wrap, IntKind.bits, IntKind.signed]; omega
set_option maxRecDepth 10000 in
theorem times_spec (st : St) (r : Hp) (a b : List Nat) (Ba Bb ca cb : Nat) (sa sb : Option Nat) (oa ob : Bool) (ha : ∀ x ∈ a, x < 65536) (hb : ∀ x ∈ b, x < 65536) (hla : a.length ≤ 1000) (hlb : b.length ≤ 1000)
    (hma : (Ba, .cells (ul a) 46 oa) ∈ r) (hmb : (Bb, .cells (ul b) 46 ob) ∈ r) (hO : Own st r) (k q : Value → St → Prop)
    (hk : ∀ B o st', TOut a b a.length o → Own st' ((B, .cells (ul o) 46 true) :: r) → k (.slice (some ⟨B, 0, none⟩) (a.length + b.length) (a.length + b.length)) st') :
    ACall (C base w0 G) 41 [.slice (some ⟨Ba, 0, sa⟩) a.length ca, .slice (some ⟨Bb, 0, sb⟩) b.length cb] st k q := by
  refine ACall.of (cx := C base w0 G) mixed Tryd.func41 rfl (by kernel_rfl) (by simp [Tryd.ntmps41]) ?_
  simp only [Tryd.results41]
  have hw : IntKind.i64.wrap ((a.length : Int) + b.length) = ((a.length + b.length : Nat) : Int) := by rw [w_i64 (by omega)]; omega
  simp (config := { implicitDefEqProofs := false }) only [↓GP, GQ, ↓awp_seq, ↓awp_block, C_ex, Nat.reduceBEq, acap, afieldAddr, aload, astore, abin, anum, astr, aun, isAggD, cond_true, cond_false, ↓reduceIte, C_P, C_G, isTuple, Value.cells, setL, ares, aresL, ares1, reduceCtorEq, Nat.reduceEqDiff, eq_self, Nat.reduceAdd, if_true, if_false, one, Nat.reduceLeDiff, undef, gsl, aextract, aindexAddr, amake, implies_true, forall_const, alen, abuiltin, anil, isC, Int.reduceEq, Int.reduceLT, Int.reduceLE, Int.reduceAdd, Int.reduceToNat, Int.reduceNeg, Nat.reduceMul, Nat.reduceSub, abuild, afill, Int.reduceBNe, Int.reduceBEq, Tryd.underlying3, Tryd.underlying62, asz46, azc46, aby46, hw]
  refine ⟨by omega, ?_⟩
  refine ⟨fun m ρ s => ∃ (i : Nat) (o : List Nat), m = a.length - i ∧ i ≤ a.length ∧ ρ 0 = .slice (some ⟨Ba, 0, sa⟩) a.length ca ∧ ρ 1 = .slice (some ⟨Bb, 0, sb⟩) b.length cb ∧
    ρ 5 = .slice (some ⟨st.n, 0, none⟩) (a.length + b.length) (a.length + b.length) ∧ ρ 6 = .int .i64 i ∧ TOut a b i o ∧ Own s ((st.n, .cells (ul o) 46 true) :: r), ⟨a.length, 0, _, rfl, Nat.zero_le _, rfl, rfl, rfl, rfl, TOut.init a b, ?_⟩, ?_⟩
  · have e : ul (List.replicate (a.length + b.length) 0) = zeros [.int .u64 0] (a.length + b.length) := by simp [ul, zeros, List.flatten_replicate_singleton]
    rw [e]; exact hO.new _
  rintro m ρ s ⟨i, o, rfl, hi, h0, h1, h5, h6, hT, hs⟩
  by_cases him : i < a.length
  · simp (config := { implicitDefEqProofs := false }) only [↓GP, GQ, ↓awp_seq, ↓awp_block, C_ex, Nat.reduceBEq, acap, afieldAddr, aload, astore, abin, anum, astr, aun, isAggD, cond_true, cond_false, ↓reduceIte, C_P, C_G, isTuple, Value.cells, setL, ares, aresL, ares1, reduceCtorEq, Nat.reduceEqDiff, eq_self, Nat.reduceAdd, if_true, if_false, one, Nat.reduceLeDiff, undef, gsl, aextract, aindexAddr, amake, implies_true, forall_const, alen, abuiltin, anil, isC, Int.reduceEq, Int.reduceLT, Int.reduceLE, Int.reduceAdd, Int.reduceToNat, Int.reduceNeg, Nat.reduceMul, Nat.reduceSub, abuild, afill, Int.reduceBNe, Int.reduceBEq, h0, h1, h5, h6, him, Int.ofNat_lt, decide_true, Tryd.underlying3, Tryd.underlying62, asz46]
    refine ⟨fun m ρ s => ∃ (k c : Nat) (p : List Nat), m = b.length - k ∧ k ≤ b.length ∧ ρ 0 = .slice (some ⟨Ba, 0, sa⟩) a.length ca ∧ ρ 1 = .slice (some ⟨Bb, 0, sb⟩) b.length cb ∧
      ρ 5 = .slice (some ⟨st.n, 0, none⟩) (a.length + b.length) (a.length + b.length) ∧ ρ 6 = .int .i64 i ∧ ρ 7 = .int .u64 c ∧ ρ 8 = .int .i64 k ∧ TIn a b i k c p (val o) ∧ Own s ((st.n, .cells (ul p) 46 true) :: r), ⟨b.length, 0, 0, o, rfl, Nat.zero_le _, h0, h1, h5, h6, rfl, rfl, hT.start, hs⟩, ?_⟩
    rintro m ρ s ⟨k, c, p, rfl, hkb, h0, h1, h5, h6, h7, h8, hI, hs⟩
    have hpl := hI.l
    have hp := hs.head
    have ea := hs.get (List.mem_cons_of_mem _ hma)
    have eb := hs.get (List.mem_cons_of_mem _ hmb)
    by_cases hkm : k < b.length
    · have hB := hI.bound ha hb
      have hw1 : IntKind.i64.wrap ((i : Int) + k) = ((i + k : Nat) : Int) := by rw [w_i64 (by omega)]; omega
      have hdi := getD_lt ha i
      have hdk := getD_lt hb k
      have hw2 : IntKind.u64.wrap (((a.getD i 0 : Nat) : Int) * (b.getD k 0 : Nat)) = ((a.getD i 0 * b.getD k 0 : Nat) : Int) := by
        rw [w_u64 (by rw [← Int.natCast_mul]; omega)]; simp
      have hw3 : IntKind.u64.wrap ((c : Int) + (p.getD (i + k) 0 : Nat)) = ((c + p.getD (i + k) 0 : Nat) : Int) := by rw [w_u64 (by omega)]; simp
      have hw4 : IntKind.u64.wrap (((c + p.getD (i + k) 0 : Nat) : Int) + ((a.getD i 0 * b.getD k 0 : Nat) : Int)) = ((c + p.getD (i + k) 0 + a.getD i 0 * b.getD k 0 : Nat) : Int) := by rw [w_u64 (by omega)]; simp
      have hm := tmod16 (c + p.getD (i + k) 0 + a.getD i 0 * b.getD k 0)
      have hd := tdiv16 (c + p.getD (i + k) 0 + a.getD i 0 * b.getD k 0) (by omega)
      simp (config := { implicitDefEqProofs := false }) only [↓GP, GQ, ↓awp_seq, ↓awp_block, C_ex, Nat.reduceBEq, acap, afieldAddr, aload, astore, abin, anum, astr, aun, isAggD, cond_true, cond_false, ↓reduceIte, C_P, C_G, isTuple, Value.cells, setL, ares, aresL, ares1, reduceCtorEq, Nat.reduceEqDiff, eq_self, Nat.reduceAdd, if_true, if_false, one, Nat.reduceLeDiff, undef, gsl, aextract, aindexAddr, amake, implies_true, forall_const, alen, abuiltin, anil, isC, Int.reduceEq, Int.reduceLT, Int.reduceLE, Int.reduceAdd, Int.reduceToNat, Int.reduceNeg, Nat.reduceMul, Nat.reduceSub, abuild, afill, Int.reduceBNe, Int.reduceBEq, h0, h1, h5, h6, h7, h8, hkm, Int.ofNat_lt, decide_true, Tryd.underlying3, Tryd.underlying62, asz46]
      refine ADraw.of [(0, false, []), (1, false, []), (2, false, []), (3, false, []), (4, false, []), (5, false, []), (6, false, []), (7, false, []), (8, false, []), (9, false, []), (10, false, []), (11, false, []), (12, false, []), (13, false, []), (14, false, []), (15, false, []), (16, false, []), (17, false, []), (18, false, [])] [] [] (by kernel_rfl) ?_
      simp (config := { implicitDefEqProofs := false }) only [↓GP, GQ, ↓awp_seq, ↓awp_block, C_ex, Nat.reduceBEq, acap, afieldAddr, aload, astore, abin, anum, astr, aun, isAggD, cond_true, cond_false, ↓reduceIte, C_P, C_G, isTuple, Value.cells, setL, ares, aresL, ares1, reduceCtorEq, Nat.reduceEqDiff, eq_self, Nat.reduceAdd, if_true, if_false, one, Nat.reduceLeDiff, undef, gsl, aextract, aindexAddr, amake, implies_true, forall_const, alen, abuiltin, anil, isC, Int.reduceEq, Int.reduceLT, Int.reduceLE, Int.reduceAdd, Int.reduceToNat, Int.reduceNeg, Nat.reduceMul, Nat.reduceSub, abuild, afill, Int.reduceBNe, Int.reduceBEq, h0, h1, h5, h6, h7, h8, Tryd.underlying3, Tryd.underlying62, Tryd.underlying46, asz46, hw1, hw2, hw3, hw4, hm, hd, hp, ea, eb, ul_get him, ul_get hkm, ul_get (show i + k < p.length by omega), ul_set]
      have hq1 := TIn.step hI ha hb him hkm
      have hq2 := ul_length p
      refine ⟨by omega, by omega, by omega, by omega, by omega, b.length - (k + 1), by omega, k + 1, _, _, rfl, by omega, rfl, by rw [w_i64 (by omega)]; rfl, hq1, ?_⟩
      exact hs.set rfl _ rfl
    · obtain rfl : k = b.length := by omega
      have hD := TIn.done hI hT him
      have hw1 : IntKind.i64.wrap ((i : Int) + b.length) = ((i + b.length : Nat) : Int) := by rw [w_i64 (by omega)]; omega
      have hc := hI.hc
      have hw3 : IntKind.u64.wrap ((0 : Int) + c) = (c : Int) := by rw [w_u64 (by omega)]; simp
      simp (config := { implicitDefEqProofs := false }) only [↓GP, GQ, ↓awp_seq, ↓awp_block, C_ex, Nat.reduceBEq, acap, afieldAddr, aload, astore, abin, anum, astr, aun, isAggD, cond_true, cond_false, ↓reduceIte, C_P, C_G, isTuple, Value.cells, setL, ares, aresL, ares1, reduceCtorEq, Nat.reduceEqDiff, eq_self, Nat.reduceAdd, if_true, if_false, one, Nat.reduceLeDiff, undef, gsl, aextract, aindexAddr, amake, implies_true, forall_const, alen, abuiltin, anil, isC, Int.reduceEq, Int.reduceLT, Int.reduceLE, Int.reduceAdd, Int.reduceToNat, Int.reduceNeg, Nat.reduceMul, Nat.reduceSub, abuild, afill, Int.reduceBNe, Int.reduceBEq, h0, h1, h5, h6, h7, h8, him, hkm, Int.ofNat_lt, decide_false, Tryd.underlying3, Tryd.underlying62, Tryd.underlying46, asz46, hw1, hp, ul_get (show i + b.length < p.length by omega), hD.1, hw3, ul_set]
      have hq2 := ul_length p
      refine ⟨by omega, by omega, by omega, a.length - (i + 1), by omega, i + 1, _, rfl, by omega, by rw [w_i64 (by omega)]; rfl, hD.2, ?_⟩
      exact hs.set rfl _ rfl
  · obtain rfl : i = a.length := by omega
    simp (config := { implicitDefEqProofs := false }) only [↓GP, GQ, ↓awp_seq, ↓awp_block, C_ex, Nat.reduceBEq, acap, afieldAddr, aload, astore, abin, anum, astr, aun, isAggD, cond_true, cond_false, ↓reduceIte, C_P, C_G, isTuple, Value.cells, setL, ares, aresL, ares1, reduceCtorEq, Nat.reduceEqDiff, eq_self, Nat.reduceAdd, if_true, if_false, one, Nat.reduceLeDiff, undef, gsl, aextract, aindexAddr, amake, implies_true, forall_const, alen, abuiltin, anil, isC, Int.reduceEq, Int.reduceLT, Int.reduceLE, Int.reduceAdd, Int.reduceToNat, Int.reduceNeg, Nat.reduceMul, Nat.reduceSub, abuild, afill, Int.reduceBNe, Int.reduceBEq, h0, h1, h5, h6, him, Int.ofNat_lt, decide_false, Tryd.underlying3, Tryd.underlying62, asz46]
    exact hk _ _ _ hT hs
end Go.Proofs.YtjkmcnhofpnoeaaDoor
