/- The reference's comparison of a number's square or cube. No conditions. -/
import Derived.Test.YtjkmcnhofpnoeaaDoorE7
set_option linter.unusedVariables false
set_option linter.unusedSimpArgs false
namespace Go.Proofs.YtjkmcnhofpnoeaaDoor
open Go Go.Abs Go.RowKit
variable {base : Nat} {w0 : World} {G : Nat}

theorem _root_.Go.Abs.GV.out {v : Value} {cs : List Value} {n sz : Nat} {e : TypeId} {hg : Hp} (h : GV v cs n sz e hg) (hn : n ≠ 0) : ∃ b, v = .slice (some ⟨b, 0, some 0⟩) n n ∧ hg = [(b, .cells cs e true)] ∧ cs.length = n * sz := by
  rcases h with ⟨_, rfl, _⟩ | h
  · exact absurd rfl hn
  · exact h
theorem _root_.Go.Abs.asrc_all {st : St} {B m n c : Nat} {cs : List Value} {sp : Option Nat} {ty : TypeId} {own : Bool} (hB : st.H B = some (.cells cs ty own)) (hl : cs.length = m * n) : asrc st n (.slice (some ⟨B, 0, sp⟩) m c) = some (m, cs) := by
  simp [asrc, acut, hB, cut, ← hl]
def cubeN (cube : Bool) : Nat := bif cube then 6 else 4
def powN (cube : Bool) (y : Nat) : Nat := bif cube then y * y * y else y * y
def belowN (y p : Nat) (cube : Bool) : Bool := decide (powN cube y ≤ p * 65536 ^ cubeN cube)
set_option maxRecDepth 10000 in
theorem below_spec (st : St) (r : Hp) (y p : Nat) (cube : Bool) (hy : y < 18446744073709551616) (hp : p < 18446744073709551616) (hO : Own st r) (k q : Value → St → Prop)
    (hk : ∀ st', Own st' r → k (.bool (belowN y p cube)) st') :
    ACall (C base w0 G) 38 [.int .u64 y, .int .u64 p, .bool cube] st k q := by
  refine ACall.of (cx := C base w0 G) mixed Tryd.func38 rfl (by kernel_rfl) (by simp [Tryd.ntmps38]) ?_
  simp only [Tryd.results38]
  simp (config := { implicitDefEqProofs := false }) only [↓GP, GQ, ↓awp_seq, ↓awp_block, C_ex, Nat.reduceBEq, acap, afieldAddr, aload, astore, abin, anum, astr, aun, isAggD, cond_true, cond_false, ↓reduceIte, C_P, C_G, isTuple, Value.cells, setL, ares, aresL, ares1, reduceCtorEq, Nat.reduceEqDiff, eq_self, Nat.reduceAdd, if_true, if_false, one, Nat.reduceLeDiff, undef, gsl, aextract, aindexAddr, amake, implies_true, forall_const, alen, abuiltin, anil, isC, Int.reduceEq, Int.reduceLT, Int.reduceLE, Int.reduceAdd, Int.reduceToNat, Int.reduceNeg, Nat.reduceMul, Nat.reduceSub, abuild, afill, Int.reduceBNe, Int.reduceBEq]
  refine ACallF.enter Tryd.func42 rfl (by kernel_rfl) (parts_spec st r y hy hO _ _ fun v1 hg1 s1 hG1 hO1 => ?_)
  obtain ⟨B1, rfl, rfl, hl1⟩ := hG1.out (by decide)
  simp (config := { implicitDefEqProofs := false }) only [↓GP, GQ, ↓awp_seq, ↓awp_block, C_ex, Nat.reduceBEq, acap, afieldAddr, aload, astore, abin, anum, astr, aun, isAggD, cond_true, cond_false, ↓reduceIte, C_P, C_G, isTuple, Value.cells, setL, ares, aresL, ares1, reduceCtorEq, Nat.reduceEqDiff, eq_self, Nat.reduceAdd, if_true, if_false, one, Nat.reduceLeDiff, undef, gsl, aextract, aindexAddr, amake, implies_true, forall_const, alen, abuiltin, anil, isC, Int.reduceEq, Int.reduceLT, Int.reduceLE, Int.reduceAdd, Int.reduceToNat, Int.reduceNeg, Nat.reduceMul, Nat.reduceSub, abuild, afill, Int.reduceBNe, Int.reduceBEq]
  refine ACallF.enter Tryd.func42 rfl (by kernel_rfl) (parts_spec s1 _ y hy hO1 _ _ fun v2 hg2 s2 hG2 hO2 => ?_)
  obtain ⟨B2, rfl, rfl, hl2⟩ := hG2.out (by decide)
  simp (config := { implicitDefEqProofs := false }) only [↓GP, GQ, ↓awp_seq, ↓awp_block, C_ex, Nat.reduceBEq, acap, afieldAddr, aload, astore, abin, anum, astr, aun, isAggD, cond_true, cond_false, ↓reduceIte, C_P, C_G, isTuple, Value.cells, setL, ares, aresL, ares1, reduceCtorEq, Nat.reduceEqDiff, eq_self, Nat.reduceAdd, if_true, if_false, one, Nat.reduceLeDiff, undef, gsl, aextract, aindexAddr, amake, implies_true, forall_const, alen, abuiltin, anil, isC, Int.reduceEq, Int.reduceLT, Int.reduceLE, Int.reduceAdd, Int.reduceToNat, Int.reduceNeg, Nat.reduceMul, Nat.reduceSub, abuild, afill, Int.reduceBNe, Int.reduceBEq]
  have hpl := partsN_length y 4
  have hlt := partsN_lt y 4
  have ht := times_spec (base := base) (w0 := w0) (G := G) s2 _ (partsN y 4) (partsN y 4) B1 B2 4 4 (some 0) (some 0) true true hlt hlt (by omega) (by omega) (by simp) (by simp) hO2
  rw [hpl] at ht
  refine ACallF.enter Tryd.func41 rfl (by kernel_rfl) (ht _ _ fun B3 o3 s3 hT3 hO3 => ?_)
  simp (config := { implicitDefEqProofs := false }) only [↓GP, GQ, C_ex, Nat.reduceBEq, acap, afieldAddr, aload, astore, abin, anum, astr, aun, isAggD, cond_true, cond_false, ↓reduceIte, C_P, C_G, isTuple, Value.cells, setL, ares, aresL, ares1, reduceCtorEq, Nat.reduceEqDiff, eq_self, Nat.reduceAdd, if_true, if_false, one, Nat.reduceLeDiff, undef, gsl, aextract, aindexAddr, amake, implies_true, forall_const, alen, abuiltin, anil, isC, Int.reduceEq, Int.reduceLT, Int.reduceLE, Int.reduceAdd, Int.reduceToNat, Int.reduceNeg, Nat.reduceMul, Nat.reduceSub, abuild, afill, Int.reduceBNe, Int.reduceBEq]
  rw [awp_seq]
  simp (config := { implicitDefEqProofs := false }) only [↓GP, GQ, C_ex, Nat.reduceBEq, acap, afieldAddr, aload, astore, abin, anum, astr, aun, isAggD, cond_true, cond_false, ↓reduceIte, C_P, C_G, isTuple, Value.cells, setL, ares, aresL, ares1, reduceCtorEq, Nat.reduceEqDiff, eq_self, Nat.reduceAdd, if_true, if_false, one, Nat.reduceLeDiff, undef, gsl, aextract, aindexAddr, amake, implies_true, forall_const, alen, abuiltin, anil, isC, Int.reduceEq, Int.reduceLT, Int.reduceLE, Int.reduceAdd, Int.reduceToNat, Int.reduceNeg, Nat.reduceMul, Nat.reduceSub, abuild, afill, Int.reduceBNe, Int.reduceBEq]
  have hv1 : val (partsN y 4) = y := by rw [val_parts]; exact Nat.mod_eq_of_lt hy
  have hv3 : val o3 = y * y := by rw [hT3.v, List.take_of_length_le (by omega), hv1]
  have hl3 : o3.length = 8 := by rw [hT3.l, hpl]
  refine seq_cut (fun ρ s => ∃ (B : Nat) (o : List Nat) (n : Nat), ρ 0 = .int .u64 y ∧ ρ 1 = .int .u64 p ∧ ρ 7 = .slice (some ⟨B, 0, none⟩) o.length o.length ∧ ρ 8 = .int .i64 n ∧ n = cubeN cube ∧ o.length = 2 * n ∧
    (∀ x ∈ o, x < 65536) ∧ val o = powN cube y ∧ Own s ((B, .cells (ul o) 46 true) :: r)) ?_ ?_
  · have hO3' : Own s3 ((B3, .cells (ul o3) 46 true) :: r) := hO3.sub (List.Sublist.cons_cons _ ((List.sublist_cons_self _ _).trans (List.sublist_cons_self _ _)))
    rw [awp_seq]
    cases cube with
    | false =>
      simp (config := { implicitDefEqProofs := false }) only [↓GP, GQ, ↓awp_seq, ↓awp_block, C_ex, Nat.reduceBEq, acap, afieldAddr, aload, astore, abin, anum, astr, aun, isAggD, cond_true, cond_false, ↓reduceIte, C_P, C_G, isTuple, Value.cells, setL, ares, aresL, ares1, reduceCtorEq, Nat.reduceEqDiff, eq_self, Nat.reduceAdd, if_true, if_false, one, Nat.reduceLeDiff, undef, gsl, aextract, aindexAddr, amake, implies_true, forall_const, alen, abuiltin, anil, isC, Int.reduceEq, Int.reduceLT, Int.reduceLE, Int.reduceAdd, Int.reduceToNat, Int.reduceNeg, Nat.reduceMul, Nat.reduceSub, abuild, afill, Int.reduceBNe, Int.reduceBEq]
      exact ⟨B3, o3, 4, by rw [hl3], rfl, rfl, hl3, hT3.d, hv3, hO3'⟩
    | true =>
      simp (config := { implicitDefEqProofs := false }) only [↓GP, GQ, ↓awp_seq, ↓awp_block, C_ex, Nat.reduceBEq, acap, afieldAddr, aload, astore, abin, anum, astr, aun, isAggD, cond_true, cond_false, ↓reduceIte, C_P, C_G, isTuple, Value.cells, setL, ares, aresL, ares1, reduceCtorEq, Nat.reduceEqDiff, eq_self, Nat.reduceAdd, if_true, if_false, one, Nat.reduceLeDiff, undef, gsl, aextract, aindexAddr, amake, implies_true, forall_const, alen, abuiltin, anil, isC, Int.reduceEq, Int.reduceLT, Int.reduceLE, Int.reduceAdd, Int.reduceToNat, Int.reduceNeg, Nat.reduceMul, Nat.reduceSub, abuild, afill, Int.reduceBNe, Int.reduceBEq]
      refine ACallF.enter Tryd.func42 rfl (by kernel_rfl) (parts_spec s3 _ y hy hO3' _ _ fun v4 hg4 s4 hG4 hO4 => ?_)
      obtain ⟨B4, rfl, rfl, hl4⟩ := hG4.out (by decide)
      simp (config := { implicitDefEqProofs := false }) only [↓GP, GQ, ↓awp_seq, ↓awp_block, C_ex, Nat.reduceBEq, acap, afieldAddr, aload, astore, abin, anum, astr, aun, isAggD, cond_true, cond_false, ↓reduceIte, C_P, C_G, isTuple, Value.cells, setL, ares, aresL, ares1, reduceCtorEq, Nat.reduceEqDiff, eq_self, Nat.reduceAdd, if_true, if_false, one, Nat.reduceLeDiff, undef, gsl, aextract, aindexAddr, amake, implies_true, forall_const, alen, abuiltin, anil, isC, Int.reduceEq, Int.reduceLT, Int.reduceLE, Int.reduceAdd, Int.reduceToNat, Int.reduceNeg, Nat.reduceMul, Nat.reduceSub, abuild, afill, Int.reduceBNe, Int.reduceBEq]
      have ht := times_spec (base := base) (w0 := w0) (G := G) s4 _ o3 (partsN y 4) B3 B4 8 4 none (some 0) true true hT3.d hlt (by omega) (by omega) (by simp) (by simp) hO4
      rw [hpl, hl3] at ht
      refine ACallF.enter Tryd.func41 rfl (by kernel_rfl) (ht _ _ fun B5 o5 s5 hT5 hO5 => ?_)
      simp (config := { implicitDefEqProofs := false }) only [↓GP, GQ, ↓awp_seq, ↓awp_block, C_ex, Nat.reduceBEq, acap, afieldAddr, aload, astore, abin, anum, astr, aun, isAggD, cond_true, cond_false, ↓reduceIte, C_P, C_G, isTuple, Value.cells, setL, ares, aresL, ares1, reduceCtorEq, Nat.reduceEqDiff, eq_self, Nat.reduceAdd, if_true, if_false, one, Nat.reduceLeDiff, undef, gsl, aextract, aindexAddr, amake, implies_true, forall_const, alen, abuiltin, anil, isC, Int.reduceEq, Int.reduceLT, Int.reduceLE, Int.reduceAdd, Int.reduceToNat, Int.reduceNeg, Nat.reduceMul, Nat.reduceSub, abuild, afill, Int.reduceBNe, Int.reduceBEq]
      have hl5 : o5.length = 12 := by rw [hT5.l, hpl, hl3]
      rw [← hl3] at hT5
      refine ⟨B5, o5, 6, by rw [hl5], rfl, rfl, by rw [hl5], hT5.d, ?_, hO5.sub (List.Sublist.cons_cons _ ((List.sublist_cons_self _ _).trans (List.sublist_cons_self _ _)))⟩
      rw [hT5.v, List.take_length, hv1, hv3]; rfl
  · rintro ρ s ⟨B, o, n, h0, h1, h7, h8, hn, hol, hod, hov, hs⟩
    have hnb : 0 ≤ (n : Int) ∧ (n : Int) ≤ (n : Int) ∧ (n : Int) ≤ 281474976710656 ∧ (8 : Int) * n ≤ 281474976710656 := by
      cases cube <;> simp [cubeN] at hn <;> omega
    simp (config := { implicitDefEqProofs := false }) only [↓GP, GQ, ↓awp_seq, ↓awp_block, C_ex, Nat.reduceBEq, acap, afieldAddr, aload, astore, abin, anum, astr, aun, isAggD, cond_true, cond_false, ↓reduceIte, C_P, C_G, isTuple, Value.cells, setL, ares, aresL, ares1, reduceCtorEq, Nat.reduceEqDiff, eq_self, Nat.reduceAdd, if_true, if_false, one, Nat.reduceLeDiff, undef, gsl, aextract, aindexAddr, amake, implies_true, forall_const, alen, abuiltin, anil, isC, Int.reduceEq, Int.reduceLT, Int.reduceLE, Int.reduceAdd, Int.reduceToNat, Int.reduceNeg, Nat.reduceMul, Nat.reduceSub, abuild, afill, Int.reduceBNe, Int.reduceBEq, h0, h1, h7, h8, Tryd.underlying62, asz46, azc46, aby46]
    have hzl : (s.new (.cells (ul (List.replicate n 0)) 46 true)) = s.new (.cells (zeros [Value.int IntKind.u64 0] n) 46 true) := by simp [ul, zeros, List.flatten_replicate_singleton]
    rw [← hzl]
    have hn6 : n ≤ 6 := by cases cube <;> simp [cubeN] at hn <;> omega
    refine ⟨hnb, ACallF.enter Tryd.func42 rfl (by kernel_rfl) (parts_spec _ _ p hp (hs.new (.cells (ul (List.replicate n 0)) 46 true)) _ _ fun v4 hg4 s4 hG4 hO4 => ?_)⟩
    obtain ⟨B4, rfl, rfl, hl4⟩ := hG4.out (by decide)
    have hsrc : asrc s4 1 (.slice (some ⟨B4, 0, some 0⟩) 4 4) = some (4, ul (partsN p 4)) := asrc_all hO4.head (by simp [ul_length, partsN_length])
    simp (config := { implicitDefEqProofs := false }) only [↓GP, GQ, ↓awp_seq, ↓awp_block, C_ex, Nat.reduceBEq, acap, afieldAddr, aload, astore, abin, anum, astr, aun, isAggD, cond_true, cond_false, ↓reduceIte, C_P, C_G, isTuple, Value.cells, setL, ares, aresL, ares1, reduceCtorEq, Nat.reduceEqDiff, eq_self, Nat.reduceAdd, if_true, if_false, one, Nat.reduceLeDiff, undef, gsl, aextract, aindexAddr, amake, implies_true, forall_const, alen, abuiltin, anil, isC, Int.reduceEq, Int.reduceLT, Int.reduceLE, Int.reduceAdd, Int.reduceToNat, Int.reduceNeg, Nat.reduceMul, Nat.reduceSub, abuild, afill, Int.reduceBNe, Int.reduceBEq, h0, h1, h7, h8,
      aappend_grow (st := s4) (t' := 62) (B := s.n) (off := 0) (len := n) (cap := n) (old := ul (List.replicate n 0)) Tryd.underlying62 (by rw [Tryd.underlying62]; rfl) asz46 azc46 aby46 hsrc (by simp [ul, one]) (hO4.get (o := .cells (ul (List.replicate n 0)) 46 true) (by simp)) (by omega) (by simp [cut, ul_length, ul]) (by omega)]
    have hO5 := (hO4.sub (show List.Sublist ((B, Ob.cells (ul o) 46 true) :: r) _ from (List.sublist_cons_self _ _).trans (List.sublist_cons_self _ _))).new (.cells (ul (List.replicate n 0) ++ ul (partsN p 4)) 46 true)
    have hol2 : n + 4 ≤ o.length := by rw [hol]; cases cube <;> simp [cubeN] at hn <;> subst hn <;> decide
    have hoL : o.length ≤ 12 := by rw [hol]; cases cube <;> simp [cubeN] at hn <;> subst hn <;> decide
    refine ⟨fun m ρ s => ∃ (j : Nat) (v : Value) (hg : Hp), m = o.length - (n + 4 + j) ∧ n + 4 + j ≤ o.length ∧ ρ 7 = .slice (some ⟨B, 0, none⟩) o.length o.length ∧ ρ 9 = v ∧
      GV v (ul (List.replicate n 0 ++ partsN p 4 ++ List.replicate j 0)) (n + 4 + j) 1 46 hg ∧ Own s (hg ++ ((B, .cells (ul o) 46 true) :: r)), ⟨_, 0, _, [(s4.n, .cells (ul (List.replicate n 0) ++ ul (partsN p 4)) 46 true)], rfl, hol2, h7, rfl, ?_, ?_⟩, ?_⟩
    · exact .inr ⟨s4.n, rfl, by simp [ul], by simp [ul, partsN_length]⟩
    · exact hO5
    rintro m ρ s ⟨j, v, hg, rfl, hj, h7, h9, hG, hs⟩
    obtain ⟨a9, ha9⟩ := hG.isSlice
    by_cases hjm : n + 4 + j < o.length
    · simp (config := { implicitDefEqProofs := false }) only [↓GP, GQ, ↓awp_seq, ↓awp_block, C_ex, Nat.reduceBEq, acap, afieldAddr, aload, astore, abin, anum, astr, aun, isAggD, cond_true, cond_false, ↓reduceIte, C_P, C_G, isTuple, Value.cells, setL, ares, aresL, ares1, reduceCtorEq, Nat.reduceEqDiff, eq_self, Nat.reduceAdd, if_true, if_false, one, Nat.reduceLeDiff, undef, gsl, aextract, aindexAddr, amake, implies_true, forall_const, alen, abuiltin, anil, isC, Int.reduceEq, Int.reduceLT, Int.reduceLE, Int.reduceAdd, Int.reduceToNat, Int.reduceNeg, Nat.reduceMul, Nat.reduceSub, abuild, afill, Int.reduceBNe, Int.reduceBEq, Tryd.underlying62, Tryd.underlying3, h7, h9, ha9, hjm, Int.ofNat_lt, decide_true, abuildSlice_one (st := s) (v := .int .u64 0) Tryd.underlying62 asz46 azc46 rfl rfl rfl (by decide)]
      rw [← ha9]
      refine GV.append1 Tryd.underlying62 (by rw [Tryd.underlying62]; rfl) asz46 azc46 (c := [.int .u64 0]) aby46 hG hs rfl rfl (by omega) fun v' hg' s' hG' hs' => ?_
      simp (config := { implicitDefEqProofs := false }) only [↓GP, GQ, ↓awp_seq, ↓awp_block, C_ex, Nat.reduceBEq, acap, afieldAddr, aload, astore, abin, anum, astr, aun, isAggD, cond_true, cond_false, ↓reduceIte, C_P, C_G, isTuple, Value.cells, setL, ares, aresL, ares1, reduceCtorEq, Nat.reduceEqDiff, eq_self, Nat.reduceAdd, if_true, if_false, one, Nat.reduceLeDiff, undef, gsl, aextract, aindexAddr, amake, implies_true, forall_const, alen, abuiltin, anil, isC, Int.reduceEq, Int.reduceLT, Int.reduceLE, Int.reduceAdd, Int.reduceToNat, Int.reduceNeg, Nat.reduceMul, Nat.reduceSub, abuild, afill, Int.reduceBNe, Int.reduceBEq, h7]
      refine ⟨o.length - (n + 4 + (j + 1)), by omega, j + 1, v', hg', rfl, by omega, rfl, ?_, hs'⟩
      have e : ul (List.replicate n 0 ++ partsN p 4 ++ List.replicate j 0) ++ [Value.int .u64 0] = ul (List.replicate n 0 ++ partsN p 4 ++ List.replicate (j + 1) 0) := by simp [ul, List.replicate_succ' (n := j)]
      rw [← e]; exact hG'
    · obtain hjL : n + 4 + j = o.length := by omega
      obtain ⟨B9, rfl, rfl, hl9⟩ := hG.out (by omega)
      injection ha9 with ha9 _ _
      simp (config := { implicitDefEqProofs := false }) only [↓GP, GQ, ↓awp_seq, ↓awp_block, C_ex, Nat.reduceBEq, acap, afieldAddr, aload, astore, abin, anum, astr, aun, isAggD, cond_true, cond_false, ↓reduceIte, C_P, C_G, isTuple, Value.cells, setL, ares, aresL, ares1, reduceCtorEq, Nat.reduceEqDiff, eq_self, Nat.reduceAdd, if_true, if_false, one, Nat.reduceLeDiff, undef, gsl, aextract, aindexAddr, amake, implies_true, forall_const, alen, abuiltin, anil, isC, Int.reduceEq, Int.reduceLT, Int.reduceLE, Int.reduceAdd, Int.reduceToNat, Int.reduceNeg, Nat.reduceMul, Nat.reduceSub, abuild, afill, Int.reduceBNe, Int.reduceBEq, Tryd.underlying62, Tryd.underlying3, h7, h9, hjL, Nat.lt_irrefl, Int.ofNat_lt, decide_false, w_i64 (x := (o.length : Int) - 1) (by omega)]
      have hwl : (List.replicate n 0 ++ partsN p 4 ++ List.replicate j 0).length = o.length := by simp [partsN_length]; omega
      have hwv : val (List.replicate n 0 ++ partsN p 4 ++ List.replicate j 0) = p * 65536 ^ n := by
        rw [val_append, val_append, val_zeros, val_zeros, val_parts, Nat.mod_eq_of_lt hp]; simp [Nat.mul_comm]
      have hwd : ∀ d ∈ List.replicate n 0 ++ partsN p 4 ++ List.replicate j 0, d < 65536 := by
        intro d hd
        simp only [List.mem_append, List.mem_replicate] at hd
        rcases hd with (⟨_, rfl⟩ | hd) | ⟨_, rfl⟩
        · decide
        · exact partsN_lt p 4 d hd
        · decide
      generalize List.replicate n 0 ++ partsN p 4 ++ List.replicate j 0 = w at *
      have hb : belowN y p cube = decide (val o ≤ val w) := by unfold belowN; rw [hov, hwv, hn]
      have hcw := hs.head
      have hco := hs.get (List.mem_cons_of_mem _ (List.mem_cons_self ..))
      have hOr : Own s r := hs.tail.tail
      refine ⟨fun m ρ s' => ∃ i : Nat, m = i ∧ i ≤ o.length ∧ ρ 7 = .slice (some ⟨B, 0, none⟩) o.length o.length ∧ ρ 9 = .slice (some ⟨B9, 0, some 0⟩) o.length o.length ∧ ρ 10 = .int .i64 ((i : Int) - 1) ∧
        (∀ j, i ≤ j → o.getD j 0 = w.getD j 0) ∧ s' = s, ⟨o.length, o.length, rfl, Nat.le_refl _, h7, show ρ 9 = _ by rw [h9, hjL], rfl, fun j hj => ?_, rfl⟩, ?_⟩
      · simp [List.getD_eq_getElem?_getD, List.getElem?_eq_none hj, List.getElem?_eq_none (show w.length ≤ j by omega)]
      rintro m ρ s' ⟨i, rfl, hi, h7, h9, h10, hE, rfl⟩
      cases m with
      | zero =>
        simp (config := { implicitDefEqProofs := false }) only [↓GP, GQ, ↓awp_seq, ↓awp_block, C_ex, Nat.reduceBEq, acap, afieldAddr, aload, astore, abin, anum, astr, aun, isAggD, cond_true, cond_false, ↓reduceIte, C_P, C_G, isTuple, Value.cells, setL, ares, aresL, ares1, reduceCtorEq, Nat.reduceEqDiff, eq_self, Nat.reduceAdd, if_true, if_false, one, Nat.reduceLeDiff, undef, gsl, aextract, aindexAddr, amake, implies_true, forall_const, alen, abuiltin, anil, isC, Int.reduceEq, Int.reduceLT, Int.reduceLE, Int.reduceAdd, Int.reduceToNat, Int.reduceNeg, Nat.reduceMul, Nat.reduceSub, abuild, afill, Int.reduceBNe, Int.reduceBEq, h7, h9, h10]
        refine ⟨fun h => absurd h (by decide), fun _ => ?_⟩
        have e : o = w := List.ext_getElem hwl.symm fun j h1 h2 => by
          have := hE j (Nat.zero_le _)
          simpa [List.getD_eq_getElem?_getD, h1, h2] using this
        have := hk _ hOr
        rw [hb, e, decide_eq_true (Nat.le_refl _)] at this
        exact this
      | succ i =>
        have hi1 : ((i + 1 : Nat) : Int) - 1 = (i : Int) := by omega
        have ho1 := ul_get (l := o) (i := i) (by omega)
        have hw1 := ul_get (l := w) (i := i) (by omega)
        rw [hi1] at h10
        simp (config := { implicitDefEqProofs := false }) only [↓GP, GQ, ↓awp_seq, ↓awp_block, C_ex, Nat.reduceBEq, acap, afieldAddr, aload, astore, abin, anum, astr, aun, isAggD, cond_true, cond_false, ↓reduceIte, C_P, C_G, isTuple, Value.cells, setL, ares, aresL, ares1, reduceCtorEq, Nat.reduceEqDiff, eq_self, Nat.reduceAdd, if_true, if_false, one, Nat.reduceLeDiff, undef, gsl, aextract, aindexAddr, amake, implies_true, forall_const, alen, abuiltin, anil, isC, Int.reduceEq, Int.reduceLT, Int.reduceLE, Int.reduceAdd, Int.reduceToNat, Int.reduceNeg, Nat.reduceMul, Nat.reduceSub, abuild, afill, Int.reduceBNe, Int.reduceBEq, h7, h9, h10, show (0 : Int) ≤ i from Int.natCast_nonneg _, decide_true, Tryd.underlying3]
        refine ADraw.of [(0, false, []), (1, false, []), (2, false, []), (3, false, []), (4, false, []), (5, false, []), (6, false, []), (7, false, []), (8, false, [])] [] [] (by kernel_rfl) ?_
        simp (config := { implicitDefEqProofs := false }) only [↓GP, GQ, ↓awp_seq, ↓awp_block, C_ex, Nat.reduceBEq, acap, afieldAddr, aload, astore, abin, anum, astr, aun, isAggD, cond_true, cond_false, ↓reduceIte, C_P, C_G, isTuple, Value.cells, setL, ares, aresL, ares1, reduceCtorEq, Nat.reduceEqDiff, eq_self, Nat.reduceAdd, if_true, if_false, one, Nat.reduceLeDiff, undef, gsl, aextract, aindexAddr, amake, implies_true, forall_const, alen, abuiltin, anil, isC, Int.reduceEq, Int.reduceLT, Int.reduceLE, Int.reduceAdd, Int.reduceToNat, Int.reduceNeg, Nat.reduceMul, Nat.reduceSub, abuild, afill, Int.reduceBNe, Int.reduceBEq, h7, h9, h10, Tryd.underlying62, Tryd.underlying46, asz46, hco, hcw, ho1, hw1]
        refine ⟨by omega, by omega, fun hne => ?_, fun heq => ⟨i, by omega, i, rfl, by omega, ?_, fun j hj => ?_⟩⟩
        · refine ADraw.of [(0, false, []), (1, false, []), (2, false, []), (3, false, []), (4, false, []), (5, false, []), (6, false, []), (7, false, []), (8, false, []), (9, false, [])] [] [] (by kernel_rfl) ?_
          simp (config := { implicitDefEqProofs := false }) only [↓GP, GQ, ↓awp_seq, ↓awp_block, C_ex, Nat.reduceBEq, acap, afieldAddr, aload, astore, abin, anum, astr, aun, isAggD, cond_true, cond_false, ↓reduceIte, C_P, C_G, isTuple, Value.cells, setL, ares, aresL, ares1, reduceCtorEq, Nat.reduceEqDiff, eq_self, Nat.reduceAdd, if_true, if_false, one, Nat.reduceLeDiff, undef, gsl, aextract, aindexAddr, amake, implies_true, forall_const, alen, abuiltin, anil, isC, Int.reduceEq, Int.reduceLT, Int.reduceLE, Int.reduceAdd, Int.reduceToNat, Int.reduceNeg, Nat.reduceMul, Nat.reduceSub, abuild, afill, Int.reduceBNe, Int.reduceBEq, h7, h9, h10, Tryd.underlying62, Tryd.underlying46, asz46, hco, hcw, ho1, hw1]
          refine ⟨by omega, by omega, ?_⟩
          have := hk _ hOr
          rw [hb] at this
          have e : decide (val o ≤ val w) = decide (((o.getD i 0 : Nat) : Int) < ((w.getD i 0 : Nat) : Int)) := by
            by_cases hlt : o.getD i 0 < w.getD i 0
            · have := val_lt_of o w i hwl.symm hod (by omega) (fun j hj => hE j (by omega)) hlt
              rw [decide_eq_true (by omega), decide_eq_true (by omega)]
            · have := val_lt_of w o i hwl hwd (by omega) (fun j hj => (hE j (by omega)).symm) (by omega)
              rw [decide_eq_false (by omega), decide_eq_false (by omega)]
          rw [e] at this
          exact this
        · rw [w_i64 (by omega)]
        · by_cases hj2 : j = i
          · subst hj2; omega
          · exact hE j (by omega)
end Go.Proofs.YtjkmcnhofpnoeaaDoor
