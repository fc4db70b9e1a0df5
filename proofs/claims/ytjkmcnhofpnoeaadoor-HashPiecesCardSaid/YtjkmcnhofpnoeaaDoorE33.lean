/- The reference's stretched passwords. No conditions. -/
import Derived.Test.YtjkmcnhofpnoeaaDoorE26
import Derived.Test.YtjkmcnhofpnoeaaDoorE29
import Derived.Test.YtjkmcnhofpnoeaaDoorAbsN
set_option linter.unusedVariables false
set_option linter.unusedSimpArgs false
namespace Go.Proofs.YtjkmcnhofpnoeaaDoor
open Go Go.Abs Go.RowKit
variable {base : Nat} {w0 : World} {G : Nat}

def fGVx (cs : List Value) (n : Nat) : Fact := ⟨fun h _ V => GVx V cs n 1 5 h, fun _ _ _ _ _ h => h⟩
def fGV (cs : List Value) (n : Nat) : Fact := ⟨fun h _ V => GV V cs n 1 5 h, fun _ _ _ _ _ h => h⟩
def fNb (l : List Nat) : Fact := ⟨fun h R V => h = [] ∧ Nb R V l, fun _ _ _ _ hs hb => ⟨hb.1, hb.2.sub hs⟩⟩
set_option maxHeartbeats 1000000 in
set_option maxRecDepth 10000 in
theorem RStretch_spec (st : St) (r : Hp) (pv sv : Value) (pw sa : List Nat) (rounds size Bh Bk : Nat) (oh okk : Bool) (hp : Nb r pv pw) (hs : Nb r sv sa) (hpl : pw.length ≤ 10000) (hsl : sa.length ≤ 10000) (hr1 : 1 ≤ rounds) (hr2 : rounds ≤ 100000) (hz1 : 1 ≤ size) (hz2 : size ≤ 64)
    (hH : (Bh, .cells (wl hs0) 47 oh) ∈ r) (hK : (Bk, .cells (wl ks0) 47 okk) ∈ r) (hO : Own st r) (k q : Value → St → Prop)
    (hk : ∀ B c hg st', c ≤ 2 → size ≤ 32 * c → Own st' ((B, .cells (nl (outS pw sa rounds c)) 5 true) :: (hg ++ r)) → k (.slice (some ⟨B, 0, some 0⟩) size (32 * c)) st') :
    ACall (C base w0 G) 16 [.agg #[.slice (some ⟨Bh, 0, some 0⟩) 8 8, .slice (some ⟨Bk, 0, some 0⟩) 64 64], pv, sv, .int .i64 rounds, .int .i64 size] st k q := by
  refine ACall.of (cx := C base w0 G) mixed Tryd.func16 rfl (by kernel_rfl) (by simp [Tryd.ntmps16]) ?_
  simp only [Tryd.results16]
  obtain ⟨TC, hTC⟩ : ∃ TC, TC = Ob.cells [.slice (some ⟨Bh, 0, some 0⟩) 8 8, .slice (some ⟨Bk, 0, some 0⟩) 64 64] 30 true := ⟨_, rfl⟩
  obtain ⟨T, hT⟩ : ∃ T, T = st.n := ⟨_, rfl⟩
  have hO1 := hO.new TC
  rw [← hT] at hO1
  obtain ⟨st1, hst1⟩ : ∃ s, s = st.new TC := ⟨_, rfl⟩
  have hR : ∀ e ∈ r, e ∈ (T, TC) :: r := fun e he => List.mem_cons_of_mem _ he
  simp (config := { implicitDefEqProofs := false }) only [↓GP, GQ, ↓awp_seq, ↓awp_block, C_ex, Nat.reduceBEq, acap, afieldAddr, aload, astore, abin, anum, astr, aun, isAggD, cond_true, cond_false, ↓reduceIte, C_P, C_G, isTuple, Value.cells, setL, ares, aresL, ares1, reduceCtorEq, Nat.reduceEqDiff, eq_self, Nat.reduceAdd, if_true, if_false, one, Nat.reduceLeDiff, undef, gsl, aextract, aindexAddr, amake, implies_true, forall_const, alen, abuiltin, anil, isC, Int.reduceEq, Int.reduceLT, Int.reduceLE, Int.reduceAdd, Int.reduceToNat, Int.reduceNeg, Nat.reduceMul, Nat.reduceSub, abuild, afill, Int.reduceBNe, Int.reduceBEq, abox]
  rw [← hTC, ← hT, ← hst1]
  rw [← hst1] at hO1
  refine ⟨fun m ρ s => ∃ (c : Nat) (vo : Value) (ho : Hp), m = 3 - c ∧ c ≤ 2 ∧ ρ 1 = pv ∧ ρ 2 = sv ∧ ρ 3 = .int .i64 rounds ∧ ρ 4 = .int .i64 size ∧ ρ 5 = .pointer (some ⟨T, 0, none⟩) ∧ ρ 11 = vo ∧ ρ 12 = .int .i64 (c + 1 : Nat) ∧ GV vo (nl (outS pw sa rounds c)) (32 * c) 1 5 ho ∧ Own s (ho ++ ((T, TC) :: r)),
    ⟨3, 0, _, [], rfl, by decide, rfl, rfl, rfl, rfl, rfl, rfl, rfl, GV.nil, hO1⟩, ?_⟩
  rintro m ρ s ⟨c, vo, ho, rfl, hc2, h1, h2, h3, h4, h5, h11, h12, hG, hOl⟩
  obtain ⟨ao, hvo⟩ := hG.isSlice
  by_cases hlt : 32 * c < size
  · have hc1 : c ≤ 1 := by omega
    simp (config := { implicitDefEqProofs := false }) only [↓GP, GQ, ↓awp_seq, ↓awp_block, C_ex, Nat.reduceBEq, acap, afieldAddr, aload, astore, abin, anum, astr, aun, isAggD, cond_true, cond_false, ↓reduceIte, C_P, C_G, isTuple, Value.cells, setL, ares, aresL, ares1, reduceCtorEq, Nat.reduceEqDiff, eq_self, Nat.reduceAdd, if_true, if_false, one, Nat.reduceLeDiff, undef, gsl, aextract, aindexAddr, amake, implies_true, forall_const, alen, abuiltin, anil, isC, Int.reduceEq, Int.reduceLT, Int.reduceLE, Int.reduceAdd, Int.reduceToNat, Int.reduceNeg, Nat.reduceMul, Nat.reduceSub, abuild, afill, Int.reduceBNe, Int.reduceBEq, h1, h2, h3, h4, h5, h11, h12, hvo, Tryd.underlying23, hlt, Int.ofNat_lt, decide_true]
    have hin : ∀ e ∈ r, e ∈ ho ++ ((T, TC) :: r) := fun e he => List.mem_append_right _ (hR e he)
    have hfl : sa ++ [0, 0, 0, c + 1] = sa ++ [0, 0, 0, c + 1] := rfl
    refine ADraw.facts [some 23, some 24, some 25, some 26, some 27, some 28, some 29, some 30, some 31, some 32, some 13] [[], [], [], [], [2, 3], [], [5], [5, 6], [2, 3, 4, 5, 6, 7], [0, 1, 2, 3, 4, 5, 6, 7, 8], [0, 1, 2, 3, 4, 5, 6, 7, 8, 9]] [[], [], [], [], [2], [], [], [], [4], [8], [9]] [.eq (.agg #[.slice (some ⟨Bh, 0, some 0⟩) 8 8, .slice (some ⟨Bk, 0, some 0⟩) 64 64]), .eq pv, fGVx [] 0, .eq sv, fGVx (nl sa) sa.length, .eq (.int .i64 (c + 1 : Nat)), .eq (.int .u8 (c + 1 : Nat)), fNb [0, 0, 0, c + 1], fGVx (nl (sa ++ [0, 0, 0, c + 1])) (sa.length + 4), fGV (nl (mac pw (sa ++ [0, 0, 0, c + 1]))) 32, fGV (nl (mac pw (sa ++ [0, 0, 0, c + 1]))) 32] [10] hOl (by kernel_rfl) (Steps.cons ?_ (Steps.cons ?_ (Steps.cons ?_ (Steps.cons ?_ (Steps.cons ?_ (Steps.cons ?_ (Steps.cons ?_ (Steps.cons ?_ (Steps.cons ?_ (Steps.cons ?_ (Steps.cons ?_ Steps.nil))))))))))) ?_
    · intro ρ s ow R X hB0 hF0 hP0 hO hX0 hR0
      have b5 := (hB0 5 rfl).trans h5
      replace hO : Own s X := hO
      have hcT : s.H T = some (.cells [.slice (some ⟨Bh, 0, some 0⟩) 8 8, .slice (some ⟨Bk, 0, some 0⟩) 64 64] 30 true) := by rw [← hTC]; exact hO.get (hX0 _ (hR0 _ (by simp)))
      simp (config := { implicitDefEqProofs := false }) only [↓GP, GQ, ↓awp_seq, ↓awp_block, C_ex, Nat.reduceBEq, acap, afieldAddr, aload, astore, abin, anum, astr, aun, isAggD, cond_true, cond_false, ↓reduceIte, C_P, C_G, isTuple, Value.cells, setL, ares, aresL, ares1, reduceCtorEq, Nat.reduceEqDiff, eq_self, Nat.reduceAdd, if_true, if_false, one, Nat.reduceLeDiff, undef, gsl, aextract, aindexAddr, amake, implies_true, forall_const, alen, abuiltin, anil, isC, Int.reduceEq, Int.reduceLT, Int.reduceLE, Int.reduceAdd, Int.reduceToNat, Int.reduceNeg, Nat.reduceMul, Nat.reduceSub, abuild, afill, Int.reduceBNe, Int.reduceBEq, b5, hcT, Tryd.underlying30, asz30, cut, List.drop_zero, List.take_succ_cons, List.take_zero]
      exact Gives.here hO ⟨rfl, rfl⟩
    · intro ρ s ow R X hB0 hF0 hP0 hO hX0 hR0
      have b1 := (hB0 1 rfl).trans h1
      replace hO : Own s X := hO
      simp (config := { implicitDefEqProofs := false }) only [↓GP, GQ, ↓awp_seq, ↓awp_block, C_ex, Nat.reduceBEq, acap, afieldAddr, aload, astore, abin, anum, astr, aun, isAggD, cond_true, cond_false, ↓reduceIte, C_P, C_G, isTuple, Value.cells, setL, ares, aresL, ares1, reduceCtorEq, Nat.reduceEqDiff, eq_self, Nat.reduceAdd, if_true, if_false, one, Nat.reduceLeDiff, undef, gsl, aextract, aindexAddr, amake, implies_true, forall_const, alen, abuiltin, anil, isC, Int.reduceEq, Int.reduceLT, Int.reduceLE, Int.reduceAdd, Int.reduceToNat, Int.reduceNeg, Nat.reduceMul, Nat.reduceSub, abuild, afill, Int.reduceBNe, Int.reduceBEq, b1]
      exact Gives.here hO ⟨rfl, rfl⟩
    · intro ρ s ow R X hB0 hF0 hP0 hO hX0 hR0
      replace hO : Own s X := hO
      simp (config := { implicitDefEqProofs := false }) only [↓GP, GQ, ↓awp_seq, ↓awp_block, C_ex, Nat.reduceBEq, acap, afieldAddr, aload, astore, abin, anum, astr, aun, isAggD, cond_true, cond_false, ↓reduceIte, C_P, C_G, isTuple, Value.cells, setL, ares, aresL, ares1, reduceCtorEq, Nat.reduceEqDiff, eq_self, Nat.reduceAdd, if_true, if_false, one, Nat.reduceLeDiff, undef, gsl, aextract, aindexAddr, amake, implies_true, forall_const, alen, abuiltin, anil, isC, Int.reduceEq, Int.reduceLT, Int.reduceLE, Int.reduceAdd, Int.reduceToNat, Int.reduceNeg, Nat.reduceMul, Nat.reduceSub, abuild, afill, Int.reduceBNe, Int.reduceBEq, buildSlice0 Tryd.underlying23 asz5 azc5]
      exact Gives.own [(s.n, .cells [] 5 true)] (hO.new _) GVx.empty
    · intro ρ s ow R X hB0 hF0 hP0 hO hX0 hR0
      have b2 := (hB0 2 rfl).trans h2
      replace hO : Own s X := hO
      simp (config := { implicitDefEqProofs := false }) only [↓GP, GQ, ↓awp_seq, ↓awp_block, C_ex, Nat.reduceBEq, acap, afieldAddr, aload, astore, abin, anum, astr, aun, isAggD, cond_true, cond_false, ↓reduceIte, C_P, C_G, isTuple, Value.cells, setL, ares, aresL, ares1, reduceCtorEq, Nat.reduceEqDiff, eq_self, Nat.reduceAdd, if_true, if_false, one, Nat.reduceLeDiff, undef, gsl, aextract, aindexAddr, amake, implies_true, forall_const, alen, abuiltin, anil, isC, Int.reduceEq, Int.reduceLT, Int.reduceLE, Int.reduceAdd, Int.reduceToNat, Int.reduceNeg, Nat.reduceMul, Nat.reduceSub, abuild, afill, Int.reduceBNe, Int.reduceBEq, b2]
      exact Gives.here hO ⟨rfl, rfl⟩
    · intro ρ s ow R X hB0 hF0 hP0 hO hX0 hR0
      have g2 : Fact.is (fGVx [] 0) (ow 2) R (ρ 25) := hF0 2 25 rfl rfl
      have g3 : ρ 26 = sv := (hF0 3 26 rfl rfl).2
      simp only [List.getD_cons_zero, List.getD_cons_succ, List.flatMap_cons, List.flatMap_nil, List.append_nil] at hO
      simp (config := { implicitDefEqProofs := false }) only [↓GP, GQ, ↓awp_seq, ↓awp_block, C_ex, Nat.reduceBEq, acap, afieldAddr, aload, astore, abin, anum, astr, aun, isAggD, cond_true, cond_false, ↓reduceIte, C_P, C_G, isTuple, Value.cells, setL, ares, aresL, ares1, reduceCtorEq, Nat.reduceEqDiff, eq_self, Nat.reduceAdd, if_true, if_false, one, Nat.reduceLeDiff, undef, gsl, aextract, aindexAddr, amake, implies_true, forall_const, alen, abuiltin, anil, isC, Int.reduceEq, Int.reduceLT, Int.reduceLE, Int.reduceAdd, Int.reduceToNat, Int.reduceNeg, Nat.reduceMul, Nat.reduceSub, abuild, afill, Int.reduceBNe, Int.reduceBEq, g3]
      have hsrc := (hs.sub fun e he => hX0 _ (hR0 _ (hin e he))).src hO.right
      refine GVx.append Tryd.underlying23 (by rw [Tryd.underlying23]; rfl) asz5 azc5 aby5 (show GVx (ρ 25) [] 0 1 5 (ow 2) from g2) hO hsrc (by rw [nl_length, Nat.mul_one]) (nl_one _) (by omega) fun v' hg' s' e1 e2 => ?_
      rw [List.nil_append, Nat.zero_add] at e1
      exact Gives.own hg' e2 e1
    · intro ρ s ow R X hB0 hF0 hP0 hO hX0 hR0
      have b12 := (hB0 12 rfl).trans h12
      replace hO : Own s X := hO
      simp (config := { implicitDefEqProofs := false }) only [↓GP, GQ, ↓awp_seq, ↓awp_block, C_ex, Nat.reduceBEq, acap, afieldAddr, aload, astore, abin, anum, astr, aun, isAggD, cond_true, cond_false, ↓reduceIte, C_P, C_G, isTuple, Value.cells, setL, ares, aresL, ares1, reduceCtorEq, Nat.reduceEqDiff, eq_self, Nat.reduceAdd, if_true, if_false, one, Nat.reduceLeDiff, undef, gsl, aextract, aindexAddr, amake, implies_true, forall_const, alen, abuiltin, anil, isC, Int.reduceEq, Int.reduceLT, Int.reduceLE, Int.reduceAdd, Int.reduceToNat, Int.reduceNeg, Nat.reduceMul, Nat.reduceSub, abuild, afill, Int.reduceBNe, Int.reduceBEq, b12]
      exact Gives.here hO ⟨rfl, rfl⟩
    · intro ρ s ow R X hB0 hF0 hP0 hO hX0 hR0
      have g5 : ρ 28 = (.int .i64 (c + 1 : Nat)) := (hF0 5 28 rfl rfl).2
      replace hO : Own s X := hO
      simp (config := { implicitDefEqProofs := false }) only [↓GP, GQ, ↓awp_seq, ↓awp_block, C_ex, Nat.reduceBEq, acap, afieldAddr, aload, astore, abin, anum, astr, aun, isAggD, cond_true, cond_false, ↓reduceIte, C_P, C_G, isTuple, Value.cells, setL, ares, aresL, ares1, reduceCtorEq, Nat.reduceEqDiff, eq_self, Nat.reduceAdd, if_true, if_false, one, Nat.reduceLeDiff, undef, gsl, aextract, aindexAddr, amake, implies_true, forall_const, alen, abuiltin, anil, isC, Int.reduceEq, Int.reduceLT, Int.reduceLE, Int.reduceAdd, Int.reduceToNat, Int.reduceNeg, Nat.reduceMul, Nat.reduceSub, abuild, afill, Int.reduceBNe, Int.reduceBEq, g5, aconv, Tryd.underlying3, Tryd.underlying5, w_u8n]
      rw [Nat.mod_eq_of_lt (by omega)]
      exact Gives.here hO ⟨rfl, rfl⟩
    · intro ρ s ow R X hB0 hF0 hP0 hO hX0 hR0
      have g6 : ρ 29 = (.int .u8 (c + 1 : Nat)) := (hF0 6 29 rfl rfl).2
      replace hO : Own s X := hO
      simp (config := { implicitDefEqProofs := false }) only [↓GP, GQ, ↓awp_seq, ↓awp_block, C_ex, Nat.reduceBEq, acap, afieldAddr, aload, astore, abin, anum, astr, aun, isAggD, cond_true, cond_false, ↓reduceIte, C_P, C_G, isTuple, Value.cells, setL, ares, aresL, ares1, reduceCtorEq, Nat.reduceEqDiff, eq_self, Nat.reduceAdd, if_true, if_false, one, Nat.reduceLeDiff, undef, gsl, aextract, aindexAddr, amake, implies_true, forall_const, alen, abuiltin, anil, isC, Int.reduceEq, Int.reduceLT, Int.reduceLE, Int.reduceAdd, Int.reduceToNat, Int.reduceNeg, Nat.reduceMul, Nat.reduceSub, abuild, afill, Int.reduceBNe, Int.reduceBEq, g6, build4']
      exact Gives.all [(s.n, .cells (nl [0, 0, 0, c + 1]) 5 true)] (hO.new _) ⟨rfl, nb_exact (l := [0, 0, 0, c + 1]) (by simp) (fun d hd => by
        simp only [List.mem_cons, List.not_mem_nil, or_false] at hd
        omega)⟩
    · intro ρ s ow R X hB0 hF0 hP0 hO hX0 hR0
      have g4 : Fact.is (fGVx (nl sa) sa.length) (ow 4) R (ρ 27) := hF0 4 27 rfl rfl
      have g7 : Fact.is (fNb [0, 0, 0, c + 1]) (ow 7) R (ρ 30) := hF0 7 30 rfl rfl
      simp only [List.getD_cons_zero, List.getD_cons_succ, List.flatMap_cons, List.flatMap_nil, List.append_nil] at hO
      simp (config := { implicitDefEqProofs := false }) only [↓GP, GQ, ↓awp_seq, ↓awp_block, C_ex, Nat.reduceBEq, acap, afieldAddr, aload, astore, abin, anum, astr, aun, isAggD, cond_true, cond_false, ↓reduceIte, C_P, C_G, isTuple, Value.cells, setL, ares, aresL, ares1, reduceCtorEq, Nat.reduceEqDiff, eq_self, Nat.reduceAdd, if_true, if_false, one, Nat.reduceLeDiff, undef, gsl, aextract, aindexAddr, amake, implies_true, forall_const, alen, abuiltin, anil, isC, Int.reduceEq, Int.reduceLT, Int.reduceLE, Int.reduceAdd, Int.reduceToNat, Int.reduceNeg, Nat.reduceMul, Nat.reduceSub, abuild, afill, Int.reduceBNe, Int.reduceBEq]
      have hsrc := (g7.2.sub hX0).src hO.right
      refine GVx.append Tryd.underlying23 (by rw [Tryd.underlying23]; rfl) asz5 azc5 aby5 (show GVx (ρ 27) (nl sa) sa.length 1 5 (ow 4) from g4) hO hsrc (by rw [nl_length, Nat.mul_one]) (nl_one _) (by show (sa.length + 4) * _ ≤ _; omega) fun v' hg' s' e1 e2 => ?_
      rw [← nl_append] at e1
      exact Gives.own hg' e2 e1
    · intro ρ s ow R X hB0 hF0 hP0 hO hX0 hR0
      have g0 : ρ 23 = (.agg #[.slice (some ⟨Bh, 0, some 0⟩) 8 8, .slice (some ⟨Bk, 0, some 0⟩) 64 64]) := (hF0 0 23 rfl rfl).2
      have g1 : ρ 24 = pv := (hF0 1 24 rfl rfl).2
      have g8 : Fact.is (fGVx (nl (sa ++ [0, 0, 0, c + 1])) (sa.length + 4)) (ow 8) R (ρ 31) := hF0 8 31 rfl rfl
      simp only [List.getD_cons_zero, List.getD_cons_succ, List.flatMap_cons, List.flatMap_nil, List.append_nil] at hO
      simp (config := { implicitDefEqProofs := false }) only [↓GP, GQ, ↓awp_seq, ↓awp_block, C_ex, Nat.reduceBEq, acap, afieldAddr, aload, astore, abin, anum, astr, aun, isAggD, cond_true, cond_false, ↓reduceIte, C_P, C_G, isTuple, Value.cells, setL, ares, aresL, ares1, reduceCtorEq, Nat.reduceEqDiff, eq_self, Nat.reduceAdd, if_true, if_false, one, Nat.reduceLeDiff, undef, gsl, aextract, aindexAddr, amake, implies_true, forall_const, alen, abuiltin, anil, isC, Int.reduceEq, Int.reduceLT, Int.reduceLE, Int.reduceAdd, Int.reduceToNat, Int.reduceNeg, Nat.reduceMul, Nat.reduceSub, abuild, afill, Int.reduceBNe, Int.reduceBEq, g0, g1]
      have hnb : Nb (ow 8 ++ X) (ρ 31) (sa ++ [0, 0, 0, c + 1]) := GVx.nb (show GVx (ρ 31) (nl (sa ++ [0, 0, 0, c + 1])) (sa.length + 4) 1 5 (ow 8) from g8) (by simp) (fun d hd => by
        rcases List.mem_append.1 hd with hd | hd
        · exact hs.2 d hd
        · simp only [List.mem_cons, List.not_mem_nil, or_false] at hd
          omega)
      have hin2 : ∀ e ∈ r, e ∈ ow 8 ++ X := fun e he => List.mem_append_right _ (hX0 _ (hR0 _ (hin e he)))
      refine ACallF.enter Tryd.func14 rfl (by kernel_rfl) (RMac_spec s (ow 8 ++ X) pv (ρ 31) pw (sa ++ [0, 0, 0, c + 1]) Bh Bk oh okk (hp.sub hin2) hnb (by omega) (by simp; omega) (hin2 _ hH) (hin2 _ hK) hO _ _ fun v hg st' e1 e2 => ?_)
      exact Gives.own hg (e2.sub (List.Sublist.append_left (List.sublist_append_right _ _) _)) e1
    · intro ρ s ow R X hB0 hF0 hP0 hO hX0 hR0
      have g9 : Fact.is (fGV (nl (mac pw (sa ++ [0, 0, 0, c + 1]))) 32) (ow 9) R (ρ 32) := hF0 9 32 rfl rfl
      simp only [List.getD_cons_zero, List.getD_cons_succ, List.flatMap_cons, List.flatMap_nil, List.append_nil] at hO
      simp (config := { implicitDefEqProofs := false }) only [↓GP, GQ, ↓awp_seq, ↓awp_block, C_ex, Nat.reduceBEq, acap, afieldAddr, aload, astore, abin, anum, astr, aun, isAggD, cond_true, cond_false, ↓reduceIte, C_P, C_G, isTuple, Value.cells, setL, ares, aresL, ares1, reduceCtorEq, Nat.reduceEqDiff, eq_self, Nat.reduceAdd, if_true, if_false, one, Nat.reduceLeDiff, undef, gsl, aextract, aindexAddr, amake, implies_true, forall_const, alen, abuiltin, anil, isC, Int.reduceEq, Int.reduceLT, Int.reduceLE, Int.reduceAdd, Int.reduceToNat, Int.reduceNeg, Nat.reduceMul, Nat.reduceSub, abuild, afill, Int.reduceBNe, Int.reduceBEq]
      exact Gives.own (ow 9) hO g9
    · intro ρ s ow R hB0 hF0 hO hR0
      have b1 := (hB0 1 rfl).trans h1
      have b2 := (hB0 2 rfl).trans h2
      have b5 := (hB0 5 rfl).trans h5
      have b12 := (hB0 12 rfl).trans h12
      have b3 := (hB0 3 rfl).trans h3
      have b4 := (hB0 4 rfl).trans h4
      have b11 := (hB0 11 rfl).trans h11
      have g10 : Fact.is (fGV (nl (mac pw (sa ++ [0, 0, 0, c + 1]))) 32) (ow 10) R (ρ 13) := hF0 10 13 rfl rfl
      simp only [List.flatMap_cons, List.flatMap_nil, List.append_nil, List.nil_append] at hO
      have hO2 := hO.back hR0 hOl
      obtain ⟨bu, h13, hou, hbu⟩ := GV.out (show GV (ρ 13) (nl (mac pw (sa ++ [0, 0, 0, c + 1]))) 32 1 5 (ow 10) from g10) (by decide)
      rw [hou] at hO2
      have hll : (sa ++ [0, 0, 0, c + 1]).length ≤ 10004 := by rw [List.length_append]; show sa.length + 4 ≤ 10004; omega
      have hsb : outS pw sa rounds (c + 1) = outS pw sa rounds c ++ xN pw (sa ++ [0, 0, 0, c + 1]) (rounds - 1) := rfl
      have hO3 := hO2.new (.cells [] 5 true)
      have hsrc : asrc (s.new (.cells [] 5 true)) 1 (.slice (some ⟨bu, 0, some 0⟩) 32 32) = some (32, nl (mac pw (sa ++ [0, 0, 0, c + 1]))) := asrc_whole (hO3.get (List.mem_cons_of_mem _ (List.mem_cons_self ..))) (by rw [nl_length, mac_length, Nat.mul_one])
      simp (config := { implicitDefEqProofs := false }) only [↓GP, GQ, ↓awp_seq, ↓awp_block, C_ex, Nat.reduceBEq, acap, afieldAddr, aload, astore, abin, anum, astr, aun, isAggD, cond_true, cond_false, ↓reduceIte, C_P, C_G, isTuple, Value.cells, setL, ares, aresL, ares1, reduceCtorEq, Nat.reduceEqDiff, eq_self, Nat.reduceAdd, if_true, if_false, one, Nat.reduceLeDiff, undef, gsl, aextract, aindexAddr, amake, implies_true, forall_const, alen, abuiltin, anil, isC, Int.reduceEq, Int.reduceLT, Int.reduceLE, Int.reduceAdd, Int.reduceToNat, Int.reduceNeg, Nat.reduceMul, Nat.reduceSub, abuild, afill, Int.reduceBNe, Int.reduceBEq, b1, b2, b3, b4, b5, b11, b12, h13, Tryd.underlying23, buildSlice0 Tryd.underlying23 asz5 azc5]
      refine GVx.appendN Tryd.underlying23 (by rw [Tryd.underlying23]; rfl) asz5 azc5 aby5 (GVx.empty (b := s.n)) hO3 hsrc (by decide) (by rw [nl_length, mac_length, Nat.mul_one]) (nl_one _) (by decide) fun v' hg' s2 hG2 hO4 => ?_
      rw [List.nil_append, Nat.zero_add] at hG2
      obtain ⟨bx, rfl, rfl, hbx⟩ := hG2.out (by decide)
      simp (config := { implicitDefEqProofs := false }) only [↓GP, GQ, ↓awp_seq, ↓awp_block, C_ex, Nat.reduceBEq, acap, afieldAddr, aload, astore, abin, anum, astr, aun, isAggD, cond_true, cond_false, ↓reduceIte, C_P, C_G, isTuple, Value.cells, setL, ares, aresL, ares1, reduceCtorEq, Nat.reduceEqDiff, eq_self, Nat.reduceAdd, if_true, if_false, one, Nat.reduceLeDiff, undef, gsl, aextract, aindexAddr, amake, implies_true, forall_const, alen, abuiltin, anil, isC, Int.reduceEq, Int.reduceLT, Int.reduceLE, Int.reduceAdd, Int.reduceToNat, Int.reduceNeg, Nat.reduceMul, Nat.reduceSub, abuild, afill, Int.reduceBNe, Int.reduceBEq, b1, b2, b3, b4, b5, b11, b12, h13]
      generalize sa ++ [0, 0, 0, c + 1] = ll at *
      refine ⟨fun m ρ s => ∃ (n bu : Nat), m = rounds - 1 - n ∧ n ≤ rounds - 1 ∧ ρ 1 = pv ∧ ρ 2 = sv ∧ ρ 3 = .int .i64 rounds ∧ ρ 4 = .int .i64 size ∧ ρ 5 = .pointer (some ⟨T, 0, none⟩) ∧ ρ 11 = vo ∧ ρ 12 = .int .i64 (c + 1 : Nat) ∧ ρ 13 = .slice (some ⟨bu, 0, some 0⟩) 32 32 ∧ ρ 14 = .slice (some ⟨bx, 0, some 0⟩) 32 32 ∧ ρ 15 = .int .i64 (n + 1 : Nat) ∧
        Own s ((bx, .cells (nl (xN pw ll n)) 5 true) :: (bu, .cells (nl (uN pw ll n)) 5 true) :: (ho ++ ((T, TC) :: r))), ⟨rounds - 1, 0, bu, rfl, Nat.zero_le _, b1, b2, b3, b4, b5, b11, b12, h13, rfl, rfl, hO4⟩, ?_⟩
      clear b1 b2 b3 b4 b5 b11 b12 h13 hO hO2 hO3 hO4 hG2 g10 hbu hbx hsrc h1 h2 h3 h4 h5 h11 h12 hOl
      rintro m ρ s ⟨n, bu, rfl, hn, h1, h2, h3, h4, h5, h11, h12, h13, h14, h15, hO⟩
      by_cases hnr : n < rounds - 1
      · have hcT : s.H T = some (.cells [.slice (some ⟨Bh, 0, some 0⟩) 8 8, .slice (some ⟨Bk, 0, some 0⟩) 64 64] 30 true) := by rw [← hTC]; exact hO.get (by simp)
        simp (config := { implicitDefEqProofs := false }) only [↓GP, GQ, ↓awp_seq, ↓awp_block, C_ex, Nat.reduceBEq, acap, afieldAddr, aload, astore, abin, anum, astr, aun, isAggD, cond_true, cond_false, ↓reduceIte, C_P, C_G, isTuple, Value.cells, setL, ares, aresL, ares1, reduceCtorEq, Nat.reduceEqDiff, eq_self, Nat.reduceAdd, if_true, if_false, one, Nat.reduceLeDiff, undef, gsl, aextract, aindexAddr, amake, implies_true, forall_const, alen, abuiltin, anil, isC, Int.reduceEq, Int.reduceLT, Int.reduceLE, Int.reduceAdd, Int.reduceToNat, Int.reduceNeg, Nat.reduceMul, Nat.reduceSub, abuild, afill, Int.reduceBNe, Int.reduceBEq, h1, h2, h3, h4, h5, h11, h12, h13, h14, h15, show ((n + 1 : Nat) : Int) < (rounds : Int) by omega, decide_true, hcT, Tryd.underlying30, asz30, cut, List.drop_zero, List.take_succ_cons, List.take_zero]
        have hin2 : ∀ e ∈ r, e ∈ (bx, Ob.cells (nl (xN pw ll n)) 5 true) :: (bu, .cells (nl (uN pw ll n)) 5 true) :: (ho ++ ((T, TC) :: r)) := fun e he => List.mem_cons_of_mem _ (List.mem_cons_of_mem _ (hin e he))
        have hnbu : Nb ((bx, Ob.cells (nl (xN pw ll n)) 5 true) :: (bu, .cells (nl (uN pw ll n)) 5 true) :: (ho ++ ((T, TC) :: r))) (.slice (some ⟨bu, 0, some 0⟩) 32 32) (uN pw ll n) := by
          have := nb_exact (b := bu) (l := uN pw ll n) (sp := some 0) (c := 32) (h := (bx, Ob.cells (nl (xN pw ll n)) 5 true) :: (bu, .cells (nl (uN pw ll n)) 5 true) :: (ho ++ ((T, TC) :: r))) (by simp) (uN_lt _ _ _)
          rw [uN_length] at this
          exact this
        refine ACallF.enter Tryd.func14 rfl (by kernel_rfl) (RMac_spec s _ pv _ pw (uN pw ll n) Bh Bk oh okk (hp.sub hin2) hnbu (by omega) (by rw [uN_length]; decide) (hin2 _ hH) (hin2 _ hK) hO _ _ fun vu hu s1 hGu hO3 => ?_)
        obtain ⟨bv, rfl, rfl, hbv⟩ := hGu.out (by decide)
        have hO4 : Own s1 ((bx, .cells (nl (xN pw ll n)) 5 true) :: (bv, .cells (nl (uN pw ll (n + 1))) 5 true) :: (ho ++ ((T, TC) :: r))) := (hO3.sub (List.Sublist.cons_cons _ (List.Sublist.cons_cons _ (List.sublist_cons_self _ _)))).perm (List.Perm.swap _ _ _)
        simp (config := { implicitDefEqProofs := false }) only [↓GP, GQ, ↓awp_seq, ↓awp_block, C_ex, Nat.reduceBEq, acap, afieldAddr, aload, astore, abin, anum, astr, aun, isAggD, cond_true, cond_false, ↓reduceIte, C_P, C_G, isTuple, Value.cells, setL, ares, aresL, ares1, reduceCtorEq, Nat.reduceEqDiff, eq_self, Nat.reduceAdd, if_true, if_false, one, Nat.reduceLeDiff, undef, gsl, aextract, aindexAddr, amake, implies_true, forall_const, alen, abuiltin, anil, isC, Int.reduceEq, Int.reduceLT, Int.reduceLE, Int.reduceAdd, Int.reduceToNat, Int.reduceNeg, Nat.reduceMul, Nat.reduceSub, abuild, afill, Int.reduceBNe, Int.reduceBEq, Tryd.underlying23, h1, h2, h3, h4, h5, h11, h12, h14, h15]
        refine ⟨fun m ρ s => ∃ (j : Nat), m = 32 - j ∧ j ≤ 32 ∧ ρ 1 = pv ∧ ρ 2 = sv ∧ ρ 3 = .int .i64 rounds ∧ ρ 4 = .int .i64 size ∧ ρ 5 = .pointer (some ⟨T, 0, none⟩) ∧ ρ 11 = vo ∧ ρ 12 = .int .i64 (c + 1 : Nat) ∧ ρ 13 = .slice (some ⟨bv, 0, some 0⟩) 32 32 ∧ ρ 14 = .slice (some ⟨bx, 0, some 0⟩) 32 32 ∧ ρ 15 = .int .i64 (n + 1 : Nat) ∧ ρ 16 = .int .i64 j ∧
          Own s ((bx, .cells (nl (xorI (xN pw ll n) (uN pw ll (n + 1)) j)) 5 true) :: (bv, .cells (nl (uN pw ll (n + 1))) 5 true) :: (ho ++ ((T, TC) :: r))), ⟨32, 0, rfl, Nat.zero_le _, h1, h2, h3, h4, h5, h11, h12, rfl, h14, h15, rfl, hO4⟩, ?_⟩
        have hul := uN_length pw ll (n + 1)
        have hud := uN_lt pw ll (n + 1)
        have hxl := xorI_length (xN pw ll n) (uN pw ll (n + 1))
        have hxd := xorI_lt (xN_lt pw ll n) hud
        have hxn := xN_length pw ll n
        have hxs : xN pw ll (n + 1) = xorI (xN pw ll n) (uN pw ll (n + 1)) 32 := rfl
        have hus : ∀ j, xorI (xN pw ll n) (uN pw ll (n + 1)) (j + 1) = (xorI (xN pw ll n) (uN pw ll (n + 1)) j).set j ((xorI (xN pw ll n) (uN pw ll (n + 1)) j).getD j 0 ^^^ (uN pw ll (n + 1)).getD j 0) := fun j => rfl
        clear h1 h2 h3 h4 h5 h11 h12 h13 h14 h15 hO hO3 hO4 hin2 hnbu hGu hbv hcT
        rintro m ρ s ⟨j, rfl, hj, h1, h2, h3, h4, h5, h11, h12, h13, h14, h15, h16, hO⟩
        by_cases hj2 : j < 32
        · have g1 := nl_get (l := xorI (xN pw ll n) (uN pw ll (n + 1)) j) (i := j) (by rw [hxl, hxn]; exact hj2)
          have g2 := nl_get (l := uN pw ll (n + 1)) (i := j) (by rw [hul]; exact hj2)
          have hb1 := getD8 (hxd j) j
          have hb2 := getD8 hud j
          have c1 := hO.head
          have c2 := hO.tail.head
          have hset := hus j
          have hl2 := hxl j
          have hn2 := nl_length (xorI (xN pw ll n) (uN pw ll (n + 1)) j)
          have hn3 := nl_length (uN pw ll (n + 1))
          rw [hxn] at hl2
          rw [hl2] at hn2
          rw [hul] at hn3
          simp (config := { implicitDefEqProofs := false }) only [↓GP, GQ, ↓awp_seq, ↓awp_block, C_ex, Nat.reduceBEq, acap, afieldAddr, aload, astore, abin, anum, astr, aun, isAggD, cond_true, cond_false, ↓reduceIte, C_P, C_G, isTuple, Value.cells, setL, ares, aresL, ares1, reduceCtorEq, Nat.reduceEqDiff, eq_self, Nat.reduceAdd, if_true, if_false, one, Nat.reduceLeDiff, undef, gsl, aextract, aindexAddr, amake, implies_true, forall_const, alen, abuiltin, anil, isC, Int.reduceEq, Int.reduceLT, Int.reduceLE, Int.reduceAdd, Int.reduceToNat, Int.reduceNeg, Nat.reduceMul, Nat.reduceSub, abuild, afill, Int.reduceBNe, Int.reduceBEq, h1, h2, h3, h4, h5, h11, h12, h13, h14, h15, h16, show (j : Int) < 32 by omega, decide_true]
          refine ADraw.of [(0, false, []), (1, false, []), (2, false, []), (3, false, []), (4, false, []), (5, false, []), (6, false, []), (7, false, []), (8, false, []), (9, false, []), (10, false, []), (11, false, []), (12, false, [])] [] [] (by kernel_rfl) ?_
          simp (config := { implicitDefEqProofs := false }) only [↓GP, GQ, ↓awp_seq, ↓awp_block, C_ex, Nat.reduceBEq, acap, afieldAddr, aload, astore, abin, anum, astr, aun, isAggD, cond_true, cond_false, ↓reduceIte, C_P, C_G, isTuple, Value.cells, setL, ares, aresL, ares1, reduceCtorEq, Nat.reduceEqDiff, eq_self, Nat.reduceAdd, if_true, if_false, one, Nat.reduceLeDiff, undef, gsl, aextract, aindexAddr, amake, implies_true, forall_const, alen, abuiltin, anil, isC, Int.reduceEq, Int.reduceLT, Int.reduceLE, Int.reduceAdd, Int.reduceToNat, Int.reduceNeg, Nat.reduceMul, Nat.reduceSub, abuild, afill, Int.reduceBNe, Int.reduceBEq, h1, h2, h3, h4, h5, h11, h12, h13, h14, h15, h16, Tryd.underlying23, Tryd.underlying5, asz5, c1, c2, g1, g2, bits_xor8 hb1 hb2, nl_set, ← hset]
          exact ⟨by omega, by omega, by omega, by rw [hn2]; exact hj2, 32 - (j + 1), by omega, j + 1, rfl, by omega, by rw [w_i64 (by omega)]; rfl, hO.set rfl (.cells (nl (xorI (xN pw ll n) (uN pw ll (n + 1)) (j + 1))) 5 true) rfl⟩
        · obtain rfl : j = 32 := by omega
          simp (config := { implicitDefEqProofs := false }) only [↓GP, GQ, ↓awp_seq, ↓awp_block, C_ex, Nat.reduceBEq, acap, afieldAddr, aload, astore, abin, anum, astr, aun, isAggD, cond_true, cond_false, ↓reduceIte, C_P, C_G, isTuple, Value.cells, setL, ares, aresL, ares1, reduceCtorEq, Nat.reduceEqDiff, eq_self, Nat.reduceAdd, if_true, if_false, one, Nat.reduceLeDiff, undef, gsl, aextract, aindexAddr, amake, implies_true, forall_const, alen, abuiltin, anil, isC, Int.reduceEq, Int.reduceLT, Int.reduceLE, Int.reduceAdd, Int.reduceToNat, Int.reduceNeg, Nat.reduceMul, Nat.reduceSub, abuild, afill, Int.reduceBNe, Int.reduceBEq, h1, h2, h3, h4, h5, h11, h12, h13, h14, h15, h16, Nat.lt_irrefl, Int.ofNat_lt, decide_false]
          rw [← hxs] at hO
          exact ⟨rounds - 1 - (n + 1), by omega, n + 1, bv, rfl, by omega, rfl, by rw [w_i64 (by omega)]; rfl, hO⟩
      · obtain rfl : n = rounds - 1 := by omega
        simp (config := { implicitDefEqProofs := false }) only [↓GP, GQ, ↓awp_seq, ↓awp_block, C_ex, Nat.reduceBEq, acap, afieldAddr, aload, astore, abin, anum, astr, aun, isAggD, cond_true, cond_false, ↓reduceIte, C_P, C_G, isTuple, Value.cells, setL, ares, aresL, ares1, reduceCtorEq, Nat.reduceEqDiff, eq_self, Nat.reduceAdd, if_true, if_false, one, Nat.reduceLeDiff, undef, gsl, aextract, aindexAddr, amake, implies_true, forall_const, alen, abuiltin, anil, isC, Int.reduceEq, Int.reduceLT, Int.reduceLE, Int.reduceAdd, Int.reduceToNat, Int.reduceNeg, Nat.reduceMul, Nat.reduceSub, abuild, afill, Int.reduceBNe, Int.reduceBEq, h1, h2, h3, h4, h5, h11, h12, h13, h14, h15, show ¬ ((rounds - 1 + 1 : Nat) : Int) < (rounds : Int) by omega, decide_false]
        have hO1 : Own s (ho ++ ((bx, .cells (nl (xN pw ll (rounds - 1))) 5 true) :: (bu, .cells (nl (uN pw ll (rounds - 1))) 5 true) :: ((T, TC) :: r))) := hO.perm (perm_swap [(bx, Ob.cells (nl (xN pw ll (rounds - 1))) 5 true), (bu, .cells (nl (uN pw ll (rounds - 1))) 5 true)] ho ((T, TC) :: r))
        refine GV.append Tryd.underlying23 (by rw [Tryd.underlying23]; rfl) asz5 azc5 aby5 hG hO1 (asrc_whole hO.head (by rw [nl_length, xN_length, Nat.mul_one])) (by decide) (by rw [nl_length, xN_length, Nat.mul_one]) (nl_one _) (by omega) fun v' hg' s' hG' hO2 => ?_
        simp (config := { implicitDefEqProofs := false }) only [↓GP, GQ, ↓awp_seq, ↓awp_block, C_ex, Nat.reduceBEq, acap, afieldAddr, aload, astore, abin, anum, astr, aun, isAggD, cond_true, cond_false, ↓reduceIte, C_P, C_G, isTuple, Value.cells, setL, ares, aresL, ares1, reduceCtorEq, Nat.reduceEqDiff, eq_self, Nat.reduceAdd, if_true, if_false, one, Nat.reduceLeDiff, undef, gsl, aextract, aindexAddr, amake, implies_true, forall_const, alen, abuiltin, anil, isC, Int.reduceEq, Int.reduceLT, Int.reduceLE, Int.reduceAdd, Int.reduceToNat, Int.reduceNeg, Nat.reduceMul, Nat.reduceSub, abuild, afill, Int.reduceBNe, Int.reduceBEq, h1, h2, h3, h4, h5, h11, h12]
        rw [← nl_append, ← hsb] at hG'
        refine ⟨3 - (c + 1), by omega, c + 1, v', hg', rfl, by omega, rfl, by rw [w_i64 (by omega)]; rfl, ?_, hO2.sub (List.Sublist.append_left ((List.sublist_cons_self _ _).trans (List.sublist_cons_self _ _)) hg')⟩
        rw [show 32 * (c + 1) = 32 * c + 32 from rfl]; exact hG'
  · simp (config := { implicitDefEqProofs := false }) only [↓GP, GQ, ↓awp_seq, ↓awp_block, C_ex, Nat.reduceBEq, acap, afieldAddr, aload, astore, abin, anum, astr, aun, isAggD, cond_true, cond_false, ↓reduceIte, C_P, C_G, isTuple, Value.cells, setL, ares, aresL, ares1, reduceCtorEq, Nat.reduceEqDiff, eq_self, Nat.reduceAdd, if_true, if_false, one, Nat.reduceLeDiff, undef, gsl, aextract, aindexAddr, amake, implies_true, forall_const, alen, abuiltin, anil, isC, Int.reduceEq, Int.reduceLT, Int.reduceLE, Int.reduceAdd, Int.reduceToNat, Int.reduceNeg, Nat.reduceMul, Nat.reduceSub, abuild, afill, Int.reduceBNe, Int.reduceBEq, h1, h2, h3, h4, h5, h11, h12, hvo, Tryd.underlying23, hlt, Int.ofNat_lt, decide_false]
    rw [← hvo]
    obtain ⟨B, rfl, rfl, _⟩ := hG.out (by omega)
    have hsl : aslice Tryd.prog s 23 (.slice (some ⟨B, 0, some 0⟩) (32 * c) (32 * c)) none (some (.int .i64 size)) none = some (.slice (some ⟨B, 0, some 0⟩) size (32 * c)) := by
      rw [aslice_of (hi := some (.int .i64 size)) Tryd.underlying23 asz5 (openOK_open hOl.head asz5) (abounds_hi (by omega))]
      rfl
    simp (config := { implicitDefEqProofs := false }) only [↓GP, GQ, ↓awp_seq, ↓awp_block, C_ex, Nat.reduceBEq, acap, afieldAddr, aload, astore, abin, anum, astr, aun, isAggD, cond_true, cond_false, ↓reduceIte, C_P, C_G, isTuple, Value.cells, setL, ares, aresL, ares1, reduceCtorEq, Nat.reduceEqDiff, eq_self, Nat.reduceAdd, if_true, if_false, one, Nat.reduceLeDiff, undef, gsl, aextract, aindexAddr, amake, implies_true, forall_const, alen, abuiltin, anil, isC, Int.reduceEq, Int.reduceLT, Int.reduceLE, Int.reduceAdd, Int.reduceToNat, Int.reduceNeg, Nat.reduceMul, Nat.reduceSub, abuild, afill, Int.reduceBNe, Int.reduceBEq, hsl]
    exact hk B c [(T, TC)] s hc2 (by omega) hOl
end Go.Proofs.YtjkmcnhofpnoeaaDoor
