/- The reference's words. No conditions. -/
import Derived.Test.YtjkmcnhofpnoeaaDoorE10
set_option linter.unusedVariables false
set_option linter.unusedSimpArgs false
namespace Go.Proofs.YtjkmcnhofpnoeaaDoor
open Go Go.Abs Go.RowKit
variable {base : Nat} {w0 : World} {G : Nat}

def wl (l : List Nat) : List Value := l.map fun n => .int .u32 (n : Nat)
theorem wl_length (l : List Nat) : (wl l).length = l.length := by simp [wl]
theorem wl_get {l : List Nat} {i : Nat} (h : i < l.length) : (wl l)[i]? = some (.int .u32 (l.getD i 0 : Nat)) := by
  simp [wl, List.getD_eq_getElem?_getD, h]
theorem wl_set (l : List Nat) (i x : Nat) : (wl l).set i (.int .u32 x) = wl (l.set i x) := by simp [wl, List.map_set]
def rootsN (cube : Bool) (n : Nat) : List Nat := ((prs 310).take n).map fun p => rootI p cube 37 % 4294967296
def hs0 : List Nat := [1779033703, 3144134277, 1013904242, 2773480762, 1359893119, 2600822924, 528734635, 1541459225]
def ks0 : List Nat := [1116352408, 1899447441, 3049323471, 3921009573, 961987163, 1508970993, 2453635748, 2870763221, 3624381080, 310598401, 607225278, 1426881987, 1925078388, 2162078206, 2614888103, 3248222580, 3835390401, 4022224774, 264347078, 604807628, 770255983, 1249150122, 1555081692, 1996064986, 2554220882, 2821834349, 2952996808, 3210313671, 3336571891, 3584528711, 113926993, 338241895, 666307205, 773529912, 1294757372, 1396182291, 1695183700, 1986661051, 2177026350, 2456956037, 2730485921, 2820302411, 3259730800, 3345764771, 3516065817, 3600352804, 4094571909, 275423344, 430227734, 506948616, 659060556, 883997877, 958139571, 1322822218, 1537002063, 1747873779, 1955562222, 2024104815, 2227730452, 2361852424, 2428436474, 2756734187, 3204031479, 3329325298]
theorem rootsN_false : rootsN false 8 = hs0 := by unfold rootsN; rw [prs_310]; decide +kernel
theorem rootsN_true : rootsN true 64 = ks0 := by unfold rootsN; rw [prs_310]; decide +kernel
theorem prs_len64 : (prs 310).length = 64 := by rw [prs_310]; rfl
theorem rootsN_succ {cube : Bool} {i : Nat} (h : i < 64) : rootsN cube (i + 1) = rootsN cube i ++ [rootI ((prs 310).getD i 0) cube 37 % 4294967296] := by
  unfold rootsN
  rw [List.take_add_one, List.map_append, List.getD_eq_getElem?_getD, List.getElem?_eq_getElem (by rw [prs_len64]; exact h)]
  rfl

set_option maxRecDepth 10000 in
theorem Words_spec (st : St) (r : Hp) (hO : Own st r) (k q : Value → St → Prop)
    (hk : ∀ Bh Bk st', Own st' ((Bh, .cells (wl hs0) 47 true) :: (Bk, .cells (wl ks0) 47 true) :: r) → k (.tuple #[.slice (some ⟨Bh, 0, some 0⟩) 8 8, .slice (some ⟨Bk, 0, some 0⟩) 64 64]) st') :
    ACall (C base w0 G) 21 [] st k q := by
  refine ACall.of (cx := C base w0 G) mixed Tryd.func21 rfl (by kernel_rfl) (by simp [Tryd.ntmps21]) ?_
  simp only [Tryd.results21]
  simp (config := { implicitDefEqProofs := false }) only [↓GP, GQ, ↓awp_seq, ↓awp_block, C_ex, Nat.reduceBEq, acap, afieldAddr, aload, astore, abin, anum, astr, aun, isAggD, cond_true, cond_false, ↓reduceIte, C_P, C_G, isTuple, Value.cells, setL, ares, aresL, ares1, reduceCtorEq, Nat.reduceEqDiff, eq_self, Nat.reduceAdd, if_true, if_false, one, Nat.reduceLeDiff, undef, gsl, aextract, aindexAddr, amake, implies_true, forall_const, alen, abuiltin, anil, isC, Int.reduceEq, Int.reduceLT, Int.reduceLE, Int.reduceAdd, Int.reduceToNat, Int.reduceNeg, Nat.reduceMul, Nat.reduceSub, abuild, afill, Int.reduceBNe, Int.reduceBEq]
  refine ACallF.enter Tryd.func32 rfl (by kernel_rfl) (primes_spec st r hO _ _ fun vp hgp s1 hGp hO1 => ?_)
  obtain ⟨Bp, rfl, rfl, hlp⟩ := hGp.out (by decide)
  simp (config := { implicitDefEqProofs := false }) only [↓GP, GQ, ↓awp_seq, ↓awp_block, C_ex, Nat.reduceBEq, acap, afieldAddr, aload, astore, abin, anum, astr, aun, isAggD, cond_true, cond_false, ↓reduceIte, C_P, C_G, isTuple, Value.cells, setL, ares, aresL, ares1, reduceCtorEq, Nat.reduceEqDiff, eq_self, Nat.reduceAdd, if_true, if_false, one, Nat.reduceLeDiff, undef, gsl, aextract, aindexAddr, amake, implies_true, forall_const, alen, abuiltin, anil, isC, Int.reduceEq, Int.reduceLT, Int.reduceLE, Int.reduceAdd, Int.reduceToNat, Int.reduceNeg, Nat.reduceMul, Nat.reduceSub, abuild, afill, Int.reduceBNe, Int.reduceBEq]
  refine ⟨fun m ρ s => ∃ (i : Nat) (vh vk : Value) (hh hk : Hp), m = 64 - i ∧ i ≤ 64 ∧ ρ 2 = .slice (some ⟨Bp, 0, some 0⟩) 64 64 ∧ ρ 3 = vh ∧ ρ 4 = vk ∧ ρ 5 = .int .i64 i ∧ GV vh (wl (rootsN false (min i 8))) (min i 8) 1 47 hh ∧ GV vk (wl (rootsN true i)) i 1 47 hk ∧
    Own s (hh ++ (hk ++ ((Bp, .cells (ul (prs 310)) 46 true) :: r))), ⟨64, 0, _, _, [], [], rfl, by decide, rfl, rfl, rfl, rfl, GV.nil, GV.nil, hO1⟩, ?_⟩
  rintro m ρ s ⟨i, vh, vk, hh, hk1, rfl, hi, h2, h3, h4, h5, hGh, hGk, hs⟩
  by_cases him : i < 64
  · have hcp := hs.get (b := Bp) (o := .cells (ul (prs 310)) 46 true) (by simp)
    have hgp := ul_get (l := prs 310) (i := i) (by rw [prs_len64]; exact him)
    have hpl : (prs 310).getD i 0 < 18446744073709551616 := by
      have := prs_ge 310 ((prs 310).getD i 0) (by rw [List.getD_eq_getElem?_getD, List.getElem?_eq_getElem (by rw [prs_len64]; exact him)]; exact List.getElem_mem _)
      omega
    rw [stop3, awp_seq, awp_seq]
    simp (config := { implicitDefEqProofs := false }) only [↓GP, GQ, C_ex, Nat.reduceBEq, acap, afieldAddr, aload, astore, abin, anum, astr, aun, isAggD, cond_true, cond_false, ↓reduceIte, C_P, C_G, isTuple, Value.cells, setL, ares, aresL, ares1, reduceCtorEq, Nat.reduceEqDiff, eq_self, Nat.reduceAdd, if_true, if_false, one, Nat.reduceLeDiff, undef, gsl, aextract, aindexAddr, amake, implies_true, forall_const, alen, abuiltin, anil, isC, Int.reduceEq, Int.reduceLT, Int.reduceLE, Int.reduceAdd, Int.reduceToNat, Int.reduceNeg, Nat.reduceMul, Nat.reduceSub, abuild, afill, Int.reduceBNe, Int.reduceBEq, h2, h3, h4, h5, show (i : Int) < 64 by omega, decide_true]
    rw [awp_seq, awp_block]
    refine seq_cut (fun ρ s => ∃ (vh : Value) (hh : Hp), ρ 2 = .slice (some ⟨Bp, 0, some 0⟩) 64 64 ∧ ρ 3 = vh ∧ ρ 4 = vk ∧ ρ 5 = .int .i64 i ∧ GV vh (wl (rootsN false (min (i + 1) 8))) (min (i + 1) 8) 1 47 hh ∧
      Own s (hh ++ (hk1 ++ ((Bp, .cells (ul (prs 310)) 46 true) :: r)))) ?_ ?_
    · rw [awp_seq]
      by_cases hi8 : i < 8
      · rw [show min i 8 = i by omega] at hGh
        simp (config := { implicitDefEqProofs := false }) only [↓GP, GQ, ↓awp_seq, ↓awp_block, C_ex, Nat.reduceBEq, acap, afieldAddr, aload, astore, abin, anum, astr, aun, isAggD, cond_true, cond_false, ↓reduceIte, C_P, C_G, isTuple, Value.cells, setL, ares, aresL, ares1, reduceCtorEq, Nat.reduceEqDiff, eq_self, Nat.reduceAdd, if_true, if_false, one, Nat.reduceLeDiff, undef, gsl, aextract, aindexAddr, amake, implies_true, forall_const, alen, abuiltin, anil, isC, Int.reduceEq, Int.reduceLT, Int.reduceLE, Int.reduceAdd, Int.reduceToNat, Int.reduceNeg, Nat.reduceMul, Nat.reduceSub, abuild, afill, Int.reduceBNe, Int.reduceBEq, h2, h3, h4, h5, show (i : Int) < 8 by omega, decide_true, Tryd.underlying62, asz46, hcp, hgp, Tryd.underlying46]
        refine ⟨by omega, ?_⟩
        refine ACallF.enter Tryd.func33 rfl (by kernel_rfl) (root_spec s _ _ false hpl hs _ _ fun s' hs' => ?_)
        simp (config := { implicitDefEqProofs := false }) only [↓GP, GQ, ↓awp_seq, ↓awp_block, C_ex, Nat.reduceBEq, acap, afieldAddr, aload, astore, abin, anum, astr, aun, isAggD, cond_true, cond_false, ↓reduceIte, C_P, C_G, isTuple, Value.cells, setL, ares, aresL, ares1, reduceCtorEq, Nat.reduceEqDiff, eq_self, Nat.reduceAdd, if_true, if_false, one, Nat.reduceLeDiff, undef, gsl, aextract, aindexAddr, amake, implies_true, forall_const, alen, abuiltin, anil, isC, Int.reduceEq, Int.reduceLT, Int.reduceLE, Int.reduceAdd, Int.reduceToNat, Int.reduceNeg, Nat.reduceMul, Nat.reduceSub, abuild, afill, Int.reduceBNe, Int.reduceBEq, h3, abuildSlice_one (st := s') (v := .int .u32 (rootI ((prs 310).getD i 0) false 37 % 4294967296 : Nat)) Tryd.underlying28 asz47 azc47 rfl rfl rfl (by decide)]
        refine GV.append1 Tryd.underlying28 (by rw [Tryd.underlying28]; rfl) asz47 azc47 (c := [.int .u32 (rootI ((prs 310).getD i 0) false 37 % 4294967296 : Nat)]) aby47 hGh hs' rfl rfl (by omega) fun v' hg' s' hG' hs' => ?_
        simp (config := { implicitDefEqProofs := false }) only [↓GP, GQ, ↓awp_seq, ↓awp_block, C_ex, Nat.reduceBEq, acap, afieldAddr, aload, astore, abin, anum, astr, aun, isAggD, cond_true, cond_false, ↓reduceIte, C_P, C_G, isTuple, Value.cells, setL, ares, aresL, ares1, reduceCtorEq, Nat.reduceEqDiff, eq_self, Nat.reduceAdd, if_true, if_false, one, Nat.reduceLeDiff, undef, gsl, aextract, aindexAddr, amake, implies_true, forall_const, alen, abuiltin, anil, isC, Int.reduceEq, Int.reduceLT, Int.reduceLE, Int.reduceAdd, Int.reduceToNat, Int.reduceNeg, Nat.reduceMul, Nat.reduceSub, abuild, afill, Int.reduceBNe, Int.reduceBEq, h2, h4, h5]
        refine ⟨v', hg', rfl, ?_, hs'⟩
        rw [show min (i + 1) 8 = i + 1 by omega, rootsN_succ him]
        simpa [wl] using hG'
      · rw [show min i 8 = 8 by omega] at hGh
        simp (config := { implicitDefEqProofs := false }) only [↓GP, GQ, ↓awp_seq, ↓awp_block, C_ex, Nat.reduceBEq, acap, afieldAddr, aload, astore, abin, anum, astr, aun, isAggD, cond_true, cond_false, ↓reduceIte, C_P, C_G, isTuple, Value.cells, setL, ares, aresL, ares1, reduceCtorEq, Nat.reduceEqDiff, eq_self, Nat.reduceAdd, if_true, if_false, one, Nat.reduceLeDiff, undef, gsl, aextract, aindexAddr, amake, implies_true, forall_const, alen, abuiltin, anil, isC, Int.reduceEq, Int.reduceLT, Int.reduceLE, Int.reduceAdd, Int.reduceToNat, Int.reduceNeg, Nat.reduceMul, Nat.reduceSub, abuild, afill, Int.reduceBNe, Int.reduceBEq, h2, h3, h4, h5, show ¬ (i : Int) < 8 by omega, decide_false]
        exact ⟨_, hh, rfl, by rw [show min (i + 1) 8 = 8 by omega]; exact hGh, hs⟩
    · rintro ρ s ⟨vh, hh, h2, h3, h4, h5, hGh, hs⟩
      have hcp := hs.get (b := Bp) (o := .cells (ul (prs 310)) 46 true) (by simp)
      simp (config := { implicitDefEqProofs := false }) only [↓GP, GQ, ↓awp_seq, ↓awp_block, C_ex, Nat.reduceBEq, acap, afieldAddr, aload, astore, abin, anum, astr, aun, isAggD, cond_true, cond_false, ↓reduceIte, C_P, C_G, isTuple, Value.cells, setL, ares, aresL, ares1, reduceCtorEq, Nat.reduceEqDiff, eq_self, Nat.reduceAdd, if_true, if_false, one, Nat.reduceLeDiff, undef, gsl, aextract, aindexAddr, amake, implies_true, forall_const, alen, abuiltin, anil, isC, Int.reduceEq, Int.reduceLT, Int.reduceLE, Int.reduceAdd, Int.reduceToNat, Int.reduceNeg, Nat.reduceMul, Nat.reduceSub, abuild, afill, Int.reduceBNe, Int.reduceBEq, h2, h3, h4, h5, Tryd.underlying62, asz46, hcp, hgp, Tryd.underlying46]
      refine ⟨by omega, ?_⟩
      refine ACallF.enter Tryd.func33 rfl (by kernel_rfl) (root_spec s _ _ true hpl (hs.perm (perm_swap hh hk1 _)) _ _ fun s' hs' => ?_)
      simp (config := { implicitDefEqProofs := false }) only [↓GP, GQ, ↓awp_seq, ↓awp_block, C_ex, Nat.reduceBEq, acap, afieldAddr, aload, astore, abin, anum, astr, aun, isAggD, cond_true, cond_false, ↓reduceIte, C_P, C_G, isTuple, Value.cells, setL, ares, aresL, ares1, reduceCtorEq, Nat.reduceEqDiff, eq_self, Nat.reduceAdd, if_true, if_false, one, Nat.reduceLeDiff, undef, gsl, aextract, aindexAddr, amake, implies_true, forall_const, alen, abuiltin, anil, isC, Int.reduceEq, Int.reduceLT, Int.reduceLE, Int.reduceAdd, Int.reduceToNat, Int.reduceNeg, Nat.reduceMul, Nat.reduceSub, abuild, afill, Int.reduceBNe, Int.reduceBEq, h4, abuildSlice_one (st := s') (v := .int .u32 (rootI ((prs 310).getD i 0) true 37 % 4294967296 : Nat)) Tryd.underlying28 asz47 azc47 rfl rfl rfl (by decide)]
      refine GV.append1 Tryd.underlying28 (by rw [Tryd.underlying28]; rfl) asz47 azc47 (c := [.int .u32 (rootI ((prs 310).getD i 0) true 37 % 4294967296 : Nat)]) aby47 hGk hs' rfl rfl (by omega) fun v' hg' s' hG' hs' => ?_
      simp (config := { implicitDefEqProofs := false }) only [↓GP, GQ, ↓awp_seq, ↓awp_block, C_ex, Nat.reduceBEq, acap, afieldAddr, aload, astore, abin, anum, astr, aun, isAggD, cond_true, cond_false, ↓reduceIte, C_P, C_G, isTuple, Value.cells, setL, ares, aresL, ares1, reduceCtorEq, Nat.reduceEqDiff, eq_self, Nat.reduceAdd, if_true, if_false, one, Nat.reduceLeDiff, undef, gsl, aextract, aindexAddr, amake, implies_true, forall_const, alen, abuiltin, anil, isC, Int.reduceEq, Int.reduceLT, Int.reduceLE, Int.reduceAdd, Int.reduceToNat, Int.reduceNeg, Nat.reduceMul, Nat.reduceSub, abuild, afill, Int.reduceBNe, Int.reduceBEq, h2, h3, h5]
      refine ⟨64 - (i + 1), by omega, i + 1, vh, v', hh, hg', rfl, by omega, rfl, rfl, by rw [w_i64 (by omega)]; rfl, hGh, ?_, hs'.perm (perm_swap hg' hh _)⟩
      rw [rootsN_succ him]
      simpa [wl] using hG'
  · obtain rfl : i = 64 := by omega
    rw [show min 64 8 = 8 by decide, rootsN_false] at hGh
    rw [rootsN_true] at hGk
    obtain ⟨Bh, rfl, rfl, hlh⟩ := hGh.out (by decide)
    obtain ⟨Bk, rfl, rfl, hlk⟩ := hGk.out (by decide)
    simp (config := { implicitDefEqProofs := false }) only [↓GP, GQ, ↓awp_seq, ↓awp_block, C_ex, Nat.reduceBEq, acap, afieldAddr, aload, astore, abin, anum, astr, aun, isAggD, cond_true, cond_false, ↓reduceIte, C_P, C_G, isTuple, Value.cells, setL, ares, aresL, ares1, reduceCtorEq, Nat.reduceEqDiff, eq_self, Nat.reduceAdd, if_true, if_false, one, Nat.reduceLeDiff, undef, gsl, aextract, aindexAddr, amake, implies_true, forall_const, alen, abuiltin, anil, isC, Int.reduceEq, Int.reduceLT, Int.reduceLE, Int.reduceAdd, Int.reduceToNat, Int.reduceNeg, Nat.reduceMul, Nat.reduceSub, abuild, afill, Int.reduceBNe, Int.reduceBEq, h2, h3, h4, h5, show ¬ ((64 : Nat) : Int) < 64 by decide, decide_false]
    refine hk _ _ _ (hs.sub ?_)
    exact (List.Sublist.cons_cons _ (List.Sublist.cons_cons _ (List.sublist_cons_self _ _)))
end Go.Proofs.YtjkmcnhofpnoeaaDoor
