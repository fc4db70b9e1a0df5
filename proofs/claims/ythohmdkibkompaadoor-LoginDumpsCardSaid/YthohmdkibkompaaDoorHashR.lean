/- The sum. No conditions. -/
import Derived.Test.YthohmdkibkompaaDoorHashQ
set_option linter.unusedVariables false
set_option linter.unusedSimpArgs false
namespace Go.Proofs.YthohmdkibkompaaDoor
open Go Go.Abs Go.RowKit
variable {base : Nat} {w0 : World} {G : Nat}

theorem w_u64 {x : Int} (h : 0 ≤ x ∧ x ≤ 18446744073709551615) : IntKind.u64.wrap x = x := by
  simp [IntKind.wrap, IntKind.bits, IntKind.signed]; omega
set_option maxRecDepth 10000 in
theorem GV_out {v : Value} {cs : List Value} {n sz : Nat} {e : TypeId} {hg : Hp} (h : GV v cs n sz e hg) (hn : 0 < n) : ∃ B, v = .slice (some ⟨B, 0, some 0⟩) n n ∧ hg = [(B, .cells cs e true)] ∧ cs.length = n * sz := by
  rcases h with ⟨_, h, _⟩ | ⟨B, h⟩
  · omega
  · exact ⟨B, h⟩
def tB (n : Nat) : Nat → List Nat
  | 0 => []
  | t + 1 => tB n t ++ [n / 2 ^ (56 - 8 * t) % 256]
theorem tB_eq (n : Nat) : tB n 8 = tailN n 8 := by
  simp [tB, tailN, Nat.div_div_eq_div_mul]
theorem tB_length (n : Nat) : ∀ t, (tB n t).length = t
  | 0 => rfl
  | t + 1 => by simp [tB, tB_length n t]
theorem tailN_length (n : Nat) : (tailN n 8).length = 8 := by rw [← tB_eq, tB_length]
theorem tB_lt (n : Nat) : ∀ t, ∀ d ∈ tB n t, d < 256
  | 0, d, h => by simp [tB] at h
  | t + 1, d, h => by
    simp only [tB, List.mem_append, List.mem_singleton] at h
    rcases h with h | rfl
    · exact tB_lt n t d h
    · exact Nat.mod_lt _ (by decide)
theorem padN_length (l : List Nat) : (padN l).length = l.length + 1 + (120 - (l.length + 1) % 64) % 64 + 8 := by
  simp [padN, tailN_length]; omega
theorem padN_mod (l : List Nat) : (padN l).length % 64 = 0 := by rw [padN_length]; omega
theorem padN_lt {l : List Nat} (h : ∀ d ∈ l, d < 256) : ∀ d ∈ padN l, d < 256 := by
  intro d hd
  simp only [padN, List.mem_append, List.mem_singleton, List.mem_replicate] at hd
  rcases hd with ((hd | rfl) | ⟨_, rfl⟩) | hd
  · exact h d hd
  · decide
  · decide
  · rw [← tB_eq] at hd; exact tB_lt _ _ d hd
theorem build4 {st : St} {a b c d : Nat} : abuildSlice Tryd.prog st 38 4 [(0, .int .u8 a), (1, .int .u8 b), (2, .int .u8 c), (3, .int .u8 d)] = some (.slice (some ⟨st.n, 0, none⟩) 4 4, st.new (.cells (nl [a, b, c, d]) 5 true)) := by
  simp [abuildSlice, Tryd.underlying38, asz5, azc5, afill, zeros, isTuple, Value.cells, setL, nl, bl, List.replicate]

set_option maxRecDepth 10000 in
theorem Sum_spec (st : St) (r : Hp) (v : Value) (ps : List (Value × List Nat)) (ok : Bool) {kt : TypeId} (hv : Ps r v ps) (hn : (flat ps).length ≤ 100000) (hl : ps.length ≤ 100000) (hK : (0, .cells (wl ks0) kt ok) ∈ r) (hO : Own st r) (k q : Value → St → Prop)
    (hk : ∀ v hg st', GV v (nl (digest (flat ps))) 32 1 5 hg → Own st' (hg ++ r) → k v st') :
    ACall (C base w0 4) 39 [v] st k q := by
  refine ACall.of (cx := C base w0 4) mixed Tryd.func39 rfl (by kernel_rfl) (by simp [Tryd.ntmps39]) ?_
  simp only [Tryd.results39]
  simp (config := { implicitDefEqProofs := false }) only [↓GP, ↓GM, GQ, abuiltinX, ↓awp_seq, ↓awp_block, C_ex, Nat.reduceBEq, acap, afieldAddr, aload, astore, abin, anum, astr, aun, isAggD, cond_true, cond_false, ↓reduceIte, C_P, C_G, isTuple, Value.cells, setL, ares, aresL, ares1, reduceCtorEq, Nat.reduceEqDiff, eq_self, Nat.reduceAdd, if_true, if_false, Go.Abs.one, Nat.reduceLeDiff, undef, gsl, aextract, aindexAddr, amake, implies_true, forall_const, alen, abuiltin, anil, isC, Int.reduceEq, Int.reduceLT, Int.reduceLE, Int.reduceAdd, Int.reduceToNat, Int.reduceNeg, Nat.reduceMul, Nat.reduceSub, abuild, afill, Int.reduceBNe, Int.reduceBEq]
  refine ACallF.enter Tryd.func52 rfl (by kernel_rfl) (Concat_spec st r v ps hv hn hl hO _ _ fun va ha sa hGa hOa => ?_)
  have hfl : ∀ d ∈ flat ps, d < 256 := by
    intro d hd
    obtain ⟨l, hl, hd⟩ := List.mem_flatten.1 hd
    obtain ⟨p, hp, rfl⟩ := List.mem_map.1 hl
    exact (hv.2 p hp).2 d hd
  generalize flat ps = l at *
  obtain ⟨aa, ca, hva⟩ := hGa.isSlice
  have hw1 : IntKind.u64.wrap ((l.length : Nat) : Int) = (l.length : Int) := by rw [w_u64 (by omega)]
  have hw2 : IntKind.u64.wrap ((l.length : Int) * 8) = ((l.length * 8 % 18446744073709551616 : Nat) : Int) := by rw [w_u64 (by omega)]; omega
  simp (config := { implicitDefEqProofs := false }) only [↓GP, ↓GM, GQ, abuiltinX, ↓awp_seq, ↓awp_block, C_ex, Nat.reduceBEq, acap, afieldAddr, aload, astore, abin, anum, astr, aun, isAggD, cond_true, cond_false, ↓reduceIte, C_P, C_G, isTuple, Value.cells, setL, ares, aresL, ares1, reduceCtorEq, Nat.reduceEqDiff, eq_self, Nat.reduceAdd, if_true, if_false, Go.Abs.one, Nat.reduceLeDiff, undef, gsl, aextract, aindexAddr, amake, implies_true, forall_const, alen, abuiltin, anil, isC, Int.reduceEq, Int.reduceLT, Int.reduceLE, Int.reduceAdd, Int.reduceToNat, Int.reduceNeg, Nat.reduceMul, Nat.reduceSub, abuild, afill, Int.reduceBNe, Int.reduceBEq, hva, Tryd.underlying38, Tryd.underlying3, Tryd.underlying100, aconv, hw1, hw2, abuildSlice_one (st := sa) (v := .int .u8 128) Tryd.underlying38 asz5 azc5 rfl rfl rfl (by decide)]
  rw [← hva]
  refine GVx.append1 Tryd.underlying38 (by rw [Tryd.underlying38]; rfl) asz5 azc5 (c := [.int .u8 128]) aby5 hGa hOa rfl rfl (by omega) fun v1 h1 s1 hG1 hO1 => ?_
  simp (config := { implicitDefEqProofs := false }) only [↓GP, ↓GM, GQ, abuiltinX, ↓awp_seq, ↓awp_block, C_ex, Nat.reduceBEq, acap, afieldAddr, aload, astore, abin, anum, astr, aun, isAggD, cond_true, cond_false, ↓reduceIte, C_P, C_G, isTuple, Value.cells, setL, ares, aresL, ares1, reduceCtorEq, Nat.reduceEqDiff, eq_self, Nat.reduceAdd, if_true, if_false, Go.Abs.one, Nat.reduceLeDiff, undef, gsl, aextract, aindexAddr, amake, implies_true, forall_const, alen, abuiltin, anil, isC, Int.reduceEq, Int.reduceLT, Int.reduceLE, Int.reduceAdd, Int.reduceToNat, Int.reduceNeg, Nat.reduceMul, Nat.reduceSub, abuild, afill, Int.reduceBNe, Int.reduceBEq]
  have hG1' : GV v1 (nl (l ++ [128])) (l.length + 1) 1 5 h1 := by rw [nl_append]; exact hG1
  obtain ⟨N, hN⟩ : ∃ N, N = l.length * 8 % 18446744073709551616 := ⟨_, rfl⟩
  have hNlt : N < 18446744073709551616 := by omega
  rw [← hN]
  obtain ⟨Z, hZ⟩ : ∃ Z, Z = (120 - (l.length + 1) % 64) % 64 := ⟨_, rfl⟩
  have hG1x : GV v1 (nl (l ++ [128] ++ List.replicate 0 0)) (l.length + 1 + 0) 1 5 h1 := by simpa using hG1'
  refine ⟨fun m ρ s => ∃ (j : Nat) (v : Value) (h : Hp), m = Z - j ∧ j ≤ Z ∧ ρ 3 = v ∧ ρ 4 = .int .u64 N ∧ GV v (nl (l ++ [128] ++ List.replicate j 0)) (l.length + 1 + j) 1 5 h ∧ Own s (h ++ r), ⟨Z, 0, v1, h1, rfl, Nat.zero_le _, rfl, rfl, hG1x, hO1⟩, ?_⟩
  rintro m ρ s ⟨j, v, h, rfl, hj, h3, h4, hG, hO⟩
  obtain ⟨a3, ha3⟩ := hG.isSlice
  have hmod : (((l.length + 1 + j : Nat) : Int)).tmod 64 = (((l.length + 1 + j) % 64 : Nat) : Int) := by rw [Int.tmod_eq_emod_of_nonneg (by omega)]; omega
  by_cases hjz : j < Z
  · simp (config := { implicitDefEqProofs := false }) only [↓GP, ↓GM, GQ, abuiltinX, ↓awp_seq, ↓awp_block, C_ex, Nat.reduceBEq, acap, afieldAddr, aload, astore, abin, anum, astr, aun, isAggD, cond_true, cond_false, ↓reduceIte, C_P, C_G, isTuple, Value.cells, setL, ares, aresL, ares1, reduceCtorEq, Nat.reduceEqDiff, eq_self, Nat.reduceAdd, if_true, if_false, Go.Abs.one, Nat.reduceLeDiff, undef, gsl, aextract, aindexAddr, amake, implies_true, forall_const, alen, abuiltin, anil, isC, Int.reduceEq, Int.reduceLT, Int.reduceLE, Int.reduceAdd, Int.reduceToNat, Int.reduceNeg, Nat.reduceMul, Nat.reduceSub, abuild, afill, Int.reduceBNe, Int.reduceBEq, h3, h4, ha3, Tryd.underlying38, Tryd.underlying3, hmod, show ¬ (((l.length + 1 + j) % 64 : Nat) : Int) = 56 by omega, abuildSlice_one (st := s) (v := .int .u8 0) Tryd.underlying38 asz5 azc5 rfl rfl rfl (by decide)]
    rw [← ha3]
    refine GV.append1 Tryd.underlying38 (by rw [Tryd.underlying38]; rfl) asz5 azc5 (c := [.int .u8 0]) aby5 hG hO rfl rfl (by omega) fun v' h' s' hG' hs' => ?_
    simp (config := { implicitDefEqProofs := false }) only [↓GP, ↓GM, GQ, abuiltinX, ↓awp_seq, ↓awp_block, C_ex, Nat.reduceBEq, acap, afieldAddr, aload, astore, abin, anum, astr, aun, isAggD, cond_true, cond_false, ↓reduceIte, C_P, C_G, isTuple, Value.cells, setL, ares, aresL, ares1, reduceCtorEq, Nat.reduceEqDiff, eq_self, Nat.reduceAdd, if_true, if_false, Go.Abs.one, Nat.reduceLeDiff, undef, gsl, aextract, aindexAddr, amake, implies_true, forall_const, alen, abuiltin, anil, isC, Int.reduceEq, Int.reduceLT, Int.reduceLE, Int.reduceAdd, Int.reduceToNat, Int.reduceNeg, Nat.reduceMul, Nat.reduceSub, abuild, afill, Int.reduceBNe, Int.reduceBEq, h4]
    refine ⟨Z - (j + 1), by omega, j + 1, v', h', rfl, by omega, rfl, ?_, hs'⟩
    have e : nl (l ++ [128] ++ List.replicate (j + 1) 0) = nl (l ++ [128] ++ List.replicate j 0) ++ [.int .u8 0] := by
      rw [List.replicate_succ', ← List.append_assoc, nl_append]; rfl
    rw [e]
    exact hG'
  obtain rfl : j = Z := by omega
  have hm0l : (l ++ [128] ++ List.replicate j 0).length = l.length + 1 + j := by simp; omega
  have hpad : padN l = (l ++ [128] ++ List.replicate j 0) ++ tB N 8 := by rw [tB_eq, hN, hZ]; rfl
  have hm0d : ∀ d ∈ l ++ [128] ++ List.replicate j 0, d < 256 := fun d hd => padN_lt hfl d (by rw [hpad]; exact List.mem_append_left _ hd)
  have hM0 : l.length + 1 + j ≤ 100100 := by omega
  simp (config := { implicitDefEqProofs := false }) only [↓GP, ↓GM, GQ, abuiltinX, ↓awp_seq, ↓awp_block, C_ex, Nat.reduceBEq, acap, afieldAddr, aload, astore, abin, anum, astr, aun, isAggD, cond_true, cond_false, ↓reduceIte, C_P, C_G, isTuple, Value.cells, setL, ares, aresL, ares1, reduceCtorEq, Nat.reduceEqDiff, eq_self, Nat.reduceAdd, if_true, if_false, Go.Abs.one, Nat.reduceLeDiff, undef, gsl, aextract, aindexAddr, amake, implies_true, forall_const, alen, abuiltin, anil, isC, Int.reduceEq, Int.reduceLT, Int.reduceLE, Int.reduceAdd, Int.reduceToNat, Int.reduceNeg, Nat.reduceMul, Nat.reduceSub, abuild, afill, Int.reduceBNe, Int.reduceBEq, h3, h4, ha3, Tryd.underlying38, Tryd.underlying3, hmod, show (((l.length + 1 + j) % 64 : Nat) : Int) = 56 by omega]
  generalize hm0 : l ++ [128] ++ List.replicate j 0 = m0 at *
  generalize hMl : l.length + 1 + j = M0 at *
  have hGx : GV v (nl (m0 ++ tB N 0)) (M0 + 0) 1 5 h := by simpa [tB] using hG
  refine ⟨fun m ρ s => ∃ (t : Nat) (v : Value) (h : Hp), m = 8 - t ∧ t ≤ 8 ∧ ρ 3 = v ∧ ρ 4 = .int .u64 N ∧ ρ 5 = .int .i64 (56 - 8 * (t : Int)) ∧ GV v (nl (m0 ++ tB N t)) (M0 + t) 1 5 h ∧ Own s (h ++ r), ⟨8, 0, v, h, rfl, by decide, h3, h4, rfl, hGx, hO⟩, ?_⟩
  clear h3 h4 hGx hG hO
  rintro m ρ s ⟨t, v, h, rfl, ht, h3, h4, h5, hG, hO⟩
  obtain ⟨a3, ha3⟩ := hG.isSlice
  by_cases ht8 : t < 8
  · have h56 : (56 - 8 * (t : Int)) = ((56 - 8 * t : Nat) : Int) := by omega
    rw [h56] at h5
    have hsh : ((N : Int) / 2 ^ (56 - 8 * t)) = ((N / 2 ^ (56 - 8 * t) : Nat) : Int) := by rw [Int.natCast_ediv, Int.natCast_pow]; rfl
    simp (config := { implicitDefEqProofs := false }) only [↓GP, ↓GM, GQ, abuiltinX, ↓awp_seq, ↓awp_block, C_ex, Nat.reduceBEq, acap, afieldAddr, aload, astore, abin, anum, astr, aun, isAggD, cond_true, cond_false, ↓reduceIte, C_P, C_G, isTuple, Value.cells, setL, ares, aresL, ares1, reduceCtorEq, Nat.reduceEqDiff, eq_self, Nat.reduceAdd, if_true, if_false, Go.Abs.one, Nat.reduceLeDiff, undef, gsl, aextract, aindexAddr, amake, implies_true, forall_const, alen, abuiltin, anil, isC, Int.reduceEq, Int.reduceLT, Int.reduceLE, Int.reduceAdd, Int.reduceToNat, Int.reduceNeg, Nat.reduceMul, Nat.reduceSub, abuild, afill, Int.reduceBNe, Int.reduceBEq, h3, h4, h5, show ((56 - 8 * t : Nat) : Int) ≥ 0 by omega, decide_true, Tryd.underlying38, Tryd.underlying3, Tryd.underlying100, Tryd.underlying5, ashift, aconv, hsh, w_u8n,
      abuildSlice_one (st := s) (v := .int .u8 (N / 2 ^ (56 - 8 * t) % 256 : Nat)) Tryd.underlying38 asz5 azc5 rfl rfl rfl (by decide)]
    refine ⟨by have : (IntKind.u64.bits : Int) = 64 := rfl; omega, ?_⟩
    refine GV.append1 Tryd.underlying38 (by rw [Tryd.underlying38]; rfl) asz5 azc5 (c := [.int .u8 (N / 2 ^ (56 - 8 * t) % 256 : Nat)]) aby5 hG hO rfl rfl (by omega) fun v' h' s' hG' hs' => ?_
    simp (config := { implicitDefEqProofs := false }) only [↓GP, ↓GM, GQ, abuiltinX, ↓awp_seq, ↓awp_block, C_ex, Nat.reduceBEq, acap, afieldAddr, aload, astore, abin, anum, astr, aun, isAggD, cond_true, cond_false, ↓reduceIte, C_P, C_G, isTuple, Value.cells, setL, ares, aresL, ares1, reduceCtorEq, Nat.reduceEqDiff, eq_self, Nat.reduceAdd, if_true, if_false, Go.Abs.one, Nat.reduceLeDiff, undef, gsl, aextract, aindexAddr, amake, implies_true, forall_const, alen, abuiltin, anil, isC, Int.reduceEq, Int.reduceLT, Int.reduceLE, Int.reduceAdd, Int.reduceToNat, Int.reduceNeg, Nat.reduceMul, Nat.reduceSub, abuild, afill, Int.reduceBNe, Int.reduceBEq, h4, h5]
    refine ⟨8 - (t + 1), by omega, t + 1, v', h', rfl, by omega, rfl, by rw [w_i64 (by omega)]; congr 1; omega, ?_, hs'⟩
    have e : nl (m0 ++ tB N (t + 1)) = nl (m0 ++ tB N t) ++ [.int .u8 (N / 2 ^ (56 - 8 * t) % 256 : Nat)] := by
      rw [tB, ← List.append_assoc, nl_append]; rfl
    rw [e]
    exact hG'
  obtain rfl : t = 8 := by omega
  have hML : M0 + 8 = (padN l).length := by rw [hpad, List.length_append, hm0l, tB_length]
  rw [← hpad, hML] at hG
  have hPl := padN_length l
  have hPm := padN_mod l
  have hPd := padN_lt hfl
  obtain ⟨B, rfl, rfl, hBl⟩ := GV_out hG (by omega)
  simp (config := { implicitDefEqProofs := false }) only [↓GP, ↓GM, GQ, abuiltinX, ↓awp_seq, ↓awp_block, C_ex, Nat.reduceBEq, acap, afieldAddr, aload, astore, abin, anum, astr, aun, isAggD, cond_true, cond_false, ↓reduceIte, C_P, C_G, isTuple, Value.cells, setL, ares, aresL, ares1, reduceCtorEq, Nat.reduceEqDiff, eq_self, Nat.reduceAdd, if_true, if_false, Go.Abs.one, Nat.reduceLeDiff, undef, gsl, aextract, aindexAddr, amake, implies_true, forall_const, alen, abuiltin, anil, isC, Int.reduceEq, Int.reduceLT, Int.reduceLE, Int.reduceAdd, Int.reduceToNat, Int.reduceNeg, Nat.reduceMul, Nat.reduceSub, abuild, afill, Int.reduceBNe, Int.reduceBEq, h3, h4, h5, show ¬ (56 - 8 * ((8 : Nat) : Int)) ≥ 0 by decide, decide_false, azc103, Tryd.underlying103, asz101, aalloc, asz103]
  refine ⟨fun h => absurd h (by decide), fun _ => ?_⟩
  have hO1 : Own _ ((s.n, .cells (wl hs0) 103 true) :: ((B, .cells (nl (padN l)) 5 true) :: r)) := (hO.new (.cells [.int .u32 0, .int .u32 0, .int .u32 0, .int .u32 0, .int .u32 0, .int .u32 0, .int .u32 0, .int .u32 0] 103 true)).set rfl (.cells (wl hs0) 103 true) rfl
  generalize hP : padN l = P at *
  generalize hL : P.length = L at *
  refine ⟨fun m ρ s' => ∃ jj : Nat, m = L / 64 - jj ∧ 64 * jj ≤ L ∧ ρ 3 = .slice (some ⟨B, 64 * jj, some 0⟩) (L - 64 * jj) (L - 64 * jj) ∧ ρ 6 = .pointer (some ⟨s.n, 0, none⟩) ∧ Own s' ((s.n, .cells (wl (hsN P jj)) 103 true) :: ((B, .cells (nl P) 5 true) :: r)), ⟨_, 0, rfl, by omega, h3, rfl, hO1⟩, ?_⟩
  rintro m ρ s' ⟨jj, rfl, hj, h3, h6, hO⟩
  by_cases hjl : 64 * jj < L
  · have hlenI : ((L - 64 * jj : Nat) : Int) > 0 := by omega
    simp (config := { implicitDefEqProofs := false }) only [↓GP, ↓GM, GQ, abuiltinX, ↓awp_seq, ↓awp_block, C_ex, Nat.reduceBEq, acap, afieldAddr, aload, astore, abin, anum, astr, aun, isAggD, cond_true, cond_false, ↓reduceIte, C_P, C_G, isTuple, Value.cells, setL, ares, aresL, ares1, reduceCtorEq, Nat.reduceEqDiff, eq_self, Nat.reduceAdd, if_true, if_false, Go.Abs.one, Nat.reduceLeDiff, undef, gsl, aextract, aindexAddr, amake, implies_true, forall_const, alen, abuiltin, anil, isC, Int.reduceEq, Int.reduceLT, Int.reduceLE, Int.reduceAdd, Int.reduceToNat, Int.reduceNeg, Nat.reduceMul, Nat.reduceSub, abuild, afill, Int.reduceBNe, Int.reduceBEq, h3, h6, hlenI, decide_true, Tryd.underlying38]
    refine ACallF.enter Tryd.func53 rfl (by kernel_rfl) (block_spec s' _ (hsN P jj) P s.n B (64 * jj) _ _ (some 0) true ok hPd (hsN_lt P jj) (hsN_length P jj) (List.mem_cons_self ..) (List.mem_cons_of_mem _ hK) (by omega) (by omega) hO _ _ fun V s2 hO2 => ?_)
    have hcB := hO2.get (b := B) (o := .cells (nl P) 5 true) (by simp)
    have hsl : aslice Tryd.prog s2 38 (.slice (some ⟨B, 64 * jj, some 0⟩) (L - 64 * jj) (L - 64 * jj)) (some (.int .i64 64)) none none = some (.slice (some ⟨B, 64 * (jj + 1), some 0⟩) (L - 64 * (jj + 1)) (L - 64 * (jj + 1))) :=
      (aslice_of (sp := 0) (lo := some (.int .i64 (64 : Nat))) (hi := none) Tryd.underlying38 asz5 (openOK_open hcB asz5) (abounds_lo (by omega) (Nat.le_refl _))).trans (by
        rw [Nat.mul_one, Nat.mul_add, Nat.mul_one, Nat.sub_sub])
    simp (config := { implicitDefEqProofs := false }) only [↓GP, ↓GM, GQ, abuiltinX, ↓awp_seq, ↓awp_block, C_ex, Nat.reduceBEq, acap, afieldAddr, aload, astore, abin, anum, astr, aun, isAggD, cond_true, cond_false, ↓reduceIte, C_P, C_G, isTuple, Value.cells, setL, ares, aresL, ares1, reduceCtorEq, Nat.reduceEqDiff, eq_self, Nat.reduceAdd, if_true, if_false, Go.Abs.one, Nat.reduceLeDiff, undef, gsl, aextract, aindexAddr, amake, implies_true, forall_const, alen, abuiltin, anil, isC, Int.reduceEq, Int.reduceLT, Int.reduceLE, Int.reduceAdd, Int.reduceToNat, Int.reduceNeg, Nat.reduceMul, Nat.reduceSub, abuild, afill, Int.reduceBNe, Int.reduceBEq, h3, h6, hsl]
    exact ⟨L / 64 - (jj + 1), by omega, jj + 1, rfl, by omega, rfl, hO2⟩
  have hLj : L / 64 = jj := by omega
  have hz0 : L - 64 * jj = 0 := by omega
  have hcS := hO.head
  have hcut : cut (wl (hsN P jj)) 0 8 = some (wl (hsN P jj)) := by have := cut_all (wl (hsN P jj)); rw [wl_length, hsN_length] at this; exact this
  simp (config := { implicitDefEqProofs := false }) only [↓GP, ↓GM, GQ, abuiltinX, ↓awp_seq, ↓awp_block, C_ex, Nat.reduceBEq, acap, afieldAddr, aload, astore, abin, anum, astr, aun, isAggD, cond_true, cond_false, ↓reduceIte, C_P, C_G, isTuple, Value.cells, setL, ares, aresL, ares1, reduceCtorEq, Nat.reduceEqDiff, eq_self, Nat.reduceAdd, if_true, if_false, Go.Abs.one, Nat.reduceLeDiff, undef, gsl, aextract, aindexAddr, amake, implies_true, forall_const, alen, abuiltin, anil, isC, Int.reduceEq, Int.reduceLT, Int.reduceLE, Int.reduceAdd, Int.reduceToNat, Int.reduceNeg, Nat.reduceMul, Nat.reduceSub, abuild, afill, Int.reduceBNe, Int.reduceBEq, h3, h6, hz0, Tryd.underlying38, show ¬ ((0 : Nat) : Int) > 0 by decide, decide_false, hcS, asz103, Tryd.underlying103, hcut]
  refine ⟨fun h => absurd h (by decide), fun _ => ?_⟩
  have hdig : digest l = outN (hsN P jj) 8 := by rw [digest, hP, hL, hLj]
  have hHl := hsN_length P jj
  have hHd := hsN_lt P jj
  generalize hsN P jj = H at *
  refine ⟨fun m ρ s => ∃ (i : Nat) (v : Value) (h : Hp), m = 8 - i ∧ i ≤ 8 ∧ ρ 7 = v ∧ ρ 45 = .agg (wl H).toArray ∧ ρ 46 = .int .i64 i ∧ GVx v (nl (outN H i)) (4 * i) 1 5 h ∧ (0 < i → GV v (nl (outN H i)) (4 * i) 1 5 h) ∧ Own s (h ++ r), ⟨8, 0, _, [], rfl, by decide, rfl, rfl, rfl, GVx.nil, fun h => absurd h (by decide), hO.tail.tail⟩, ?_⟩
  rintro m ρ s ⟨i, v, h, rfl, hi, h7, h45, h46, hG, hGG, hO⟩
  by_cases him : i < 8
  · have hg := wl_get (l := H) (i := i) (by omega)
    have hx := getD32 hHd i
    generalize hxx : H.getD i 0 = x at *
    have e24 : ((x : Int) / 2 ^ 24) = ((x / 16777216 : Nat) : Int) := by rw [show (2 : Int) ^ 24 = ((16777216 : Nat) : Int) from rfl, ← Int.natCast_ediv]
    have e16 : ((x : Int) / 2 ^ 16) = ((x / 65536 : Nat) : Int) := by rw [show (2 : Int) ^ 16 = ((65536 : Nat) : Int) from rfl, ← Int.natCast_ediv]
    have e8 : ((x : Int) / 2 ^ 8) = ((x / 256 : Nat) : Int) := by rw [show (2 : Int) ^ 8 = ((256 : Nat) : Int) from rfl, ← Int.natCast_ediv]
    simp (config := { implicitDefEqProofs := false }) only [↓GP, ↓GM, GQ, abuiltinX, ↓awp_seq, ↓awp_block, C_ex, Nat.reduceBEq, acap, afieldAddr, aload, astore, abin, anum, astr, aun, isAggD, cond_true, cond_false, ↓reduceIte, C_P, C_G, isTuple, Value.cells, setL, ares, aresL, ares1, reduceCtorEq, Nat.reduceEqDiff, eq_self, Nat.reduceAdd, if_true, if_false, Go.Abs.one, Nat.reduceLeDiff, undef, gsl, aextract, aindexAddr, amake, implies_true, forall_const, alen, abuiltin, anil, isC, Int.reduceEq, Int.reduceLT, Int.reduceLE, Int.reduceAdd, Int.reduceToNat, Int.reduceNeg, Nat.reduceMul, Nat.reduceSub, abuild, afill, Int.reduceBNe, Int.reduceBEq, h7, h45, h46, show (i : Int) < 8 by omega, decide_true, aindex, apartV, Tryd.underlying103, asz101, Tryd.underlying101, Tryd.underlying5, List.getElem?_toArray, hg, ashift, aconv, e24, e16, e8, w_u8n, build4]
    have hb32 : (IntKind.u32.bits : Int) = 32 := rfl
    refine ⟨by omega, by decide, by decide, by decide, ?_⟩
    refine GVx.appendK (m := 4) Tryd.underlying38 (by rw [Tryd.underlying38]; rfl) asz5 azc5 (c := nl [x / 16777216 % 256, x / 65536 % 256, x / 256 % 256, x % 256]) aby5 hG hO rfl (by decide) (nl_one _) (by omega) fun v' h' s' hG' hs' => ?_
    simp (config := { implicitDefEqProofs := false }) only [↓GP, ↓GM, GQ, abuiltinX, ↓awp_seq, ↓awp_block, C_ex, Nat.reduceBEq, acap, afieldAddr, aload, astore, abin, anum, astr, aun, isAggD, cond_true, cond_false, ↓reduceIte, C_P, C_G, isTuple, Value.cells, setL, ares, aresL, ares1, reduceCtorEq, Nat.reduceEqDiff, eq_self, Nat.reduceAdd, if_true, if_false, Go.Abs.one, Nat.reduceLeDiff, undef, gsl, aextract, aindexAddr, amake, implies_true, forall_const, alen, abuiltin, anil, isC, Int.reduceEq, Int.reduceLT, Int.reduceLE, Int.reduceAdd, Int.reduceToNat, Int.reduceNeg, Nat.reduceMul, Nat.reduceSub, abuild, afill, Int.reduceBNe, Int.reduceBEq, h45, h46]
    refine ⟨8 - (i + 1), by omega, i + 1, v', h', rfl, by omega, rfl, by rw [w_i64 (by omega)]; rfl, ?_, fun _ => ?_, hs'⟩
    · rw [outN, nl_append, hxx]
      exact hG'.x
    · rw [outN, nl_append, hxx]
      exact hG'
  obtain rfl : i = 8 := by omega
  simp (config := { implicitDefEqProofs := false }) only [↓GP, ↓GM, GQ, abuiltinX, ↓awp_seq, ↓awp_block, C_ex, Nat.reduceBEq, acap, afieldAddr, aload, astore, abin, anum, astr, aun, isAggD, cond_true, cond_false, ↓reduceIte, C_P, C_G, isTuple, Value.cells, setL, ares, aresL, ares1, reduceCtorEq, Nat.reduceEqDiff, eq_self, Nat.reduceAdd, if_true, if_false, Go.Abs.one, Nat.reduceLeDiff, undef, gsl, aextract, aindexAddr, amake, implies_true, forall_const, alen, abuiltin, anil, isC, Int.reduceEq, Int.reduceLT, Int.reduceLE, Int.reduceAdd, Int.reduceToNat, Int.reduceNeg, Nat.reduceMul, Nat.reduceSub, abuild, afill, Int.reduceBNe, Int.reduceBEq, h7, h45, h46, show ¬ ((8 : Nat) : Int) < 8 by decide, decide_false]
  refine hk _ _ _ ?_ hO
  rw [hdig]
  exact hGG (by decide)
end Go.Proofs.YthohmdkibkompaaDoor
set_option linter.unusedVariables false
set_option linter.unusedSimpArgs false
namespace Go.Proofs.YthohmdkibkompaaDoor
open Go Go.Abs Go.RowKit
variable {base : Nat} {w0 : World} {G : Nat}

theorem outN_lt (h : List Nat) : ∀ i, ∀ d ∈ outN h i, d < 256
  | 0, d, hd => by simp [outN] at hd
  | i + 1, d, hd => by
    rcases List.mem_append.1 hd with hd | hd
    · exact outN_lt h i d hd
    · exact out4_lt _ d hd
theorem outN_length (h : List Nat) : ∀ i, (outN h i).length = 4 * i
  | 0 => rfl
  | i + 1 => by simp [outN, outN_length h i, out4]; omega
theorem digest_lt (l : List Nat) : ∀ d ∈ digest l, d < 256 := outN_lt _ 8
theorem digest_length (l : List Nat) : (digest l).length = 32 := outN_length _ 8
set_option maxRecDepth 10000 in
theorem Mul64_spec (st : St) (k q : Value → St → Prop) (hk : k (.tuple #[.int .u64 0, .int .u64 64]) st) : ACall (C base w0 G) 86 [.int .u64 1, .int .u64 64] st k q := by
  refine ACall.of (cx := C base w0 G) mixed Tryd.func86 rfl (by kernel_rfl) (by simp [Tryd.ntmps86]) ?_
  simp only [Tryd.results86]
  have a1 : bits .and .u64 1 4294967295 = 1 := by decide +kernel
  have a64 : bits .and .u64 64 4294967295 = 64 := by decide +kernel
  have a0 : bits .and .u64 0 4294967295 = 0 := by decide +kernel
  have hb : (IntKind.u64.bits : Int) = 64 := rfl
  have c0 : IntKind.u64.wrap 0 = 0 := by decide
  have c64 : IntKind.u64.wrap 64 = 64 := by decide
  simp (config := { implicitDefEqProofs := false }) only [↓GP, ↓GM, GQ, abuiltinX, ↓awp_seq, ↓awp_block, C_ex, Nat.reduceBEq, acap, afieldAddr, aload, astore, abin, anum, astr, aun, isAggD, cond_true, cond_false, ↓reduceIte, C_P, C_G, isTuple, Value.cells, setL, ares, aresL, ares1, reduceCtorEq, Nat.reduceEqDiff, eq_self, Nat.reduceAdd, if_true, if_false, Go.Abs.one, Nat.reduceLeDiff, undef, gsl, aextract, aindexAddr, amake, implies_true, forall_const, alen, abuiltin, anil, isC, Int.reduceEq, Int.reduceLT, Int.reduceLE, Int.reduceAdd, Int.reduceToNat, Int.reduceNeg, Nat.reduceMul, Nat.reduceSub, abuild, afill, Int.reduceBNe, Int.reduceBEq, Tryd.underlying100, Tryd.underlying86, ashift, a1, a64, a0, hb, c0, c64, Int.reducePow, Int.reduceDiv, Int.reduceMul]
  exact hk
set_option maxRecDepth 10000 in
theorem Mul_spec (st : St) (k q : Value → St → Prop) (hk : k (.tuple #[.int .u64 0, .int .u64 64]) st) : ACall (C base w0 G) 68 [.int .u64 1, .int .u64 64] st k q := by
  refine ACall.of (cx := C base w0 G) mixed Tryd.func68 rfl (by kernel_rfl) (by simp [Tryd.ntmps68]) ?_
  simp only [Tryd.results68]
  simp (config := { implicitDefEqProofs := false }) only [↓GP, ↓GM, GQ, abuiltinX, ↓awp_seq, ↓awp_block, C_ex, Nat.reduceBEq, acap, afieldAddr, aload, astore, abin, anum, astr, aun, isAggD, cond_true, cond_false, ↓reduceIte, C_P, C_G, isTuple, Value.cells, setL, ares, aresL, ares1, reduceCtorEq, Nat.reduceEqDiff, eq_self, Nat.reduceAdd, if_true, if_false, Go.Abs.one, Nat.reduceLeDiff, undef, gsl, aextract, aindexAddr, amake, implies_true, forall_const, alen, abuiltin, anil, isC, Int.reduceEq, Int.reduceLT, Int.reduceLE, Int.reduceAdd, Int.reduceToNat, Int.reduceNeg, Nat.reduceMul, Nat.reduceSub, abuild, afill, Int.reduceBNe, Int.reduceBEq]
  refine ACallF.enter Tryd.func86 rfl (by kernel_rfl) (Mul64_spec st _ _ ?_)
  simp (config := { implicitDefEqProofs := false }) only [↓GP, ↓GM, GQ, abuiltinX, ↓awp_seq, ↓awp_block, C_ex, Nat.reduceBEq, acap, afieldAddr, aload, astore, abin, anum, astr, aun, isAggD, cond_true, cond_false, ↓reduceIte, C_P, C_G, isTuple, Value.cells, setL, ares, aresL, ares1, reduceCtorEq, Nat.reduceEqDiff, eq_self, Nat.reduceAdd, if_true, if_false, Go.Abs.one, Nat.reduceLeDiff, undef, gsl, aextract, aindexAddr, amake, implies_true, forall_const, alen, abuiltin, anil, isC, Int.reduceEq, Int.reduceLT, Int.reduceLE, Int.reduceAdd, Int.reduceToNat, Int.reduceNeg, Nat.reduceMul, Nat.reduceSub, abuild, afill, Int.reduceBNe, Int.reduceBEq]
  exact hk
def keyOf (key : List Nat) : List Nat := bif Nat.blt 64 key.length then digest key else key
def pd (k : List Nat) (x : Nat) : List Nat := k.map (fun d => x ^^^ d) ++ List.replicate (64 - k.length) x
theorem keyOf_length (key : List Nat) : (keyOf key).length ≤ 64 := by
  unfold keyOf
  cases h : Nat.blt 64 key.length with
  | true => rw [cond_true, digest_length]; decide
  | false =>
    rw [cond_false]
    rcases Nat.lt_or_ge 64 key.length with h2 | h2
    · have : Nat.blt 64 key.length = true := Nat.ble_eq_true_of_le h2
      rw [this] at h; cases h
    · exact h2
theorem keyOf_lt {key : List Nat} (h : ∀ d ∈ key, d < 256) : ∀ d ∈ keyOf key, d < 256 := by
  unfold keyOf
  cases Nat.blt 64 key.length with
  | true => rw [cond_true]; exact digest_lt _
  | false => rw [cond_false]; exact h
theorem pd_length {k : List Nat} (h : k.length ≤ 64) (x : Nat) : (pd k x).length = 64 := by simp [pd]; omega
theorem pd_lt {k : List Nat} {x : Nat} (h : ∀ d ∈ k, d < 256) (hx : x < 256) : ∀ d ∈ pd k x, d < 256 := by
  intro d hd
  rcases List.mem_append.1 hd with hd | hd
  · obtain ⟨y, hy, rfl⟩ := List.mem_map.1 hd
    exact xor8_lt hx (h y hy)
  · rw [List.eq_of_mem_replicate hd]; exact hx

set_option maxRecDepth 10000 in
theorem Repeat_spec (st : St) (r : Hp) (B x : Nat) (hB : (B, .cells (nl [x]) 5 true) ∈ r) (hO : Own st r) (k q : Value → St → Prop)
    (hk : ∀ b st', Own st' ((b, .cells (nl (List.replicate 64 x)) 5 true) :: r) → k (.slice (some ⟨b, 0, none⟩) 64 64) st') :
    ACall (C base w0 G) 54 [.slice (some ⟨B, 0, none⟩) 1 1, .int .i64 64] st k q := by
  refine ACall.of (cx := C base w0 G) mixed Tryd.func54 rfl (by kernel_rfl) (by simp [Tryd.ntmps54]) ?_
  simp only [Tryd.results54]
  have c1 : IntKind.u64.wrap 1 = 1 := by decide
  have c64 : IntKind.u64.wrap 64 = 64 := by decide
  have d64 : IntKind.i64.wrap 64 = 64 := by decide
  have g0 : decide ((0 : Int) > 0) = false := by decide
  have g64 : decide ((64 : Int) > 9223372036854775807) = false := by decide
  simp (config := { implicitDefEqProofs := false }) only [↓GP, ↓GM, GQ, abuiltinX, ↓awp_seq, ↓awp_block, C_ex, Nat.reduceBEq, acap, afieldAddr, aload, astore, abin, anum, astr, aun, isAggD, cond_true, cond_false, ↓reduceIte, C_P, C_G, isTuple, Value.cells, setL, ares, aresL, ares1, reduceCtorEq, Nat.reduceEqDiff, eq_self, Nat.reduceAdd, if_true, if_false, Go.Abs.one, Nat.reduceLeDiff, undef, gsl, aextract, aindexAddr, amake, implies_true, forall_const, alen, abuiltin, anil, isC, Int.reduceEq, Int.reduceLT, Int.reduceLE, Int.reduceAdd, Int.reduceToNat, Int.reduceNeg, Nat.reduceMul, Nat.reduceSub, abuild, afill, Int.reduceBNe, Int.reduceBEq, Tryd.underlying3, Tryd.underlying86, Tryd.underlying38, aconv, c1, c64]
  refine ACallF.enter Tryd.func68 rfl (by kernel_rfl) (Mul_spec st _ _ ?_)
  have hO1 := hO.new (.cells (zeros [.int .u8 0] 64) 5 true)
  have hnew := hO1.head
  have hsrcB : asrc (st.new (.cells (zeros [.int .u8 0] 64) 5 true)) 1 (.slice (some ⟨B, 0, none⟩) 1 1) = some (1, nl [x]) := asrc_one (hO1.get (List.mem_cons_of_mem _ hB)) rfl
  have hz : zeros [Value.int .u8 0] 64 = nl (List.replicate 64 0) := by simp [zeros, nl, bl, List.replicate]
  simp (config := { implicitDefEqProofs := false }) only [↓GP, ↓GM, GQ, abuiltinX, ↓awp_seq, ↓awp_block, C_ex, Nat.reduceBEq, acap, afieldAddr, aload, astore, abin, anum, astr, aun, isAggD, cond_true, cond_false, ↓reduceIte, C_P, C_G, isTuple, Value.cells, setL, ares, aresL, ares1, reduceCtorEq, Nat.reduceEqDiff, eq_self, Nat.reduceAdd, if_true, if_false, Go.Abs.one, Nat.reduceLeDiff, undef, gsl, aextract, aindexAddr, amake, implies_true, forall_const, alen, abuiltin, anil, isC, Int.reduceEq, Int.reduceLT, Int.reduceLE, Int.reduceAdd, Int.reduceToNat, Int.reduceNeg, Nat.reduceMul, Nat.reduceSub, abuild, afill, Int.reduceBNe, Int.reduceBEq, g0, g64, Tryd.underlying3, Tryd.underlying86, Tryd.underlying38, aconv, d64, asz5, azc5, aby5,
    acopy_of (st := st.new (.cells (zeros [.int .u8 0] 64) 5 true)) (t' := 38) (sp := none) (off := 0) (L := 64) (c := 64) (x := .slice (some ⟨B, 0, none⟩) 1 1) Tryd.underlying38 asz5 hsrcB (nl_one _) hnew (by rw [hz]; simp [nl_length])]
  refine ⟨by decide, ?_⟩
  have hinit : setL (zeros [Value.int .u8 0] 64) 0 (List.take (Nat.min 1 64) (nl [x])) = nl (List.replicate 1 x ++ List.replicate 63 0) := by
    rw [hz]; rfl
  rw [hinit]
  have hO2 : Own _ ((st.n, .cells (nl (List.replicate 1 x ++ List.replicate 63 0)) 5 true) :: r) := hO1.set rfl (.cells (nl (List.replicate 1 x ++ List.replicate 63 0)) 5 true) rfl
  refine ⟨fun m ρ s => ∃ (j n : Nat), m = 6 - j ∧ j ≤ 6 ∧ n = 2 ^ j ∧ ρ 7 = .slice (some ⟨st.n, 0, none⟩) 64 64 ∧ ρ 8 = .int .i64 n ∧ Own s ((st.n, .cells (nl (List.replicate n x ++ List.replicate (64 - n) 0)) 5 true) :: r), ⟨6, 0, 1, rfl, by decide, rfl, rfl, rfl, hO2⟩, ?_⟩
  rintro m ρ s ⟨j, n, rfl, hj, hn, h7, h8, hs⟩
  have hcb := hs.head
  by_cases hj6 : j < 6
  · have hn32 : n ≤ 32 := by rw [hn]; exact Nat.le_trans (Nat.pow_le_pow_right (by decide) (show j ≤ 5 by omega)) (by decide)
    have hnl : (List.replicate n x ++ List.replicate (64 - n) 0).length = 64 := by simp; omega
    have hnl2 : (nl (List.replicate n x ++ List.replicate (64 - n) 0)).length = 64 := by rw [nl_length, hnl]
    have hs1 : aslice Tryd.prog s 38 (.slice (some ⟨st.n, 0, none⟩) 64 64) (some (.int .i64 n)) none none = some (.slice (some ⟨st.n, n, none⟩) (64 - n) (64 - n)) :=
      (aslice_exact (lo := some (.int .i64 (n : Nat))) (hi := none) Tryd.underlying38 asz5 (abounds_lo (by omega) (Nat.le_refl _))).trans (by simp)
    have hs2 : aslice Tryd.prog s 38 (.slice (some ⟨st.n, 0, none⟩) 64 64) none (some (.int .i64 n)) none = some (.slice (some ⟨st.n, 0, none⟩) n 64) :=
      (aslice_exact (lo := none) (hi := some (.int .i64 (n : Nat))) Tryd.underlying38 asz5 (abounds_hi (by omega))).trans (by simp)
    have hsrc : asrc s 1 (.slice (some ⟨st.n, 0, none⟩) n 64) = some (n, nl (List.replicate n x)) := by
      have : cut (nl (List.replicate n x ++ List.replicate (64 - n) 0)) 0 n = some (nl (List.replicate n x)) := by
        unfold cut
        rw [if_pos (by omega), List.drop_zero, nl_take, List.take_append_of_le_length (by simp), List.take_of_length_le (by simp)]
      simp [asrc, acut, hcb, this]
    have hcp : setL (nl (List.replicate n x ++ List.replicate (64 - n) 0)) n (List.take (Nat.min n (64 - n) * 1) (nl (List.replicate n x))) = nl (List.replicate (n + n) x ++ List.replicate (64 - (n + n)) 0) := by
      rw [show Nat.min n (64 - n) = n from Nat.min_eq_left (by omega), Nat.mul_one, List.take_of_length_le (by simp [nl_length]), nl_setL _ _ _ (by simp; omega)]
      congr 1
      rw [List.take_append_of_le_length (by simp), List.take_of_length_le (by simp), List.length_replicate, List.drop_append, List.drop_replicate, List.drop_replicate, List.length_replicate, List.replicate_append_replicate,
        show n - (n + n) = 0 by omega, List.replicate_zero, List.nil_append, show 64 - n - (n + n - n) = 64 - (n + n) by omega]
    have hmn : Nat.min n (64 - n) = n := Nat.min_eq_left (by omega)
    have hwn : IntKind.i64.wrap ((n : Int) + n) = ((n + n : Nat) : Int) := by rw [w_i64 (by omega)]; omega
    simp (config := { implicitDefEqProofs := false }) only [↓GP, ↓GM, GQ, abuiltinX, ↓awp_seq, ↓awp_block, C_ex, Nat.reduceBEq, acap, afieldAddr, aload, astore, abin, anum, astr, aun, isAggD, cond_true, cond_false, ↓reduceIte, C_P, C_G, isTuple, Value.cells, setL, ares, aresL, ares1, reduceCtorEq, Nat.reduceEqDiff, eq_self, Nat.reduceAdd, if_true, if_false, Go.Abs.one, Nat.reduceLeDiff, undef, gsl, aextract, aindexAddr, amake, implies_true, forall_const, alen, abuiltin, anil, isC, Int.reduceEq, Int.reduceLT, Int.reduceLE, Int.reduceAdd, Int.reduceToNat, Int.reduceNeg, Nat.reduceMul, Nat.reduceSub, abuild, afill, Int.reduceBNe, Int.reduceBEq, h7, h8, Tryd.underlying38, Tryd.underlying3, show (n : Int) < 64 by omega, decide_true]
    refine ADraw.of [(0, false, []), (1, false, []), (2, false, []), (3, false, []), (4, false, []), (5, false, []), (6, false, []), (7, false, []), (8, false, []), (9, false, [])] [] [] (by kernel_rfl) ?_
    simp (config := { implicitDefEqProofs := false }) only [↓GP, ↓GM, GQ, abuiltinX, ↓awp_seq, ↓awp_block, C_ex, Nat.reduceBEq, acap, afieldAddr, aload, astore, abin, anum, astr, aun, isAggD, cond_true, cond_false, ↓reduceIte, C_P, C_G, isTuple, Value.cells, setL, ares, aresL, ares1, reduceCtorEq, Nat.reduceEqDiff, eq_self, Nat.reduceAdd, if_true, if_false, Go.Abs.one, Nat.reduceLeDiff, undef, gsl, aextract, aindexAddr, amake, implies_true, forall_const, alen, abuiltin, anil, isC, Int.reduceEq, Int.reduceLT, Int.reduceLE, Int.reduceAdd, Int.reduceToNat, Int.reduceNeg, Nat.reduceMul, Nat.reduceSub, abuild, afill, Int.reduceBNe, Int.reduceBEq, h7, h8, Tryd.underlying38, Tryd.underlying3, hs1, hs2,
      acopy_of (st := s) (t' := 38) (sp := none) (off := n) (L := 64 - n) (c := 64 - n) (x := .slice (some ⟨st.n, 0, none⟩) n 64) Tryd.underlying38 asz5 hsrc (nl_one _) hcb (by omega), hwn, hmn]
    refine ⟨6 - (j + 1), by omega, j + 1, n + n, rfl, by omega, by rw [hn, Nat.pow_succ]; omega, rfl, ?_⟩
    refine own_set_eq hs ?_
    rw [← hcp, hmn, Nat.mul_one]
  · obtain rfl : j = 6 := by omega
    obtain rfl : n = 64 := hn
    simp (config := { implicitDefEqProofs := false }) only [↓GP, ↓GM, GQ, abuiltinX, ↓awp_seq, ↓awp_block, C_ex, Nat.reduceBEq, acap, afieldAddr, aload, astore, abin, anum, astr, aun, isAggD, cond_true, cond_false, ↓reduceIte, C_P, C_G, isTuple, Value.cells, setL, ares, aresL, ares1, reduceCtorEq, Nat.reduceEqDiff, eq_self, Nat.reduceAdd, if_true, if_false, Go.Abs.one, Nat.reduceLeDiff, undef, gsl, aextract, aindexAddr, amake, implies_true, forall_const, alen, abuiltin, anil, isC, Int.reduceEq, Int.reduceLT, Int.reduceLE, Int.reduceAdd, Int.reduceToNat, Int.reduceNeg, Nat.reduceMul, Nat.reduceSub, abuild, afill, Int.reduceBNe, Int.reduceBEq, h7, h8, Tryd.underlying38, Tryd.underlying3, show ¬ ((64 : Nat) : Int) < 64 by decide, decide_false]
    have := hk st.n s (by simpa using hs)
    exact this
end Go.Proofs.YthohmdkibkompaaDoor
set_option linter.unusedVariables false
set_option linter.unusedSimpArgs false
namespace Go.Proofs.YthohmdkibkompaaDoor
open Go Go.Abs Go.RowKit
variable {base : Nat} {w0 : World} {G : Nat}

theorem buildSlice0 {P : Program} {st : St} {t e : TypeId} {n : Nat} {z : List Value} (hu : P.underlying t = some (.slice e)) (hn : asz P e = some n) (hz : azc P e = some z) :
    abuildSlice P st t 0 [] = some (.slice (some ⟨st.n, 0, none⟩) 0 0, st.new (.cells [] e true)) := abuildSlice_none hu hn hz
/-- A slice of slices whose room is known. -/
def CL (v : Value) (ps : List (Value × List Nat)) (hg : Hp) : Prop := (v = .slice none 0 0 ∧ ps = [] ∧ hg = []) ∨
  ∃ b c D, v = .slice (some ⟨b, 0, none⟩) ps.length c ∧ hg = [(b, .cells D 38 true)] ∧ D.length = c ∧ D.take ps.length = ps.map (·.1) ∧ ps.length ≤ c ∧ D.all one = true
theorem zeros_one (n : Nat) : (zeros [Value.slice none 0 0] n).all one = true := by simp [zeros, one]
set_option maxRecDepth 10000 in
theorem Clone_spec (st : St) (r : Hp) (v : Value) (ps : List (Value × List Nat)) (hv : Ps r v ps) (hl : ps.length ≤ 100000) (hO : Own st r) (k q : Value → St → Prop)
    (hk : ∀ v' hg st', CL v' ps hg → Own st' (hg ++ r) → k v' st') :
    ACall (C base w0 G) 42 [v] st k q := by
  refine ACall.of (cx := C base w0 G) mixed Tryd.func42 rfl (by kernel_rfl) (by simp [Tryd.ntmps42]) ?_
  simp only [Tryd.results42]
  have hO1 := hO.new (.cells [] 38 true)
  have hsrc := (hv.sub fun e he => List.mem_cons_of_mem _ he).src hO1
  have hone := hv.one
  obtain ⟨a, c, hvs⟩ : ∃ a c, v = .slice a ps.length c := by
    obtain ⟨a, c, h, _⟩ := hv.1.isSlice
    rw [List.length_map] at h
    exact ⟨a, c, h⟩
  by_cases hnil : v = .slice none 0 0
  · have hps : ps = [] := by
      rw [hvs] at hnil
      injection hnil with _ h _
      exact List.eq_nil_of_length_eq_zero h
    subst hps
    simp (config := { implicitDefEqProofs := false }) only [↓GP, ↓GM, GQ, abuiltinX, ↓awp_seq, ↓awp_block, C_ex, Nat.reduceBEq, acap, afieldAddr, aload, astore, abin, anum, astr, aun, isAggD, cond_true, cond_false, ↓reduceIte, C_P, C_G, isTuple, Value.cells, setL, ares, aresL, ares1, reduceCtorEq, Nat.reduceEqDiff, eq_self, Nat.reduceAdd, if_true, if_false, Go.Abs.one, Nat.reduceLeDiff, undef, gsl, aextract, aindexAddr, amake, implies_true, forall_const, alen, abuiltin, anil, isC, Int.reduceEq, Int.reduceLT, Int.reduceLE, Int.reduceAdd, Int.reduceToNat, Int.reduceNeg, Nat.reduceMul, Nat.reduceSub, abuild, afill, Int.reduceBNe, Int.reduceBEq, hnil, Tryd.underlying88]
    exact hk _ [] _ (.inl ⟨rfl, rfl, rfl⟩) hO
  · obtain ⟨ad, rfl⟩ : ∃ ad, a = some ad := by
      cases a with
      | some ad => exact ⟨ad, rfl⟩
      | none =>
        rcases hv.1 with ⟨h1, h | ⟨x, o, sp, c', h⟩⟩ | ⟨x, o, sp, c', cs, ty, own, h, hm, hc⟩
        · exact absurd h hnil
        · rw [hvs] at h; injection h with h; cases h
        · rw [hvs] at h; injection h with h; cases h
    rw [hvs] at hsrc
    simp (config := { implicitDefEqProofs := false }) only [↓GP, ↓GM, GQ, abuiltinX, ↓awp_seq, ↓awp_block, C_ex, Nat.reduceBEq, acap, afieldAddr, aload, astore, abin, anum, astr, aun, isAggD, cond_true, cond_false, ↓reduceIte, C_P, C_G, isTuple, Value.cells, setL, ares, aresL, ares1, reduceCtorEq, Nat.reduceEqDiff, eq_self, Nat.reduceAdd, if_true, if_false, Go.Abs.one, Nat.reduceLeDiff, undef, gsl, aextract, aindexAddr, amake, implies_true, forall_const, alen, abuiltin, anil, isC, Int.reduceEq, Int.reduceLT, Int.reduceLE, Int.reduceAdd, Int.reduceToNat, Int.reduceNeg, Nat.reduceMul, Nat.reduceSub, abuild, afill, Int.reduceBNe, Int.reduceBEq, hvs, Tryd.underlying88, buildSlice0 Tryd.underlying88 asz38 azc38, ↓ab_appendX]
    by_cases hne : ps = []
    · subst hne
      simp only [List.length_nil] at hsrc ⊢
      have hb : (st.new (.cells [] 38 true)).H st.n = some (.cells [] 38 true) := new_at _
      refine .inr ?_
      have hsrc0 : asrc (st.new (.cells [] 38 true)) 1 (.slice (some ad) 0 c) = some (0, []) := hsrc
      rw [aappend_fit (m := 0) (Cs := []) Tryd.underlying88 (by rw [Tryd.underlying88]; rfl) asz38 azc38 aby38 hsrc0 rfl hb (by decide) (by simp), setL, set_self hb]
      simp (config := { implicitDefEqProofs := false }) only [↓GP, ↓GM, GQ, abuiltinX, ↓awp_seq, ↓awp_block, C_ex, Nat.reduceBEq, acap, afieldAddr, aload, astore, abin, anum, astr, aun, isAggD, cond_true, cond_false, ↓reduceIte, C_P, C_G, isTuple, Value.cells, setL, ares, aresL, ares1, reduceCtorEq, Nat.reduceEqDiff, eq_self, Nat.reduceAdd, if_true, if_false, Go.Abs.one, Nat.reduceLeDiff, undef, gsl, aextract, aindexAddr, amake, implies_true, forall_const, alen, abuiltin, anil, isC, Int.reduceEq, Int.reduceLT, Int.reduceLE, Int.reduceAdd, Int.reduceToNat, Int.reduceNeg, Nat.reduceMul, Nat.reduceSub, abuild, afill, Int.reduceBNe, Int.reduceBEq]
      exact hk _ [(st.n, .cells [] 38 true)] _ (.inr ⟨st.n, 0, [], rfl, rfl, rfl, rfl, Nat.le_refl _, rfl⟩) hO1
    · have hpos : 0 < ps.length := List.length_pos_iff.2 hne
      refine .inl ?_
      have hac : acut (st.new (.cells [] 38 true)) st.n 0 (0 * 1) = some [] := by simp [acut, new_at, cut]
      rw [agrownL_exact Tryd.underlying88 asz38 azc38 aby38 (asrcT_slice (by rw [Tryd.underlying88]; rfl) hsrc) hac (by omega) (by omega), aroom_some]
      intro c' hc'
      simp (config := { implicitDefEqProofs := false }) only [↓GP, ↓GM, GQ, abuiltinX, ↓awp_seq, ↓awp_block, C_ex, Nat.reduceBEq, acap, afieldAddr, aload, astore, abin, anum, astr, aun, isAggD, cond_true, cond_false, ↓reduceIte, C_P, C_G, isTuple, Value.cells, setL, ares, aresL, ares1, reduceCtorEq, Nat.reduceEqDiff, eq_self, Nat.reduceAdd, if_true, if_false, Go.Abs.one, Nat.reduceLeDiff, undef, gsl, aextract, aindexAddr, amake, implies_true, forall_const, alen, abuiltin, anil, isC, Int.reduceEq, Int.reduceLT, Int.reduceLE, Int.reduceAdd, Int.reduceToNat, Int.reduceNeg, Nat.reduceMul, Nat.reduceSub, abuild, afill, Int.reduceBNe, Int.reduceBEq] at hc' ⊢
      refine hk _ [(st.n + 1, .cells (ps.map (·.1) ++ zeros [.slice none 0 0] (c' - ps.length)) 38 true)] _ (.inr ⟨st.n + 1, c', _, rfl, rfl, ?_, ?_, hc', by rw [List.all_append, hone, zeros_one]; rfl⟩) ?_
      · simp [zeros_length]; omega
      · rw [List.take_append_of_le_length (by simp), List.take_of_length_le (by simp)]
      · exact (hO1.new (.cells (ps.map (·.1) ++ zeros [.slice none 0 0] (c' - ps.length)) 38 true)).sub (List.Sublist.cons_cons _ (List.sublist_cons_self _ _))

theorem set_take {l : List Value} (x : Value) (rows : List Value) (n : Nat) (hn : rows.length = n) (hl : n + 1 ≤ l.length) : (setL (setL l 0 [x]) 1 rows).take (n + 1) = x :: rows := by
  subst hn
  cases l with
  | nil => simp at hl
  | cons y r =>
    have h1 : setL (y :: r) 0 [x] = x :: r := rfl
    rw [h1, setL_take_drop _ _ _ (by simp at hl ⊢; omega)]
    simp
theorem set_take' {l : List Value} (x : Value) (rows : List Value) (n : Nat) (hn : rows.length = n) (hl : n + 1 ≤ l.length) : (setL (setL l 1 rows) 0 [x]).take (n + 1) = x :: rows := by
  subst hn
  cases l with
  | nil => simp at hl
  | cons y r =>
    rw [setL_take_drop rows (y :: r) 1 (by simp at hl ⊢; omega)]
    simp [setL]
set_option maxRecDepth 10000 in
theorem Insert_spec (st : St) (r : Hp) (v pv : Value) (ps : List (Value × List Nat)) (hg : Hp) (V : Nat) (hv : CL v ps hg) (hl : ps.length ≤ 100000) (hV : (V, .cells [pv] 38 true) ∈ r) (hp1 : one pv = true) (hps : (ps.map (·.1)).all one = true) (hO : Own st (hg ++ r)) (k q : Value → St → Prop)
    (hk : ∀ b c D st', D.take (ps.length + 1) = pv :: ps.map (·.1) → Own st' ((b, .cells D 38 true) :: r) → k (.slice (some ⟨b, 0, none⟩) (ps.length + 1) c) st') :
    ACall (C base w0 G) 41 [v, .int .i64 0, .slice (some ⟨V, 0, none⟩) 1 1] st k q := by
  refine ACall.of (cx := C base w0 G) mixed Tryd.func41 rfl (by kernel_rfl) (by simp [Tryd.ntmps41]) ?_
  simp only [Tryd.results41]
  have hsV : ∀ s h, Own s (h ++ r) → asrc s 1 (.slice (some ⟨V, 0, none⟩) 1 1) = some (1, [pv]) := fun s h hO => asrc_one (hO.get (List.mem_append_right _ hV)) rfl
  have hwn : IntKind.i64.wrap ((ps.length : Int) + 1) = ((ps.length + 1 : Nat) : Int) := by rw [w_i64 (by omega)]; rfl
  rcases hv with ⟨rfl, rfl, rfl⟩ | ⟨b, c, D, rfl, rfl, hDl, hD, hc, hDo⟩
  · have hsr := asrcT_slice (P := Tryd.prog) (t' := 88) (z := [.slice none 0 0]) (by rw [Tryd.underlying88]; rfl) (hsV st [] hO)
    have hsn : aslice Tryd.prog st 88 (.slice none 0 0) (some (.int .i64 0)) none none = some (.slice none 0 0) := by simp [aslice, Tryd.underlying88, abounds, bnd, asz38]
    simp (config := { implicitDefEqProofs := false }) only [↓GP, ↓GM, GQ, abuiltinX, ↓awp_seq, ↓awp_block, C_ex, Nat.reduceBEq, acap, afieldAddr, aload, astore, abin, anum, astr, aun, isAggD, cond_true, cond_false, ↓reduceIte, C_P, C_G, isTuple, Value.cells, setL, ares, aresL, ares1, reduceCtorEq, Nat.reduceEqDiff, eq_self, Nat.reduceAdd, if_true, if_false, Go.Abs.one, Nat.reduceLeDiff, undef, gsl, aextract, aindexAddr, amake, implies_true, forall_const, alen, abuiltin, anil, isC, Int.reduceEq, Int.reduceLT, Int.reduceLE, Int.reduceAdd, Int.reduceToNat, Int.reduceNeg, Nat.reduceMul, Nat.reduceSub, abuild, afill, Int.reduceBNe, Int.reduceBEq, Tryd.underlying88, Tryd.underlying3, hsn, ↓ab_appendX]
    refine .inl ?_
    rw [agrownL_nil Tryd.underlying88 asz38 azc38 aby38 hsr (by decide) (by decide), aroom_some]
    intro c' hc'
    simp (config := { implicitDefEqProofs := false }) only [↓GP, ↓GM, GQ, abuiltinX, ↓awp_seq, ↓awp_block, C_ex, Nat.reduceBEq, acap, afieldAddr, aload, astore, abin, anum, astr, aun, isAggD, cond_true, cond_false, ↓reduceIte, C_P, C_G, isTuple, Value.cells, setL, ares, aresL, ares1, reduceCtorEq, Nat.reduceEqDiff, eq_self, Nat.reduceAdd, if_true, if_false, Go.Abs.one, Nat.reduceLeDiff, undef, gsl, aextract, aindexAddr, amake, implies_true, forall_const, alen, abuiltin, anil, isC, Int.reduceEq, Int.reduceLT, Int.reduceLE, Int.reduceAdd, Int.reduceToNat, Int.reduceNeg, Nat.reduceMul, Nat.reduceSub, abuild, afill, Int.reduceBNe, Int.reduceBEq]
    exact hk _ _ _ _ rfl (hO.new (.cells ([pv] ++ zeros [.slice none 0 0] (c' - 1)) 38 true))
  · have hsl0 : ∀ s, aslice Tryd.prog s 88 (.slice (some ⟨b, 0, none⟩) ps.length c) (some (.int .i64 0)) none none = some (.slice (some ⟨b, 0, none⟩) ps.length c) := fun s =>
      (aslice_exact (lo := some (.int .i64 (0 : Nat))) (hi := none) Tryd.underlying88 asz38 (abounds_lo (Nat.zero_le _) hc)).trans (by simp)
    have hcb := hO.head
    have hrl : (ps.map (·.1)).length = ps.length := by simp
    have hne : b ≠ V := fun e => (hO.ne rfl hV) e.symm
    by_cases h0 : ps.length = 0
    · have hps0 : ps = [] := List.eq_nil_of_length_eq_zero h0
      subst hps0
      have hsl00 := hsl0 st
      simp only [List.length_nil] at hsl00
      simp (config := { implicitDefEqProofs := false }) only [↓GP, ↓GM, GQ, abuiltinX, ↓awp_seq, ↓awp_block, C_ex, Nat.reduceBEq, acap, afieldAddr, aload, astore, abin, anum, astr, aun, isAggD, cond_true, cond_false, ↓reduceIte, C_P, C_G, isTuple, Value.cells, setL, ares, aresL, ares1, reduceCtorEq, Nat.reduceEqDiff, eq_self, Nat.reduceAdd, if_true, if_false, Go.Abs.one, Nat.reduceLeDiff, undef, gsl, aextract, aindexAddr, amake, implies_true, forall_const, alen, abuiltin, anil, isC, Int.reduceEq, Int.reduceLT, Int.reduceLE, Int.reduceAdd, Int.reduceToNat, Int.reduceNeg, Nat.reduceMul, Nat.reduceSub, abuild, afill, Int.reduceBNe, Int.reduceBEq, Tryd.underlying88, Tryd.underlying3, hsl00, ↓ab_appendX]
      by_cases hc0 : c = 0
      · subst hc0
        refine .inl ?_
        have hac : acut st b 0 (0 * 1) = some [] := by simp [acut, hcb, cut]
        rw [agrownL_exact Tryd.underlying88 asz38 azc38 aby38 (asrcT_slice (by rw [Tryd.underlying88]; rfl) (hsV st _ hO)) hac (by decide) (by decide), aroom_some]
        intro c' hc'
        simp (config := { implicitDefEqProofs := false }) only [↓GP, ↓GM, GQ, abuiltinX, ↓awp_seq, ↓awp_block, C_ex, Nat.reduceBEq, acap, afieldAddr, aload, astore, abin, anum, astr, aun, isAggD, cond_true, cond_false, ↓reduceIte, C_P, C_G, isTuple, Value.cells, setL, ares, aresL, ares1, reduceCtorEq, Nat.reduceEqDiff, eq_self, Nat.reduceAdd, if_true, if_false, Go.Abs.one, Nat.reduceLeDiff, undef, gsl, aextract, aindexAddr, amake, implies_true, forall_const, alen, abuiltin, anil, isC, Int.reduceEq, Int.reduceLT, Int.reduceLE, Int.reduceAdd, Int.reduceToNat, Int.reduceNeg, Nat.reduceMul, Nat.reduceSub, abuild, afill, Int.reduceBNe, Int.reduceBEq]
        exact hk _ _ _ _ rfl (hO.tail.new (.cells ([pv] ++ zeros [.slice none 0 0] (c' - 1)) 38 true))
      · refine .inr ?_
        rw [aappend_fit (m := 1) (Cs := [pv]) Tryd.underlying88 (by rw [Tryd.underlying88]; rfl) asz38 azc38 aby38 (hsV st _ hO) (by simp [hp1]) hcb (by omega) (by omega)]
        simp (config := { implicitDefEqProofs := false }) only [↓GP, ↓GM, GQ, abuiltinX, ↓awp_seq, ↓awp_block, C_ex, Nat.reduceBEq, acap, afieldAddr, aload, astore, abin, anum, astr, aun, isAggD, cond_true, cond_false, ↓reduceIte, C_P, C_G, isTuple, Value.cells, setL, ares, aresL, ares1, reduceCtorEq, Nat.reduceEqDiff, eq_self, Nat.reduceAdd, if_true, if_false, Go.Abs.one, Nat.reduceLeDiff, undef, gsl, aextract, aindexAddr, amake, implies_true, forall_const, alen, abuiltin, anil, isC, Int.reduceEq, Int.reduceLT, Int.reduceLE, Int.reduceAdd, Int.reduceToNat, Int.reduceNeg, Nat.reduceMul, Nat.reduceSub, abuild, afill, Int.reduceBNe, Int.reduceBEq]
        refine hk b c (D.set 0 pv) _ ?_ (hO.set rfl (.cells (D.set 0 pv) 38 true) rfl)
        cases D with
        | nil => simp at hDl; exact absurd hDl.symm hc0
        | cons y r => rfl
    · by_cases hcap : ps.length + 1 ≤ c
      · have hsl1 : ∀ s, aslice Tryd.prog s 88 (.slice (some ⟨b, 0, none⟩) ps.length c) none (some (.int .i64 (ps.length + 1 : Nat))) none = some (.slice (some ⟨b, 0, none⟩) (ps.length + 1) c) := fun s =>
          (aslice_exact (lo := none) (hi := some (.int .i64 (ps.length + 1 : Nat))) Tryd.underlying88 asz38 (abounds_hi hcap)).trans (by simp)
        have hsl2 : ∀ s, aslice Tryd.prog s 88 (.slice (some ⟨b, 0, none⟩) (ps.length + 1) c) (some (.int .i64 1)) none none = some (.slice (some ⟨b, 1, none⟩) ps.length (c - 1)) := fun s =>
          (aslice_exact (lo := some (.int .i64 (1 : Nat))) (hi := none) Tryd.underlying88 asz38 (abounds_lo (by omega) hcap)).trans (by simp)
        have hsl3 : ∀ s, aslice Tryd.prog s 88 (.slice (some ⟨b, 0, none⟩) (ps.length + 1) c) (some (.int .i64 0)) none none = some (.slice (some ⟨b, 0, none⟩) (ps.length + 1) c) := fun s =>
          (aslice_exact (lo := some (.int .i64 (0 : Nat))) (hi := none) Tryd.underlying88 asz38 (abounds_lo (Nat.zero_le _) hcap)).trans (by simp)
        have w1 : IntKind.i64.wrap 1 = 1 := by decide
        simp (config := { implicitDefEqProofs := false }) only [↓GP, ↓GM, GQ, abuiltinX, ↓awp_seq, ↓awp_block, C_ex, Nat.reduceBEq, acap, afieldAddr, aload, astore, abin, anum, astr, aun, isAggD, cond_true, cond_false, ↓reduceIte, C_P, C_G, isTuple, Value.cells, setL, ares, aresL, ares1, reduceCtorEq, Nat.reduceEqDiff, eq_self, Nat.reduceAdd, if_true, if_false, Go.Abs.one, Nat.reduceLeDiff, undef, gsl, aextract, aindexAddr, amake, implies_true, forall_const, alen, abuiltin, anil, isC, Int.reduceEq, Int.reduceLT, Int.reduceLE, Int.reduceAdd, Int.reduceToNat, Int.reduceNeg, Nat.reduceMul, Nat.reduceSub, abuild, afill, Int.reduceBNe, Int.reduceBEq, Tryd.underlying88, Tryd.underlying3, hsl0, show ¬ (0 : Int) = (ps.length : Int) by omega, hwn, show ¬ ((ps.length + 1 : Nat) : Int) > (c : Int) by omega, decide_false, ↓ab_appendX, hsl1, hsl2, w1]
        have hVm : (V, Ob.cells [pv] 38 true) ∈ [(b, Ob.cells D 38 true)] ++ r := List.mem_append_right _ hV
        refine ACallF.overlaps (sz := 1) (fn := Tryd.f55) (tR := 4) Tryd.func55 (by kernel_rfl) (by kernel_rfl) (by kernel_rfl) (by kernel_rfl) Tryd.underlying88 asz38 (hO.get hVm) hcb hne.symm (show isU8 (Tryd.prog.underlying 38) = false by rw [Tryd.underlying38]; rfl) (by simp) (by omega) (by decide) (by omega) ?_
        simp (config := { implicitDefEqProofs := false }) only [↓GP, ↓GM, GQ, abuiltinX, ↓awp_seq, ↓awp_block, C_ex, Nat.reduceBEq, acap, afieldAddr, aload, astore, abin, anum, astr, aun, isAggD, cond_true, cond_false, ↓reduceIte, C_P, C_G, isTuple, Value.cells, setL, ares, aresL, ares1, reduceCtorEq, Nat.reduceEqDiff, eq_self, Nat.reduceAdd, if_true, if_false, Go.Abs.one, Nat.reduceLeDiff, undef, gsl, aextract, aindexAddr, amake, implies_true, forall_const, alen, abuiltin, anil, isC, Int.reduceEq, Int.reduceLT, Int.reduceLE, Int.reduceAdd, Int.reduceToNat, Int.reduceNeg, Nat.reduceMul, Nat.reduceSub, abuild, afill, Int.reduceBNe, Int.reduceBEq, w1]
        have hsrcD : asrc st 1 (.slice (some ⟨b, 0, none⟩) (ps.length + 1) c) = some (ps.length + 1, D.take (ps.length + 1)) := by
          have : cut D 0 ((ps.length + 1) * 1) = some (D.take (ps.length + 1)) := by
            unfold cut
            rw [Nat.mul_one, if_pos (by omega), List.drop_zero]
          simp only [asrc, acut, hcb, this]
        have hone2 : (D.take (ps.length + 1)).all one = true := List.all_eq_true.2 fun v hv => List.all_eq_true.1 hDo v (List.mem_of_mem_take hv)
        refine ADraw.of [(0, false, []), (1, false, []), (2, false, []), (3, false, []), (4, false, []), (5, false, []), (6, false, []), (7, false, []), (8, false, [])] [] [] (by kernel_rfl) ?_
        simp (config := { implicitDefEqProofs := false }) only [↓GP, ↓GM, GQ, abuiltinX, ↓awp_seq, ↓awp_block, C_ex, Nat.reduceBEq, acap, afieldAddr, aload, astore, abin, anum, astr, aun, isAggD, cond_true, cond_false, ↓reduceIte, C_P, C_G, isTuple, Value.cells, setL, ares, aresL, ares1, reduceCtorEq, Nat.reduceEqDiff, eq_self, Nat.reduceAdd, if_true, if_false, Go.Abs.one, Nat.reduceLeDiff, undef, gsl, aextract, aindexAddr, amake, implies_true, forall_const, alen, abuiltin, anil, isC, Int.reduceEq, Int.reduceLT, Int.reduceLE, Int.reduceAdd, Int.reduceToNat, Int.reduceNeg, Nat.reduceMul, Nat.reduceSub, abuild, afill, Int.reduceBNe, Int.reduceBEq, Tryd.underlying3, hsl2, hsl3, w1,
          acopy_of (st := st) (t' := 88) (sp := none) (off := 1) (L := ps.length) (c := c - 1) (x := .slice (some ⟨b, 0, none⟩) (ps.length + 1) c) Tryd.underlying88 asz38 hsrcD hone2 hcb (by omega)]
        have hmn : (ps.length + 1).min ps.length = ps.length := Nat.min_eq_right (by omega)
        have hrows : List.take ps.length (List.take (ps.length + 1) D) = ps.map (·.1) := by rw [List.take_take, Nat.min_eq_left (by omega), hD]
        rw [hmn, hrows]
        have hD1l : (setL D 1 (ps.map (·.1))).length = c := by rw [setL_length, hDl]
        have hDt := set_take' (l := D) pv (ps.map (·.1)) ps.length hrl (by omega)
        have hOs := hO.set rfl (.cells (setL D 1 (ps.map (·.1))) 38 true) rfl
        generalize setL D 1 (ps.map (·.1)) = D1 at *
        have hmin1 : Nat.min 1 (ps.length + 1) = 1 := Nat.min_eq_left (by omega)
        simp (config := { implicitDefEqProofs := false }) only [↓GP, ↓GM, GQ, abuiltinX, ↓awp_seq, ↓awp_block, C_ex, Nat.reduceBEq, acap, afieldAddr, aload, astore, abin, anum, astr, aun, isAggD, cond_true, cond_false, ↓reduceIte, C_P, C_G, isTuple, Value.cells, setL, ares, aresL, ares1, reduceCtorEq, Nat.reduceEqDiff, eq_self, Nat.reduceAdd, if_true, if_false, Go.Abs.one, Nat.reduceLeDiff, undef, gsl, aextract, aindexAddr, amake, implies_true, forall_const, alen, abuiltin, anil, isC, Int.reduceEq, Int.reduceLT, Int.reduceLE, Int.reduceAdd, Int.reduceToNat, Int.reduceNeg, Nat.reduceMul, Nat.reduceSub, abuild, afill, Int.reduceBNe, Int.reduceBEq,
          acopy_of (st := st.set b (some (.cells D1 38 true))) (t' := 88) (sp := none) (off := 0) (L := ps.length + 1) (c := c) (x := .slice (some ⟨V, 0, none⟩) 1 1) Tryd.underlying88 asz38 (hsV _ [(b, .cells D1 38 true)] hOs) (by simp [hp1]) hOs.head (by omega), hmin1, List.take_succ_cons, List.take_zero]
        refine hk b c (setL D1 0 [pv]) _ hDt (hOs.set rfl (.cells (setL D1 0 [pv]) 38 true) rfl)
      · have hsl4 : ∀ s, aslice Tryd.prog s 88 (.slice (some ⟨b, 0, none⟩) ps.length c) none (some (.int .i64 0)) none = some (.slice (some ⟨b, 0, none⟩) 0 c) := fun s =>
          (aslice_exact (lo := none) (hi := some (.int .i64 (0 : Nat))) Tryd.underlying88 asz38 (abounds_hi (Nat.zero_le _))).trans (by simp)
        have wz : IntKind.i64.wrap (((ps.length + 1 : Nat) : Int) - 0) = ((ps.length + 1 : Nat) : Int) := by rw [w_i64 (by omega)]; omega
        simp (config := { implicitDefEqProofs := false }) only [↓GP, ↓GM, GQ, abuiltinX, ↓awp_seq, ↓awp_block, C_ex, Nat.reduceBEq, acap, afieldAddr, aload, astore, abin, anum, astr, aun, isAggD, cond_true, cond_false, ↓reduceIte, C_P, C_G, isTuple, Value.cells, setL, ares, aresL, ares1, reduceCtorEq, Nat.reduceEqDiff, eq_self, Nat.reduceAdd, if_true, if_false, Go.Abs.one, Nat.reduceLeDiff, undef, gsl, aextract, aindexAddr, amake, implies_true, forall_const, alen, abuiltin, anil, isC, Int.reduceEq, Int.reduceLT, Int.reduceLE, Int.reduceAdd, Int.reduceToNat, Int.reduceNeg, Nat.reduceMul, Nat.reduceSub, abuild, afill, Int.reduceBNe, Int.reduceBEq, Tryd.underlying88, Tryd.underlying3, hsl0, hsl4, wz, show ¬ (0 : Int) = (ps.length : Int) by omega, hwn, show ((ps.length + 1 : Nat) : Int) > (c : Int) by omega, decide_true, ↓ab_appendX]
        refine .inl ?_
        have hac : acut st b 0 (0 * 1) = some [] := by simp [acut, hcb, cut]
        have hag : agrownL Tryd.prog st #[88, 3] [.slice (some ⟨b, 0, none⟩) 0 c, .int .i64 (ps.length + 1 : Nat)] = some (38, ps.length + 1, zeros [.slice none 0 0] (ps.length + 1), [.slice none 0 0]) :=
          (agrownL_exact Tryd.underlying88 asz38 azc38 aby38 (asrcT_int (by rw [Tryd.underlying3]; rfl) (by omega)) hac (by omega) (by omega)).trans (by simp)
        rw [hag, aroom_some]
        intro c' hc'
        simp (config := { implicitDefEqProofs := false }) only [↓GP, ↓GM, GQ, abuiltinX, ↓awp_seq, ↓awp_block, C_ex, Nat.reduceBEq, acap, afieldAddr, aload, astore, abin, anum, astr, aun, isAggD, cond_true, cond_false, ↓reduceIte, C_P, C_G, isTuple, Value.cells, setL, ares, aresL, ares1, reduceCtorEq, Nat.reduceEqDiff, eq_self, Nat.reduceAdd, if_true, if_false, Go.Abs.one, Nat.reduceLeDiff, undef, gsl, aextract, aindexAddr, amake, implies_true, forall_const, alen, abuiltin, anil, isC, Int.reduceEq, Int.reduceLT, Int.reduceLE, Int.reduceAdd, Int.reduceToNat, Int.reduceNeg, Nat.reduceMul, Nat.reduceSub, abuild, afill, Int.reduceBNe, Int.reduceBEq]
        have hOz := hO.tail.new (.cells (zeros [.slice none 0 0] (ps.length + 1) ++ zeros [.slice none 0 0] (c' - (ps.length + 1))) 38 true)
        have hOz2 := hO.new (.cells (zeros [.slice none 0 0] (ps.length + 1) ++ zeros [.slice none 0 0] (c' - (ps.length + 1))) 38 true)
        have hzl : (zeros [Value.slice none 0 0] (ps.length + 1) ++ zeros [Value.slice none 0 0] (c' - (ps.length + 1))).length = c' := by simp [zeros_length]; omega
        obtain ⟨Z, hZ⟩ : ∃ Z, Z = zeros [Value.slice none 0 0] (ps.length + 1) ++ zeros [Value.slice none 0 0] (c' - (ps.length + 1)) := ⟨_, rfl⟩
        rw [← hZ] at hOz hOz2 hzl ⊢
        have hnew := hOz2.head
        have hsl5 : ∀ s, aslice Tryd.prog s 88 (.slice (some ⟨st.n, 0, none⟩) (ps.length + 1) c') (some (.int .i64 0)) none none = some (.slice (some ⟨st.n, 0, none⟩) (ps.length + 1) c') := fun s =>
          (aslice_exact (lo := some (.int .i64 (0 : Nat))) (hi := none) Tryd.underlying88 asz38 (abounds_lo (Nat.zero_le _) (by omega))).trans (by simp)
        have hsl6 : ∀ s, aslice Tryd.prog s 88 (.slice (some ⟨st.n, 0, none⟩) (ps.length + 1) c') (some (.int .i64 1)) none none = some (.slice (some ⟨st.n, 1, none⟩) ps.length (c' - 1)) := fun s =>
          (aslice_exact (lo := some (.int .i64 (1 : Nat))) (hi := none) Tryd.underlying88 asz38 (abounds_lo (by omega) (by omega))).trans (by simp)
        have w1 : IntKind.i64.wrap 1 = 1 := by decide
        have hsV2 := asrc_one (c := 1) (sp := none) (hOz2.get (b := V) (o := .cells [pv] 38 true) (by simp [hV])) (n := 1) rfl
        simp (config := { implicitDefEqProofs := false }) only [↓GP, ↓GM, GQ, abuiltinX, ↓awp_seq, ↓awp_block, C_ex, Nat.reduceBEq, acap, afieldAddr, aload, astore, abin, anum, astr, aun, isAggD, cond_true, cond_false, ↓reduceIte, C_P, C_G, isTuple, Value.cells, setL, ares, aresL, ares1, reduceCtorEq, Nat.reduceEqDiff, eq_self, Nat.reduceAdd, if_true, if_false, Go.Abs.one, Nat.reduceLeDiff, undef, gsl, aextract, aindexAddr, amake, implies_true, forall_const, alen, abuiltin, anil, isC, Int.reduceEq, Int.reduceLT, Int.reduceLE, Int.reduceAdd, Int.reduceToNat, Int.reduceNeg, Nat.reduceMul, Nat.reduceSub, abuild, afill, Int.reduceBNe, Int.reduceBEq, hsl5,
          acopy_of (st := st.new (.cells Z 38 true)) (t' := 88) (sp := none) (off := 0) (L := ps.length + 1) (c := c') (x := .slice (some ⟨V, 0, none⟩) 1 1) Tryd.underlying88 asz38 hsV2 (by simp [hp1]) hnew (by omega)]
        have hmin1 : Nat.min 1 (ps.length + 1) = 1 := Nat.min_eq_left (by omega)
        have hZt := set_take (l := Z) pv (ps.map (·.1)) ps.length hrl (by omega)
        have hZ1l : (setL Z 0 [pv]).length = c' := by rw [setL_length, hzl]
        have hOz3 := hOz2.set rfl (.cells (setL Z 0 [pv]) 38 true) rfl
        rw [hmin1, show List.take 1 [pv] = [pv] from rfl]
        generalize setL Z 0 [pv] = Z1 at *
        have hcD := hOz3.get (b := b) (o := .cells D 38 true) (by simp)
        have hsrcD : asrc ((st.new (.cells Z 38 true)).set st.n (some (.cells Z1 38 true))) 1 (.slice (some ⟨b, 0, none⟩) ps.length c) = some (ps.length, ps.map (·.1)) := by
          have : cut D 0 (ps.length * 1) = some (ps.map (·.1)) := by
            unfold cut
            rw [Nat.mul_one, if_pos (by omega), List.drop_zero, hD]
          simp only [asrc, acut, hcD, this]
        have hmn : Nat.min ps.length ps.length = ps.length := Nat.min_self _
        have htk : List.take ps.length (ps.map (·.1)) = ps.map (·.1) := List.take_of_length_le (by simp)
        refine ADraw.of [(0, false, []), (1, false, []), (2, false, []), (3, false, []), (4, false, []), (5, false, []), (6, false, []), (7, false, []), (8, false, [])] [] [] (by kernel_rfl) ?_
        simp (config := { implicitDefEqProofs := false }) only [↓GP, ↓GM, GQ, abuiltinX, ↓awp_seq, ↓awp_block, C_ex, Nat.reduceBEq, acap, afieldAddr, aload, astore, abin, anum, astr, aun, isAggD, cond_true, cond_false, ↓reduceIte, C_P, C_G, isTuple, Value.cells, setL, ares, aresL, ares1, reduceCtorEq, Nat.reduceEqDiff, eq_self, Nat.reduceAdd, if_true, if_false, Go.Abs.one, Nat.reduceLeDiff, undef, gsl, aextract, aindexAddr, amake, implies_true, forall_const, alen, abuiltin, anil, isC, Int.reduceEq, Int.reduceLT, Int.reduceLE, Int.reduceAdd, Int.reduceToNat, Int.reduceNeg, Nat.reduceMul, Nat.reduceSub, abuild, afill, Int.reduceBNe, Int.reduceBEq, Tryd.underlying3, hsl6, hsl0, w1,
          acopy_of (st := (st.new (.cells Z 38 true)).set st.n (some (.cells Z1 38 true))) (t' := 88) (sp := none) (off := 1) (L := ps.length) (c := c' - 1) (x := .slice (some ⟨b, 0, none⟩) ps.length c) Tryd.underlying88 asz38 hsrcD hps hOz3.head (by omega), hmn, htk]
        exact hk _ _ _ _ hZt ((hOz3.set rfl (.cells (setL Z1 1 (ps.map (·.1))) 38 true) rfl).sub (List.Sublist.cons_cons _ (List.sublist_cons_self _ _)))
end Go.Proofs.YthohmdkibkompaaDoor
set_option linter.unusedVariables false
set_option linter.unusedSimpArgs false
namespace Go.Proofs.YthohmdkibkompaaDoor
open Go Go.Abs Go.RowKit
variable {base : Nat} {w0 : World} {G : Nat}

def pdI (k : List Nat) (x i : Nat) : List Nat := (k.take i).map (fun d => x ^^^ d) ++ List.replicate (64 - i) x
theorem pdI_succ {k : List Nat} {x i : Nat} (hi : i < k.length) (h64 : i < 64) : (pdI k x i).set i (x ^^^ k.getD i 0) = pdI k x (i + 1) := by
  have hl : ((k.take i).map (fun d => x ^^^ d)).length = i := by simp; omega
  unfold pdI
  rw [List.set_append_right _ _ (by omega), hl, Nat.sub_self, show 64 - i = (64 - (i + 1)) + 1 by omega, List.replicate_succ, List.set_cons_zero, List.take_add_one, List.map_append, List.append_assoc]
  rw [List.getD_eq_getElem?_getD, List.getElem?_eq_getElem hi]
  rfl
theorem pdI_get {k : List Nat} {x i : Nat} (hi : i < k.length) (h64 : i < 64) : (pdI k x i).getD i 0 = x := by
  have hl : ((k.take i).map (fun d => x ^^^ d)).length = i := by simp; omega
  unfold pdI
  rw [List.getD_eq_getElem?_getD, List.getElem?_append_right (by omega), hl, Nat.sub_self, List.getElem?_replicate, if_pos (by omega)]
  rfl
theorem pdI_length {k : List Nat} {x i : Nat} (hi : i ≤ k.length) (h64 : i ≤ 64) : (pdI k x i).length = 64 := by simp [pdI]; omega
set_option maxRecDepth 10000 in
theorem pad_spec (st : St) (r : Hp) (kv : Value) (key : List Nat) (x : Nat) (ok : Bool) {kt : TypeId} (hv : Nb r kv key) (hn : key.length ≤ 100000) (hx : x < 256) (hK : (0, .cells (wl ks0) kt ok) ∈ r) (hO : Own st r) (k q : Value → St → Prop)
    (hk : ∀ b st', Own st' ((b, .cells (nl (pd (keyOf key) x)) 5 true) :: r) → k (.slice (some ⟨b, 0, none⟩) 64 64) st') :
    ACall (C base w0 4) 40 [kv, .int .u8 x] st k q := by
  refine ACall.of (cx := C base w0 4) mixed Tryd.func40 rfl (by kernel_rfl) (by simp [Tryd.ntmps40]) ?_
  simp only [Tryd.results40]
  obtain ⟨a, c, hvs⟩ := hv.isSlice
  simp (config := { implicitDefEqProofs := false }) only [↓GP, ↓GM, GQ, abuiltinX, C_ex, Nat.reduceBEq, acap, afieldAddr, aload, astore, abin, anum, astr, aun, isAggD, cond_true, cond_false, ↓reduceIte, C_P, C_G, isTuple, Value.cells, setL, ares, aresL, ares1, reduceCtorEq, Nat.reduceEqDiff, eq_self, Nat.reduceAdd, if_true, if_false, Go.Abs.one, Nat.reduceLeDiff, undef, gsl, aextract, aindexAddr, amake, implies_true, forall_const, alen, abuiltin, anil, isC, Int.reduceEq, Int.reduceLT, Int.reduceLE, Int.reduceAdd, Int.reduceToNat, Int.reduceNeg, Nat.reduceMul, Nat.reduceSub, abuild, afill, Int.reduceBNe, Int.reduceBEq]
  rw [awp_seq]
  simp (config := { implicitDefEqProofs := false }) only [↓GP, ↓GM, GQ, abuiltinX, C_ex, Nat.reduceBEq, acap, afieldAddr, aload, astore, abin, anum, astr, aun, isAggD, cond_true, cond_false, ↓reduceIte, C_P, C_G, isTuple, Value.cells, setL, ares, aresL, ares1, reduceCtorEq, Nat.reduceEqDiff, eq_self, Nat.reduceAdd, if_true, if_false, Go.Abs.one, Nat.reduceLeDiff, undef, gsl, aextract, aindexAddr, amake, implies_true, forall_const, alen, abuiltin, anil, isC, Int.reduceEq, Int.reduceLT, Int.reduceLE, Int.reduceAdd, Int.reduceToNat, Int.reduceNeg, Nat.reduceMul, Nat.reduceSub, abuild, afill, Int.reduceBNe, Int.reduceBEq]
  refine seq_cut (fun ρ s => ∃ (kv' : Value) (hk' : Hp), ρ 0 = kv' ∧ ρ 1 = .int .u8 x ∧ Nb (hk' ++ r) kv' (keyOf key) ∧ Own s (hk' ++ r)) ?_ ?_
  · rw [awp_seq]
    by_cases h64 : 64 < key.length
    · simp (config := { implicitDefEqProofs := false }) only [↓GP, ↓GM, GQ, abuiltinX, ↓awp_seq, ↓awp_block, C_ex, Nat.reduceBEq, acap, afieldAddr, aload, astore, abin, anum, astr, aun, isAggD, cond_true, cond_false, ↓reduceIte, C_P, C_G, isTuple, Value.cells, setL, ares, aresL, ares1, reduceCtorEq, Nat.reduceEqDiff, eq_self, Nat.reduceAdd, if_true, if_false, Go.Abs.one, Nat.reduceLeDiff, undef, gsl, aextract, aindexAddr, amake, implies_true, forall_const, alen, abuiltin, anil, isC, Int.reduceEq, Int.reduceLT, Int.reduceLE, Int.reduceAdd, Int.reduceToNat, Int.reduceNeg, Nat.reduceMul, Nat.reduceSub, abuild, afill, Int.reduceBNe, Int.reduceBEq, hvs, Tryd.underlying38, show (key.length : Int) > 64 by omega, decide_true, abuildSlice_one (st := st) (v := .slice a key.length c) Tryd.underlying88 asz38 azc38 rfl rfl rfl (by decide)]
      rw [← hvs]
      have hO1 := hO.new (.cells [kv] 38 true)
      have hps : Ps ((st.n, .cells [kv] 38 true) :: r) (.slice (some ⟨st.n, 0, none⟩) 1 1) [(kv, key)] := Ps.of (ps := [(kv, key)]) (List.mem_cons_self ..) rfl fun p hp => by
        rw [List.mem_singleton.1 hp]; exact hv.sub fun e he => List.mem_cons_of_mem _ he
      have hfl : flat [(kv, key)] = key := by simp [flat]
      refine ACallF.enter Tryd.func39 rfl (by kernel_rfl) (Sum_spec _ _ _ _ ok (kt := kt) hps (by rw [hfl]; exact hn) (show (1 : Nat) ≤ 100000 by decide) (by simp [hK]) hO1 _ _ fun vs hs s1 hG hO2 => ?_)
      rw [hfl] at hG
      have hOr : Own s1 (hs ++ r) := hO2.sub (List.Sublist.append_left (List.sublist_cons_self _ _) hs)
      simp (config := { implicitDefEqProofs := false }) only [↓GP, ↓GM, GQ, abuiltinX, ↓awp_seq, ↓awp_block, C_ex, Nat.reduceBEq, acap, afieldAddr, aload, astore, abin, anum, astr, aun, isAggD, cond_true, cond_false, ↓reduceIte, C_P, C_G, isTuple, Value.cells, setL, ares, aresL, ares1, reduceCtorEq, Nat.reduceEqDiff, eq_self, Nat.reduceAdd, if_true, if_false, Go.Abs.one, Nat.reduceLeDiff, undef, gsl, aextract, aindexAddr, amake, implies_true, forall_const, alen, abuiltin, anil, isC, Int.reduceEq, Int.reduceLT, Int.reduceLE, Int.reduceAdd, Int.reduceToNat, Int.reduceNeg, Nat.reduceMul, Nat.reduceSub, abuild, afill, Int.reduceBNe, Int.reduceBEq]
      refine ⟨vs, hs, rfl, ?_, hOr⟩
      rw [keyOf, show Nat.blt 64 key.length = true from Nat.ble_eq_true_of_le h64, cond_true]
      exact hG.x.nb (digest_length _).symm (digest_lt _)
    · simp (config := { implicitDefEqProofs := false }) only [↓GP, ↓GM, GQ, abuiltinX, ↓awp_seq, ↓awp_block, C_ex, Nat.reduceBEq, acap, afieldAddr, aload, astore, abin, anum, astr, aun, isAggD, cond_true, cond_false, ↓reduceIte, C_P, C_G, isTuple, Value.cells, setL, ares, aresL, ares1, reduceCtorEq, Nat.reduceEqDiff, eq_self, Nat.reduceAdd, if_true, if_false, Go.Abs.one, Nat.reduceLeDiff, undef, gsl, aextract, aindexAddr, amake, implies_true, forall_const, alen, abuiltin, anil, isC, Int.reduceEq, Int.reduceLT, Int.reduceLE, Int.reduceAdd, Int.reduceToNat, Int.reduceNeg, Nat.reduceMul, Nat.reduceSub, abuild, afill, Int.reduceBNe, Int.reduceBEq, hvs, Tryd.underlying38, show ¬ (key.length : Int) > 64 by omega, decide_false]
      refine ⟨kv, [], hvs.symm, ?_, hO⟩
      have hb : Nat.blt 64 key.length = false := by
        cases h : Nat.blt 64 key.length with
        | false => rfl
        | true => exact absurd (Nat.le_of_ble_eq_true h) (by omega)
      rw [keyOf, hb, cond_false]
      exact hv
  · rintro ρ s ⟨kv', hk', h0, h1, hnb, hO⟩
    have hkl := keyOf_length key
    have hklt := hnb.2
    generalize keyOf key = ky at *
    obtain ⟨a', c', hvs'⟩ := hnb.isSlice
    simp (config := { implicitDefEqProofs := false }) only [↓GP, ↓GM, GQ, abuiltinX, ↓awp_seq, ↓awp_block, C_ex, Nat.reduceBEq, acap, afieldAddr, aload, astore, abin, anum, astr, aun, isAggD, cond_true, cond_false, ↓reduceIte, C_P, C_G, isTuple, Value.cells, setL, ares, aresL, ares1, reduceCtorEq, Nat.reduceEqDiff, eq_self, Nat.reduceAdd, if_true, if_false, Go.Abs.one, Nat.reduceLeDiff, undef, gsl, aextract, aindexAddr, amake, implies_true, forall_const, alen, abuiltin, anil, isC, Int.reduceEq, Int.reduceLT, Int.reduceLE, Int.reduceAdd, Int.reduceToNat, Int.reduceNeg, Nat.reduceMul, Nat.reduceSub, abuild, afill, Int.reduceBNe, Int.reduceBEq, h0, h1, abuildSlice_one (st := s) (v := .int .u8 x) Tryd.underlying38 asz5 azc5 rfl rfl rfl (by decide)]
    have hO1 := hO.new (.cells (nl [x]) 5 true)
    refine ACallF.enter Tryd.func54 rfl (by kernel_rfl) (Repeat_spec _ _ s.n x (List.mem_cons_self ..) hO1 _ _ fun b s1 hO2 => ?_)
    have hO3 : Own s1 ((b, .cells (nl (pdI ky x 0)) 5 true) :: (hk' ++ r)) := hO2.sub (List.Sublist.cons_cons _ (List.sublist_cons_self _ _))
    simp (config := { implicitDefEqProofs := false }) only [↓GP, ↓GM, GQ, abuiltinX, ↓awp_seq, ↓awp_block, C_ex, Nat.reduceBEq, acap, afieldAddr, aload, astore, abin, anum, astr, aun, isAggD, cond_true, cond_false, ↓reduceIte, C_P, C_G, isTuple, Value.cells, setL, ares, aresL, ares1, reduceCtorEq, Nat.reduceEqDiff, eq_self, Nat.reduceAdd, if_true, if_false, Go.Abs.one, Nat.reduceLeDiff, undef, gsl, aextract, aindexAddr, amake, implies_true, forall_const, alen, abuiltin, anil, isC, Int.reduceEq, Int.reduceLT, Int.reduceLE, Int.reduceAdd, Int.reduceToNat, Int.reduceNeg, Nat.reduceMul, Nat.reduceSub, abuild, afill, Int.reduceBNe, Int.reduceBEq, h0, h1, hvs', Tryd.underlying38]
    refine ⟨fun m ρ s => ∃ i : Nat, m = ky.length - i ∧ i ≤ ky.length ∧ ρ 0 = kv' ∧ ρ 5 = .slice (some ⟨b, 0, none⟩) 64 64 ∧ ρ 17 = .int .i64 ky.length ∧ ρ 18 = .int .i64 i ∧ Own s ((b, .cells (nl (pdI ky x i)) 5 true) :: (hk' ++ r)), ⟨_, 0, rfl, Nat.zero_le _, h0, rfl, rfl, rfl, hO3⟩, ?_⟩
    clear h0 h1 hO hO1 hO2 hO3
    rintro _ ρ s2 ⟨i, rfl, hi, h0, h5, h17, h18, hs⟩
    by_cases him : i < ky.length
    · obtain ⟨B, o, sp, c2, cs, ty, own, hkx, hmem, hget⟩ := hnb.at (by intro e; rw [e] at him; simp at him)
      have hgk := hget i him
      have hcB := hs.get (List.mem_cons_of_mem _ hmem)
      have hpl := pdI_length (k := ky) (x := x) (i := i) (by omega) (by omega)
      have hgo := nl_get (l := pdI ky x i) (i := i) (by omega)
      rw [pdI_get him (by omega)] at hgo
      have hkd := getD8 hklt i
      have hset := pdI_succ (x := x) him (by omega)
      have hcb := hs.head
      have hpl2 := nl_length (pdI ky x i)
      simp (config := { implicitDefEqProofs := false }) only [↓GP, ↓GM, GQ, abuiltinX, ↓awp_seq, ↓awp_block, C_ex, Nat.reduceBEq, acap, afieldAddr, aload, astore, abin, anum, astr, aun, isAggD, cond_true, cond_false, ↓reduceIte, C_P, C_G, isTuple, Value.cells, setL, ares, aresL, ares1, reduceCtorEq, Nat.reduceEqDiff, eq_self, Nat.reduceAdd, if_true, if_false, Go.Abs.one, Nat.reduceLeDiff, undef, gsl, aextract, aindexAddr, amake, implies_true, forall_const, alen, abuiltin, anil, isC, Int.reduceEq, Int.reduceLT, Int.reduceLE, Int.reduceAdd, Int.reduceToNat, Int.reduceNeg, Nat.reduceMul, Nat.reduceSub, abuild, afill, Int.reduceBNe, Int.reduceBEq, h0, h5, h17, h18, him, Int.ofNat_lt, decide_true]
      refine ADraw.of [(0, false, []), (1, false, []), (2, false, []), (3, false, []), (4, false, []), (5, false, []), (6, false, []), (7, false, []), (8, false, []), (9, false, []), (10, false, [])] [] [] (by kernel_rfl) ?_
      simp (config := { implicitDefEqProofs := false }) only [↓GP, ↓GM, GQ, abuiltinX, ↓awp_seq, ↓awp_block, C_ex, Nat.reduceBEq, acap, afieldAddr, aload, astore, abin, anum, astr, aun, isAggD, cond_true, cond_false, ↓reduceIte, C_P, C_G, isTuple, Value.cells, setL, ares, aresL, ares1, reduceCtorEq, Nat.reduceEqDiff, eq_self, Nat.reduceAdd, if_true, if_false, Go.Abs.one, Nat.reduceLeDiff, undef, gsl, aextract, aindexAddr, amake, implies_true, forall_const, alen, abuiltin, anil, isC, Int.reduceEq, Int.reduceLT, Int.reduceLE, Int.reduceAdd, Int.reduceToNat, Int.reduceNeg, Nat.reduceMul, Nat.reduceSub, abuild, afill, Int.reduceBNe, Int.reduceBEq, h0, h5, h17, h18, hkx, Tryd.underlying38, Tryd.underlying5, asz5, hcb, hcB, hgo, hgk, bits_xor8 hx hkd, nl_set, hset]
      exact ⟨by omega, by omega, by omega, by omega, ky.length - (i + 1), by omega, i + 1, rfl, by omega, by rw [w_i64 (by omega)]; rfl, hs.set rfl (.cells (nl (pdI ky x (i + 1))) 5 true) rfl⟩
    · obtain rfl : i = ky.length := by omega
      simp (config := { implicitDefEqProofs := false }) only [↓GP, ↓GM, GQ, abuiltinX, ↓awp_seq, ↓awp_block, C_ex, Nat.reduceBEq, acap, afieldAddr, aload, astore, abin, anum, astr, aun, isAggD, cond_true, cond_false, ↓reduceIte, C_P, C_G, isTuple, Value.cells, setL, ares, aresL, ares1, reduceCtorEq, Nat.reduceEqDiff, eq_self, Nat.reduceAdd, if_true, if_false, Go.Abs.one, Nat.reduceLeDiff, undef, gsl, aextract, aindexAddr, amake, implies_true, forall_const, alen, abuiltin, anil, isC, Int.reduceEq, Int.reduceLT, Int.reduceLE, Int.reduceAdd, Int.reduceToNat, Int.reduceNeg, Nat.reduceMul, Nat.reduceSub, abuild, afill, Int.reduceBNe, Int.reduceBEq, h0, h5, h17, h18, Nat.lt_irrefl, Int.ofNat_lt, decide_false]
      refine hk b s2 ?_
      have e : pdI ky x ky.length = pd ky x := by simp [pdI, pd]
      rw [e] at hs
      exact hs.sub (List.Sublist.cons_cons _ (List.sublist_append_right _ _))
def mac (key l : List Nat) : List Nat := digest (pd (keyOf key) 92 ++ digest (pd (keyOf key) 54 ++ l))
theorem build2 {st : St} {a b : Option Addr} {n m c d : Nat} : abuildSlice Tryd.prog st 88 2 [(0, .slice a n c), (1, .slice b m d)] = some (.slice (some ⟨st.n, 0, none⟩) 2 2, st.new (.cells [.slice a n c, .slice b m d] 38 true)) := by
  simp [abuildSlice, Tryd.underlying88, asz38, azc38, afill, zeros, isTuple, Value.cells, setL, List.replicate]
set_option maxRecDepth 10000 in
theorem Mac_spec (st : St) (r : Hp) (kv bv : Value) (key : List Nat) (ps : List (Value × List Nat)) (ok : Bool) {kt : TypeId} (hv : Nb r kv key) (hb : Ps r bv ps) (hn : key.length ≤ 50000) (hf : (flat ps).length ≤ 50000) (hl : ps.length ≤ 50000) (hK : (0, .cells (wl ks0) kt ok) ∈ r) (hO : Own st r) (k q : Value → St → Prop)
    (hk : ∀ v hg st', GV v (nl (mac key (flat ps))) 32 1 5 hg → Own st' (hg ++ r) → k v st') :
    ACall (C base w0 4) 28 [kv, bv] st k q := by
  refine ACall.of (cx := C base w0 4) mixed Tryd.func28 rfl (by kernel_rfl) (by simp [Tryd.ntmps28]) ?_
  simp only [Tryd.results28]
  simp (config := { implicitDefEqProofs := false }) only [↓GP, ↓GM, GQ, abuiltinX, ↓awp_seq, ↓awp_block, C_ex, Nat.reduceBEq, acap, afieldAddr, aload, astore, abin, anum, astr, aun, isAggD, cond_true, cond_false, ↓reduceIte, C_P, C_G, isTuple, Value.cells, setL, ares, aresL, ares1, reduceCtorEq, Nat.reduceEqDiff, eq_self, Nat.reduceAdd, if_true, if_false, Go.Abs.one, Nat.reduceLeDiff, undef, gsl, aextract, aindexAddr, amake, implies_true, forall_const, alen, abuiltin, anil, isC, Int.reduceEq, Int.reduceLT, Int.reduceLE, Int.reduceAdd, Int.reduceToNat, Int.reduceNeg, Nat.reduceMul, Nat.reduceSub, abuild, afill, Int.reduceBNe, Int.reduceBEq]
  refine ACallF.enter Tryd.func40 rfl (by kernel_rfl) (pad_spec st r kv key 92 ok hv (by omega) (by decide) hK hO _ _ fun b1 s1 hO1 => ?_)
  simp (config := { implicitDefEqProofs := false }) only [↓GP, ↓GM, GQ, abuiltinX, ↓awp_seq, ↓awp_block, C_ex, Nat.reduceBEq, acap, afieldAddr, aload, astore, abin, anum, astr, aun, isAggD, cond_true, cond_false, ↓reduceIte, C_P, C_G, isTuple, Value.cells, setL, ares, aresL, ares1, reduceCtorEq, Nat.reduceEqDiff, eq_self, Nat.reduceAdd, if_true, if_false, Go.Abs.one, Nat.reduceLeDiff, undef, gsl, aextract, aindexAddr, amake, implies_true, forall_const, alen, abuiltin, anil, isC, Int.reduceEq, Int.reduceLT, Int.reduceLE, Int.reduceAdd, Int.reduceToNat, Int.reduceNeg, Nat.reduceMul, Nat.reduceSub, abuild, afill, Int.reduceBNe, Int.reduceBEq]
  refine ACallF.enter Tryd.func42 rfl (by kernel_rfl) (Clone_spec s1 _ bv ps (hb.sub fun e he => List.mem_cons_of_mem _ he) (by omega) hO1 _ _ fun cv hc s2 hC hO2 => ?_)
  simp (config := { implicitDefEqProofs := false }) only [↓GP, ↓GM, GQ, abuiltinX, ↓awp_seq, ↓awp_block, C_ex, Nat.reduceBEq, acap, afieldAddr, aload, astore, abin, anum, astr, aun, isAggD, cond_true, cond_false, ↓reduceIte, C_P, C_G, isTuple, Value.cells, setL, ares, aresL, ares1, reduceCtorEq, Nat.reduceEqDiff, eq_self, Nat.reduceAdd, if_true, if_false, Go.Abs.one, Nat.reduceLeDiff, undef, gsl, aextract, aindexAddr, amake, implies_true, forall_const, alen, abuiltin, anil, isC, Int.reduceEq, Int.reduceLT, Int.reduceLE, Int.reduceAdd, Int.reduceToNat, Int.reduceNeg, Nat.reduceMul, Nat.reduceSub, abuild, afill, Int.reduceBNe, Int.reduceBEq]
  have hin : ∀ e ∈ r, e ∈ hc ++ ((b1, Ob.cells (nl (pd (keyOf key) 92)) 5 true) :: r) := fun e he => List.mem_append_right _ (List.mem_cons_of_mem _ he)
  refine ACallF.enter Tryd.func40 rfl (by kernel_rfl) (pad_spec s2 _ kv key 54 ok (hv.sub hin) (by omega) (by decide) (hin _ hK) hO2 _ _ fun b2 s3 hO3 => ?_)
  simp (config := { implicitDefEqProofs := false }) only [↓GP, ↓GM, GQ, abuiltinX, ↓awp_seq, ↓awp_block, C_ex, Nat.reduceBEq, acap, afieldAddr, aload, astore, abin, anum, astr, aun, isAggD, cond_true, cond_false, ↓reduceIte, C_P, C_G, isTuple, Value.cells, setL, ares, aresL, ares1, reduceCtorEq, Nat.reduceEqDiff, eq_self, Nat.reduceAdd, if_true, if_false, Go.Abs.one, Nat.reduceLeDiff, undef, gsl, aextract, aindexAddr, amake, implies_true, forall_const, alen, abuiltin, anil, isC, Int.reduceEq, Int.reduceLT, Int.reduceLE, Int.reduceAdd, Int.reduceToNat, Int.reduceNeg, Nat.reduceMul, Nat.reduceSub, abuild, afill, Int.reduceBNe, Int.reduceBEq, abuildSlice_one (st := s3) (v := .slice (some ⟨b2, 0, none⟩) 64 64) Tryd.underlying88 asz38 azc38 rfl rfl rfl (by decide)]
  have hO4 := hO3.new (.cells [.slice (some ⟨b2, 0, none⟩) 64 64] 38 true)
  have hklt := keyOf_lt hv.2
  have hkl := keyOf_length key
  have hl54 := pd_length hkl 54
  have hl92 := pd_length hkl 92
  have hd54 := pd_lt hklt (show 54 < 256 by decide)
  have hd92 := pd_lt hklt (show 92 < 256 by decide)
  have hmac : mac key (flat ps) = digest (pd (keyOf key) 92 ++ digest (pd (keyOf key) 54 ++ flat ps)) := rfl
  generalize pd (keyOf key) 54 = p54 at *
  generalize pd (keyOf key) 92 = p92 at *
  have hO5 := hO4.perm (perm_swap [(s3.n, Ob.cells [.slice (some ⟨b2, 0, none⟩) 64 64] 38 true), (b2, Ob.cells (nl p54) 5 true)] hc ((b1, Ob.cells (nl p92) 5 true) :: r))
  refine ACallF.enter Tryd.func41 rfl (by kernel_rfl) (Insert_spec _ _ cv (.slice (some ⟨b2, 0, none⟩) 64 64) ps hc s3.n hC (by omega) (List.mem_cons_self ..) rfl hb.one hO5 _ _ fun bi ci D s5 hD hO6 => ?_)
  simp (config := { implicitDefEqProofs := false }) only [↓GP, ↓GM, GQ, abuiltinX, ↓awp_seq, ↓awp_block, C_ex, Nat.reduceBEq, acap, afieldAddr, aload, astore, abin, anum, astr, aun, isAggD, cond_true, cond_false, ↓reduceIte, C_P, C_G, isTuple, Value.cells, setL, ares, aresL, ares1, reduceCtorEq, Nat.reduceEqDiff, eq_self, Nat.reduceAdd, if_true, if_false, Go.Abs.one, Nat.reduceLeDiff, undef, gsl, aextract, aindexAddr, amake, implies_true, forall_const, alen, abuiltin, anil, isC, Int.reduceEq, Int.reduceLT, Int.reduceLE, Int.reduceAdd, Int.reduceToNat, Int.reduceNeg, Nat.reduceMul, Nat.reduceSub, abuild, afill, Int.reduceBNe, Int.reduceBEq]
  have hin2 : ∀ e ∈ r, e ∈ (bi, Ob.cells D 38 true) :: ([(s3.n, Ob.cells [.slice (some ⟨b2, 0, none⟩) 64 64] 38 true), (b2, Ob.cells (nl p54) 5 true)] ++ ((b1, Ob.cells (nl p92) 5 true) :: r)) := fun e he => by simp [he]
  have hnb2 : Nb ((bi, Ob.cells D 38 true) :: ([(s3.n, Ob.cells [.slice (some ⟨b2, 0, none⟩) 64 64] 38 true), (b2, Ob.cells (nl p54) 5 true)] ++ ((b1, Ob.cells (nl p92) 5 true) :: r))) (.slice (some ⟨b2, 0, none⟩) 64 64) p54 := by
    have := nb_exact (ty := 5) (own := true) (b := b2) (l := p54) (sp := none) (c := 64) (h := (bi, Ob.cells D 38 true) :: ([(s3.n, Ob.cells [.slice (some ⟨b2, 0, none⟩) 64 64] 38 true), (b2, Ob.cells (nl p54) 5 true)] ++ ((b1, Ob.cells (nl p92) 5 true) :: r))) (by simp) hd54
    rw [hl54] at this
    exact this
  have hps2 := Ps.of (h := (bi, Ob.cells D 38 true) :: ([(s3.n, Ob.cells [.slice (some ⟨b2, 0, none⟩) 64 64] 38 true), (b2, Ob.cells (nl p54) 5 true)] ++ ((b1, Ob.cells (nl p92) 5 true) :: r)))
    (sp := none) (c := ci) (ps := (.slice (some ⟨b2, 0, none⟩) 64 64, p54) :: ps) (List.mem_cons_self ..) hD (fun p hp => by
      rcases List.mem_cons.1 hp with rfl | hp
      · exact hnb2
      · exact (hb.2 p hp).sub hin2)
  have hfl2 : flat ((.slice (some ⟨b2, 0, none⟩) 64 64, p54) :: ps) = p54 ++ flat ps := rfl
  refine ACallF.enter Tryd.func39 rfl (by kernel_rfl) (Sum_spec s5 _ _ _ ok (kt := kt) hps2 (by rw [hfl2, List.length_append]; omega) (show ps.length + 1 ≤ 100000 by omega) (hin2 _ hK) hO6 _ _ fun vd hd s6 hG hO7 => ?_)
  rw [hfl2] at hG
  obtain ⟨Bd, rfl, rfl, hBd⟩ := GV_out hG (by decide)
  have hO8 : Own s6 ((Bd, .cells (nl (digest (p54 ++ flat ps))) 5 true) :: (b1, Ob.cells (nl p92) 5 true) :: r) := hO7.sub (List.Sublist.cons_cons _ ((List.sublist_cons_self _ _).trans ((List.sublist_cons_self _ _).trans (List.sublist_cons_self _ _))))
  have hdl := digest_length (p54 ++ flat ps)
  have hdd := digest_lt (p54 ++ flat ps)
  generalize digest (p54 ++ flat ps) = dg at *
  simp (config := { implicitDefEqProofs := false }) only [↓GP, ↓GM, GQ, abuiltinX, ↓awp_seq, ↓awp_block, C_ex, Nat.reduceBEq, acap, afieldAddr, aload, astore, abin, anum, astr, aun, isAggD, cond_true, cond_false, ↓reduceIte, C_P, C_G, isTuple, Value.cells, setL, ares, aresL, ares1, reduceCtorEq, Nat.reduceEqDiff, eq_self, Nat.reduceAdd, if_true, if_false, Go.Abs.one, Nat.reduceLeDiff, undef, gsl, aextract, aindexAddr, amake, implies_true, forall_const, alen, abuiltin, anil, isC, Int.reduceEq, Int.reduceLT, Int.reduceLE, Int.reduceAdd, Int.reduceToNat, Int.reduceNeg, Nat.reduceMul, Nat.reduceSub, abuild, afill, Int.reduceBNe, Int.reduceBEq, build2]
  have hO9 := hO8.new (.cells [.slice (some ⟨b1, 0, none⟩) 64 64, .slice (some ⟨Bd, 0, some 0⟩) 32 32] 38 true)
  have hps3 := Ps.of (h := (s6.n, Ob.cells [.slice (some ⟨b1, 0, none⟩) 64 64, .slice (some ⟨Bd, 0, some 0⟩) 32 32] 38 true) :: (Bd, .cells (nl dg) 5 true) :: (b1, Ob.cells (nl p92) 5 true) :: r)
    (sp := none) (c := 2) (ps := [(.slice (some ⟨b1, 0, none⟩) 64 64, p92), (.slice (some ⟨Bd, 0, some 0⟩) 32 32, dg)]) (List.mem_cons_self ..) rfl (fun p hp => by
      simp only [List.mem_cons, List.not_mem_nil, or_false] at hp
      rcases hp with rfl | rfl
      · have := nb_exact (ty := 5) (own := true) (b := b1) (l := p92) (sp := none) (c := 64) (h := (s6.n, Ob.cells [.slice (some ⟨b1, 0, none⟩) 64 64, .slice (some ⟨Bd, 0, some 0⟩) 32 32] 38 true) :: (Bd, .cells (nl dg) 5 true) :: (b1, Ob.cells (nl p92) 5 true) :: r) (by simp) hd92
        rw [hl92] at this
        exact this
      · have := nb_exact (ty := 5) (own := true) (b := Bd) (l := dg) (sp := some 0) (c := 32) (h := (s6.n, Ob.cells [.slice (some ⟨b1, 0, none⟩) 64 64, .slice (some ⟨Bd, 0, some 0⟩) 32 32] 38 true) :: (Bd, .cells (nl dg) 5 true) :: (b1, Ob.cells (nl p92) 5 true) :: r) (by simp) hdd
        rw [hdl] at this
        exact this)
  have hfl3 : flat [((.slice (some ⟨b1, 0, none⟩) 64 64 : Value), p92), (.slice (some ⟨Bd, 0, some 0⟩) 32 32, dg)] = p92 ++ dg := by simp [flat]
  refine ACallF.enter Tryd.func39 rfl (by kernel_rfl) (Sum_spec _ _ _ _ ok (kt := kt) hps3 (by rw [hfl3, List.length_append]; omega) (show (2 : Nat) ≤ 100000 by decide) (by simp [hK]) hO9 _ _ fun vr hr s7 hG2 hO10 => ?_)
  rw [hfl3, ← hmac] at hG2
  simp (config := { implicitDefEqProofs := false }) only [↓GP, ↓GM, GQ, abuiltinX, ↓awp_seq, ↓awp_block, C_ex, Nat.reduceBEq, acap, afieldAddr, aload, astore, abin, anum, astr, aun, isAggD, cond_true, cond_false, ↓reduceIte, C_P, C_G, isTuple, Value.cells, setL, ares, aresL, ares1, reduceCtorEq, Nat.reduceEqDiff, eq_self, Nat.reduceAdd, if_true, if_false, Go.Abs.one, Nat.reduceLeDiff, undef, gsl, aextract, aindexAddr, amake, implies_true, forall_const, alen, abuiltin, anil, isC, Int.reduceEq, Int.reduceLT, Int.reduceLE, Int.reduceAdd, Int.reduceToNat, Int.reduceNeg, Nat.reduceMul, Nat.reduceSub, abuild, afill, Int.reduceBNe, Int.reduceBEq]
  exact hk _ _ _ hG2 (hO10.sub (List.Sublist.append_left ((List.sublist_cons_self _ _).trans ((List.sublist_cons_self _ _).trans (List.sublist_cons_self _ _))) hr))
end Go.Proofs.YthohmdkibkompaaDoor
