/- The sum. No conditions. -/
import Derived.Test.YthohmdkibkompaaDoorHashD
set_option linter.unusedVariables false
set_option linter.unusedSimpArgs false
namespace Go.Proofs.YthohmdkibkompaaDoor
open Go Go.Abs Go.RowKit
variable {base : Nat} {w0 : World} {G : Nat}

theorem w_u64 {x : Int} (h : 0 ≤ x ∧ x ≤ 18446744073709551615) : IntKind.u64.wrap x = x := by
  simp [IntKind.wrap, IntKind.bits, IntKind.signed]; omega
set_option maxRecDepth 10000 in
theorem GV_out {v : Value} {cs : List Value} {n sz : Nat} {e : TypeId} {hg : Hp} (h : GV v cs n sz e hg) (hn : 0 < n) : ∃ B, v = .slice (some ⟨B, 0, some 0⟩) n n ∧ hg = [(B, .cells cs e true)] ∧ cs.length = n * sz := by
  rcases h with ⟨_, h, _⟩ | ⟨B, h⟩
  · omega
  · exact ⟨B, h⟩
def tB (n : Nat) : Nat → List Nat
  | 0 => []
  | t + 1 => tB n t ++ [n / 2 ^ (56 - 8 * t) % 256]
theorem tB_eq (n : Nat) : tB n 8 = tailN n 8 := by
  simp [tB, tailN, Nat.div_div_eq_div_mul]
theorem tB_length (n : Nat) : ∀ t, (tB n t).length = t
  | 0 => rfl
  | t + 1 => by simp [tB, tB_length n t]
theorem tailN_length (n : Nat) : (tailN n 8).length = 8 := by rw [← tB_eq, tB_length]
theorem tB_lt (n : Nat) : ∀ t, ∀ d ∈ tB n t, d < 256
  | 0, d, h => by simp [tB] at h
  | t + 1, d, h => by
    simp only [tB, List.mem_append, List.mem_singleton] at h
    rcases h with h | rfl
    · exact tB_lt n t d h
    · exact Nat.mod_lt _ (by decide)
theorem padN_length (l : List Nat) : (padN l).length = l.length + 1 + (120 - (l.length + 1) % 64) % 64 + 8 := by
  simp [padN, tailN_length]; omega
theorem padN_mod (l : List Nat) : (padN l).length % 64 = 0 := by rw [padN_length]; omega
theorem padN_lt {l : List Nat} (h : ∀ d ∈ l, d < 256) : ∀ d ∈ padN l, d < 256 := by
  intro d hd
  simp only [padN, List.mem_append, List.mem_singleton, List.mem_replicate] at hd
  rcases hd with ((hd | rfl) | ⟨_, rfl⟩) | hd
  · exact h d hd
  · decide
  · decide
  · rw [← tB_eq] at hd; exact tB_lt _ _ d hd
theorem build4 {st : St} {a b c d : Nat} : abuildSlice Tryd.prog st 38 4 [(0, .int .u8 a), (1, .int .u8 b), (2, .int .u8 c), (3, .int .u8 d)] = some (.slice (some ⟨st.n, 0, none⟩) 4 4, st.new (.cells (nl [a, b, c, d]) 5 true)) := by
  simp [abuildSlice, Tryd.underlying38, asz5, azc5, afill, zeros, isTuple, Value.cells, setL, nl, bl, List.replicate]

set_option maxRecDepth 10000 in
theorem Sum_spec (st : St) (r : Hp) (v : Value) (ps : List (Value × List Nat)) (ok : Bool) {kt : TypeId} (hv : Ps r v ps) (hn : (flat ps).length ≤ 100000) (hl : ps.length ≤ 100000) (hK : (0, .cells (wl ks0) kt ok) ∈ r) (hO : Own st r) (k q : Value → St → Prop)
    (hk : ∀ v hg st', GV v (nl (digest (flat ps))) 32 1 5 hg → Own st' (hg ++ r) → k v st') :
    ACall (C base w0 4) 39 [v] st k q := by
  refine ACall.of (cx := C base w0 4) mixed Tryd.func39 rfl (by kernel_rfl) (by simp [Tryd.ntmps39]) ?_
  simp only [Tryd.results39]
  simp (config := { implicitDefEqProofs := false }) only [↓GP, ↓GM, GQ, abuiltinX, ↓awp_seq, ↓awp_block, C_ex, Nat.reduceBEq, acap, afieldAddr, aload, astore, abin, anum, astr, aun, isAggD, cond_true, cond_false, ↓reduceIte, C_P, C_G, isTuple, Value.cells, setL, ares, aresL, ares1, reduceCtorEq, Nat.reduceEqDiff, eq_self, Nat.reduceAdd, if_true, if_false, Go.Abs.one, Nat.reduceLeDiff, undef, gsl, aextract, aindexAddr, amake, implies_true, forall_const, alen, abuiltin, anil, isC, Int.reduceEq, Int.reduceLT, Int.reduceLE, Int.reduceAdd, Int.reduceToNat, Int.reduceNeg, Nat.reduceMul, Nat.reduceSub, abuild, afill, Int.reduceBNe, Int.reduceBEq]
  refine ACallF.enter Tryd.func52 rfl (by kernel_rfl) (Concat_spec st r v ps hv hn hl hO _ _ fun va ha sa hGa hOa => ?_)
  have hfl : ∀ d ∈ flat ps, d < 256 := by
    intro d hd
    obtain ⟨l, hl, hd⟩ := List.mem_flatten.1 hd
    obtain ⟨p, hp, rfl⟩ := List.mem_map.1 hl
    exact (hv.2 p hp).2 d hd
  generalize flat ps = l at *
  obtain ⟨aa, ca, hva⟩ := hGa.isSlice
  have hw1 : IntKind.u64.wrap ((l.length : Nat) : Int) = (l.length : Int) := by rw [w_u64 (by omega)]
  have hw2 : IntKind.u64.wrap ((l.length : Int) * 8) = ((l.length * 8 % 18446744073709551616 : Nat) : Int) := by rw [w_u64 (by omega)]; omega
  simp (config := { implicitDefEqProofs := false }) only [↓GP, ↓GM, GQ, abuiltinX, ↓awp_seq, ↓awp_block, C_ex, Nat.reduceBEq, acap, afieldAddr, aload, astore, abin, anum, astr, aun, isAggD, cond_true, cond_false, ↓reduceIte, C_P, C_G, isTuple, Value.cells, setL, ares, aresL, ares1, reduceCtorEq, Nat.reduceEqDiff, eq_self, Nat.reduceAdd, if_true, if_false, Go.Abs.one, Nat.reduceLeDiff, undef, gsl, aextract, aindexAddr, amake, implies_true, forall_const, alen, abuiltin, anil, isC, Int.reduceEq, Int.reduceLT, Int.reduceLE, Int.reduceAdd, Int.reduceToNat, Int.reduceNeg, Nat.reduceMul, Nat.reduceSub, abuild, afill, Int.reduceBNe, Int.reduceBEq, hva, Tryd.underlying38, Tryd.underlying3, Tryd.underlying100, aconv, hw1, hw2, abuildSlice_one (st := sa) (v := .int .u8 128) Tryd.underlying38 asz5 azc5 rfl rfl rfl (by decide)]
  rw [← hva]
  refine GVx.append1 Tryd.underlying38 (by rw [Tryd.underlying38]; rfl) asz5 azc5 (c := [.int .u8 128]) aby5 hGa hOa rfl rfl (by omega) fun v1 h1 s1 hG1 hO1 => ?_
  simp (config := { implicitDefEqProofs := false }) only [↓GP, ↓GM, GQ, abuiltinX, ↓awp_seq, ↓awp_block, C_ex, Nat.reduceBEq, acap, afieldAddr, aload, astore, abin, anum, astr, aun, isAggD, cond_true, cond_false, ↓reduceIte, C_P, C_G, isTuple, Value.cells, setL, ares, aresL, ares1, reduceCtorEq, Nat.reduceEqDiff, eq_self, Nat.reduceAdd, if_true, if_false, Go.Abs.one, Nat.reduceLeDiff, undef, gsl, aextract, aindexAddr, amake, implies_true, forall_const, alen, abuiltin, anil, isC, Int.reduceEq, Int.reduceLT, Int.reduceLE, Int.reduceAdd, Int.reduceToNat, Int.reduceNeg, Nat.reduceMul, Nat.reduceSub, abuild, afill, Int.reduceBNe, Int.reduceBEq]
  have hG1' : GV v1 (nl (l ++ [128])) (l.length + 1) 1 5 h1 := by rw [nl_append]; exact hG1
  obtain ⟨N, hN⟩ : ∃ N, N = l.length * 8 % 18446744073709551616 := ⟨_, rfl⟩
  have hNlt : N < 18446744073709551616 := by omega
  rw [← hN]
  obtain ⟨Z, hZ⟩ : ∃ Z, Z = (120 - (l.length + 1) % 64) % 64 := ⟨_, rfl⟩
  have hG1x : GV v1 (nl (l ++ [128] ++ List.replicate 0 0)) (l.length + 1 + 0) 1 5 h1 := by simpa using hG1'
  refine ⟨fun m ρ s => ∃ (j : Nat) (v : Value) (h : Hp), m = Z - j ∧ j ≤ Z ∧ ρ 3 = v ∧ ρ 4 = .int .u64 N ∧ GV v (nl (l ++ [128] ++ List.replicate j 0)) (l.length + 1 + j) 1 5 h ∧ Own s (h ++ r), ⟨Z, 0, v1, h1, rfl, Nat.zero_le _, rfl, rfl, hG1x, hO1⟩, ?_⟩
  rintro m ρ s ⟨j, v, h, rfl, hj, h3, h4, hG, hO⟩
  obtain ⟨a3, ha3⟩ := hG.isSlice
  have hmod : (((l.length + 1 + j : Nat) : Int)).tmod 64 = (((l.length + 1 + j) % 64 : Nat) : Int) := by rw [Int.tmod_eq_emod_of_nonneg (by omega)]; omega
  by_cases hjz : j < Z
  · simp (config := { implicitDefEqProofs := false }) only [↓GP, ↓GM, GQ, abuiltinX, ↓awp_seq, ↓awp_block, C_ex, Nat.reduceBEq, acap, afieldAddr, aload, astore, abin, anum, astr, aun, isAggD, cond_true, cond_false, ↓reduceIte, C_P, C_G, isTuple, Value.cells, setL, ares, aresL, ares1, reduceCtorEq, Nat.reduceEqDiff, eq_self, Nat.reduceAdd, if_true, if_false, Go.Abs.one, Nat.reduceLeDiff, undef, gsl, aextract, aindexAddr, amake, implies_true, forall_const, alen, abuiltin, anil, isC, Int.reduceEq, Int.reduceLT, Int.reduceLE, Int.reduceAdd, Int.reduceToNat, Int.reduceNeg, Nat.reduceMul, Nat.reduceSub, abuild, afill, Int.reduceBNe, Int.reduceBEq, h3, h4, ha3, Tryd.underlying38, Tryd.underlying3, hmod, show ¬ (((l.length + 1 + j) % 64 : Nat) : Int) = 56 by omega, abuildSlice_one (st := s) (v := .int .u8 0) Tryd.underlying38 asz5 azc5 rfl rfl rfl (by decide)]
    rw [← ha3]
    refine GV.append1 Tryd.underlying38 (by rw [Tryd.underlying38]; rfl) asz5 azc5 (c := [.int .u8 0]) aby5 hG hO rfl rfl (by omega) fun v' h' s' hG' hs' => ?_
    simp (config := { implicitDefEqProofs := false }) only [↓GP, ↓GM, GQ, abuiltinX, ↓awp_seq, ↓awp_block, C_ex, Nat.reduceBEq, acap, afieldAddr, aload, astore, abin, anum, astr, aun, isAggD, cond_true, cond_false, ↓reduceIte, C_P, C_G, isTuple, Value.cells, setL, ares, aresL, ares1, reduceCtorEq, Nat.reduceEqDiff, eq_self, Nat.reduceAdd, if_true, if_false, Go.Abs.one, Nat.reduceLeDiff, undef, gsl, aextract, aindexAddr, amake, implies_true, forall_const, alen, abuiltin, anil, isC, Int.reduceEq, Int.reduceLT, Int.reduceLE, Int.reduceAdd, Int.reduceToNat, Int.reduceNeg, Nat.reduceMul, Nat.reduceSub, abuild, afill, Int.reduceBNe, Int.reduceBEq, h4]
    refine ⟨Z - (j + 1), by omega, j + 1, v', h', rfl, by omega, rfl, ?_, hs'⟩
    have e : nl (l ++ [128] ++ List.replicate (j + 1) 0) = nl (l ++ [128] ++ List.replicate j 0) ++ [.int .u8 0] := by
      rw [List.replicate_succ', ← List.append_assoc, nl_append]; rfl
    rw [e]
    exact hG'
  obtain rfl : j = Z := by omega
  have hm0l : (l ++ [128] ++ List.replicate j 0).length = l.length + 1 + j := by simp; omega
  have hpad : padN l = (l ++ [128] ++ List.replicate j 0) ++ tB N 8 := by rw [tB_eq, hN, hZ]; rfl
  have hm0d : ∀ d ∈ l ++ [128] ++ List.replicate j 0, d < 256 := fun d hd => padN_lt hfl d (by rw [hpad]; exact List.mem_append_left _ hd)
  have hM0 : l.length + 1 + j ≤ 100100 := by omega
  simp (config := { implicitDefEqProofs := false }) only [↓GP, ↓GM, GQ, abuiltinX, ↓awp_seq, ↓awp_block, C_ex, Nat.reduceBEq, acap, afieldAddr, aload, astore, abin, anum, astr, aun, isAggD, cond_true, cond_false, ↓reduceIte, C_P, C_G, isTuple, Value.cells, setL, ares, aresL, ares1, reduceCtorEq, Nat.reduceEqDiff, eq_self, Nat.reduceAdd, if_true, if_false, Go.Abs.one, Nat.reduceLeDiff, undef, gsl, aextract, aindexAddr, amake, implies_true, forall_const, alen, abuiltin, anil, isC, Int.reduceEq, Int.reduceLT, Int.reduceLE, Int.reduceAdd, Int.reduceToNat, Int.reduceNeg, Nat.reduceMul, Nat.reduceSub, abuild, afill, Int.reduceBNe, Int.reduceBEq, h3, h4, ha3, Tryd.underlying38, Tryd.underlying3, hmod, show (((l.length + 1 + j) % 64 : Nat) : Int) = 56 by omega]
  generalize hm0 : l ++ [128] ++ List.replicate j 0 = m0 at *
  generalize hMl : l.length + 1 + j = M0 at *
  have hGx : GV v (nl (m0 ++ tB N 0)) (M0 + 0) 1 5 h := by simpa [tB] using hG
  refine ⟨fun m ρ s => ∃ (t : Nat) (v : Value) (h : Hp), m = 8 - t ∧ t ≤ 8 ∧ ρ 3 = v ∧ ρ 4 = .int .u64 N ∧ ρ 5 = .int .i64 (56 - 8 * (t : Int)) ∧ GV v (nl (m0 ++ tB N t)) (M0 + t) 1 5 h ∧ Own s (h ++ r), ⟨8, 0, v, h, rfl, by decide, h3, h4, rfl, hGx, hO⟩, ?_⟩
  clear h3 h4 hGx hG hO
  rintro m ρ s ⟨t, v, h, rfl, ht, h3, h4, h5, hG, hO⟩
  obtain ⟨a3, ha3⟩ := hG.isSlice
  by_cases ht8 : t < 8
  · have h56 : (56 - 8 * (t : Int)) = ((56 - 8 * t : Nat) : Int) := by omega
    rw [h56] at h5
    have hsh : ((N : Int) / 2 ^ (56 - 8 * t)) = ((N / 2 ^ (56 - 8 * t) : Nat) : Int) := by rw [Int.natCast_ediv, Int.natCast_pow]; rfl
    simp (config := { implicitDefEqProofs := false }) only [↓GP, ↓GM, GQ, abuiltinX, ↓awp_seq, ↓awp_block, C_ex, Nat.reduceBEq, acap, afieldAddr, aload, astore, abin, anum, astr, aun, isAggD, cond_true, cond_false, ↓reduceIte, C_P, C_G, isTuple, Value.cells, setL, ares, aresL, ares1, reduceCtorEq, Nat.reduceEqDiff, eq_self, Nat.reduceAdd, if_true, if_false, Go.Abs.one, Nat.reduceLeDiff, undef, gsl, aextract, aindexAddr, amake, implies_true, forall_const, alen, abuiltin, anil, isC, Int.reduceEq, Int.reduceLT, Int.reduceLE, Int.reduceAdd, Int.reduceToNat, Int.reduceNeg, Nat.reduceMul, Nat.reduceSub, abuild, afill, Int.reduceBNe, Int.reduceBEq, h3, h4, h5, show ((56 - 8 * t : Nat) : Int) ≥ 0 by omega, decide_true, Tryd.underlying38, Tryd.underlying3, Tryd.underlying100, Tryd.underlying5, ashift, aconv, hsh, w_u8n,
      abuildSlice_one (st := s) (v := .int .u8 (N / 2 ^ (56 - 8 * t) % 256 : Nat)) Tryd.underlying38 asz5 azc5 rfl rfl rfl (by decide)]
    refine ⟨by have : (IntKind.u64.bits : Int) = 64 := rfl; omega, ?_⟩
    refine GV.append1 Tryd.underlying38 (by rw [Tryd.underlying38]; rfl) asz5 azc5 (c := [.int .u8 (N / 2 ^ (56 - 8 * t) % 256 : Nat)]) aby5 hG hO rfl rfl (by omega) fun v' h' s' hG' hs' => ?_
    simp (config := { implicitDefEqProofs := false }) only [↓GP, ↓GM, GQ, abuiltinX, ↓awp_seq, ↓awp_block, C_ex, Nat.reduceBEq, acap, afieldAddr, aload, astore, abin, anum, astr, aun, isAggD, cond_true, cond_false, ↓reduceIte, C_P, C_G, isTuple, Value.cells, setL, ares, aresL, ares1, reduceCtorEq, Nat.reduceEqDiff, eq_self, Nat.reduceAdd, if_true, if_false, Go.Abs.one, Nat.reduceLeDiff, undef, gsl, aextract, aindexAddr, amake, implies_true, forall_const, alen, abuiltin, anil, isC, Int.reduceEq, Int.reduceLT, Int.reduceLE, Int.reduceAdd, Int.reduceToNat, Int.reduceNeg, Nat.reduceMul, Nat.reduceSub, abuild, afill, Int.reduceBNe, Int.reduceBEq, h4, h5]
    refine ⟨8 - (t + 1), by omega, t + 1, v', h', rfl, by omega, rfl, by rw [w_i64 (by omega)]; congr 1; omega, ?_, hs'⟩
    have e : nl (m0 ++ tB N (t + 1)) = nl (m0 ++ tB N t) ++ [.int .u8 (N / 2 ^ (56 - 8 * t) % 256 : Nat)] := by
      rw [tB, ← List.append_assoc, nl_append]; rfl
    rw [e]
    exact hG'
  obtain rfl : t = 8 := by omega
  have hML : M0 + 8 = (padN l).length := by rw [hpad, List.length_append, hm0l, tB_length]
  rw [← hpad, hML] at hG
  have hPl := padN_length l
  have hPm := padN_mod l
  have hPd := padN_lt hfl
  obtain ⟨B, rfl, rfl, hBl⟩ := GV_out hG (by omega)
  simp (config := { implicitDefEqProofs := false }) only [↓GP, ↓GM, GQ, abuiltinX, ↓awp_seq, ↓awp_block, C_ex, Nat.reduceBEq, acap, afieldAddr, aload, astore, abin, anum, astr, aun, isAggD, cond_true, cond_false, ↓reduceIte, C_P, C_G, isTuple, Value.cells, setL, ares, aresL, ares1, reduceCtorEq, Nat.reduceEqDiff, eq_self, Nat.reduceAdd, if_true, if_false, Go.Abs.one, Nat.reduceLeDiff, undef, gsl, aextract, aindexAddr, amake, implies_true, forall_const, alen, abuiltin, anil, isC, Int.reduceEq, Int.reduceLT, Int.reduceLE, Int.reduceAdd, Int.reduceToNat, Int.reduceNeg, Nat.reduceMul, Nat.reduceSub, abuild, afill, Int.reduceBNe, Int.reduceBEq, h3, h4, h5, show ¬ (56 - 8 * ((8 : Nat) : Int)) ≥ 0 by decide, decide_false, azc103, Tryd.underlying103, asz101, aalloc, asz103]
  refine ⟨fun h => absurd h (by decide), fun _ => ?_⟩
  have hO1 : Own _ ((s.n, .cells (wl hs0) 103 true) :: ((B, .cells (nl (padN l)) 5 true) :: r)) := (hO.new (.cells [.int .u32 0, .int .u32 0, .int .u32 0, .int .u32 0, .int .u32 0, .int .u32 0, .int .u32 0, .int .u32 0] 103 true)).set rfl (.cells (wl hs0) 103 true) rfl
  generalize hP : padN l = P at *
  generalize hL : P.length = L at *
  refine ⟨fun m ρ s' => ∃ jj : Nat, m = L / 64 - jj ∧ 64 * jj ≤ L ∧ ρ 3 = .slice (some ⟨B, 64 * jj, some 0⟩) (L - 64 * jj) (L - 64 * jj) ∧ ρ 6 = .pointer (some ⟨s.n, 0, none⟩) ∧ Own s' ((s.n, .cells (wl (hsN P jj)) 103 true) :: ((B, .cells (nl P) 5 true) :: r)), ⟨_, 0, rfl, by omega, h3, rfl, hO1⟩, ?_⟩
  rintro m ρ s' ⟨jj, rfl, hj, h3, h6, hO⟩
  by_cases hjl : 64 * jj < L
  · have hlenI : ((L - 64 * jj : Nat) : Int) > 0 := by omega
    simp (config := { implicitDefEqProofs := false }) only [↓GP, ↓GM, GQ, abuiltinX, ↓awp_seq, ↓awp_block, C_ex, Nat.reduceBEq, acap, afieldAddr, aload, astore, abin, anum, astr, aun, isAggD, cond_true, cond_false, ↓reduceIte, C_P, C_G, isTuple, Value.cells, setL, ares, aresL, ares1, reduceCtorEq, Nat.reduceEqDiff, eq_self, Nat.reduceAdd, if_true, if_false, Go.Abs.one, Nat.reduceLeDiff, undef, gsl, aextract, aindexAddr, amake, implies_true, forall_const, alen, abuiltin, anil, isC, Int.reduceEq, Int.reduceLT, Int.reduceLE, Int.reduceAdd, Int.reduceToNat, Int.reduceNeg, Nat.reduceMul, Nat.reduceSub, abuild, afill, Int.reduceBNe, Int.reduceBEq, h3, h6, hlenI, decide_true, Tryd.underlying38]
    refine ACallF.enter Tryd.func53 rfl (by kernel_rfl) (block_spec s' _ (hsN P jj) P s.n B (64 * jj) _ _ (some 0) true ok hPd (hsN_lt P jj) (hsN_length P jj) (List.mem_cons_self ..) (List.mem_cons_of_mem _ hK) (by omega) (by omega) hO _ _ fun V s2 hO2 => ?_)
    have hcB := hO2.get (b := B) (o := .cells (nl P) 5 true) (by simp)
    have hsl : aslice Tryd.prog s2 38 (.slice (some ⟨B, 64 * jj, some 0⟩) (L - 64 * jj) (L - 64 * jj)) (some (.int .i64 64)) none none = some (.slice (some ⟨B, 64 * (jj + 1), some 0⟩) (L - 64 * (jj + 1)) (L - 64 * (jj + 1))) :=
      (aslice_of (sp := 0) (lo := some (.int .i64 (64 : Nat))) (hi := none) Tryd.underlying38 asz5 (openOK_open hcB asz5) (abounds_lo (by omega) (Nat.le_refl _))).trans (by
        rw [Nat.mul_one, Nat.mul_add, Nat.mul_one, Nat.sub_sub])
    simp (config := { implicitDefEqProofs := false }) only [↓GP, ↓GM, GQ, abuiltinX, ↓awp_seq, ↓awp_block, C_ex, Nat.reduceBEq, acap, afieldAddr, aload, astore, abin, anum, astr, aun, isAggD, cond_true, cond_false, ↓reduceIte, C_P, C_G, isTuple, Value.cells, setL, ares, aresL, ares1, reduceCtorEq, Nat.reduceEqDiff, eq_self, Nat.reduceAdd, if_true, if_false, Go.Abs.one, Nat.reduceLeDiff, undef, gsl, aextract, aindexAddr, amake, implies_true, forall_const, alen, abuiltin, anil, isC, Int.reduceEq, Int.reduceLT, Int.reduceLE, Int.reduceAdd, Int.reduceToNat, Int.reduceNeg, Nat.reduceMul, Nat.reduceSub, abuild, afill, Int.reduceBNe, Int.reduceBEq, h3, h6, hsl]
    exact ⟨L / 64 - (jj + 1), by omega, jj + 1, rfl, by omega, rfl, hO2⟩
  have hLj : L / 64 = jj := by omega
  have hz0 : L - 64 * jj = 0 := by omega
  have hcS := hO.head
  have hcut : cut (wl (hsN P jj)) 0 8 = some (wl (hsN P jj)) := by have := cut_all (wl (hsN P jj)); rw [wl_length, hsN_length] at this; exact this
  simp (config := { implicitDefEqProofs := false }) only [↓GP, ↓GM, GQ, abuiltinX, ↓awp_seq, ↓awp_block, C_ex, Nat.reduceBEq, acap, afieldAddr, aload, astore, abin, anum, astr, aun, isAggD, cond_true, cond_false, ↓reduceIte, C_P, C_G, isTuple, Value.cells, setL, ares, aresL, ares1, reduceCtorEq, Nat.reduceEqDiff, eq_self, Nat.reduceAdd, if_true, if_false, Go.Abs.one, Nat.reduceLeDiff, undef, gsl, aextract, aindexAddr, amake, implies_true, forall_const, alen, abuiltin, anil, isC, Int.reduceEq, Int.reduceLT, Int.reduceLE, Int.reduceAdd, Int.reduceToNat, Int.reduceNeg, Nat.reduceMul, Nat.reduceSub, abuild, afill, Int.reduceBNe, Int.reduceBEq, h3, h6, hz0, Tryd.underlying38, show ¬ ((0 : Nat) : Int) > 0 by decide, decide_false, hcS, asz103, Tryd.underlying103, hcut]
  refine ⟨fun h => absurd h (by decide), fun _ => ?_⟩
  have hdig : digest l = outN (hsN P jj) 8 := by rw [digest, hP, hL, hLj]
  have hHl := hsN_length P jj
  have hHd := hsN_lt P jj
  generalize hsN P jj = H at *
  refine ⟨fun m ρ s => ∃ (i : Nat) (v : Value) (h : Hp), m = 8 - i ∧ i ≤ 8 ∧ ρ 7 = v ∧ ρ 45 = .agg (wl H).toArray ∧ ρ 46 = .int .i64 i ∧ GVx v (nl (outN H i)) (4 * i) 1 5 h ∧ (0 < i → GV v (nl (outN H i)) (4 * i) 1 5 h) ∧ Own s (h ++ r), ⟨8, 0, _, [], rfl, by decide, rfl, rfl, rfl, GVx.nil, fun h => absurd h (by decide), hO.tail.tail⟩, ?_⟩
  rintro m ρ s ⟨i, v, h, rfl, hi, h7, h45, h46, hG, hGG, hO⟩
  by_cases him : i < 8
  · have hg := wl_get (l := H) (i := i) (by omega)
    have hx := getD32 hHd i
    generalize hxx : H.getD i 0 = x at *
    have e24 : ((x : Int) / 2 ^ 24) = ((x / 16777216 : Nat) : Int) := by rw [show (2 : Int) ^ 24 = ((16777216 : Nat) : Int) from rfl, ← Int.natCast_ediv]
    have e16 : ((x : Int) / 2 ^ 16) = ((x / 65536 : Nat) : Int) := by rw [show (2 : Int) ^ 16 = ((65536 : Nat) : Int) from rfl, ← Int.natCast_ediv]
    have e8 : ((x : Int) / 2 ^ 8) = ((x / 256 : Nat) : Int) := by rw [show (2 : Int) ^ 8 = ((256 : Nat) : Int) from rfl, ← Int.natCast_ediv]
    simp (config := { implicitDefEqProofs := false }) only [↓GP, ↓GM, GQ, abuiltinX, ↓awp_seq, ↓awp_block, C_ex, Nat.reduceBEq, acap, afieldAddr, aload, astore, abin, anum, astr, aun, isAggD, cond_true, cond_false, ↓reduceIte, C_P, C_G, isTuple, Value.cells, setL, ares, aresL, ares1, reduceCtorEq, Nat.reduceEqDiff, eq_self, Nat.reduceAdd, if_true, if_false, Go.Abs.one, Nat.reduceLeDiff, undef, gsl, aextract, aindexAddr, amake, implies_true, forall_const, alen, abuiltin, anil, isC, Int.reduceEq, Int.reduceLT, Int.reduceLE, Int.reduceAdd, Int.reduceToNat, Int.reduceNeg, Nat.reduceMul, Nat.reduceSub, abuild, afill, Int.reduceBNe, Int.reduceBEq, h7, h45, h46, show (i : Int) < 8 by omega, decide_true, aindex, apartV, Tryd.underlying103, asz101, Tryd.underlying101, Tryd.underlying5, List.getElem?_toArray, hg, ashift, aconv, e24, e16, e8, w_u8n, build4]
    have hb32 : (IntKind.u32.bits : Int) = 32 := rfl
    refine ⟨by omega, by decide, by decide, by decide, ?_⟩
    refine GVx.appendK (m := 4) Tryd.underlying38 (by rw [Tryd.underlying38]; rfl) asz5 azc5 (c := nl [x / 16777216 % 256, x / 65536 % 256, x / 256 % 256, x % 256]) aby5 hG hO rfl (by decide) (nl_one _) (by omega) fun v' h' s' hG' hs' => ?_
    simp (config := { implicitDefEqProofs := false }) only [↓GP, ↓GM, GQ, abuiltinX, ↓awp_seq, ↓awp_block, C_ex, Nat.reduceBEq, acap, afieldAddr, aload, astore, abin, anum, astr, aun, isAggD, cond_true, cond_false, ↓reduceIte, C_P, C_G, isTuple, Value.cells, setL, ares, aresL, ares1, reduceCtorEq, Nat.reduceEqDiff, eq_self, Nat.reduceAdd, if_true, if_false, Go.Abs.one, Nat.reduceLeDiff, undef, gsl, aextract, aindexAddr, amake, implies_true, forall_const, alen, abuiltin, anil, isC, Int.reduceEq, Int.reduceLT, Int.reduceLE, Int.reduceAdd, Int.reduceToNat, Int.reduceNeg, Nat.reduceMul, Nat.reduceSub, abuild, afill, Int.reduceBNe, Int.reduceBEq, h45, h46]
    refine ⟨8 - (i + 1), by omega, i + 1, v', h', rfl, by omega, rfl, by rw [w_i64 (by omega)]; rfl, ?_, fun _ => ?_, hs'⟩
    · rw [outN, nl_append, hxx]
      exact hG'.x
    · rw [outN, nl_append, hxx]
      exact hG'
  obtain rfl : i = 8 := by omega
  simp (config := { implicitDefEqProofs := false }) only [↓GP, ↓GM, GQ, abuiltinX, ↓awp_seq, ↓awp_block, C_ex, Nat.reduceBEq, acap, afieldAddr, aload, astore, abin, anum, astr, aun, isAggD, cond_true, cond_false, ↓reduceIte, C_P, C_G, isTuple, Value.cells, setL, ares, aresL, ares1, reduceCtorEq, Nat.reduceEqDiff, eq_self, Nat.reduceAdd, if_true, if_false, Go.Abs.one, Nat.reduceLeDiff, undef, gsl, aextract, aindexAddr, amake, implies_true, forall_const, alen, abuiltin, anil, isC, Int.reduceEq, Int.reduceLT, Int.reduceLE, Int.reduceAdd, Int.reduceToNat, Int.reduceNeg, Nat.reduceMul, Nat.reduceSub, abuild, afill, Int.reduceBNe, Int.reduceBEq, h7, h45, h46, show ¬ ((8 : Nat) : Int) < 8 by decide, decide_false]
  refine hk _ _ _ ?_ hO
  rw [hdig]
  exact hGG (by decide)
end Go.Proofs.YthohmdkibkompaaDoor
