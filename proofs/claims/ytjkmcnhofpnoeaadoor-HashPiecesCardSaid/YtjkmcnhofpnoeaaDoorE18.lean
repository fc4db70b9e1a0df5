/- The reference's digest. No conditions. -/
import Derived.Test.YtjkmcnhofpnoeaaDoorE17
set_option linter.unusedVariables false
set_option linter.unusedSimpArgs false
namespace Go.Proofs.YtjkmcnhofpnoeaaDoor
open Go Go.Abs Go.RowKit
variable {base : Nat} {w0 : World} {G : Nat}

def tR (n : Nat) : Nat → List Nat
  | 0 => []
  | t + 1 => (n / 256 ^ t % 256) :: tR n t
theorem tR_eq (n : Nat) : tR n 8 = tailN n 8 := by
  simp [tR, tailN, Nat.div_div_eq_div_mul]
theorem tR_length (n : Nat) : ∀ t, (tR n t).length = t
  | 0 => rfl
  | t + 1 => by simp [tR, tR_length n t]
theorem buildSlice0 {P : Program} {st : St} {t e : TypeId} {n : Nat} {z : List Value} (hu : P.underlying t = some (.slice e)) (hn : asz P e = some n) (hz : azc P e = some z) :
    abuildSlice P st t 0 [] = some (.slice (some ⟨st.n, 0, none⟩) 0 0, st.new (.cells [] e true)) := abuildSlice_none hu hn hz
theorem build8 {st : St} {a b c d e f g h : Nat} : abuildSlice Tryd.prog st 28 8 [(0, .int .u32 a), (1, .int .u32 b), (2, .int .u32 c), (3, .int .u32 d), (4, .int .u32 e), (5, .int .u32 f), (6, .int .u32 g), (7, .int .u32 h)] = some (.slice (some ⟨st.n, 0, none⟩) 8 8, st.new (.cells (wl [a, b, c, d, e, f, g, h]) 47 true)) := by
  simp [abuildSlice, Tryd.underlying28, asz47, azc47, afill, zeros, isTuple, Value.cells, setL, wl, List.replicate]

theorem rotc (st : St) (x n : Nat) (R : Int) (hR : R = (n : Int)) (hx : x < 4294967296) (hn : n ≤ 1000) (k q : Value → St → Prop) (hk : k (.int .u32 (rotN x n : Nat)) st) :
    ACallF (C base w0 G) 22 [.int .u32 x, .int .i64 R] st k q := by
  subst hR
  exact ACallF.enter Tryd.func22 rfl (by kernel_rfl) (rot_spec st x n hx hn k q hk)
theorem lowc (st : St) (x n : Nat) (R : Int) (hR : R = (n : Int)) (hx : x < 4294967296) (hn : n ≤ 1000) (k q : Value → St → Prop) (hk : k (.int .u32 (lowN x n : Nat)) st) :
    ACallF (C base w0 G) 23 [.int .u32 x, .int .i64 R] st k q := by
  subst hR
  exact ACallF.enter Tryd.func23 rfl (by kernel_rfl) (low_spec st x n hx hn k q hk)
theorem own_new_eq {st : St} {a : Hp} {L L' : List Value} {ty : TypeId} (hO : Own st a) (e : L = L') : Own (st.new (.cells L ty true)) ((st.n, .cells L' ty true) :: a) := by
  rw [← e]; exact hO.new _
set_option maxHeartbeats 2000000 in
set_option maxRecDepth 10000 in
theorem RSum_spec (st : St) (r : Hp) (v : Value) (l : List Nat) (Bh Bk : Nat) (oh okk : Bool) (hv : Nb r v l) (hn : l.length ≤ 100000) (hH : (Bh, .cells (wl hs0) 47 oh) ∈ r) (hK : (Bk, .cells (wl ks0) 47 okk) ∈ r) (hO : Own st r) (k q : Value → St → Prop)
    (hk : ∀ v hg st', GV v (nl (digest l)) 32 1 5 hg → Own st' (hg ++ r) → k v st') :
    ACall (C base w0 G) 12 [.agg #[.slice (some ⟨Bh, 0, some 0⟩) 8 8, .slice (some ⟨Bk, 0, some 0⟩) 64 64], v] st k q := by
  refine ACall.of (cx := C base w0 G) mixed Tryd.func12 rfl (by kernel_rfl) (by simp [Tryd.ntmps12]) ?_
  simp only [Tryd.results12]
  simp (config := { implicitDefEqProofs := false }) only [↓GP, GQ, ↓awp_seq, ↓awp_block, C_ex, Nat.reduceBEq, acap, afieldAddr, aload, astore, abin, anum, astr, aun, isAggD, cond_true, cond_false, ↓reduceIte, C_P, C_G, isTuple, Value.cells, setL, ares, aresL, ares1, reduceCtorEq, Nat.reduceEqDiff, eq_self, Nat.reduceAdd, if_true, if_false, one, Nat.reduceLeDiff, undef, gsl, aextract, aindexAddr, amake, implies_true, forall_const, alen, abuiltin, anil, isC, Int.reduceEq, Int.reduceLT, Int.reduceLE, Int.reduceAdd, Int.reduceToNat, Int.reduceNeg, Nat.reduceMul, Nat.reduceSub, abuild, afill, Int.reduceBNe, Int.reduceBEq, abox, buildSlice0 Tryd.underlying23 asz5 azc5]
  obtain ⟨TC, hTC⟩ : ∃ TC, TC = Ob.cells [.slice (some ⟨Bh, 0, some 0⟩) 8 8, .slice (some ⟨Bk, 0, some 0⟩) 64 64] 30 true := ⟨_, rfl⟩
  rw [← hTC]
  have hO1 := hO.new TC
  obtain ⟨T, hT⟩ : ∃ T, T = st.n := ⟨_, rfl⟩
  rw [← hT] at hO1 ⊢
  have hR : ∀ e ∈ r, e ∈ (T, TC) :: r := fun e he => List.mem_cons_of_mem _ he
  have hO1' : Own ((st.new TC).new (.cells [] 5 true)) ((T + 1, .cells [] 5 true) :: (T, TC) :: r) := by
    have := hO1.new (.cells [] 5 true)
    rw [new_n, ← hT] at this
    exact this
  have hvl := hv.2
  refine GVx.append Tryd.underlying23 (by rw [Tryd.underlying23]; rfl) asz5 azc5 aby5 (GVx.empty (b := T + 1)) hO1' ((hv.sub fun e he => List.mem_cons_of_mem _ (hR e he)).src hO1') (by rw [nl_length, Nat.mul_one]) (nl_one _) (by omega) fun va ha sa hGa hOa => ?_
  rw [List.nil_append, Nat.zero_add] at hGa
  obtain ⟨aa, ca, hva⟩ := hGa.isSlice
  simp (config := { implicitDefEqProofs := false }) only [↓GP, GQ, ↓awp_seq, ↓awp_block, C_ex, Nat.reduceBEq, acap, afieldAddr, aload, astore, abin, anum, astr, aun, isAggD, cond_true, cond_false, ↓reduceIte, C_P, C_G, isTuple, Value.cells, setL, ares, aresL, ares1, reduceCtorEq, Nat.reduceEqDiff, eq_self, Nat.reduceAdd, if_true, if_false, one, Nat.reduceLeDiff, undef, gsl, aextract, aindexAddr, amake, implies_true, forall_const, alen, abuiltin, anil, isC, Int.reduceEq, Int.reduceLT, Int.reduceLE, Int.reduceAdd, Int.reduceToNat, Int.reduceNeg, Nat.reduceMul, Nat.reduceSub, abuild, afill, Int.reduceBNe, Int.reduceBEq, Tryd.underlying23, abuildSlice_one (st := sa) (v := .int .u8 128) Tryd.underlying23 asz5 azc5 rfl rfl rfl (by decide)]
  refine GVx.append1 Tryd.underlying23 (by rw [Tryd.underlying23]; rfl) asz5 azc5 (c := [.int .u8 128]) aby5 hGa hOa rfl rfl (by omega) fun v1 h1 s1 hG1 hO1 => ?_
  simp (config := { implicitDefEqProofs := false }) only [↓GP, GQ, ↓awp_seq, ↓awp_block, C_ex, Nat.reduceBEq, acap, afieldAddr, aload, astore, abin, anum, astr, aun, isAggD, cond_true, cond_false, ↓reduceIte, C_P, C_G, isTuple, Value.cells, setL, ares, aresL, ares1, reduceCtorEq, Nat.reduceEqDiff, eq_self, Nat.reduceAdd, if_true, if_false, one, Nat.reduceLeDiff, undef, gsl, aextract, aindexAddr, amake, implies_true, forall_const, alen, abuiltin, anil, isC, Int.reduceEq, Int.reduceLT, Int.reduceLE, Int.reduceAdd, Int.reduceToNat, Int.reduceNeg, Nat.reduceMul, Nat.reduceSub, abuild, afill, Int.reduceBNe, Int.reduceBEq]
  have hG1x : GV v1 (nl (l ++ [128] ++ List.replicate 0 0)) (l.length + 1 + 0) 1 5 h1 := by
    rw [List.replicate_zero, List.append_nil, nl_append]; exact hG1
  obtain ⟨N, hN⟩ : ∃ N, N = l.length * 8 % 18446744073709551616 := ⟨_, rfl⟩
  have hNlt : N < 18446744073709551616 := by omega
  obtain ⟨Z, hZ⟩ : ∃ Z, Z = (120 - (l.length + 1) % 64) % 64 := ⟨_, rfl⟩
  refine ⟨fun m ρ s => ∃ (j : Nat) (w : Value) (h : Hp), m = Z - j ∧ j ≤ Z ∧ ρ 1 = v ∧ ρ 2 = .pointer (some ⟨T, 0, none⟩) ∧ ρ 5 = w ∧ GV w (nl (l ++ [128] ++ List.replicate j 0)) (l.length + 1 + j) 1 5 h ∧ Own s (h ++ ((T, TC) :: r)), ⟨Z, 0, v1, h1, rfl, Nat.zero_le _, rfl, rfl, rfl, hG1x, hO1⟩, ?_⟩
  rintro m ρ s ⟨j, w, h, rfl, hj, hp1, hp2, hp5, hG, hO⟩
  obtain ⟨a3, ha3⟩ := hG.isSlice
  have hmod : (((l.length + 1 + j : Nat) : Int)).tmod 64 = (((l.length + 1 + j) % 64 : Nat) : Int) := by rw [Int.tmod_eq_emod_of_nonneg (by omega)]; omega
  by_cases hjz : j < Z
  · simp (config := { implicitDefEqProofs := false }) only [↓GP, GQ, ↓awp_seq, ↓awp_block, C_ex, Nat.reduceBEq, acap, afieldAddr, aload, astore, abin, anum, astr, aun, isAggD, cond_true, cond_false, ↓reduceIte, C_P, C_G, isTuple, Value.cells, setL, ares, aresL, ares1, reduceCtorEq, Nat.reduceEqDiff, eq_self, Nat.reduceAdd, if_true, if_false, one, Nat.reduceLeDiff, undef, gsl, aextract, aindexAddr, amake, implies_true, forall_const, alen, abuiltin, anil, isC, Int.reduceEq, Int.reduceLT, Int.reduceLE, Int.reduceAdd, Int.reduceToNat, Int.reduceNeg, Nat.reduceMul, Nat.reduceSub, abuild, afill, Int.reduceBNe, Int.reduceBEq, hp1, hp2, hp5, ha3, Tryd.underlying23, Tryd.underlying3, hmod, show ¬ (((l.length + 1 + j) % 64 : Nat) : Int) = 56 by omega, abuildSlice_one (st := s) (v := .int .u8 0) Tryd.underlying23 asz5 azc5 rfl rfl rfl (by decide)]
    rw [← ha3]
    refine GV.append1 Tryd.underlying23 (by rw [Tryd.underlying23]; rfl) asz5 azc5 (c := [.int .u8 0]) aby5 hG hO rfl rfl (by omega) fun v' h' s' hG' hs' => ?_
    simp (config := { implicitDefEqProofs := false }) only [↓GP, GQ, ↓awp_seq, ↓awp_block, C_ex, Nat.reduceBEq, acap, afieldAddr, aload, astore, abin, anum, astr, aun, isAggD, cond_true, cond_false, ↓reduceIte, C_P, C_G, isTuple, Value.cells, setL, ares, aresL, ares1, reduceCtorEq, Nat.reduceEqDiff, eq_self, Nat.reduceAdd, if_true, if_false, one, Nat.reduceLeDiff, undef, gsl, aextract, aindexAddr, amake, implies_true, forall_const, alen, abuiltin, anil, isC, Int.reduceEq, Int.reduceLT, Int.reduceLE, Int.reduceAdd, Int.reduceToNat, Int.reduceNeg, Nat.reduceMul, Nat.reduceSub, abuild, afill, Int.reduceBNe, Int.reduceBEq, hp1, hp2]
    refine ⟨Z - (j + 1), by omega, j + 1, v', h', rfl, by omega, rfl, ?_, hs'⟩
    have e : nl (l ++ [128] ++ List.replicate (j + 1) 0) = nl (l ++ [128] ++ List.replicate j 0) ++ [.int .u8 0] := by
      rw [List.replicate_succ', ← List.append_assoc, nl_append]; rfl
    rw [e]
    exact hG'
  obtain rfl : j = Z := by omega
  have hm0l : (l ++ [128] ++ List.replicate j 0).length = l.length + 1 + j := by simp; omega
  have hpad : padN l = (l ++ [128] ++ List.replicate j 0) ++ tailN N 8 := by rw [hN, hZ]; rfl
  have hM0 : l.length + 1 + j ≤ 100100 := by omega
  obtain ⟨av, cv, hvs⟩ := hv.isSlice
  have hw1 : IntKind.u64.wrap ((l.length : Nat) : Int) = (l.length : Int) := by rw [w_u64 (by omega)]
  have hw2 : IntKind.u64.wrap ((l.length : Int) * 8) = (N : Int) := by rw [w_u64 (by omega)]; omega
  simp (config := { implicitDefEqProofs := false }) only [↓GP, GQ, ↓awp_seq, ↓awp_block, C_ex, Nat.reduceBEq, acap, afieldAddr, aload, astore, abin, anum, astr, aun, isAggD, cond_true, cond_false, ↓reduceIte, C_P, C_G, isTuple, Value.cells, setL, ares, aresL, ares1, reduceCtorEq, Nat.reduceEqDiff, eq_self, Nat.reduceAdd, if_true, if_false, one, Nat.reduceLeDiff, undef, gsl, aextract, aindexAddr, amake, implies_true, forall_const, alen, abuiltin, anil, isC, Int.reduceEq, Int.reduceLT, Int.reduceLE, Int.reduceAdd, Int.reduceToNat, Int.reduceNeg, Nat.reduceMul, Nat.reduceSub, abuild, afill, Int.reduceBNe, Int.reduceBEq, hp1, hp2, hp5, ha3, hvs, Tryd.underlying23, Tryd.underlying3, Tryd.underlying46, aconv, hw1, hw2, hmod, show (((l.length + 1 + j) % 64 : Nat) : Int) = 56 by omega]
  generalize hm0 : l ++ [128] ++ List.replicate j 0 = m0 at *
  generalize hMl : l.length + 1 + j = M0 at *
  refine ⟨fun m ρ s => ∃ (t : Nat) (tv : Value) (th : Hp), m = 8 - t ∧ t ≤ 8 ∧ ρ 2 = .pointer (some ⟨T, 0, none⟩) ∧ ρ 5 = w ∧ ρ 6 = .int .u64 (N / 256 ^ t : Nat) ∧ ρ 7 = tv ∧ ρ 8 = .int .i64 t ∧
    ((t = 0 ∧ tv = .slice none 0 0 ∧ th = []) ∨ ∃ b sp, t ≠ 0 ∧ tv = .slice (some ⟨b, 0, sp⟩) t t ∧ th = [(b, .cells (nl (tR N t)) 5 true)]) ∧ Own s (th ++ (h ++ ((T, TC) :: r))), ⟨8, 0, _, [], rfl, by decide, hp2, by rw [← ha3]; exact hp5, by rw [Nat.pow_zero, Nat.div_one]; rfl, rfl, rfl, .inl ⟨rfl, rfl, rfl⟩, hO⟩, ?_⟩
  clear hp1 hp2 hp5
  rintro m ρ s2 ⟨t, tv, th, rfl, ht, hp2, hp5, hp6, hp7, hp8, hT2, hO⟩
  by_cases ht8 : t < 8
  · have hle : N / 256 ^ t ≤ N := Nat.div_le_self _ _
    have htm : (((N / 256 ^ t : Nat) : Int)).tmod 256 = ((N / 256 ^ t % 256 : Nat) : Int) := by
      generalize N / 256 ^ t = y
      rw [Int.tmod_eq_emod_of_nonneg (by omega)]; omega
    have hcv : IntKind.u8.wrap ((N / 256 ^ t % 256 : Nat) : Int) = ((N / 256 ^ t % 256 : Nat) : Int) := by rw [w_u8n, Nat.mod_mod]
    have hdv : IntKind.u64.wrap (((N / 256 ^ t : Nat) : Int).tdiv 256) = ((N / 256 ^ (t + 1) : Nat) : Int) := by
      have h2 : N / 256 ^ (t + 1) ≤ N := Nat.div_le_self _ _
      rw [Int.tdiv_eq_ediv_of_nonneg (Int.natCast_nonneg _), show (256 : Int) = ((256 : Nat) : Int) from rfl, ← Int.natCast_ediv, Nat.div_div_eq_div_mul, ← Nat.pow_succ]
      generalize N / 256 ^ (t + 1) = y at *
      rw [w_u64 (by omega)]
    have hnewB : (s2.new (.cells [.int .u8 (N / 256 ^ t % 256 : Nat)] 5 true)).H s2.n = some (.cells [.int .u8 (N / 256 ^ t % 256 : Nat)] 5 true) := new_at _
    simp (config := { implicitDefEqProofs := false }) only [↓GP, GQ, ↓awp_seq, ↓awp_block, C_ex, Nat.reduceBEq, acap, afieldAddr, aload, astore, abin, anum, astr, aun, isAggD, cond_true, cond_false, ↓reduceIte, C_P, C_G, isTuple, Value.cells, setL, ares, aresL, ares1, reduceCtorEq, Nat.reduceEqDiff, eq_self, Nat.reduceAdd, if_true, if_false, one, Nat.reduceLeDiff, undef, gsl, aextract, aindexAddr, amake, implies_true, forall_const, alen, abuiltin, anil, isC, Int.reduceEq, Int.reduceLT, Int.reduceLE, Int.reduceAdd, Int.reduceToNat, Int.reduceNeg, Nat.reduceMul, Nat.reduceSub, abuild, afill, Int.reduceBNe, Int.reduceBEq, hp2, hp5, hp6, hp7, hp8, show (t : Int) < 8 by omega, decide_true, Tryd.underlying46, Tryd.underlying5, Tryd.underlying23, aconv, htm, hcv, abuildSlice_one (st := s2) (v := .int .u8 (N / 256 ^ t % 256 : Nat)) Tryd.underlying23 asz5 azc5 rfl rfl rfl (by decide)]
    have hO3 := hO.new (.cells [.int .u8 (N / 256 ^ t % 256 : Nat)] 5 true)
    rcases hT2 with ⟨rfl, rfl, rfl⟩ | ⟨b, sp, ht0, rfl, rfl⟩
    · rw [aappend_fit (m := 0) (Cs := []) Tryd.underlying23 (by rw [Tryd.underlying23]; rfl) asz5 azc5 aby5 rfl rfl hnewB (by decide) (by simp), setL, set_self hnewB]
      simp (config := { implicitDefEqProofs := false }) only [↓GP, GQ, ↓awp_seq, ↓awp_block, C_ex, Nat.reduceBEq, acap, afieldAddr, aload, astore, abin, anum, astr, aun, isAggD, cond_true, cond_false, ↓reduceIte, C_P, C_G, isTuple, Value.cells, setL, ares, aresL, ares1, reduceCtorEq, Nat.reduceEqDiff, eq_self, Nat.reduceAdd, if_true, if_false, one, Nat.reduceLeDiff, undef, gsl, aextract, aindexAddr, amake, implies_true, forall_const, alen, abuiltin, anil, isC, Int.reduceEq, Int.reduceLT, Int.reduceLE, Int.reduceAdd, Int.reduceToNat, Int.reduceNeg, Nat.reduceMul, Nat.reduceSub, abuild, afill, Int.reduceBNe, Int.reduceBEq, hp2, hp5, hp6, hp8, hdv]
      exact ⟨7, by decide, 1, _, [(s2.n, .cells [.int .u8 (N / 256 ^ 0 % 256 : Nat)] 5 true)], rfl, by decide, rfl, rfl, rfl, .inr ⟨s2.n, none, by decide, rfl, rfl⟩, hO3⟩
    · have hsrc : asrc (s2.new (.cells [.int .u8 (N / 256 ^ t % 256 : Nat)] 5 true)) 1 (.slice (some ⟨b, 0, sp⟩) t t) = some (t, nl (tR N t)) := asrc_whole (hO3.get (o := .cells (nl (tR N t)) 5 true) (by simp)) (by rw [nl_length, tR_length, Nat.mul_one])
      · rw [aappend_grow (old := [.int .u8 (N / 256 ^ t % 256 : Nat)]) Tryd.underlying23 (by rw [Tryd.underlying23]; rfl) asz5 azc5 aby5 hsrc (nl_one _) hnewB (by omega) rfl (by omega)]
        simp (config := { implicitDefEqProofs := false }) only [↓GP, GQ, ↓awp_seq, ↓awp_block, C_ex, Nat.reduceBEq, acap, afieldAddr, aload, astore, abin, anum, astr, aun, isAggD, cond_true, cond_false, ↓reduceIte, C_P, C_G, isTuple, Value.cells, setL, ares, aresL, ares1, reduceCtorEq, Nat.reduceEqDiff, eq_self, Nat.reduceAdd, if_true, if_false, one, Nat.reduceLeDiff, undef, gsl, aextract, aindexAddr, amake, implies_true, forall_const, alen, abuiltin, anil, isC, Int.reduceEq, Int.reduceLT, Int.reduceLE, Int.reduceAdd, Int.reduceToNat, Int.reduceNeg, Nat.reduceMul, Nat.reduceSub, abuild, afill, Int.reduceBNe, Int.reduceBEq, hp2, hp5, hp6, hp8, hdv]
        refine ⟨8 - (t + 1), by omega, t + 1, _, [(_, .cells (nl (tR N (t + 1))) 5 true)], rfl, by omega, rfl, rfl, by rw [w_i64 (by omega)]; rfl, .inr ⟨_, some 0, by omega, by rw [Nat.add_comm 1 t], rfl⟩, ?_⟩
        exact hO3.tail.tail.new (.cells ([.int .u8 (N / 256 ^ t % 256 : Nat)] ++ nl (tR N t)) 5 true)
  obtain rfl : t = 8 := by omega
  obtain ⟨b, sp, -, rfl, rfl⟩ : ∃ b sp, (8 : Nat) ≠ 0 ∧ tv = .slice (some ⟨b, 0, sp⟩) 8 8 ∧ th = [(b, .cells (nl (tR N 8)) 5 true)] := by
    rcases hT2 with ⟨h, _⟩ | h
    · exact absurd h (by decide)
    · exact h
  have hO4 := hO.perm (perm_front h _ ((T, TC) :: r)).symm
  have hsrc : asrc s2 1 (.slice (some ⟨b, 0, sp⟩) 8 8) = some (8, nl (tR N 8)) := asrc_whole (hO4.get (o := .cells (nl (tR N 8)) 5 true) (by simp)) (by rw [nl_length, tR_length])
  simp (config := { implicitDefEqProofs := false }) only [↓GP, GQ, ↓awp_seq, ↓awp_block, C_ex, Nat.reduceBEq, acap, afieldAddr, aload, astore, abin, anum, astr, aun, isAggD, cond_true, cond_false, ↓reduceIte, C_P, C_G, isTuple, Value.cells, setL, ares, aresL, ares1, reduceCtorEq, Nat.reduceEqDiff, eq_self, Nat.reduceAdd, if_true, if_false, one, Nat.reduceLeDiff, undef, gsl, aextract, aindexAddr, amake, implies_true, forall_const, alen, abuiltin, anil, isC, Int.reduceEq, Int.reduceLT, Int.reduceLE, Int.reduceAdd, Int.reduceToNat, Int.reduceNeg, Nat.reduceMul, Nat.reduceSub, abuild, afill, Int.reduceBNe, Int.reduceBEq, hp2, hp5, hp6, hp7, hp8, show ¬ ((8 : Nat) : Int) < 8 by decide, decide_false]
  refine GV.append Tryd.underlying23 (by rw [Tryd.underlying23]; rfl) asz5 azc5 aby5 hG hO4 hsrc (by decide) (by rw [nl_length, tR_length]) (nl_one _) (by omega) fun v5 h5 s5 hG5 hO5 => ?_
  rw [← nl_append, tR_eq, ← hpad] at hG5
  have hPl := padN_length l
  have hPm := padN_mod l
  have hPd := padN_lt hvl
  have hML : M0 + 8 = (padN l).length := by rw [hpad, List.length_append, hm0l, tailN_length]
  rw [hML] at hG5
  obtain ⟨B, rfl, rfl, hBl⟩ := hG5.out (by omega)
  have hO5' : Own s5 ((B, .cells (nl (padN l)) 5 true) :: (T, TC) :: r) := hO5.sub (List.Sublist.cons_cons _ (List.sublist_cons_self _ _))
  have hcT : s5.H T = some (.cells [.slice (some ⟨Bh, 0, some 0⟩) 8 8, .slice (some ⟨Bk, 0, some 0⟩) 64 64] 30 true) := by
    rw [← hTC]; exact hO5'.get (by simp)
  have hneT : ¬ T = s5.n := hO5'.fresh (o := TC) (by simp)
  simp (config := { implicitDefEqProofs := false }) only [↓GP, GQ, ↓awp_seq, ↓awp_block, C_ex, Nat.reduceBEq, acap, afieldAddr, aload, astore, abin, anum, astr, aun, isAggD, cond_true, cond_false, ↓reduceIte, C_P, C_G, isTuple, Value.cells, setL, ares, aresL, ares1, reduceCtorEq, Nat.reduceEqDiff, eq_self, Nat.reduceAdd, if_true, if_false, one, Nat.reduceLeDiff, undef, gsl, aextract, aindexAddr, amake, implies_true, forall_const, alen, abuiltin, anil, isC, Int.reduceEq, Int.reduceLT, Int.reduceLE, Int.reduceAdd, Int.reduceToNat, Int.reduceNeg, Nat.reduceMul, Nat.reduceSub, abuild, afill, Int.reduceBNe, Int.reduceBEq, hp2, hcT, hneT, buildSlice0 Tryd.underlying28 asz47 azc47, afo30_0, asz28, Tryd.underlying28]
  have hO6 := hO5'.new (.cells [] 47 true)
  have hsrcH : asrc (s5.new (.cells [] 47 true)) 1 (.slice (some ⟨Bh, 0, some 0⟩) 8 8) = some (8, wl hs0) := asrc_whole (hO6.get (o := .cells (wl hs0) 47 oh) (by simp [hH])) (by rw [wl_length]; rfl)
  refine GVx.appendN Tryd.underlying28 (by rw [Tryd.underlying28]; rfl) asz47 azc47 aby47 (GVx.empty (b := s5.n)) hO6 hsrcH (by decide) (by rw [wl_length]; rfl) (by simp [wl, one]) (by decide) fun v7 h7 s7 hG7 hO7 => ?_
  rw [List.nil_append, Nat.zero_add] at hG7
  obtain ⟨B9, rfl, rfl, hB9⟩ := hG7.out (by decide)
  simp (config := { implicitDefEqProofs := false }) only [↓GP, GQ, ↓awp_seq, ↓awp_block, C_ex, Nat.reduceBEq, acap, afieldAddr, aload, astore, abin, anum, astr, aun, isAggD, cond_true, cond_false, ↓reduceIte, C_P, C_G, isTuple, Value.cells, setL, ares, aresL, ares1, reduceCtorEq, Nat.reduceEqDiff, eq_self, Nat.reduceAdd, if_true, if_false, one, Nat.reduceLeDiff, undef, gsl, aextract, aindexAddr, amake, implies_true, forall_const, alen, abuiltin, anil, isC, Int.reduceEq, Int.reduceLT, Int.reduceLE, Int.reduceAdd, Int.reduceToNat, Int.reduceNeg, Nat.reduceMul, Nat.reduceSub, abuild, afill, Int.reduceBNe, Int.reduceBEq, hp2]
  generalize hP : padN l = P at *
  generalize hL : P.length = L at *
  refine ⟨fun m ρ s => ∃ jj : Nat, m = L / 64 - jj ∧ 64 * jj ≤ L ∧ ρ 2 = .pointer (some ⟨T, 0, none⟩) ∧ ρ 5 = .slice (some ⟨B, 0, some 0⟩) L L ∧ ρ 9 = .slice (some ⟨B9, 0, some 0⟩) 8 8 ∧ ρ 10 = .int .i64 (64 * jj : Nat) ∧
    Own s ((B9, .cells (wl (hsN P jj)) 47 true) :: (B, .cells (nl P) 5 true) :: (T, TC) :: r), ⟨_, 0, rfl, by omega, hp2, rfl, rfl, rfl, hO7⟩, ?_⟩
  clear hp2 hp5 hp6 hp7 hp8
  rintro m ρ s ⟨jj, rfl, hj, hp2, hp5, hp9, hp10, hO⟩
  by_cases hjl : 64 * jj < L
  · simp (config := { implicitDefEqProofs := false }) only [↓GP, GQ, ↓awp_seq, ↓awp_block, C_ex, Nat.reduceBEq, acap, afieldAddr, aload, astore, abin, anum, astr, aun, isAggD, cond_true, cond_false, ↓reduceIte, C_P, C_G, isTuple, Value.cells, setL, ares, aresL, ares1, reduceCtorEq, Nat.reduceEqDiff, eq_self, Nat.reduceAdd, if_true, if_false, one, Nat.reduceLeDiff, undef, gsl, aextract, aindexAddr, amake, implies_true, forall_const, alen, abuiltin, anil, isC, Int.reduceEq, Int.reduceLT, Int.reduceLE, Int.reduceAdd, Int.reduceToNat, Int.reduceNeg, Nat.reduceMul, Nat.reduceSub, abuild, afill, Int.reduceBNe, Int.reduceBEq, hp2, hp5, hp9, hp10, hjl, Int.ofNat_lt, decide_true, Tryd.underlying23]
    generalize hoff : 64 * jj = off at *
    have hoL : off + 64 ≤ L := by omega
    have hL2 : L ≤ 200000 := by omega
    obtain ⟨F, hF⟩ : ∃ F, F = ((B9, Ob.cells (wl (hsN P jj)) 47 true) :: (B, Ob.cells (nl P) 5 true) :: (T, TC) :: r) := ⟨_, rfl⟩
    rw [← hF] at hO
    have m9 : (B9, Ob.cells (wl (hsN P jj)) 47 true) ∈ F := by rw [hF]; simp
    have mB : (B, Ob.cells (nl P) 5 true) ∈ F := by rw [hF]; simp
    have mT : (T, TC) ∈ F := by rw [hF]; simp
    have mK : (Bk, Ob.cells (wl ks0) 47 okk) ∈ F := by rw [hF]; simp [hK]
    refine ⟨fun m ρ s => ∃ (i : Nat) (vw : Value) (hw : Hp), m = 64 - i ∧ i ≤ 64 ∧ ρ 2 = .pointer (some ⟨T, 0, none⟩) ∧ ρ 5 = .slice (some ⟨B, 0, some 0⟩) L L ∧ ρ 9 = .slice (some ⟨B9, 0, some 0⟩) 8 8 ∧ ρ 10 = .int .i64 off ∧ ρ 11 = vw ∧ ρ 12 = .int .i64 i ∧
      GV vw (wl (wsN P off i)) i 1 47 hw ∧ Own s (hw ++ F), ⟨64, 0, _, [], rfl, by decide, hp2, hp5, hp9, hp10, rfl, rfl, GV.nil, hO⟩, ?_⟩
    clear hp2 hp5 hp9 hp10 hO
    rintro m ρ s ⟨i, vw, hw, rfl, hi, hp2, hp5, hp9, hp10, hp11, hp12, hG, hO⟩
    by_cases him : i < 64
    · have hcB := hO.get (List.mem_append_right hw mB)
      by_cases hi16 : i < 16
      · have w4 : IntKind.i64.wrap (4 * (i : Int)) = ((4 * i : Nat) : Int) := by rw [w_i64 (by omega)]; omega
        have wlo : IntKind.i64.wrap ((off : Int) + ((4 * i : Nat) : Int)) = ((off + 4 * i : Nat) : Int) := by rw [w_i64 (by omega)]; omega
        have whi : IntKind.i64.wrap (((off + 4 * i : Nat) : Int) + 4) = ((off + 4 * i + 4 : Nat) : Int) := by rw [w_i64 (by omega)]; omega
        have hsl : aslice Tryd.prog s 23 (.slice (some ⟨B, 0, some 0⟩) L L) (some (.int .i64 (off + 4 * i : Nat))) (some (.int .i64 (off + 4 * i + 4 : Nat))) none = some (.slice (some ⟨B, off + 4 * i, some 0⟩) 4 (L - (off + 4 * i))) :=
          (aslice_of (sp := 0) Tryd.underlying23 asz5 (openOK_open hcB asz5) (abounds_lohi (by omega) (by omega))).trans (by simp)
        have g0 := nl_get (l := P) (i := off + 4 * i) (by omega)
        have g1 := nl_get (l := P) (i := off + 4 * i + 1) (by omega)
        have g2 := nl_get (l := P) (i := off + 4 * i + 2) (by omega)
        have g3 := nl_get (l := P) (i := off + 4 * i + 3) (by omega)
        have b0 := getD8 hPd (off + 4 * i)
        have b1 := getD8 hPd (off + 4 * i + 1)
        have b2 := getD8 hPd (off + 4 * i + 2)
        have b3 := getD8 hPd (off + 4 * i + 3)
        have hwd : word P (off + 4 * i) = ((P.getD (off + 4 * i) 0 * 256 + P.getD (off + 4 * i + 1) 0) * 256 + P.getD (off + 4 * i + 2) 0) * 256 + P.getD (off + 4 * i + 3) 0 := rfl
        generalize P.getD (off + 4 * i) 0 = x0 at *
        generalize P.getD (off + 4 * i + 1) 0 = x1 at *
        generalize P.getD (off + 4 * i + 2) 0 = x2 at *
        generalize P.getD (off + 4 * i + 3) 0 = x3 at *
        have c0 : IntKind.u32.wrap (x0 : Int) = x0 := w_u32 (by omega)
        have c1 : IntKind.u32.wrap (x1 : Int) = x1 := w_u32 (by omega)
        have c2 : IntKind.u32.wrap (x2 : Int) = x2 := w_u32 (by omega)
        have c3 : IntKind.u32.wrap (x3 : Int) = x3 := w_u32 (by omega)
        have d0 : IntKind.u32.wrap ((x0 : Int) * 256) = ((x0 * 256 : Nat) : Int) := by rw [w_u32 (by omega)]; omega
        have d1 : IntKind.u32.wrap (((x0 * 256 : Nat) : Int) + x1) = ((x0 * 256 + x1 : Nat) : Int) := by rw [w_u32 (by omega)]; omega
        have d2 : IntKind.u32.wrap (((x0 * 256 + x1 : Nat) : Int) * 256) = (((x0 * 256 + x1) * 256 : Nat) : Int) := by rw [w_u32 (by omega)]; omega
        have d3 : IntKind.u32.wrap ((((x0 * 256 + x1) * 256 : Nat) : Int) + x2) = (((x0 * 256 + x1) * 256 + x2 : Nat) : Int) := by rw [w_u32 (by omega)]; omega
        have d4 : IntKind.u32.wrap ((((x0 * 256 + x1) * 256 + x2 : Nat) : Int) * 256) = ((((x0 * 256 + x1) * 256 + x2) * 256 : Nat) : Int) := by rw [w_u32 (by omega)]; omega
        have d5 : IntKind.u32.wrap (((((x0 * 256 + x1) * 256 + x2) * 256 : Nat) : Int) + x3) = ((word P (off + 4 * i) : Nat) : Int) := by rw [hwd, w_u32 (by omega)]; omega
        have hneB : ¬ B = s.n := hO.fresh (List.mem_append_right hw mB)
        simp (config := { implicitDefEqProofs := false }) only [↓GP, GQ, ↓awp_seq, ↓awp_block, C_ex, Nat.reduceBEq, acap, afieldAddr, aload, astore, abin, anum, astr, aun, isAggD, cond_true, cond_false, ↓reduceIte, C_P, C_G, isTuple, Value.cells, setL, ares, aresL, ares1, reduceCtorEq, Nat.reduceEqDiff, eq_self, Nat.reduceAdd, if_true, if_false, one, Nat.reduceLeDiff, undef, gsl, aextract, aindexAddr, amake, implies_true, forall_const, alen, abuiltin, anil, isC, Int.reduceEq, Int.reduceLT, Int.reduceLE, Int.reduceAdd, Int.reduceToNat, Int.reduceNeg, Nat.reduceMul, Nat.reduceSub, abuild, afill, Int.reduceBNe, Int.reduceBEq, hp2, hp5, hp9, hp10, hp11, hp12, show (i : Int) < 64 by omega, show (i : Int) < 16 by omega, decide_true, w4, wlo, whi, hsl]
        refine ADraw.of [(0, false, []), (1, false, []), (2, false, []), (3, false, []), (4, false, []), (5, false, []), (6, false, []), (7, false, []), (8, false, []), (9, false, []), (10, false, []), (11, false, []), (12, false, []), (13, false, []), (14, false, []), (15, false, []), (16, false, []), (17, false, []), (18, false, []), (19, false, []), (20, false, []), (21, false, []), (22, false, []), (23, false, []), (24, false, []), (25, false, [])] [] [] (by kernel_rfl) ?_
        simp (config := { implicitDefEqProofs := false }) only [↓GP, GQ, ↓awp_seq, ↓awp_block, C_ex, Nat.reduceBEq, acap, afieldAddr, aload, astore, abin, anum, astr, aun, isAggD, cond_true, cond_false, ↓reduceIte, C_P, C_G, isTuple, Value.cells, setL, ares, aresL, ares1, reduceCtorEq, Nat.reduceEqDiff, eq_self, Nat.reduceAdd, if_true, if_false, one, Nat.reduceLeDiff, undef, gsl, aextract, aindexAddr, amake, implies_true, forall_const, alen, abuiltin, anil, isC, Int.reduceEq, Int.reduceLT, Int.reduceLE, Int.reduceAdd, Int.reduceToNat, Int.reduceNeg, Nat.reduceMul, Nat.reduceSub, abuild, afill, Int.reduceBNe, Int.reduceBEq, hp2, hp5, hp9, hp10, hp11, hp12, hcB, hneB, asz5, asz47, Tryd.underlying23, Tryd.underlying28, Tryd.underlying5, Tryd.underlying47, aconv, g0, g1, g2, g3, c0, c1, c2, c3, d0, d1, d2, d3, d4, d5,
          abuildSlice_one (st := s) (v := .int .u32 (word P (off + 4 * i) : Nat)) Tryd.underlying28 asz47 azc47 rfl rfl rfl (by decide)]
        refine GV.append1 Tryd.underlying28 (by rw [Tryd.underlying28]; rfl) asz47 azc47 (c := [.int .u32 (word P (off + 4 * i) : Nat)]) aby47 hG hO rfl rfl (by omega) fun v' hg' s' hG' hs' => ?_
        have hcB' := hs'.get (List.mem_append_right hg' mB)
        simp (config := { implicitDefEqProofs := false }) only [↓GP, GQ, ↓awp_seq, ↓awp_block, C_ex, Nat.reduceBEq, acap, afieldAddr, aload, astore, abin, anum, astr, aun, isAggD, cond_true, cond_false, ↓reduceIte, C_P, C_G, isTuple, Value.cells, setL, ares, aresL, ares1, reduceCtorEq, Nat.reduceEqDiff, eq_self, Nat.reduceAdd, if_true, if_false, one, Nat.reduceLeDiff, undef, gsl, aextract, aindexAddr, amake, implies_true, forall_const, alen, abuiltin, anil, isC, Int.reduceEq, Int.reduceLT, Int.reduceLE, Int.reduceAdd, Int.reduceToNat, Int.reduceNeg, Nat.reduceMul, Nat.reduceSub, abuild, afill, Int.reduceBNe, Int.reduceBEq, hp2, hp5, hp9, hp10, hp12, hcB', asz5, asz47, Tryd.underlying23, Tryd.underlying28, Tryd.underlying5, Tryd.underlying47, aconv, g0, g1, g2, g3, c0, c1, c2, c3]
        refine ⟨64 - (i + 1), by omega, i + 1, v', hg', rfl, by omega, rfl, by rw [w_i64 (by omega)]; rfl, ?_, hs'⟩
        rw [wsN, show Nat.blt i 16 = true from Nat.ble_eq_true_of_le hi16, cond_true]
        simpa [wl] using hG'
      · obtain ⟨Bw, rfl, rfl, hBw⟩ := hG.out (by omega)
        have hcw := hO.head
        have hlw := wsN_length P off i
        have hlt := wsN_lt hPd off i
        have hwi : wsN P off (i + 1) = wsN P off i ++ [wnext (wsN P off i) i] := by
          have hb : Nat.blt i 16 = false := by
            cases h : Nat.blt i 16 with
            | false => rfl
            | true => exact absurd (Nat.le_of_ble_eq_true h) (by omega)
          rw [wsN, hb, cond_false]
        have g2 := wl_get (l := wsN P off i) (i := i - 2) (by omega)
        have g7 := wl_get (l := wsN P off i) (i := i - 7) (by omega)
        have g15 := wl_get (l := wsN P off i) (i := i - 15) (by omega)
        have g16 := wl_get (l := wsN P off i) (i := i - 16) (by omega)
        have w2 : IntKind.i64.wrap ((i : Int) - 2) = ((i - 2 : Nat) : Int) := by rw [w_i64 (by omega)]; omega
        have w7 : IntKind.i64.wrap ((i : Int) - 7) = ((i - 7 : Nat) : Int) := by rw [w_i64 (by omega)]; omega
        have w15 : IntKind.i64.wrap ((i : Int) - 15) = ((i - 15 : Nat) : Int) := by rw [w_i64 (by omega)]; omega
        have w16 : IntKind.i64.wrap ((i : Int) - 16) = ((i - 16 : Nat) : Int) := by rw [w_i64 (by omega)]; omega
        have l2 := getD32 hlt (i - 2)
        have l15 := getD32 hlt (i - 15)
        simp (config := { implicitDefEqProofs := false }) only [↓GP, GQ, ↓awp_seq, ↓awp_block, C_ex, Nat.reduceBEq, acap, afieldAddr, aload, astore, abin, anum, astr, aun, isAggD, cond_true, cond_false, ↓reduceIte, C_P, C_G, isTuple, Value.cells, setL, ares, aresL, ares1, reduceCtorEq, Nat.reduceEqDiff, eq_self, Nat.reduceAdd, if_true, if_false, one, Nat.reduceLeDiff, undef, gsl, aextract, aindexAddr, amake, implies_true, forall_const, alen, abuiltin, anil, isC, Int.reduceEq, Int.reduceLT, Int.reduceLE, Int.reduceAdd, Int.reduceToNat, Int.reduceNeg, Nat.reduceMul, Nat.reduceSub, abuild, afill, Int.reduceBNe, Int.reduceBEq, hp2, hp5, hp9, hp10, hp11, hp12, show (i : Int) < 64 by omega, show ¬ (i : Int) < 16 by omega, decide_true, decide_false, w2, w15, Tryd.underlying28, asz47, hcw, g2, g15, Tryd.underlying47]
        refine ⟨by omega, by omega, ?_⟩
        refine ADraw.of [(0, false, []), (1, false, []), (3, false, []), (6, false, []), (9, false, []), (10, false, []), (11, false, []), (12, false, []), (13, true, []), (15, false, []), (17, false, []), (20, false, []), (24, false, []), (25, false, []), (26, false, []), (27, false, []), (28, true, []), (2, false, [13, 28]), (4, false, [13, 28]), (5, false, []), (7, false, [13, 28]), (8, false, []), (14, false, []), (16, false, [13, 28]), (18, false, [13, 28]), (19, false, []), (21, false, [13, 28]), (22, false, []), (23, false, []), (29, false, []), (30, false, []), (31, false, []), (32, false, [])] [13, 28] [(13, 2), (13, 4), (13, 7), (13, 16), (13, 18), (13, 21), (28, 2), (28, 4), (28, 7), (28, 16), (28, 18), (28, 21)] (by kernel_rfl) ?_
        simp (config := { implicitDefEqProofs := false }) only [↓GP, GQ, ↓awp_seq, ↓awp_block, C_ex, Nat.reduceBEq, acap, afieldAddr, aload, astore, abin, anum, astr, aun, isAggD, cond_true, cond_false, ↓reduceIte, C_P, C_G, isTuple, Value.cells, setL, ares, aresL, ares1, reduceCtorEq, Nat.reduceEqDiff, eq_self, Nat.reduceAdd, if_true, if_false, one, Nat.reduceLeDiff, undef, gsl, aextract, aindexAddr, amake, implies_true, forall_const, alen, abuiltin, anil, isC, Int.reduceEq, Int.reduceLT, Int.reduceLE, Int.reduceAdd, Int.reduceToNat, Int.reduceNeg, Nat.reduceMul, Nat.reduceSub, abuild, afill, Int.reduceBNe, Int.reduceBEq, hp2, hp5, hp9, hp10, hp11, hp12, w7, w16, Tryd.underlying28, asz47, hcw, g7, g16, Tryd.underlying47]
        refine ⟨by omega, by omega, ?_⟩
        refine rotc s _ 17 _ rfl l2 (by decide) _ _ ?_
        simp (config := { implicitDefEqProofs := false }) only [↓GP, GQ, ↓awp_seq, ↓awp_block, C_ex, Nat.reduceBEq, acap, afieldAddr, aload, astore, abin, anum, astr, aun, isAggD, cond_true, cond_false, ↓reduceIte, C_P, C_G, isTuple, Value.cells, setL, ares, aresL, ares1, reduceCtorEq, Nat.reduceEqDiff, eq_self, Nat.reduceAdd, if_true, if_false, one, Nat.reduceLeDiff, undef, gsl, aextract, aindexAddr, amake, implies_true, forall_const, alen, abuiltin, anil, isC, Int.reduceEq, Int.reduceLT, Int.reduceLE, Int.reduceAdd, Int.reduceToNat, Int.reduceNeg, Nat.reduceMul, Nat.reduceSub, abuild, afill, Int.reduceBNe, Int.reduceBEq, hp2, hp5, hp9, hp10, hp11, hp12, w7, w16, Tryd.underlying28, asz47, hcw, g7, g16, Tryd.underlying47]
        refine rotc s _ 19 _ rfl l2 (by decide) _ _ ?_
        simp (config := { implicitDefEqProofs := false }) only [↓GP, GQ, ↓awp_seq, ↓awp_block, C_ex, Nat.reduceBEq, acap, afieldAddr, aload, astore, abin, anum, astr, aun, isAggD, cond_true, cond_false, ↓reduceIte, C_P, C_G, isTuple, Value.cells, setL, ares, aresL, ares1, reduceCtorEq, Nat.reduceEqDiff, eq_self, Nat.reduceAdd, if_true, if_false, one, Nat.reduceLeDiff, undef, gsl, aextract, aindexAddr, amake, implies_true, forall_const, alen, abuiltin, anil, isC, Int.reduceEq, Int.reduceLT, Int.reduceLE, Int.reduceAdd, Int.reduceToNat, Int.reduceNeg, Nat.reduceMul, Nat.reduceSub, abuild, afill, Int.reduceBNe, Int.reduceBEq, hp2, hp5, hp9, hp10, hp11, hp12, w7, w16, Tryd.underlying28, asz47, hcw, g7, g16, Tryd.underlying47]
        refine lowc s _ 10 _ rfl l2 (by decide) _ _ ?_
        simp (config := { implicitDefEqProofs := false }) only [↓GP, GQ, ↓awp_seq, ↓awp_block, C_ex, Nat.reduceBEq, acap, afieldAddr, aload, astore, abin, anum, astr, aun, isAggD, cond_true, cond_false, ↓reduceIte, C_P, C_G, isTuple, Value.cells, setL, ares, aresL, ares1, reduceCtorEq, Nat.reduceEqDiff, eq_self, Nat.reduceAdd, if_true, if_false, one, Nat.reduceLeDiff, undef, gsl, aextract, aindexAddr, amake, implies_true, forall_const, alen, abuiltin, anil, isC, Int.reduceEq, Int.reduceLT, Int.reduceLE, Int.reduceAdd, Int.reduceToNat, Int.reduceNeg, Nat.reduceMul, Nat.reduceSub, abuild, afill, Int.reduceBNe, Int.reduceBEq, hp2, hp5, hp9, hp10, hp11, hp12, w7, w16, Tryd.underlying28, asz47, hcw, g7, g16, Tryd.underlying47, bits_xor32 (rotN_lt l2 17) (rotN_lt l2 19), bits_xor32 (xor_lt (rotN_lt l2 17) (rotN_lt l2 19)) (lowN_lt l2 10), w_ad]
        refine rotc s _ 7 _ rfl l15 (by decide) _ _ ?_
        simp (config := { implicitDefEqProofs := false }) only [↓GP, GQ, ↓awp_seq, ↓awp_block, C_ex, Nat.reduceBEq, acap, afieldAddr, aload, astore, abin, anum, astr, aun, isAggD, cond_true, cond_false, ↓reduceIte, C_P, C_G, isTuple, Value.cells, setL, ares, aresL, ares1, reduceCtorEq, Nat.reduceEqDiff, eq_self, Nat.reduceAdd, if_true, if_false, one, Nat.reduceLeDiff, undef, gsl, aextract, aindexAddr, amake, implies_true, forall_const, alen, abuiltin, anil, isC, Int.reduceEq, Int.reduceLT, Int.reduceLE, Int.reduceAdd, Int.reduceToNat, Int.reduceNeg, Nat.reduceMul, Nat.reduceSub, abuild, afill, Int.reduceBNe, Int.reduceBEq, hp2, hp5, hp9, hp10, hp11, hp12, w7, w16, Tryd.underlying28, asz47, hcw, g7, g16, Tryd.underlying47]
        refine rotc s _ 18 _ rfl l15 (by decide) _ _ ?_
        simp (config := { implicitDefEqProofs := false }) only [↓GP, GQ, ↓awp_seq, ↓awp_block, C_ex, Nat.reduceBEq, acap, afieldAddr, aload, astore, abin, anum, astr, aun, isAggD, cond_true, cond_false, ↓reduceIte, C_P, C_G, isTuple, Value.cells, setL, ares, aresL, ares1, reduceCtorEq, Nat.reduceEqDiff, eq_self, Nat.reduceAdd, if_true, if_false, one, Nat.reduceLeDiff, undef, gsl, aextract, aindexAddr, amake, implies_true, forall_const, alen, abuiltin, anil, isC, Int.reduceEq, Int.reduceLT, Int.reduceLE, Int.reduceAdd, Int.reduceToNat, Int.reduceNeg, Nat.reduceMul, Nat.reduceSub, abuild, afill, Int.reduceBNe, Int.reduceBEq, hp2, hp5, hp9, hp10, hp11, hp12, w7, w16, Tryd.underlying28, asz47, hcw, g7, g16, Tryd.underlying47]
        refine lowc s _ 3 _ rfl l15 (by decide) _ _ ?_
        simp (config := { implicitDefEqProofs := false }) only [↓GP, GQ, ↓awp_seq, ↓awp_block, C_ex, Nat.reduceBEq, acap, afieldAddr, aload, astore, abin, anum, astr, aun, isAggD, cond_true, cond_false, ↓reduceIte, C_P, C_G, isTuple, Value.cells, setL, ares, aresL, ares1, reduceCtorEq, Nat.reduceEqDiff, eq_self, Nat.reduceAdd, if_true, if_false, one, Nat.reduceLeDiff, undef, gsl, aextract, aindexAddr, amake, implies_true, forall_const, alen, abuiltin, anil, isC, Int.reduceEq, Int.reduceLT, Int.reduceLE, Int.reduceAdd, Int.reduceToNat, Int.reduceNeg, Nat.reduceMul, Nat.reduceSub, abuild, afill, Int.reduceBNe, Int.reduceBEq, hp2, hp5, hp9, hp10, hp11, hp12, w7, w16, Tryd.underlying28, asz47, hcw, g7, g16, Tryd.underlying47, bits_xor32 (rotN_lt l2 17) (rotN_lt l2 19), bits_xor32 (xor_lt (rotN_lt l2 17) (rotN_lt l2 19)) (lowN_lt l2 10), bits_xor32 (rotN_lt l15 7) (rotN_lt l15 18), bits_xor32 (xor_lt (rotN_lt l15 7) (rotN_lt l15 18)) (lowN_lt l15 3), w_ad]
        rw [wnext, sgB, sgB] at hwi
        generalize ad (ad _ _) _ = z at hwi ⊢
        simp (config := { implicitDefEqProofs := false }) only [↓GP, GQ, ↓awp_seq, ↓awp_block, C_ex, Nat.reduceBEq, acap, afieldAddr, aload, astore, abin, anum, astr, aun, isAggD, cond_true, cond_false, ↓reduceIte, C_P, C_G, isTuple, Value.cells, setL, ares, aresL, ares1, reduceCtorEq, Nat.reduceEqDiff, eq_self, Nat.reduceAdd, if_true, if_false, one, Nat.reduceLeDiff, undef, gsl, aextract, aindexAddr, amake, implies_true, forall_const, alen, abuiltin, anil, isC, Int.reduceEq, Int.reduceLT, Int.reduceLE, Int.reduceAdd, Int.reduceToNat, Int.reduceNeg, Nat.reduceMul, Nat.reduceSub, abuild, afill, Int.reduceBNe, Int.reduceBEq, abuildSlice_one (st := s) (v := .int .u32 (z : Nat)) Tryd.underlying28 asz47 azc47 rfl rfl rfl (by decide)]
        refine GV.append1 Tryd.underlying28 (by rw [Tryd.underlying28]; rfl) asz47 azc47 (c := [.int .u32 (z : Nat)]) aby47 hG hO rfl rfl (by omega) fun v' hg' s' hG' hs' => ?_
        simp (config := { implicitDefEqProofs := false }) only [↓GP, GQ, ↓awp_seq, ↓awp_block, C_ex, Nat.reduceBEq, acap, afieldAddr, aload, astore, abin, anum, astr, aun, isAggD, cond_true, cond_false, ↓reduceIte, C_P, C_G, isTuple, Value.cells, setL, ares, aresL, ares1, reduceCtorEq, Nat.reduceEqDiff, eq_self, Nat.reduceAdd, if_true, if_false, one, Nat.reduceLeDiff, undef, gsl, aextract, aindexAddr, amake, implies_true, forall_const, alen, abuiltin, anil, isC, Int.reduceEq, Int.reduceLT, Int.reduceLE, Int.reduceAdd, Int.reduceToNat, Int.reduceNeg, Nat.reduceMul, Nat.reduceSub, abuild, afill, Int.reduceBNe, Int.reduceBEq, hp2, hp5, hp9, hp10, hp12]
        refine ⟨64 - (i + 1), by omega, i + 1, v', hg', rfl, by omega, rfl, by rw [w_i64 (by omega)]; rfl, ?_, hs'⟩
        rw [hwi]
        simpa [wl] using hG'
    · obtain rfl : i = 64 := by omega
      obtain ⟨Bw, rfl, rfl, hBw⟩ := hG.out (by decide)
      simp (config := { implicitDefEqProofs := false }) only [↓GP, GQ, ↓awp_seq, ↓awp_block, C_ex, Nat.reduceBEq, acap, afieldAddr, aload, astore, abin, anum, astr, aun, isAggD, cond_true, cond_false, ↓reduceIte, C_P, C_G, isTuple, Value.cells, setL, ares, aresL, ares1, reduceCtorEq, Nat.reduceEqDiff, eq_self, Nat.reduceAdd, if_true, if_false, one, Nat.reduceLeDiff, undef, gsl, aextract, aindexAddr, amake, implies_true, forall_const, alen, abuiltin, anil, isC, Int.reduceEq, Int.reduceLT, Int.reduceLE, Int.reduceAdd, Int.reduceToNat, Int.reduceNeg, Nat.reduceMul, Nat.reduceSub, abuild, afill, Int.reduceBNe, Int.reduceBEq, hp2, hp5, hp9, hp10, hp11, hp12, show ¬ ((64 : Nat) : Int) < 64 by decide, decide_false, buildSlice0 Tryd.underlying28 asz47 azc47]
      have hO8 := hO.new (.cells [] 47 true)
      have hsrc9 : asrc (s.new (.cells [] 47 true)) 1 (.slice (some ⟨B9, 0, some 0⟩) 8 8) = some (8, wl (hsN P jj)) := asrc_whole (hO8.get (o := .cells (wl (hsN P jj)) 47 true) (List.mem_cons_of_mem _ (List.mem_append_right _ m9))) (by rw [wl_length, hsN_length])
      refine GVx.appendN Tryd.underlying28 (by rw [Tryd.underlying28]; rfl) asz47 azc47 aby47 (GVx.empty (b := s.n)) hO8 hsrc9 (by decide) (by rw [wl_length, hsN_length]) (by simp [wl, one]) (by decide) fun v8 h8 s8 hG8 hO9 => ?_
      rw [List.nil_append, Nat.zero_add] at hG8
      obtain ⟨Bv, rfl, rfl, hBv⟩ := hG8.out (by decide)
      simp (config := { implicitDefEqProofs := false }) only [↓GP, GQ, ↓awp_seq, ↓awp_block, C_ex, Nat.reduceBEq, acap, afieldAddr, aload, astore, abin, anum, astr, aun, isAggD, cond_true, cond_false, ↓reduceIte, C_P, C_G, isTuple, Value.cells, setL, ares, aresL, ares1, reduceCtorEq, Nat.reduceEqDiff, eq_self, Nat.reduceAdd, if_true, if_false, one, Nat.reduceLeDiff, undef, gsl, aextract, aindexAddr, amake, implies_true, forall_const, alen, abuiltin, anil, isC, Int.reduceEq, Int.reduceLT, Int.reduceLE, Int.reduceAdd, Int.reduceToNat, Int.reduceNeg, Nat.reduceMul, Nat.reduceSub, abuild, afill, Int.reduceBNe, Int.reduceBEq, hp2, hp5, hp9, hp10, hp11]
      obtain ⟨F2, hF2⟩ : ∃ F2, F2 = (B, Ob.cells (nl P) 5 true) :: (T, TC) :: r := ⟨_, rfl⟩
      rw [← hF2] at hF
      have hHl := hsN_length P jj
      have hHd := hsN_lt P jj
      have hwl := wsN_length P off 64
      have hwd := wsN_lt hPd off 64
      have hnext : hsN P (jj + 1) = haddI (hsN P jj) (rndI (hsN P jj) ks0 (wsN P off 64) 64) 8 := by rw [hsN, hoff, blk]
      generalize hsN P jj = H at *
      generalize wsN P off 64 = ws at *
      refine ⟨fun m ρ s => ∃ (i bv : Nat) (spv : Option Nat), m = 64 - i ∧ i ≤ 64 ∧ ρ 2 = .pointer (some ⟨T, 0, none⟩) ∧ ρ 5 = .slice (some ⟨B, 0, some 0⟩) L L ∧ ρ 9 = .slice (some ⟨B9, 0, some 0⟩) 8 8 ∧ ρ 10 = .int .i64 off ∧ ρ 11 = .slice (some ⟨Bw, 0, some 0⟩) 64 64 ∧ ρ 16 = .slice (some ⟨bv, 0, spv⟩) 8 8 ∧ ρ 17 = .int .i64 i ∧
        Own s ((bv, .cells (wl (rndI H ks0 ws i)) 47 true) :: (Bw, .cells (wl ws) 47 true) :: F), ⟨64, 0, Bv, some 0, rfl, by decide, hp2, hp5, hp9, hp10, hp11, rfl, rfl, hO9⟩, ?_⟩
      clear hp2 hp5 hp9 hp10 hp11 hp12
      rintro m ρ s ⟨i, bv, spv, rfl, hi, hp2, hp5, hp9, hp10, hp11, hp16, hp17, hO⟩
      have hcv := hO.head
      have hcw := hO.get (b := Bw) (o := .cells (wl ws) 47 true) (by simp)
      have hck := hO.get (List.mem_cons_of_mem _ (List.mem_cons_of_mem _ mK))
      have hcT : s.H T = some (.cells [.slice (some ⟨Bh, 0, some 0⟩) 8 8, .slice (some ⟨Bk, 0, some 0⟩) 64 64] 30 true) := by
        rw [← hTC]; exact hO.get (List.mem_cons_of_mem _ (List.mem_cons_of_mem _ mT))
      have hvl := rndI_length (ks := ks0) (ws := ws) hHl i
      have hvlt := rndI_lt (ks := ks0) (ws := ws) hHd i
      by_cases him : i < 64
      · have e : rndI H ks0 ws (i + 1) = rnd (rndI H ks0 ws i) (ks0.getD i 0) (ws.getD i 0) := rfl
        obtain ⟨v0, v1, v2, v3, v4, v5, v6, v7, hv⟩ := list8 hvl
        rw [hv] at hcv hvlt e hO
        have l0 : v0 < 4294967296 := hvlt _ (by simp)
        have l1 : v1 < 4294967296 := hvlt _ (by simp)
        have l2 : v2 < 4294967296 := hvlt _ (by simp)
        have l4 : v4 < 4294967296 := hvlt _ (by simp)
        have l5 : v5 < 4294967296 := hvlt _ (by simp)
        have l6 : v6 < 4294967296 := hvlt _ (by simp)
        have hgk := wl_get (l := ks0) (i := i) him
        have hgw := wl_get (l := ws) (i := i) (by omega)
        have hwv : wl [v0, v1, v2, v3, v4, v5, v6, v7] = [.int .u32 v0, .int .u32 v1, .int .u32 v2, .int .u32 v3, .int .u32 v4, .int .u32 v5, .int .u32 v6, .int .u32 v7] := rfl
        rw [hwv] at hcv
        have x4 : 4294967295 ^^^ v4 < 4294967296 := xor_lt (by decide) l4
        have hx4 : bits .xor .u32 4294967295 (v4 : Int) = ((4294967295 ^^^ v4 : Nat) : Int) := bits_xor32 (a := 4294967295) (by decide) l4
        simp (config := { implicitDefEqProofs := false }) only [↓GP, GQ, ↓awp_seq, ↓awp_block, C_ex, Nat.reduceBEq, acap, afieldAddr, aload, astore, abin, anum, astr, aun, isAggD, cond_true, cond_false, ↓reduceIte, C_P, C_G, isTuple, Value.cells, setL, ares, aresL, ares1, reduceCtorEq, Nat.reduceEqDiff, eq_self, Nat.reduceAdd, if_true, if_false, one, Nat.reduceLeDiff, undef, gsl, aextract, aindexAddr, amake, implies_true, forall_const, alen, abuiltin, anil, isC, Int.reduceEq, Int.reduceLT, Int.reduceLE, Int.reduceAdd, Int.reduceToNat, Int.reduceNeg, Nat.reduceMul, Nat.reduceSub, abuild, afill, Int.reduceBNe, Int.reduceBEq, hp2, hp5, hp9, hp10, hp11, hp16, hp17, hcv, hcT, hck, hcw, hgk, hgw, asz47, asz28, Tryd.underlying28, Tryd.underlying47, afo30_1, show (i : Int) < 64 by omega, decide_true]
        refine ADraw.of [(0, false, []), (1, false, []), (2, true, []), (3, false, []), (4, false, []), (5, false, []), (7, false, []), (8, false, []), (9, true, []), (12, false, []), (13, false, []), (14, true, []), (18, false, []), (19, false, []), (20, true, []), (21, false, []), (22, false, []), (23, true, []), (24, false, []), (25, false, []), (26, false, []), (27, true, []), (28, false, []), (29, false, []), (30, false, []), (31, true, []), (32, false, []), (33, false, []), (35, false, []), (36, true, []), (37, false, []), (38, false, []), (39, true, []), (41, false, []), (42, false, []), (43, false, []), (44, true, []), (6, false, [2, 9, 14, 20, 23, 27, 31, 36, 39, 44]), (10, false, [2, 14, 20, 23, 27, 31, 36, 39, 44]), (11, false, []), (15, false, [2, 20, 23, 27, 31, 36, 39, 44]), (16, false, []), (17, false, []), (34, false, []), (40, false, []), (45, false, []), (46, false, [])] [2, 9, 14, 20, 23, 27, 31, 36, 39, 44] [(2, 6), (2, 10), (2, 15), (9, 6), (14, 6), (14, 10), (20, 6), (20, 10), (20, 15), (23, 6), (23, 10), (23, 15), (27, 6), (27, 10), (27, 15), (31, 6), (31, 10), (31, 15), (36, 6), (36, 10), (36, 15), (39, 6), (39, 10), (39, 15), (44, 6), (44, 10), (44, 15)] (by kernel_rfl) ?_
        simp (config := { implicitDefEqProofs := false }) only [↓GP, GQ, ↓awp_seq, ↓awp_block, C_ex, Nat.reduceBEq, acap, afieldAddr, aload, astore, abin, anum, astr, aun, isAggD, cond_true, cond_false, ↓reduceIte, C_P, C_G, isTuple, Value.cells, setL, ares, aresL, ares1, reduceCtorEq, Nat.reduceEqDiff, eq_self, Nat.reduceAdd, if_true, if_false, one, Nat.reduceLeDiff, undef, gsl, aextract, aindexAddr, amake, implies_true, forall_const, alen, abuiltin, anil, isC, Int.reduceEq, Int.reduceLT, Int.reduceLE, Int.reduceAdd, Int.reduceToNat, Int.reduceNeg, Nat.reduceMul, Nat.reduceSub, abuild, afill, Int.reduceBNe, Int.reduceBEq, hp2, hp5, hp9, hp10, hp11, hp16, hp17, hcv, hcT, hck, hcw, hgk, hgw, asz47, asz28, Tryd.underlying28, Tryd.underlying47, afo30_1, hx4, bits_and32 l4 l5, bits_and32 x4 l6, bits_xor32 (and_lt l4 v5) (and_lt x4 v6)]
        refine ⟨by omega, by omega, ?_⟩
        refine rotc s _ 6 _ rfl l4 (by decide) _ _ ?_
        simp (config := { implicitDefEqProofs := false }) only [↓GP, GQ, ↓awp_seq, ↓awp_block, C_ex, Nat.reduceBEq, acap, afieldAddr, aload, astore, abin, anum, astr, aun, isAggD, cond_true, cond_false, ↓reduceIte, C_P, C_G, isTuple, Value.cells, setL, ares, aresL, ares1, reduceCtorEq, Nat.reduceEqDiff, eq_self, Nat.reduceAdd, if_true, if_false, one, Nat.reduceLeDiff, undef, gsl, aextract, aindexAddr, amake, implies_true, forall_const, alen, abuiltin, anil, isC, Int.reduceEq, Int.reduceLT, Int.reduceLE, Int.reduceAdd, Int.reduceToNat, Int.reduceNeg, Nat.reduceMul, Nat.reduceSub, abuild, afill, Int.reduceBNe, Int.reduceBEq, hp2, hp5, hp9, hp10, hp11, hp16, hp17, hcv, hcT, hck, hcw, hgk, hgw, asz47, asz28, Tryd.underlying28, Tryd.underlying47, afo30_1]
        refine rotc s _ 11 _ rfl l4 (by decide) _ _ ?_
        simp (config := { implicitDefEqProofs := false }) only [↓GP, GQ, ↓awp_seq, ↓awp_block, C_ex, Nat.reduceBEq, acap, afieldAddr, aload, astore, abin, anum, astr, aun, isAggD, cond_true, cond_false, ↓reduceIte, C_P, C_G, isTuple, Value.cells, setL, ares, aresL, ares1, reduceCtorEq, Nat.reduceEqDiff, eq_self, Nat.reduceAdd, if_true, if_false, one, Nat.reduceLeDiff, undef, gsl, aextract, aindexAddr, amake, implies_true, forall_const, alen, abuiltin, anil, isC, Int.reduceEq, Int.reduceLT, Int.reduceLE, Int.reduceAdd, Int.reduceToNat, Int.reduceNeg, Nat.reduceMul, Nat.reduceSub, abuild, afill, Int.reduceBNe, Int.reduceBEq, hp2, hp5, hp9, hp10, hp11, hp16, hp17, hcv, hcT, hck, hcw, hgk, hgw, asz47, asz28, Tryd.underlying28, Tryd.underlying47, afo30_1]
        refine rotc s _ 25 _ rfl l4 (by decide) _ _ ?_
        simp (config := { implicitDefEqProofs := false }) only [↓GP, GQ, ↓awp_seq, ↓awp_block, C_ex, Nat.reduceBEq, acap, afieldAddr, aload, astore, abin, anum, astr, aun, isAggD, cond_true, cond_false, ↓reduceIte, C_P, C_G, isTuple, Value.cells, setL, ares, aresL, ares1, reduceCtorEq, Nat.reduceEqDiff, eq_self, Nat.reduceAdd, if_true, if_false, one, Nat.reduceLeDiff, undef, gsl, aextract, aindexAddr, amake, implies_true, forall_const, alen, abuiltin, anil, isC, Int.reduceEq, Int.reduceLT, Int.reduceLE, Int.reduceAdd, Int.reduceToNat, Int.reduceNeg, Nat.reduceMul, Nat.reduceSub, abuild, afill, Int.reduceBNe, Int.reduceBEq, hp2, hp5, hp9, hp10, hp11, hp16, hp17, hcv, hcT, hck, hcw, hgk, hgw, asz47, asz28, Tryd.underlying28, Tryd.underlying47, afo30_1, bits_xor32 (rotN_lt l4 6) (rotN_lt l4 11), bits_xor32 (xor_lt (rotN_lt l4 6) (rotN_lt l4 11)) (rotN_lt l4 25), w_ad]
        refine ADraw.of [(0, false, []), (1, false, []), (2, false, []), (4, false, []), (5, false, []), (6, true, []), (9, false, []), (10, false, []), (11, true, []), (14, false, []), (15, false, []), (16, true, []), (17, false, []), (18, false, []), (19, true, []), (20, false, []), (21, false, []), (22, false, []), (23, true, []), (24, false, []), (25, false, []), (26, true, []), (27, false, []), (28, false, []), (29, false, []), (30, false, []), (31, true, []), (32, false, []), (33, false, []), (34, true, []), (35, false, []), (36, false, []), (3, false, [6, 11, 16, 19, 23, 26, 31, 34]), (7, false, [11, 16, 19, 23, 26, 31, 34]), (8, false, []), (12, false, [16, 19, 23, 26, 31, 34]), (13, false, []), (37, false, []), (38, false, [])] [6, 11, 16, 19, 23, 26, 31, 34] [(6, 3), (11, 3), (11, 7), (16, 3), (16, 7), (16, 12), (19, 3), (19, 7), (19, 12), (23, 3), (23, 7), (23, 12), (26, 3), (26, 7), (26, 12), (31, 3), (31, 7), (31, 12), (34, 3), (34, 7), (34, 12)] (by kernel_rfl) ?_
        simp (config := { implicitDefEqProofs := false }) only [↓GP, GQ, ↓awp_seq, ↓awp_block, C_ex, Nat.reduceBEq, acap, afieldAddr, aload, astore, abin, anum, astr, aun, isAggD, cond_true, cond_false, ↓reduceIte, C_P, C_G, isTuple, Value.cells, setL, ares, aresL, ares1, reduceCtorEq, Nat.reduceEqDiff, eq_self, Nat.reduceAdd, if_true, if_false, one, Nat.reduceLeDiff, undef, gsl, aextract, aindexAddr, amake, implies_true, forall_const, alen, abuiltin, anil, isC, Int.reduceEq, Int.reduceLT, Int.reduceLE, Int.reduceAdd, Int.reduceToNat, Int.reduceNeg, Nat.reduceMul, Nat.reduceSub, abuild, afill, Int.reduceBNe, Int.reduceBEq, hp2, hp5, hp9, hp10, hp11, hp16, hp17, hcv, hcT, hck, hcw, hgk, hgw, asz47, asz28, Tryd.underlying28, Tryd.underlying47, afo30_1, bits_and32 l0 l1, bits_and32 l0 l2, bits_and32 l1 l2, bits_or32 (and_lt l0 v1) (and_lt l0 v2), bits_or32 (or_lt (and_lt l0 v1) (and_lt l0 v2)) (and_lt l1 v2), mj_or]
        refine rotc s _ 2 _ rfl l0 (by decide) _ _ ?_
        simp (config := { implicitDefEqProofs := false }) only [↓GP, GQ, ↓awp_seq, ↓awp_block, C_ex, Nat.reduceBEq, acap, afieldAddr, aload, astore, abin, anum, astr, aun, isAggD, cond_true, cond_false, ↓reduceIte, C_P, C_G, isTuple, Value.cells, setL, ares, aresL, ares1, reduceCtorEq, Nat.reduceEqDiff, eq_self, Nat.reduceAdd, if_true, if_false, one, Nat.reduceLeDiff, undef, gsl, aextract, aindexAddr, amake, implies_true, forall_const, alen, abuiltin, anil, isC, Int.reduceEq, Int.reduceLT, Int.reduceLE, Int.reduceAdd, Int.reduceToNat, Int.reduceNeg, Nat.reduceMul, Nat.reduceSub, abuild, afill, Int.reduceBNe, Int.reduceBEq, hp2, hp5, hp9, hp10, hp11, hp16, hp17, hcv, hcT, hck, hcw, hgk, hgw, asz47, asz28, Tryd.underlying28, Tryd.underlying47, afo30_1]
        refine rotc s _ 13 _ rfl l0 (by decide) _ _ ?_
        simp (config := { implicitDefEqProofs := false }) only [↓GP, GQ, ↓awp_seq, ↓awp_block, C_ex, Nat.reduceBEq, acap, afieldAddr, aload, astore, abin, anum, astr, aun, isAggD, cond_true, cond_false, ↓reduceIte, C_P, C_G, isTuple, Value.cells, setL, ares, aresL, ares1, reduceCtorEq, Nat.reduceEqDiff, eq_self, Nat.reduceAdd, if_true, if_false, one, Nat.reduceLeDiff, undef, gsl, aextract, aindexAddr, amake, implies_true, forall_const, alen, abuiltin, anil, isC, Int.reduceEq, Int.reduceLT, Int.reduceLE, Int.reduceAdd, Int.reduceToNat, Int.reduceNeg, Nat.reduceMul, Nat.reduceSub, abuild, afill, Int.reduceBNe, Int.reduceBEq, hp2, hp5, hp9, hp10, hp11, hp16, hp17, hcv, hcT, hck, hcw, hgk, hgw, asz47, asz28, Tryd.underlying28, Tryd.underlying47, afo30_1]
        refine rotc s _ 22 _ rfl l0 (by decide) _ _ ?_
        simp (config := { implicitDefEqProofs := false }) only [↓GP, GQ, ↓awp_seq, ↓awp_block, C_ex, Nat.reduceBEq, acap, afieldAddr, aload, astore, abin, anum, astr, aun, isAggD, cond_true, cond_false, ↓reduceIte, C_P, C_G, isTuple, Value.cells, setL, ares, aresL, ares1, reduceCtorEq, Nat.reduceEqDiff, eq_self, Nat.reduceAdd, if_true, if_false, one, Nat.reduceLeDiff, undef, gsl, aextract, aindexAddr, amake, implies_true, forall_const, alen, abuiltin, anil, isC, Int.reduceEq, Int.reduceLT, Int.reduceLE, Int.reduceAdd, Int.reduceToNat, Int.reduceNeg, Nat.reduceMul, Nat.reduceSub, abuild, afill, Int.reduceBNe, Int.reduceBEq, hp2, hp5, hp9, hp10, hp11, hp16, hp17, hcv, hcT, hck, hcw, hgk, hgw, asz47, asz28, Tryd.underlying28, Tryd.underlying47, afo30_1, bits_xor32 (rotN_lt l0 2) (rotN_lt l0 13), bits_xor32 (xor_lt (rotN_lt l0 2) (rotN_lt l0 13)) (rotN_lt l0 22), w_ad]
        refine ADraw.of [(0, false, []), (1, false, []), (2, false, []), (3, false, []), (4, false, []), (5, false, []), (6, false, []), (7, false, []), (8, false, []), (9, false, []), (10, false, []), (11, false, []), (12, false, []), (13, false, []), (14, false, []), (15, false, []), (16, false, []), (17, false, []), (18, false, []), (19, false, []), (20, false, []), (21, false, []), (22, false, []), (23, false, []), (24, false, []), (25, false, []), (26, false, []), (27, false, [])] [] [] (by kernel_rfl) ?_
        simp (config := { implicitDefEqProofs := false }) only [↓GP, GQ, ↓awp_seq, ↓awp_block, C_ex, Nat.reduceBEq, acap, afieldAddr, aload, astore, abin, anum, astr, aun, isAggD, cond_true, cond_false, ↓reduceIte, C_P, C_G, isTuple, Value.cells, setL, ares, aresL, ares1, reduceCtorEq, Nat.reduceEqDiff, eq_self, Nat.reduceAdd, if_true, if_false, one, Nat.reduceLeDiff, undef, gsl, aextract, aindexAddr, amake, implies_true, forall_const, alen, abuiltin, anil, isC, Int.reduceEq, Int.reduceLT, Int.reduceLE, Int.reduceAdd, Int.reduceToNat, Int.reduceNeg, Nat.reduceMul, Nat.reduceSub, abuild, afill, Int.reduceBNe, Int.reduceBEq, hp2, hp5, hp9, hp10, hp11, hp16, hp17, hcv, hcT, hck, hcw, hgk, hgw, asz47, asz28, Tryd.underlying28, Tryd.underlying47, afo30_1, w_ad, build8]
        refine ⟨64 - (i + 1), by omega, i + 1, s.n, none, rfl, by omega, rfl, by rw [w_i64 (by omega)]; rfl, own_new_eq hO.tail ?_⟩
        rw [e]
        simp only [rnd, t1N, t2N, sgA, chN, List.getD_cons_zero, List.getD_cons_succ]
      · obtain rfl : i = 64 := by omega
        simp (config := { implicitDefEqProofs := false }) only [↓GP, GQ, ↓awp_seq, ↓awp_block, C_ex, Nat.reduceBEq, acap, afieldAddr, aload, astore, abin, anum, astr, aun, isAggD, cond_true, cond_false, ↓reduceIte, C_P, C_G, isTuple, Value.cells, setL, ares, aresL, ares1, reduceCtorEq, Nat.reduceEqDiff, eq_self, Nat.reduceAdd, if_true, if_false, one, Nat.reduceLeDiff, undef, gsl, aextract, aindexAddr, amake, implies_true, forall_const, alen, abuiltin, anil, isC, Int.reduceEq, Int.reduceLT, Int.reduceLE, Int.reduceAdd, Int.reduceToNat, Int.reduceNeg, Nat.reduceMul, Nat.reduceSub, abuild, afill, Int.reduceBNe, Int.reduceBEq, hp2, hp5, hp9, hp10, hp11, hp16, hp17, show ¬ ((64 : Nat) : Int) < 64 by decide, decide_false]
        rw [hF] at hO
        generalize rndI H ks0 ws 64 = V at *
        have hO' := hO.perm (perm_front [(bv, Ob.cells (wl V) 47 true), (Bw, Ob.cells (wl ws) 47 true)] (B9, Ob.cells (wl H) 47 true) F2)
        refine ⟨fun m ρ s => ∃ i : Nat, m = 8 - i ∧ i ≤ 8 ∧ ρ 2 = .pointer (some ⟨T, 0, none⟩) ∧ ρ 5 = .slice (some ⟨B, 0, some 0⟩) L L ∧ ρ 9 = .slice (some ⟨B9, 0, some 0⟩) 8 8 ∧ ρ 10 = .int .i64 off ∧ ρ 16 = .slice (some ⟨bv, 0, spv⟩) 8 8 ∧ ρ 20 = .int .i64 i ∧
          Own s ((B9, .cells (wl (haddI H V i)) 47 true) :: (bv, .cells (wl V) 47 true) :: (Bw, .cells (wl ws) 47 true) :: F2), ⟨8, 0, rfl, by decide, hp2, hp5, hp9, hp10, hp16, rfl, hO'⟩, ?_⟩
        clear hp2 hp5 hp9 hp10 hp11 hp16 hp17 hcv hcw hck hcT hO hO'
        rintro m ρ s ⟨i, rfl, hi, hp2, hp5, hp9, hp10, hp16, hp20, hO⟩
        have hc9 := hO.head
        have hcv := hO.get (b := bv) (o := .cells (wl V) 47 true) (by simp)
        have hal := haddI_length H V i
        by_cases him : i < 8
        · have g1 := wl_get (l := haddI H V i) (i := i) (by omega)
          have g2 := wl_get (l := V) (i := i) (by omega)
          have hwl2 := wl_length (haddI H V i)
          simp (config := { implicitDefEqProofs := false }) only [↓GP, GQ, ↓awp_seq, ↓awp_block, C_ex, Nat.reduceBEq, acap, afieldAddr, aload, astore, abin, anum, astr, aun, isAggD, cond_true, cond_false, ↓reduceIte, C_P, C_G, isTuple, Value.cells, setL, ares, aresL, ares1, reduceCtorEq, Nat.reduceEqDiff, eq_self, Nat.reduceAdd, if_true, if_false, one, Nat.reduceLeDiff, undef, gsl, aextract, aindexAddr, amake, implies_true, forall_const, alen, abuiltin, anil, isC, Int.reduceEq, Int.reduceLT, Int.reduceLE, Int.reduceAdd, Int.reduceToNat, Int.reduceNeg, Nat.reduceMul, Nat.reduceSub, abuild, afill, Int.reduceBNe, Int.reduceBEq, hp2, hp5, hp9, hp10, hp16, hp20, show (i : Int) < 8 by omega, decide_true]
          refine ADraw.of [(0, false, []), (1, false, []), (2, false, []), (3, false, []), (4, false, []), (5, false, []), (6, false, []), (7, false, []), (8, false, []), (9, false, []), (10, false, []), (11, false, []), (12, false, [])] [] [] (by kernel_rfl) ?_
          simp (config := { implicitDefEqProofs := false }) only [↓GP, GQ, ↓awp_seq, ↓awp_block, C_ex, Nat.reduceBEq, acap, afieldAddr, aload, astore, abin, anum, astr, aun, isAggD, cond_true, cond_false, ↓reduceIte, C_P, C_G, isTuple, Value.cells, setL, ares, aresL, ares1, reduceCtorEq, Nat.reduceEqDiff, eq_self, Nat.reduceAdd, if_true, if_false, one, Nat.reduceLeDiff, undef, gsl, aextract, aindexAddr, amake, implies_true, forall_const, alen, abuiltin, anil, isC, Int.reduceEq, Int.reduceLT, Int.reduceLE, Int.reduceAdd, Int.reduceToNat, Int.reduceNeg, Nat.reduceMul, Nat.reduceSub, abuild, afill, Int.reduceBNe, Int.reduceBEq, hp2, hp5, hp9, hp10, hp16, hp20, hc9, hcv, g1, g2, asz47, Tryd.underlying28, Tryd.underlying47, w_ad, wl_set]
          exact ⟨by omega, by omega, by omega, by omega, 8 - (i + 1), by omega, i + 1, rfl, by omega, by rw [w_i64 (by omega)]; rfl, own_set_eq hO (by rw [haddI])⟩
        · obtain rfl : i = 8 := by omega
          simp (config := { implicitDefEqProofs := false }) only [↓GP, GQ, ↓awp_seq, ↓awp_block, C_ex, Nat.reduceBEq, acap, afieldAddr, aload, astore, abin, anum, astr, aun, isAggD, cond_true, cond_false, ↓reduceIte, C_P, C_G, isTuple, Value.cells, setL, ares, aresL, ares1, reduceCtorEq, Nat.reduceEqDiff, eq_self, Nat.reduceAdd, if_true, if_false, one, Nat.reduceLeDiff, undef, gsl, aextract, aindexAddr, amake, implies_true, forall_const, alen, abuiltin, anil, isC, Int.reduceEq, Int.reduceLT, Int.reduceLE, Int.reduceAdd, Int.reduceToNat, Int.reduceNeg, Nat.reduceMul, Nat.reduceSub, abuild, afill, Int.reduceBNe, Int.reduceBEq, hp2, hp5, hp9, hp10, hp16, hp20, show ¬ ((8 : Nat) : Int) < 8 by decide, decide_false]
          refine ⟨L / 64 - (jj + 1), by omega, jj + 1, rfl, by omega, by rw [w_i64 (by omega)]; congr 1; omega, ?_⟩
          rw [hnext, ← hF2]
          exact hO.sub (List.Sublist.cons_cons _ ((List.sublist_cons_self _ _).trans (List.sublist_cons_self _ _)))
  have hLj : L / 64 = jj := by omega
  simp (config := { implicitDefEqProofs := false }) only [↓GP, GQ, ↓awp_seq, ↓awp_block, C_ex, Nat.reduceBEq, acap, afieldAddr, aload, astore, abin, anum, astr, aun, isAggD, cond_true, cond_false, ↓reduceIte, C_P, C_G, isTuple, Value.cells, setL, ares, aresL, ares1, reduceCtorEq, Nat.reduceEqDiff, eq_self, Nat.reduceAdd, if_true, if_false, one, Nat.reduceLeDiff, undef, gsl, aextract, aindexAddr, amake, implies_true, forall_const, alen, abuiltin, anil, isC, Int.reduceEq, Int.reduceLT, Int.reduceLE, Int.reduceAdd, Int.reduceToNat, Int.reduceNeg, Nat.reduceMul, Nat.reduceSub, abuild, afill, Int.reduceBNe, Int.reduceBEq, hp2, hp5, hp9, hp10, hjl, Int.ofNat_lt, decide_false, Tryd.underlying23]
  have hdig : digest l = outN (hsN P jj) 8 := by rw [digest, hP, hL, hLj]
  have hHl := hsN_length P jj
  have hHd := hsN_lt P jj
  generalize hsN P jj = H at *
  refine ⟨fun m ρ s => ∃ (i : Nat) (v : Value) (h : Hp), m = 8 - i ∧ i ≤ 8 ∧ ρ 9 = .slice (some ⟨B9, 0, some 0⟩) 8 8 ∧ ρ 21 = v ∧ ρ 22 = .int .i64 i ∧ GVx v (nl (outN H i)) (4 * i) 1 5 h ∧ (0 < i → GV v (nl (outN H i)) (4 * i) 1 5 h) ∧ Own s (h ++ ((B9, .cells (wl H) 47 true) :: r)), ⟨8, 0, _, [], rfl, by decide, hp9, rfl, rfl, GVx.nil, fun h => absurd h (by decide), hO.sub (List.Sublist.cons_cons _ ((List.sublist_cons_self _ _).trans (List.sublist_cons_self _ _)))⟩, ?_⟩
  clear hp2 hp5 hp9 hp10 hO
  rintro m ρ s ⟨i, v, h, rfl, hi, hp9, hp21, hp22, hG, hGG, hO⟩
  by_cases him : i < 8
  · have hg := wl_get (l := H) (i := i) (by omega)
    have hx := getD32 hHd i
    have hc9 := hO.get (b := B9) (o := .cells (wl H) 47 true) (by simp)
    generalize hxx : H.getD i 0 = x at *
    have e24 : IntKind.u32.wrap ((x : Int).tdiv 16777216) = ((x / 16777216 : Nat) : Int) := by rw [Int.tdiv_eq_ediv_of_nonneg (by omega), w_u32 (by omega)]; omega
    have e16 : IntKind.u32.wrap ((x : Int).tdiv 65536) = ((x / 65536 : Nat) : Int) := by rw [Int.tdiv_eq_ediv_of_nonneg (by omega), w_u32 (by omega)]; omega
    have e8 : IntKind.u32.wrap ((x : Int).tdiv 256) = ((x / 256 : Nat) : Int) := by rw [Int.tdiv_eq_ediv_of_nonneg (by omega), w_u32 (by omega)]; omega
    simp (config := { implicitDefEqProofs := false }) only [↓GP, GQ, ↓awp_seq, ↓awp_block, C_ex, Nat.reduceBEq, acap, afieldAddr, aload, astore, abin, anum, astr, aun, isAggD, cond_true, cond_false, ↓reduceIte, C_P, C_G, isTuple, Value.cells, setL, ares, aresL, ares1, reduceCtorEq, Nat.reduceEqDiff, eq_self, Nat.reduceAdd, if_true, if_false, one, Nat.reduceLeDiff, undef, gsl, aextract, aindexAddr, amake, implies_true, forall_const, alen, abuiltin, anil, isC, Int.reduceEq, Int.reduceLT, Int.reduceLE, Int.reduceAdd, Int.reduceToNat, Int.reduceNeg, Nat.reduceMul, Nat.reduceSub, abuild, afill, Int.reduceBNe, Int.reduceBEq, hp9, hp21, hp22, show (i : Int) < 8 by omega, decide_true]
    refine ADraw.of [(0, false, []), (1, false, []), (2, false, []), (3, false, []), (4, false, []), (5, false, []), (6, false, []), (7, false, []), (8, false, []), (9, false, []), (10, false, []), (11, false, []), (12, false, []), (13, false, []), (14, false, []), (15, false, []), (16, false, []), (17, false, []), (18, false, []), (19, false, []), (20, false, []), (21, false, []), (22, false, []), (23, false, []), (24, false, []), (25, false, []), (26, false, [])] [] [] (by kernel_rfl) ?_
    simp (config := { implicitDefEqProofs := false }) only [↓GP, GQ, ↓awp_seq, ↓awp_block, C_ex, Nat.reduceBEq, acap, afieldAddr, aload, astore, abin, anum, astr, aun, isAggD, cond_true, cond_false, ↓reduceIte, C_P, C_G, isTuple, Value.cells, setL, ares, aresL, ares1, reduceCtorEq, Nat.reduceEqDiff, eq_self, Nat.reduceAdd, if_true, if_false, one, Nat.reduceLeDiff, undef, gsl, aextract, aindexAddr, amake, implies_true, forall_const, alen, abuiltin, anil, isC, Int.reduceEq, Int.reduceLT, Int.reduceLE, Int.reduceAdd, Int.reduceToNat, Int.reduceNeg, Nat.reduceMul, Nat.reduceSub, abuild, afill, Int.reduceBNe, Int.reduceBEq, hp9, hp21, hp22, Tryd.underlying28, asz47, Tryd.underlying47, Tryd.underlying5, hc9, hg, aconv, e24, e16, e8, w_u8n, build4]
    refine ⟨by omega, by omega, by omega, by omega, ?_⟩
    refine GVx.appendK (m := 4) Tryd.underlying23 (by rw [Tryd.underlying23]; rfl) asz5 azc5 (c := nl [x / 16777216 % 256, x / 65536 % 256, x / 256 % 256, x % 256]) aby5 hG hO rfl (by decide) (nl_one _) (by omega) fun v' h' s' hG' hs' => ?_
    simp (config := { implicitDefEqProofs := false }) only [↓GP, GQ, ↓awp_seq, ↓awp_block, C_ex, Nat.reduceBEq, acap, afieldAddr, aload, astore, abin, anum, astr, aun, isAggD, cond_true, cond_false, ↓reduceIte, C_P, C_G, isTuple, Value.cells, setL, ares, aresL, ares1, reduceCtorEq, Nat.reduceEqDiff, eq_self, Nat.reduceAdd, if_true, if_false, one, Nat.reduceLeDiff, undef, gsl, aextract, aindexAddr, amake, implies_true, forall_const, alen, abuiltin, anil, isC, Int.reduceEq, Int.reduceLT, Int.reduceLE, Int.reduceAdd, Int.reduceToNat, Int.reduceNeg, Nat.reduceMul, Nat.reduceSub, abuild, afill, Int.reduceBNe, Int.reduceBEq, hp9, hp22]
    refine ⟨8 - (i + 1), by omega, i + 1, v', h', rfl, by omega, rfl, by rw [w_i64 (by omega)]; rfl, ?_, fun _ => ?_, hs'⟩
    · rw [outN, nl_append, hxx]
      exact hG'.x
    · rw [outN, nl_append, hxx]
      exact hG'
  obtain rfl : i = 8 := by omega
  simp (config := { implicitDefEqProofs := false }) only [↓GP, GQ, ↓awp_seq, ↓awp_block, C_ex, Nat.reduceBEq, acap, afieldAddr, aload, astore, abin, anum, astr, aun, isAggD, cond_true, cond_false, ↓reduceIte, C_P, C_G, isTuple, Value.cells, setL, ares, aresL, ares1, reduceCtorEq, Nat.reduceEqDiff, eq_self, Nat.reduceAdd, if_true, if_false, one, Nat.reduceLeDiff, undef, gsl, aextract, aindexAddr, amake, implies_true, forall_const, alen, abuiltin, anil, isC, Int.reduceEq, Int.reduceLT, Int.reduceLE, Int.reduceAdd, Int.reduceToNat, Int.reduceNeg, Nat.reduceMul, Nat.reduceSub, abuild, afill, Int.reduceBNe, Int.reduceBEq, hp9, hp21, hp22, show ¬ ((8 : Nat) : Int) < 8 by decide, decide_false]
  refine hk _ _ _ ?_ (hO.sub (List.Sublist.append_left (List.sublist_cons_self _ _) h))
  rw [hdig]
  exact hGG (by decide)
end Go.Proofs.YtjkmcnhofpnoeaaDoor
