/- The program's stretched passwords. No conditions. -/
import Derived.Test.YtjkmcnhofpnoeaaDoorE25
set_option linter.unusedVariables false
set_option linter.unusedSimpArgs false
namespace Go.Proofs.YtjkmcnhofpnoeaaDoor
open Go Go.Abs Go.RowKit
variable {base : Nat} {w0 : World} {G : Nat}

def xorI (x u : List Nat) : Nat → List Nat
  | 0 => x
  | j + 1 => (xorI x u j).set j ((xorI x u j).getD j 0 ^^^ u.getD j 0)
def uN (pw l : List Nat) : Nat → List Nat
  | 0 => mac pw l
  | n + 1 => mac pw (uN pw l n)
def xN (pw l : List Nat) : Nat → List Nat
  | 0 => mac pw l
  | n + 1 => xorI (xN pw l n) (uN pw l (n + 1)) 32
def sbN (pw sa : List Nat) (rounds i : Nat) : List Nat := xN pw (sa ++ [0, 0, 0, i]) (rounds - 1)
def outS (pw sa : List Nat) (rounds : Nat) : Nat → List Nat
  | 0 => []
  | c + 1 => outS pw sa rounds c ++ sbN pw sa rounds (c + 1)
theorem mac_length (k l : List Nat) : (mac k l).length = 32 := digest_length _
theorem mac_lt (k l : List Nat) : ∀ d ∈ mac k l, d < 256 := digest_lt _
theorem xorI_length (x u : List Nat) : ∀ j, (xorI x u j).length = x.length
  | 0 => rfl
  | j + 1 => by simp [xorI, xorI_length x u j]
theorem xorI_lt {x u : List Nat} (hx : ∀ d ∈ x, d < 256) (hu : ∀ d ∈ u, d < 256) : ∀ j, ∀ d ∈ xorI x u j, d < 256
  | 0 => hx
  | j + 1 => fun d hd => by
    rcases List.mem_or_eq_of_mem_set hd with hd | rfl
    · exact xorI_lt hx hu j d hd
    · exact xor8_lt (getD8 (xorI_lt hx hu j) j) (getD8 hu j)
theorem uN_length (pw l : List Nat) (n : Nat) : (uN pw l n).length = 32 := by cases n <;> exact mac_length _ _
theorem uN_lt (pw l : List Nat) (n : Nat) : ∀ d ∈ uN pw l n, d < 256 := by cases n <;> exact mac_lt _ _
theorem xN_length (pw l : List Nat) : ∀ n, (xN pw l n).length = 32
  | 0 => mac_length _ _
  | n + 1 => by rw [xN, xorI_length, xN_length pw l n]
theorem xN_lt (pw l : List Nat) : ∀ n, ∀ d ∈ xN pw l n, d < 256
  | 0 => mac_lt _ _
  | n + 1 => xorI_lt (xN_lt pw l n) (uN_lt pw l (n + 1)) 32
theorem outS_length (pw sa : List Nat) (rounds : Nat) : ∀ c, (outS pw sa rounds c).length = 32 * c
  | 0 => rfl
  | c + 1 => by rw [outS, List.length_append, outS_length pw sa rounds c, sbN, xN_length]; omega
theorem outS_lt (pw sa : List Nat) (rounds : Nat) : ∀ c, ∀ d ∈ outS pw sa rounds c, d < 256
  | 0, d, hd => by simp [outS] at hd
  | c + 1, d, hd => by
    rcases List.mem_append.1 hd with hd | hd
    · exact outS_lt pw sa rounds c d hd
    · exact xN_lt _ _ _ d hd
set_option maxRecDepth 10000 in
theorem CloneB_spec (st : St) (r : Hp) (b : Nat) (l : List Nat) (n : Nat) (hm : (b, .cells (nl l) 5 true) ∈ r) (hl : l.length = n) (hn : n ≠ 0) (hb : n ≤ 100000) (hO : Own st r) (k q : Value → St → Prop)
    (hk : ∀ b' st', Own st' ((b', .cells (nl l) 5 true) :: r) → k (.slice (some ⟨b', 0, some 0⟩) n n) st') :
    ACall (C base w0 G) 27 [.slice (some ⟨b, 0, some 0⟩) n n] st k q := by
  refine ACall.of (cx := C base w0 G) mixed Tryd.func27 rfl (by kernel_rfl) (by simp [Tryd.ntmps27]) ?_
  simp only [Tryd.results27]
  have hO1 := hO.new (.cells [] 5 true)
  have hsrc : asrc (st.new (.cells [] 5 true)) 1 (.slice (some ⟨b, 0, some 0⟩) n n) = some (n, nl l) := asrc_whole (hO1.get (List.mem_cons_of_mem _ hm)) (by rw [nl_length, hl, Nat.mul_one])
  simp (config := { implicitDefEqProofs := false }) only [↓GP, GQ, ↓awp_seq, ↓awp_block, C_ex, Nat.reduceBEq, acap, afieldAddr, aload, astore, abin, anum, astr, aun, isAggD, cond_true, cond_false, ↓reduceIte, C_P, C_G, isTuple, Value.cells, setL, ares, aresL, ares1, reduceCtorEq, Nat.reduceEqDiff, eq_self, Nat.reduceAdd, if_true, if_false, one, Nat.reduceLeDiff, undef, gsl, aextract, aindexAddr, amake, implies_true, forall_const, alen, abuiltin, anil, isC, Int.reduceEq, Int.reduceLT, Int.reduceLE, Int.reduceAdd, Int.reduceToNat, Int.reduceNeg, Nat.reduceMul, Nat.reduceSub, abuild, afill, Int.reduceBNe, Int.reduceBEq, Tryd.underlying23, buildSlice0 Tryd.underlying23 asz5 azc5]
  refine GVx.appendN Tryd.underlying23 (by rw [Tryd.underlying23]; rfl) asz5 azc5 aby5 (GVx.empty (b := st.n)) hO1 hsrc hn (by rw [nl_length, hl, Nat.mul_one]) (nl_one _) (by omega) fun v' hg' s' hG hO2 => ?_
  rw [List.nil_append, Nat.zero_add] at hG
  obtain ⟨b', rfl, rfl, _⟩ := hG.out hn
  simp (config := { implicitDefEqProofs := false }) only [↓GP, GQ, ↓awp_seq, ↓awp_block, C_ex, Nat.reduceBEq, acap, afieldAddr, aload, astore, abin, anum, astr, aun, isAggD, cond_true, cond_false, ↓reduceIte, C_P, C_G, isTuple, Value.cells, setL, ares, aresL, ares1, reduceCtorEq, Nat.reduceEqDiff, eq_self, Nat.reduceAdd, if_true, if_false, one, Nat.reduceLeDiff, undef, gsl, aextract, aindexAddr, amake, implies_true, forall_const, alen, abuiltin, anil, isC, Int.reduceEq, Int.reduceLT, Int.reduceLE, Int.reduceAdd, Int.reduceToNat, Int.reduceNeg, Nat.reduceMul, Nat.reduceSub, abuild, afill, Int.reduceBNe, Int.reduceBEq]
  exact hk _ _ hO2
theorem build4' {st : St} {d : Nat} : abuildSlice Tryd.prog st 23 4 [(0, .int .u8 0), (1, .int .u8 0), (2, .int .u8 0), (3, .int .u8 d)] = some (.slice (some ⟨st.n, 0, none⟩) 4 4, st.new (.cells (nl [0, 0, 0, d]) 5 true)) := build4 (a := 0) (b := 0) (c := 0) (d := d)
theorem build2v {st : St} {u v : Value} (hu : ∃ a n c, u = .slice a n c) (hv : ∃ a n c, v = .slice a n c) : abuildSlice Tryd.prog st 22 2 [(0, u), (1, v)] = some (.slice (some ⟨st.n, 0, none⟩) 2 2, st.new (.cells [u, v] 23 true)) := by
  obtain ⟨a, n, c, rfl⟩ := hu
  obtain ⟨b, m, d, rfl⟩ := hv
  exact build2
theorem build1v {st : St} {u : Value} (hu : ∃ a n c, u = .slice a n c) : abuildSlice Tryd.prog st 22 1 [(0, u)] = some (.slice (some ⟨st.n, 0, none⟩) 1 1, st.new (.cells [u] 23 true)) := by
  obtain ⟨a, n, c, rfl⟩ := hu
  exact abuildSlice_one Tryd.underlying22 asz23 azc23 rfl rfl rfl (by decide)
theorem Nb.sl {h : Hp} {v : Value} {l : List Nat} (hb : Nb h v l) : ∃ a n c, v = .slice a n c := by
  obtain ⟨a, c, e⟩ := hb.isSlice
  exact ⟨_, _, _, e⟩
theorem ps1 {h : Hp} {b : Nat} {v : Value} {l : List Nat} (hm : (b, Ob.cells [v] 23 true) ∈ h) (hv : Nb h v l) : Ps h (.slice (some ⟨b, 0, none⟩) 1 1) [(v, l)] := Ps.of (ps := [(v, l)]) hm rfl fun p hp => by
  rw [List.mem_singleton.1 hp]; exact hv
theorem ps2 {h : Hp} {b : Nat} {u v : Value} {k l : List Nat} (hm : (b, Ob.cells [u, v] 23 true) ∈ h) (hu : Nb h u k) (hv : Nb h v l) : Ps h (.slice (some ⟨b, 0, none⟩) 2 2) [(u, k), (v, l)] := Ps.of (ps := [(u, k), (v, l)]) hm rfl fun p hp => by
  simp only [List.mem_cons, List.not_mem_nil, or_false] at hp
  rcases hp with rfl | rfl
  · exact hu
  · exact hv
set_option maxHeartbeats 1000000 in
set_option maxRecDepth 10000 in
theorem Stretch_spec (st : St) (r : Hp) (pv sv : Value) (pw sa : List Nat) (rounds size : Nat) (ok : Bool) {kt : TypeId} (hp : Nb r pv pw) (hs : Nb r sv sa) (hpl : pw.length ≤ 10000) (hsl : sa.length ≤ 10000) (hr1 : 1 ≤ rounds) (hr2 : rounds ≤ 100000) (hz1 : 1 ≤ size) (hz2 : size ≤ 64)
    (hK : (0, .cells (wl ks0) kt ok) ∈ r) (hO : Own st r) (k q : Value → St → Prop)
    (hk : ∀ B c st', c ≤ 2 → size ≤ 32 * c → Own st' ((B, .cells (nl (outS pw sa rounds c)) 5 true) :: r) → k (.tuple #[.slice (some ⟨B, 0, none⟩) size size, .int .i64 0]) st') :
    ACall (C base w0 1) 15 [pv, sv, .int .i64 rounds, .int .i64 size] st k q := by
  refine ACall.of (cx := C base w0 1) mixed Tryd.func15 rfl (by kernel_rfl) (by simp [Tryd.ntmps15]) ?_
  simp only [Tryd.results15]
  simp (config := { implicitDefEqProofs := false }) only [↓GP, GQ, ↓awp_seq, ↓awp_block, C_ex, Nat.reduceBEq, acap, afieldAddr, aload, astore, abin, anum, astr, aun, isAggD, cond_true, cond_false, ↓reduceIte, C_P, C_G, isTuple, Value.cells, setL, ares, aresL, ares1, reduceCtorEq, Nat.reduceEqDiff, eq_self, Nat.reduceAdd, if_true, if_false, one, Nat.reduceLeDiff, undef, gsl, aextract, aindexAddr, amake, implies_true, forall_const, alen, abuiltin, anil, isC, Int.reduceEq, Int.reduceLT, Int.reduceLE, Int.reduceAdd, Int.reduceToNat, Int.reduceNeg, Nat.reduceMul, Nat.reduceSub, abuild, afill, Int.reduceBNe, Int.reduceBEq, show ¬ (rounds : Int) < 1 by omega, show ¬ (rounds : Int) > 100000 by omega, show ¬ (size : Int) < 1 by omega, show ¬ (size : Int) > 64 by omega, decide_false]
  refine ⟨fun m ρ s => ∃ (c : Nat) (vo : Value) (ho : Hp), m = 3 - c ∧ c ≤ 2 ∧ ρ 0 = pv ∧ ρ 1 = sv ∧ ρ 2 = .int .i64 rounds ∧ ρ 3 = .int .i64 size ∧ ρ 10 = vo ∧ ρ 11 = .int .u8 (c + 1 : Nat) ∧ GV vo (nl (outS pw sa rounds c)) (32 * c) 1 5 ho ∧ Own s (ho ++ r),
    ⟨3, 0, _, [], rfl, by decide, rfl, rfl, rfl, rfl, rfl, rfl, GV.nil, hO⟩, ?_⟩
  rintro m ρ s ⟨c, vo, ho, rfl, hc2, h0, h1, h2, h3, h10, h11, hG, hO⟩
  obtain ⟨ao, hvo⟩ := hG.isSlice
  by_cases hlt : 32 * c < size
  · have hc1 : c ≤ 1 := by omega
    simp (config := { implicitDefEqProofs := false }) only [↓GP, GQ, ↓awp_seq, ↓awp_block, C_ex, Nat.reduceBEq, acap, afieldAddr, aload, astore, abin, anum, astr, aun, isAggD, cond_true, cond_false, ↓reduceIte, C_P, C_G, isTuple, Value.cells, setL, ares, aresL, ares1, reduceCtorEq, Nat.reduceEqDiff, eq_self, Nat.reduceAdd, if_true, if_false, one, Nat.reduceLeDiff, undef, gsl, aextract, aindexAddr, amake, implies_true, forall_const, alen, abuiltin, anil, isC, Int.reduceEq, Int.reduceLT, Int.reduceLE, Int.reduceAdd, Int.reduceToNat, Int.reduceNeg, Nat.reduceMul, Nat.reduceSub, abuild, afill, Int.reduceBNe, Int.reduceBEq, h0, h1, h2, h3, h10, h11, hvo, Tryd.underlying23, hlt, Int.ofNat_lt, decide_true, build4']
    have hO1 := hO.new (.cells (nl [0, 0, 0, c + 1]) 5 true)
    have hw : IntKind.i64.wrap ((rounds : Int) - 1) = ((rounds - 1 : Nat) : Int) := by rw [w_i64 (by omega)]; omega
    simp (config := { implicitDefEqProofs := false }) only [↓GP, GQ, ↓awp_seq, ↓awp_block, C_ex, Nat.reduceBEq, acap, afieldAddr, aload, astore, abin, anum, astr, aun, isAggD, cond_true, cond_false, ↓reduceIte, C_P, C_G, isTuple, Value.cells, setL, ares, aresL, ares1, reduceCtorEq, Nat.reduceEqDiff, eq_self, Nat.reduceAdd, if_true, if_false, one, Nat.reduceLeDiff, undef, gsl, aextract, aindexAddr, amake, implies_true, forall_const, alen, abuiltin, anil, isC, Int.reduceEq, Int.reduceLT, Int.reduceLE, Int.reduceAdd, Int.reduceToNat, Int.reduceNeg, Nat.reduceMul, Nat.reduceSub, abuild, afill, Int.reduceBNe, Int.reduceBEq, build2v hs.sl ⟨_, _, _, rfl⟩]
    have hO2 := hO1.new (.cells [sv, .slice (some ⟨s.n, 0, none⟩) 4 4] 23 true)
    have hin : ∀ e ∈ r, e ∈ (s.n + 1, Ob.cells [sv, .slice (some ⟨s.n, 0, none⟩) 4 4] 23 true) :: (s.n, Ob.cells (nl [0, 0, 0, c + 1]) 5 true) :: (ho ++ r) := fun e he => List.mem_cons_of_mem _ (List.mem_cons_of_mem _ (List.mem_append_right _ he))
    have hnb4 : Nb ((s.n + 1, Ob.cells [sv, .slice (some ⟨s.n, 0, none⟩) 4 4] 23 true) :: (s.n, Ob.cells (nl [0, 0, 0, c + 1]) 5 true) :: (ho ++ r)) (.slice (some ⟨s.n, 0, none⟩) 4 4) [0, 0, 0, c + 1] := nb_exact (l := [0, 0, 0, c + 1]) (by simp) (fun d hd => by
      simp only [List.mem_cons, List.not_mem_nil, or_false] at hd
      omega)
    have hps := ps2 (h := (s.n + 1, Ob.cells [sv, .slice (some ⟨s.n, 0, none⟩) 4 4] 23 true) :: (s.n, Ob.cells (nl [0, 0, 0, c + 1]) 5 true) :: (ho ++ r)) (List.mem_cons_self ..) (hs.sub hin) hnb4
    have hfl : flat [(sv, sa), ((.slice (some ⟨s.n, 0, none⟩) 4 4 : Value), [0, 0, 0, c + 1])] = sa ++ [0, 0, 0, c + 1] := by simp [flat]
    refine ACallF.enter Tryd.func13 rfl (by kernel_rfl) (Mac_spec _ _ pv _ pw _ ok (kt := kt) (hp.sub hin) hps (by omega) (by rw [hfl]; simp; omega) (show (2 : Nat) ≤ 50000 by decide) (hin _ hK) hO2 _ _ fun vu hu s1 hGu hO3 => ?_)
    rw [hfl] at hGu
    obtain ⟨bu, rfl, rfl, hbu⟩ := hGu.out (by decide)
    have hO4 : Own s1 ((bu, .cells (nl (mac pw (sa ++ [0, 0, 0, c + 1]))) 5 true) :: (ho ++ r)) := hO3.sub (List.Sublist.cons_cons _ ((List.sublist_cons_self _ _).trans (List.sublist_cons_self _ _)))
    simp (config := { implicitDefEqProofs := false }) only [↓GP, GQ, ↓awp_seq, ↓awp_block, C_ex, Nat.reduceBEq, acap, afieldAddr, aload, astore, abin, anum, astr, aun, isAggD, cond_true, cond_false, ↓reduceIte, C_P, C_G, isTuple, Value.cells, setL, ares, aresL, ares1, reduceCtorEq, Nat.reduceEqDiff, eq_self, Nat.reduceAdd, if_true, if_false, one, Nat.reduceLeDiff, undef, gsl, aextract, aindexAddr, amake, implies_true, forall_const, alen, abuiltin, anil, isC, Int.reduceEq, Int.reduceLT, Int.reduceLE, Int.reduceAdd, Int.reduceToNat, Int.reduceNeg, Nat.reduceMul, Nat.reduceSub, abuild, afill, Int.reduceBNe, Int.reduceBEq]
    refine ACallF.enter Tryd.func27 rfl (by kernel_rfl) (CloneB_spec s1 _ bu _ 32 (List.mem_cons_self ..) (mac_length _ _) (by decide) (by decide) hO4 _ _ fun bx s2 hO5 => ?_)
    have hsb : outS pw sa rounds (c + 1) = outS pw sa rounds c ++ xN pw (sa ++ [0, 0, 0, c + 1]) (rounds - 1) := rfl
    simp (config := { implicitDefEqProofs := false }) only [↓GP, GQ, ↓awp_seq, ↓awp_block, C_ex, Nat.reduceBEq, acap, afieldAddr, aload, astore, abin, anum, astr, aun, isAggD, cond_true, cond_false, ↓reduceIte, C_P, C_G, isTuple, Value.cells, setL, ares, aresL, ares1, reduceCtorEq, Nat.reduceEqDiff, eq_self, Nat.reduceAdd, if_true, if_false, one, Nat.reduceLeDiff, undef, gsl, aextract, aindexAddr, amake, implies_true, forall_const, alen, abuiltin, anil, isC, Int.reduceEq, Int.reduceLT, Int.reduceLE, Int.reduceAdd, Int.reduceToNat, Int.reduceNeg, Nat.reduceMul, Nat.reduceSub, abuild, afill, Int.reduceBNe, Int.reduceBEq, h0, h1, h2, h3, h10, h11, hw]
    have hll : (sa ++ [0, 0, 0, c + 1]).length ≤ 10004 := by rw [List.length_append]; show sa.length + 4 ≤ 10004; omega
    refine ⟨fun m ρ s => ∃ (n bu : Nat), m = rounds - 1 - n ∧ n ≤ rounds - 1 ∧ ρ 0 = pv ∧ ρ 1 = sv ∧ ρ 2 = .int .i64 rounds ∧ ρ 3 = .int .i64 size ∧ ρ 10 = vo ∧ ρ 11 = .int .u8 (c + 1 : Nat) ∧ ρ 12 = .slice (some ⟨bu, 0, some 0⟩) 32 32 ∧ ρ 13 = .slice (some ⟨bx, 0, some 0⟩) 32 32 ∧ ρ 44 = .int .i64 (rounds - 1 : Nat) ∧ ρ 45 = .int .i64 n ∧
      Own s ((bx, .cells (nl (xN pw (sa ++ [0, 0, 0, c + 1]) n)) 5 true) :: (bu, .cells (nl (uN pw (sa ++ [0, 0, 0, c + 1]) n)) 5 true) :: (ho ++ r)), ⟨rounds - 1, 0, bu, rfl, Nat.zero_le _, h0, h1, h2, h3, by rw [hvo]; exact h10.trans hvo, h11, rfl, rfl, rfl, rfl, hO5⟩, ?_⟩
    generalize sa ++ [0, 0, 0, c + 1] = ll at *
    clear h0 h1 h2 h3 h10 h11 hO hO1 hO2 hO3 hO4 hO5 hin hnb4 hps hGu hfl hbu
    rintro m ρ s ⟨n, bu, rfl, hn, h0, h1, h2, h3, h10, h11, h12, h13, h44, h45, hO⟩
    by_cases hnr : n < rounds - 1
    · simp (config := { implicitDefEqProofs := false }) only [↓GP, GQ, ↓awp_seq, ↓awp_block, C_ex, Nat.reduceBEq, acap, afieldAddr, aload, astore, abin, anum, astr, aun, isAggD, cond_true, cond_false, ↓reduceIte, C_P, C_G, isTuple, Value.cells, setL, ares, aresL, ares1, reduceCtorEq, Nat.reduceEqDiff, eq_self, Nat.reduceAdd, if_true, if_false, one, Nat.reduceLeDiff, undef, gsl, aextract, aindexAddr, amake, implies_true, forall_const, alen, abuiltin, anil, isC, Int.reduceEq, Int.reduceLT, Int.reduceLE, Int.reduceAdd, Int.reduceToNat, Int.reduceNeg, Nat.reduceMul, Nat.reduceSub, abuild, afill, Int.reduceBNe, Int.reduceBEq, h0, h1, h2, h3, h10, h11, h12, h13, h44, h45, hnr, Int.ofNat_lt, decide_true, build1v (u := .slice (some ⟨bu, 0, some 0⟩) 32 32) ⟨_, _, _, rfl⟩]
      have hO1 := hO.new (.cells [.slice (some ⟨bu, 0, some 0⟩) 32 32] 23 true)
      have hin : ∀ e ∈ r, e ∈ (s.n, Ob.cells [.slice (some ⟨bu, 0, some 0⟩) 32 32] 23 true) :: (bx, .cells (nl (xN pw ll n)) 5 true) :: (bu, .cells (nl (uN pw ll n)) 5 true) :: (ho ++ r) := fun e he => List.mem_cons_of_mem _ (List.mem_cons_of_mem _ (List.mem_cons_of_mem _ (List.mem_append_right _ he)))
      have hnbu : Nb ((s.n, Ob.cells [.slice (some ⟨bu, 0, some 0⟩) 32 32] 23 true) :: (bx, .cells (nl (xN pw ll n)) 5 true) :: (bu, .cells (nl (uN pw ll n)) 5 true) :: (ho ++ r)) (.slice (some ⟨bu, 0, some 0⟩) 32 32) (uN pw ll n) := by
        have := nb_exact (b := bu) (l := uN pw ll n) (sp := some 0) (c := 32) (h := (s.n, Ob.cells [.slice (some ⟨bu, 0, some 0⟩) 32 32] 23 true) :: (bx, .cells (nl (xN pw ll n)) 5 true) :: (bu, .cells (nl (uN pw ll n)) 5 true) :: (ho ++ r)) (by simp) (uN_lt _ _ _)
        rw [uN_length] at this
        exact this
      have hps := ps1 (h := (s.n, Ob.cells [.slice (some ⟨bu, 0, some 0⟩) 32 32] 23 true) :: (bx, .cells (nl (xN pw ll n)) 5 true) :: (bu, .cells (nl (uN pw ll n)) 5 true) :: (ho ++ r)) (List.mem_cons_self ..) hnbu
      have hfl : flat [((.slice (some ⟨bu, 0, some 0⟩) 32 32 : Value), uN pw ll n)] = uN pw ll n := by simp [flat]
      refine ACallF.enter Tryd.func13 rfl (by kernel_rfl) (Mac_spec _ _ pv _ pw _ ok (kt := kt) (hp.sub hin) hps (by omega) (by rw [hfl, uN_length]; decide) (show (1 : Nat) ≤ 50000 by decide) (hin _ hK) hO1 _ _ fun vu hu s1 hGu hO3 => ?_)
      rw [hfl] at hGu
      obtain ⟨bv, rfl, rfl, hbv⟩ := hGu.out (by decide)
      have hO4 : Own s1 ((bv, .cells (nl (uN pw ll (n + 1))) 5 true) :: (bx, .cells (nl (xN pw ll n)) 5 true) :: (ho ++ r)) := hO3.sub (List.Sublist.cons_cons _ ((List.Sublist.cons_cons _ (List.sublist_cons_self _ _)).trans (List.sublist_cons_self _ _)))
      simp (config := { implicitDefEqProofs := false }) only [↓GP, GQ, ↓awp_seq, ↓awp_block, C_ex, Nat.reduceBEq, acap, afieldAddr, aload, astore, abin, anum, astr, aun, isAggD, cond_true, cond_false, ↓reduceIte, C_P, C_G, isTuple, Value.cells, setL, ares, aresL, ares1, reduceCtorEq, Nat.reduceEqDiff, eq_self, Nat.reduceAdd, if_true, if_false, one, Nat.reduceLeDiff, undef, gsl, aextract, aindexAddr, amake, implies_true, forall_const, alen, abuiltin, anil, isC, Int.reduceEq, Int.reduceLT, Int.reduceLE, Int.reduceAdd, Int.reduceToNat, Int.reduceNeg, Nat.reduceMul, Nat.reduceSub, abuild, afill, Int.reduceBNe, Int.reduceBEq, Tryd.underlying23, h0, h1, h2, h3, h10, h11, h13, h44, h45]
      refine ⟨fun m ρ s => ∃ (j : Nat), m = 32 - j ∧ j ≤ 32 ∧ ρ 0 = pv ∧ ρ 1 = sv ∧ ρ 2 = .int .i64 rounds ∧ ρ 3 = .int .i64 size ∧ ρ 10 = vo ∧ ρ 11 = .int .u8 (c + 1 : Nat) ∧ ρ 12 = .slice (some ⟨bv, 0, some 0⟩) 32 32 ∧ ρ 13 = .slice (some ⟨bx, 0, some 0⟩) 32 32 ∧ ρ 44 = .int .i64 (rounds - 1 : Nat) ∧ ρ 45 = .int .i64 n ∧ ρ 52 = .int .i64 (32 : Nat) ∧ ρ 53 = .int .i64 j ∧
        Own s ((bx, .cells (nl (xorI (xN pw ll n) (uN pw ll (n + 1)) j)) 5 true) :: (bv, .cells (nl (uN pw ll (n + 1))) 5 true) :: (ho ++ r)), ⟨32, 0, rfl, Nat.zero_le _, h0, h1, h2, h3, h10, h11, rfl, h13, h44, h45, rfl, rfl, hO4.perm (List.Perm.swap _ _ _)⟩, ?_⟩
      have hul := uN_length pw ll (n + 1)
      have hud := uN_lt pw ll (n + 1)
      have hxl := xorI_length (xN pw ll n) (uN pw ll (n + 1))
      have hxd := xorI_lt (xN_lt pw ll n) hud
      have hxn := xN_length pw ll n
      have hxs : xN pw ll (n + 1) = xorI (xN pw ll n) (uN pw ll (n + 1)) 32 := rfl
      have hus : ∀ j, xorI (xN pw ll n) (uN pw ll (n + 1)) (j + 1) = (xorI (xN pw ll n) (uN pw ll (n + 1)) j).set j ((xorI (xN pw ll n) (uN pw ll (n + 1)) j).getD j 0 ^^^ (uN pw ll (n + 1)).getD j 0) := fun j => rfl
      clear h0 h1 h2 h3 h10 h11 h12 h13 h44 h45 hO hO1 hO3 hO4 hin hnbu hps hfl hGu hbv
      rintro m ρ s ⟨j, rfl, hj, h0, h1, h2, h3, h10, h11, h12, h13, h44, h45, h52, h53, hO⟩
      by_cases hj2 : j < 32
      · have g1 := nl_get (l := xorI (xN pw ll n) (uN pw ll (n + 1)) j) (i := j) (by rw [hxl, hxn]; exact hj2)
        have g2 := nl_get (l := uN pw ll (n + 1)) (i := j) (by rw [hul]; exact hj2)
        have hb1 := getD8 (hxd j) j
        have hb2 := getD8 hud j
        have c1 := hO.head
        have c2 := hO.tail.head
        have hset := hus j
        have hl2 := hxl j
        have hn2 := nl_length (xorI (xN pw ll n) (uN pw ll (n + 1)) j)
        have hn3 := nl_length (uN pw ll (n + 1))
        rw [hxn] at hl2
        rw [hl2] at hn2
        rw [hul] at hn3
        simp (config := { implicitDefEqProofs := false }) only [↓GP, GQ, ↓awp_seq, ↓awp_block, C_ex, Nat.reduceBEq, acap, afieldAddr, aload, astore, abin, anum, astr, aun, isAggD, cond_true, cond_false, ↓reduceIte, C_P, C_G, isTuple, Value.cells, setL, ares, aresL, ares1, reduceCtorEq, Nat.reduceEqDiff, eq_self, Nat.reduceAdd, if_true, if_false, one, Nat.reduceLeDiff, undef, gsl, aextract, aindexAddr, amake, implies_true, forall_const, alen, abuiltin, anil, isC, Int.reduceEq, Int.reduceLT, Int.reduceLE, Int.reduceAdd, Int.reduceToNat, Int.reduceNeg, Nat.reduceMul, Nat.reduceSub, abuild, afill, Int.reduceBNe, Int.reduceBEq, h0, h1, h2, h3, h10, h11, h12, h13, h44, h45, h52, h53, show (j : Int) < 32 by omega, decide_true]
        refine ADraw.of [(0, false, []), (1, false, []), (2, false, []), (3, false, []), (4, false, []), (5, false, []), (6, false, []), (7, false, []), (8, false, []), (9, false, []), (10, false, [])] [] [] (by kernel_rfl) ?_
        simp (config := { implicitDefEqProofs := false }) only [↓GP, GQ, ↓awp_seq, ↓awp_block, C_ex, Nat.reduceBEq, acap, afieldAddr, aload, astore, abin, anum, astr, aun, isAggD, cond_true, cond_false, ↓reduceIte, C_P, C_G, isTuple, Value.cells, setL, ares, aresL, ares1, reduceCtorEq, Nat.reduceEqDiff, eq_self, Nat.reduceAdd, if_true, if_false, one, Nat.reduceLeDiff, undef, gsl, aextract, aindexAddr, amake, implies_true, forall_const, alen, abuiltin, anil, isC, Int.reduceEq, Int.reduceLT, Int.reduceLE, Int.reduceAdd, Int.reduceToNat, Int.reduceNeg, Nat.reduceMul, Nat.reduceSub, abuild, afill, Int.reduceBNe, Int.reduceBEq, h0, h1, h2, h3, h10, h11, h12, h13, h44, h45, h52, h53, Tryd.underlying23, Tryd.underlying5, asz5, c1, c2, g1, g2, bits_xor8 hb1 hb2, nl_set, ← hset]
        exact ⟨by omega, by omega, by omega, by rw [hn2]; exact hj2, 32 - (j + 1), by omega, j + 1, rfl, by omega, by rw [w_i64 (by omega)]; rfl, hO.set rfl (.cells (nl (xorI (xN pw ll n) (uN pw ll (n + 1)) (j + 1))) 5 true) rfl⟩
      · obtain rfl : j = 32 := by omega
        simp (config := { implicitDefEqProofs := false }) only [↓GP, GQ, ↓awp_seq, ↓awp_block, C_ex, Nat.reduceBEq, acap, afieldAddr, aload, astore, abin, anum, astr, aun, isAggD, cond_true, cond_false, ↓reduceIte, C_P, C_G, isTuple, Value.cells, setL, ares, aresL, ares1, reduceCtorEq, Nat.reduceEqDiff, eq_self, Nat.reduceAdd, if_true, if_false, one, Nat.reduceLeDiff, undef, gsl, aextract, aindexAddr, amake, implies_true, forall_const, alen, abuiltin, anil, isC, Int.reduceEq, Int.reduceLT, Int.reduceLE, Int.reduceAdd, Int.reduceToNat, Int.reduceNeg, Nat.reduceMul, Nat.reduceSub, abuild, afill, Int.reduceBNe, Int.reduceBEq, h0, h1, h2, h3, h10, h11, h12, h13, h44, h45, h52, h53, Nat.lt_irrefl, Int.ofNat_lt, decide_false]
        rw [← hxs] at hO
        exact ⟨rounds - 1 - (n + 1), by omega, n + 1, bv, rfl, by omega, rfl, by rw [w_i64 (by omega)]; rfl, hO⟩
    · obtain rfl : n = rounds - 1 := by omega
      simp (config := { implicitDefEqProofs := false }) only [↓GP, GQ, ↓awp_seq, ↓awp_block, C_ex, Nat.reduceBEq, acap, afieldAddr, aload, astore, abin, anum, astr, aun, isAggD, cond_true, cond_false, ↓reduceIte, C_P, C_G, isTuple, Value.cells, setL, ares, aresL, ares1, reduceCtorEq, Nat.reduceEqDiff, eq_self, Nat.reduceAdd, if_true, if_false, one, Nat.reduceLeDiff, undef, gsl, aextract, aindexAddr, amake, implies_true, forall_const, alen, abuiltin, anil, isC, Int.reduceEq, Int.reduceLT, Int.reduceLE, Int.reduceAdd, Int.reduceToNat, Int.reduceNeg, Nat.reduceMul, Nat.reduceSub, abuild, afill, Int.reduceBNe, Int.reduceBEq, h0, h1, h2, h3, h10, h11, h12, h13, h44, h45, Nat.lt_irrefl, Int.ofNat_lt, decide_false]
      have hO1 : Own s (ho ++ ((bx, .cells (nl (xN pw ll (rounds - 1))) 5 true) :: (bu, .cells (nl (uN pw ll (rounds - 1))) 5 true) :: r)) := hO.perm (perm_swap [(bx, Ob.cells (nl (xN pw ll (rounds - 1))) 5 true), (bu, .cells (nl (uN pw ll (rounds - 1))) 5 true)] ho r)
      refine GV.append Tryd.underlying23 (by rw [Tryd.underlying23]; rfl) asz5 azc5 aby5 hG hO1 (asrc_whole hO.head (by rw [nl_length, xN_length, Nat.mul_one])) (by decide) (by rw [nl_length, xN_length, Nat.mul_one]) (nl_one _) (by omega) fun v' hg' s' hG' hO2 => ?_
      simp (config := { implicitDefEqProofs := false }) only [↓GP, GQ, ↓awp_seq, ↓awp_block, C_ex, Nat.reduceBEq, acap, afieldAddr, aload, astore, abin, anum, astr, aun, isAggD, cond_true, cond_false, ↓reduceIte, C_P, C_G, isTuple, Value.cells, setL, ares, aresL, ares1, reduceCtorEq, Nat.reduceEqDiff, eq_self, Nat.reduceAdd, if_true, if_false, one, Nat.reduceLeDiff, undef, gsl, aextract, aindexAddr, amake, implies_true, forall_const, alen, abuiltin, anil, isC, Int.reduceEq, Int.reduceLT, Int.reduceLE, Int.reduceAdd, Int.reduceToNat, Int.reduceNeg, Nat.reduceMul, Nat.reduceSub, abuild, afill, Int.reduceBNe, Int.reduceBEq, h0, h1, h2, h3, h10, h11]
      rw [← nl_append, ← hsb] at hG'
      refine ⟨3 - (c + 1), by omega, c + 1, v', hg', rfl, by omega, rfl, ?_, ?_, hO2.sub (List.Sublist.append_left ((List.sublist_cons_self _ _).trans (List.sublist_cons_self _ _)) hg')⟩
      · rw [show ((c + 1 : Nat) : Int) + 1 = ((c + 1 + 1 : Nat) : Int) from rfl, w_u8n, Nat.mod_eq_of_lt (by omega)]
      · rw [show 32 * (c + 1) = 32 * c + 32 from rfl]; exact hG'
  · simp (config := { implicitDefEqProofs := false }) only [↓GP, GQ, ↓awp_seq, ↓awp_block, C_ex, Nat.reduceBEq, acap, afieldAddr, aload, astore, abin, anum, astr, aun, isAggD, cond_true, cond_false, ↓reduceIte, C_P, C_G, isTuple, Value.cells, setL, ares, aresL, ares1, reduceCtorEq, Nat.reduceEqDiff, eq_self, Nat.reduceAdd, if_true, if_false, one, Nat.reduceLeDiff, undef, gsl, aextract, aindexAddr, amake, implies_true, forall_const, alen, abuiltin, anil, isC, Int.reduceEq, Int.reduceLT, Int.reduceLE, Int.reduceAdd, Int.reduceToNat, Int.reduceNeg, Nat.reduceMul, Nat.reduceSub, abuild, afill, Int.reduceBNe, Int.reduceBEq, h0, h1, h2, h3, h10, h11, hvo, Tryd.underlying23, hlt, Int.ofNat_lt, decide_false]
    rw [← hvo]
    obtain ⟨B, rfl, rfl, _⟩ := hG.out (by omega)
    have hsl : aslice Tryd.prog s 23 (.slice (some ⟨B, 0, some 0⟩) (32 * c) (32 * c)) none (some (.int .i64 size)) (some (.int .i64 size)) = some (.slice (some ⟨B, 0, none⟩) size size) := by
      simp [aslice, Tryd.underlying23, asz5, abounds, bnd, show (size : Int) ≤ 32 * (c : Int) by omega]
    simp (config := { implicitDefEqProofs := false }) only [↓GP, GQ, ↓awp_seq, ↓awp_block, C_ex, Nat.reduceBEq, acap, afieldAddr, aload, astore, abin, anum, astr, aun, isAggD, cond_true, cond_false, ↓reduceIte, C_P, C_G, isTuple, Value.cells, setL, ares, aresL, ares1, reduceCtorEq, Nat.reduceEqDiff, eq_self, Nat.reduceAdd, if_true, if_false, one, Nat.reduceLeDiff, undef, gsl, aextract, aindexAddr, amake, implies_true, forall_const, alen, abuiltin, anil, isC, Int.reduceEq, Int.reduceLT, Int.reduceLE, Int.reduceAdd, Int.reduceToNat, Int.reduceNeg, Nat.reduceMul, Nat.reduceSub, abuild, afill, Int.reduceBNe, Int.reduceBEq, hsl]
    exact hk B c s hc2 (by omega) hO
end Go.Proofs.YtjkmcnhofpnoeaaDoor
