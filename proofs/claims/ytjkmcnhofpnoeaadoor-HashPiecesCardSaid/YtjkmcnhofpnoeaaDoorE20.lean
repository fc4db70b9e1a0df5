/- Pieces joined; the document's example. No conditions. -/
import Derived.Test.YtjkmcnhofpnoeaaDoorE19
set_option linter.unusedVariables false
set_option linter.unusedSimpArgs false
namespace Go.Proofs.YtjkmcnhofpnoeaaDoor
open Go Go.Abs Go.RowKit
variable {base : Nat} {w0 : World} {G : Nat}

theorem _root_.Go.Abs.GVx.nb {v : Value} {l : List Nat} {n : Nat} {hg r : Hp} (hG : GVx v (nl l) n 1 5 hg) (hn : n = l.length) (hl : ∀ d ∈ l, d < 256) : Nb (hg ++ r) v l := by
  subst hn
  refine ⟨?_, hl⟩
  rcases hG with ⟨rfl, h2, h3, rfl⟩ | ⟨b, rfl, h2, h3, rfl⟩ | ⟨b, c, D, rfl, rfl, hc⟩
  · have : l = [] := List.eq_nil_of_length_eq_zero h2
    subst this
    exact .inl ⟨rfl, .inl rfl⟩
  · have : l = [] := List.eq_nil_of_length_eq_zero h2
    subst this
    exact .inl ⟨rfl, .inr ⟨b, 0, none, 0, rfl⟩⟩
  · refine .inr ⟨b, 0, some 0, c, D, 5, true, by rw [List.length_map], by simp, ?_⟩
    rw [Nat.mul_one] at hc
    rw [List.length_map]
    exact hc
theorem flat_lt {ps : List (Value × List Nat)} {h : Hp} {v : Value} (hv : Ps h v ps) : ∀ d ∈ flat ps, d < 256 := by
  intro d hd
  obtain ⟨l, hl, hd⟩ := List.mem_flatten.1 hd
  obtain ⟨p, hp, rfl⟩ := List.mem_map.1 hl
  exact (hv.2 p hp).2 d hd
set_option maxRecDepth 10000 in
theorem joined_spec (st : St) (r : Hp) (v : Value) (ps : List (Value × List Nat)) (hv : Ps r v ps) (hO : Own st r) (k q : Value → St → Prop)
    (hk1 : ∀ st', Own st' r → k (.tuple #[.slice none 0 0, .bool false]) st')
    (hk2 : ∀ va hg st', ps.length ≤ 20 → (∀ p ∈ ps, p.2.length ≤ 300) → (flat ps).length ≤ 6000 → GVx va (nl (flat ps)) (flat ps).length 1 5 hg → Own st' (hg ++ r) → k (.tuple #[va, .bool true]) st') :
    ACall (C base w0 G) 8 [v] st k q := by
  obtain ⟨a, c, hvs⟩ : ∃ a c, v = .slice a ps.length c := by
    obtain ⟨a, c, h, _⟩ := hv.1.isSlice
    rw [List.length_map] at h
    exact ⟨a, c, h⟩
  refine ACall.of (cx := C base w0 G) mixed Tryd.func8 rfl (by kernel_rfl) (by simp [Tryd.ntmps8]) ?_
  simp only [Tryd.results8]
  by_cases h20 : ps.length ≤ 20
  · simp (config := { implicitDefEqProofs := false }) only [↓GP, GQ, ↓awp_seq, ↓awp_block, C_ex, Nat.reduceBEq, acap, afieldAddr, aload, astore, abin, anum, astr, aun, isAggD, cond_true, cond_false, ↓reduceIte, C_P, C_G, isTuple, Value.cells, setL, ares, aresL, ares1, reduceCtorEq, Nat.reduceEqDiff, eq_self, Nat.reduceAdd, if_true, if_false, one, Nat.reduceLeDiff, undef, gsl, aextract, aindexAddr, amake, implies_true, forall_const, alen, abuiltin, anil, isC, Int.reduceEq, Int.reduceLT, Int.reduceLE, Int.reduceAdd, Int.reduceToNat, Int.reduceNeg, Nat.reduceMul, Nat.reduceSub, abuild, afill, Int.reduceBNe, Int.reduceBEq, hvs, Tryd.underlying22, show ¬ (ps.length : Int) > 20 by omega, decide_false]
    refine ⟨fun m ρ s => ∃ (i : Nat) (w : Value) (hg : Hp), m = ps.length - i ∧ i ≤ ps.length ∧ ρ 0 = v ∧ ρ 4 = w ∧ ρ 5 = .int .i64 i ∧ (flat (ps.take i)).length ≤ 300 * i ∧ (∀ p ∈ ps.take i, p.2.length ≤ 300) ∧ GVx w (nl (flat (ps.take i))) (flat (ps.take i)).length 1 5 hg ∧ Own s (hg ++ r), ⟨_, 0, _, [], rfl, Nat.zero_le _, hvs.symm, rfl, rfl, Nat.zero_le _, fun p hp => by simp at hp, GVx.nil, hO⟩, ?_⟩
    rintro m ρ s ⟨i, w, hg, rfl, hi, h0, h4, h5, hfl, hfp, hG, hO⟩
    by_cases him : i < ps.length
    · obtain ⟨x, o, sp, c', cs, ty, own, hvx, hmem, hget⟩ := (hv.sub (fun e he => List.mem_append_right hg he)).at hO (by intro e; rw [e] at him; simp at him)
      have hp : ps[i]? = some ps[i] := List.getElem?_eq_getElem him
      generalize ps[i] = p at hp
      have hgp := hget i p hp
      have hft := flat_take ps i p hp
      have hcs := hO.get hmem
      have hpn := (hv.2 p (List.mem_of_getElem? hp)).sub (fun e he => List.mem_append_right hg he)
      have hsrc := hpn.src hO
      obtain ⟨ap, cp, hps⟩ := hpn.isSlice
      by_cases h300 : p.2.length ≤ 300
      · rw [hps] at hsrc
        simp (config := { implicitDefEqProofs := false }) only [↓GP, GQ, ↓awp_seq, ↓awp_block, C_ex, Nat.reduceBEq, acap, afieldAddr, aload, astore, abin, anum, astr, aun, isAggD, cond_true, cond_false, ↓reduceIte, C_P, C_G, isTuple, Value.cells, setL, ares, aresL, ares1, reduceCtorEq, Nat.reduceEqDiff, eq_self, Nat.reduceAdd, if_true, if_false, one, Nat.reduceLeDiff, undef, gsl, aextract, aindexAddr, amake, implies_true, forall_const, alen, abuiltin, anil, isC, Int.reduceEq, Int.reduceLT, Int.reduceLE, Int.reduceAdd, Int.reduceToNat, Int.reduceNeg, Nat.reduceMul, Nat.reduceSub, abuild, afill, Int.reduceBNe, Int.reduceBEq, h0, h4, h5, him, hvx, Int.ofNat_lt, decide_true, Tryd.underlying22, asz23, Tryd.underlying23, hcs, hgp, hps, show ¬ (p.2.length : Int) > 300 by omega, decide_false]
        refine ⟨by omega, by omega, ?_⟩
        refine GVx.append Tryd.underlying23 (by rw [Tryd.underlying23]; rfl) asz5 azc5 aby5 hG hO hsrc (by rw [nl_length, Nat.mul_one]) (nl_one _) (by omega) fun v' hg' s' hG' hs' => ?_
        simp (config := { implicitDefEqProofs := false }) only [↓GP, GQ, ↓awp_seq, ↓awp_block, C_ex, Nat.reduceBEq, acap, afieldAddr, aload, astore, abin, anum, astr, aun, isAggD, cond_true, cond_false, ↓reduceIte, C_P, C_G, isTuple, Value.cells, setL, ares, aresL, ares1, reduceCtorEq, Nat.reduceEqDiff, eq_self, Nat.reduceAdd, if_true, if_false, one, Nat.reduceLeDiff, undef, gsl, aextract, aindexAddr, amake, implies_true, forall_const, alen, abuiltin, anil, isC, Int.reduceEq, Int.reduceLT, Int.reduceLE, Int.reduceAdd, Int.reduceToNat, Int.reduceNeg, Nat.reduceMul, Nat.reduceSub, abuild, afill, Int.reduceBNe, Int.reduceBEq, h0, h5, hvx]
        refine ⟨ps.length - (i + 1), by omega, i + 1, v', hg', rfl, by omega, rfl, by rw [w_i64 (by omega)]; rfl, ?_, ?_, ?_, hs'⟩
        · rw [hft, List.length_append]; omega
        · intro p' hp'
          rw [List.take_add_one, hp] at hp'
          rcases List.mem_append.1 hp' with h | h
          · exact hfp p' h
          · have : p' = p := by simpa using h
            rw [this]; exact h300
        · rw [hft, nl_append, List.length_append]
          exact hG'
      · simp (config := { implicitDefEqProofs := false }) only [↓GP, GQ, ↓awp_seq, ↓awp_block, C_ex, Nat.reduceBEq, acap, afieldAddr, aload, astore, abin, anum, astr, aun, isAggD, cond_true, cond_false, ↓reduceIte, C_P, C_G, isTuple, Value.cells, setL, ares, aresL, ares1, reduceCtorEq, Nat.reduceEqDiff, eq_self, Nat.reduceAdd, if_true, if_false, one, Nat.reduceLeDiff, undef, gsl, aextract, aindexAddr, amake, implies_true, forall_const, alen, abuiltin, anil, isC, Int.reduceEq, Int.reduceLT, Int.reduceLE, Int.reduceAdd, Int.reduceToNat, Int.reduceNeg, Nat.reduceMul, Nat.reduceSub, abuild, afill, Int.reduceBNe, Int.reduceBEq, h0, h4, h5, him, hvx, Int.ofNat_lt, decide_true, Tryd.underlying22, asz23, Tryd.underlying23, hcs, hgp, hps, show (p.2.length : Int) > 300 by omega]
        exact ⟨by omega, hk1 _ hO.right⟩
    · obtain rfl : i = ps.length := by omega
      rw [List.take_length] at hG hfl hfp
      simp (config := { implicitDefEqProofs := false }) only [↓GP, GQ, ↓awp_seq, ↓awp_block, C_ex, Nat.reduceBEq, acap, afieldAddr, aload, astore, abin, anum, astr, aun, isAggD, cond_true, cond_false, ↓reduceIte, C_P, C_G, isTuple, Value.cells, setL, ares, aresL, ares1, reduceCtorEq, Nat.reduceEqDiff, eq_self, Nat.reduceAdd, if_true, if_false, one, Nat.reduceLeDiff, undef, gsl, aextract, aindexAddr, amake, implies_true, forall_const, alen, abuiltin, anil, isC, Int.reduceEq, Int.reduceLT, Int.reduceLE, Int.reduceAdd, Int.reduceToNat, Int.reduceNeg, Nat.reduceMul, Nat.reduceSub, abuild, afill, Int.reduceBNe, Int.reduceBEq, h0, h4, h5, hvs, Tryd.underlying22, Nat.lt_irrefl, Int.ofNat_lt, decide_false]
      exact hk2 _ _ _ h20 hfp (by omega) hG hO
  · simp (config := { implicitDefEqProofs := false }) only [↓GP, GQ, ↓awp_seq, ↓awp_block, C_ex, Nat.reduceBEq, acap, afieldAddr, aload, astore, abin, anum, astr, aun, isAggD, cond_true, cond_false, ↓reduceIte, C_P, C_G, isTuple, Value.cells, setL, ares, aresL, ares1, reduceCtorEq, Nat.reduceEqDiff, eq_self, Nat.reduceAdd, if_true, if_false, one, Nat.reduceLeDiff, undef, gsl, aextract, aindexAddr, amake, implies_true, forall_const, alen, abuiltin, anil, isC, Int.reduceEq, Int.reduceLT, Int.reduceLE, Int.reduceAdd, Int.reduceToNat, Int.reduceNeg, Nat.reduceMul, Nat.reduceSub, abuild, afill, Int.reduceBNe, Int.reduceBEq, hvs, Tryd.underlying22, show (ps.length : Int) > 20 by omega, decide_true]
    exact hk1 _ hO

theorem build3 {st : St} : abuildSlice Tryd.prog st 23 3 [(0, .int .u8 97), (1, .int .u8 98), (2, .int .u8 99)] = some (.slice (some ⟨st.n, 0, none⟩) 3 3, st.new (.cells (nl [97, 98, 99]) 5 true)) := by
  simp [abuildSlice, Tryd.underlying23, asz5, azc5, afill, zeros, isTuple, Value.cells, setL, nl, bl, List.replicate]
theorem hex_abc : strOf ((hexN (digest [97, 98, 99]) 32).map fun n : Nat => (n : Int)) = { data := #[98, 97, 55, 56, 49, 54, 98, 102, 56, 102, 48, 49, 99, 102, 101, 97, 52, 49, 52, 49, 52, 48, 100, 101, 53, 100, 97, 101, 50, 50, 50, 51, 98, 48, 48, 51, 54, 49, 97, 51, 57, 54, 49, 55, 55, 97, 57, 99, 98, 52, 49, 48, 102, 102, 54, 49, 102, 50, 48, 48, 49, 53, 97, 100] } := by
  rw [digest_abc]; decide +kernel
theorem out4_lt (x : Nat) : ∀ d ∈ out4 x, d < 256 := by
  intro d hd
  simp only [out4, List.mem_cons, List.not_mem_nil, or_false] at hd
  rcases hd with rfl | rfl | rfl | rfl <;> exact Nat.mod_lt _ (by decide)
theorem outN_lt (h : List Nat) : ∀ i, ∀ d ∈ outN h i, d < 256
  | 0, d, hd => by simp [outN] at hd
  | i + 1, d, hd => by
    rcases List.mem_append.1 hd with hd | hd
    · exact outN_lt h i d hd
    · exact out4_lt _ d hd
theorem outN_length (h : List Nat) : ∀ i, (outN h i).length = 4 * i
  | 0 => rfl
  | i + 1 => by simp [outN, outN_length h i, out4]; omega
theorem digest_lt (l : List Nat) : ∀ d ∈ digest l, d < 256 := outN_lt _ 8
theorem digest_length (l : List Nat) : (digest l).length = 32 := outN_length _ 8
set_option maxRecDepth 10000 in
theorem awake_spec (st : St) (r : Hp) (ok : Bool) {kt : TypeId} (hK : (0, .cells (wl ks0) kt ok) ∈ r) (hO : Own st r) (k q : Value → St → Prop) (hk : ∀ st', Own st' r → k (.bool true) st') :
    ACall (C base w0 1) 9 [] st k q := by
  refine ACall.of (cx := C base w0 1) mixed Tryd.func9 rfl (by kernel_rfl) (by simp [Tryd.ntmps9]) ?_
  simp only [Tryd.results9]
  have hnew := new_at (st := st) (.cells (nl [97, 98, 99]) 5 true)
  have hO1 := hO.new (.cells (nl [97, 98, 99]) 5 true)
  simp (config := { implicitDefEqProofs := false }) only [↓GP, GQ, ↓awp_seq, ↓awp_block, C_ex, Nat.reduceBEq, acap, afieldAddr, aload, astore, abin, anum, astr, aun, isAggD, cond_true, cond_false, ↓reduceIte, C_P, C_G, isTuple, Value.cells, setL, ares, aresL, ares1, reduceCtorEq, Nat.reduceEqDiff, eq_self, Nat.reduceAdd, if_true, if_false, one, Nat.reduceLeDiff, undef, gsl, aextract, aindexAddr, amake, implies_true, forall_const, alen, abuiltin, anil, isC, Int.reduceEq, Int.reduceLT, Int.reduceLE, Int.reduceAdd, Int.reduceToNat, Int.reduceNeg, Nat.reduceMul, Nat.reduceSub, abuild, afill, Int.reduceBNe, Int.reduceBEq, build3, aconv, Tryd.underlying23, Tryd.underlying5, hnew,
    abuildSlice_one (st := st.new (.cells (nl [97, 98, 99]) 5 true)) (v := .slice (some ⟨st.n, 0, none⟩) 3 3) Tryd.underlying22 asz23 azc23 rfl rfl rfl (by decide)]
  refine ⟨by decide, ?_⟩
  have hO2 := hO1.new (.cells [.slice (some ⟨st.n, 0, none⟩) 3 3] 23 true)
  have hb : Nb ((st.n + 1, Ob.cells [.slice (some ⟨st.n, 0, none⟩) 3 3] 23 true) :: (st.n, .cells (nl [97, 98, 99]) 5 true) :: r) (.slice (some ⟨st.n, 0, none⟩) 3 3) [97, 98, 99] :=
    ⟨.inr ⟨st.n, 0, none, 3, nl [97, 98, 99], 5, true, rfl, by simp, rfl⟩, by decide⟩
  have hps : Ps ((st.n + 1, Ob.cells [.slice (some ⟨st.n, 0, none⟩) 3 3] 23 true) :: (st.n, .cells (nl [97, 98, 99]) 5 true) :: r) (.slice (some ⟨st.n + 1, 0, none⟩) 1 1) [(.slice (some ⟨st.n, 0, none⟩) 3 3, [97, 98, 99])] := by
    refine ⟨.inr ⟨st.n + 1, 0, none, 1, [.slice (some ⟨st.n, 0, none⟩) 3 3], 23, true, rfl, by simp, fun i l hi => ?_⟩, fun p hp => ?_⟩
    · cases i with
      | zero => simp at hi; subst hi; rfl
      | succ i => simp at hi
    · simp only [List.mem_singleton] at hp
      subst hp
      exact hb
  refine ACallF.enter Tryd.func10 rfl (by kernel_rfl) (Sum_spec _ _ _ _ ok (kt := kt) hps (show (3 : Nat) ≤ 100000 by decide) (show (1 : Nat) ≤ 100000 by decide) (by simp [hK]) hO2 _ _ fun vs hs s1 hG hO3 => ?_)
  have hG' : GV vs (nl (digest [97, 98, 99])) 32 1 5 hs := hG
  have hOr : Own s1 (hs ++ r) := hO3.sub (List.Sublist.append_left ((List.sublist_cons_self _ _).trans (List.sublist_cons_self _ _)) hs)
  have hnb : Nb (hs ++ r) vs (digest [97, 98, 99]) := hG'.x.nb (digest_length _).symm (digest_lt _)
  simp (config := { implicitDefEqProofs := false }) only [↓GP, GQ, ↓awp_seq, ↓awp_block, C_ex, Nat.reduceBEq, acap, afieldAddr, aload, astore, abin, anum, astr, aun, isAggD, cond_true, cond_false, ↓reduceIte, C_P, C_G, isTuple, Value.cells, setL, ares, aresL, ares1, reduceCtorEq, Nat.reduceEqDiff, eq_self, Nat.reduceAdd, if_true, if_false, one, Nat.reduceLeDiff, undef, gsl, aextract, aindexAddr, amake, implies_true, forall_const, alen, abuiltin, anil, isC, Int.reduceEq, Int.reduceLT, Int.reduceLE, Int.reduceAdd, Int.reduceToNat, Int.reduceNeg, Nat.reduceMul, Nat.reduceSub, abuild, afill, Int.reduceBNe, Int.reduceBEq]
  refine ACallF.enter Tryd.func18 rfl (by kernel_rfl) (Hex_spec s1 _ vs _ hnb (by rw [digest_length]; decide) hOr _ _ fun s2 hO4 => ?_)
  rw [digest_length, hex_abc]
  simp (config := { implicitDefEqProofs := false }) only [↓GP, GQ, ↓awp_seq, ↓awp_block, C_ex, Nat.reduceBEq, acap, afieldAddr, aload, astore, abin, anum, astr, aun, isAggD, cond_true, cond_false, ↓reduceIte, C_P, C_G, isTuple, Value.cells, setL, ares, aresL, ares1, reduceCtorEq, Nat.reduceEqDiff, eq_self, Nat.reduceAdd, if_true, if_false, one, Nat.reduceLeDiff, undef, gsl, aextract, aindexAddr, amake, implies_true, forall_const, alen, abuiltin, anil, isC, Int.reduceEq, Int.reduceLT, Int.reduceLE, Int.reduceAdd, Int.reduceToNat, Int.reduceNeg, Nat.reduceMul, Nat.reduceSub, abuild, afill, Int.reduceBNe, Int.reduceBEq, Tryd.underlying9]
  exact hk _ hO4.right
end Go.Proofs.YtjkmcnhofpnoeaaDoor
