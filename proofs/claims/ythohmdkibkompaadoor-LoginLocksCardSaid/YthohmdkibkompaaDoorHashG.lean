/- Clone, Insert. No conditions. -/
import Derived.Test.YthohmdkibkompaaDoorHashF
set_option linter.unusedVariables false
set_option linter.unusedSimpArgs false
namespace Go.Proofs.YthohmdkibkompaaDoor
open Go Go.Abs Go.RowKit
variable {base : Nat} {w0 : World} {G : Nat}

theorem buildSlice0 {P : Program} {st : St} {t e : TypeId} {n : Nat} {z : List Value} (hu : P.underlying t = some (.slice e)) (hn : asz P e = some n) (hz : azc P e = some z) :
    abuildSlice P st t 0 [] = some (.slice (some ⟨st.n, 0, none⟩) 0 0, st.new (.cells [] e true)) := abuildSlice_none hu hn hz
/-- A slice of slices whose room is known. -/
def CL (v : Value) (ps : List (Value × List Nat)) (hg : Hp) : Prop := (v = .slice none 0 0 ∧ ps = [] ∧ hg = []) ∨
  ∃ b c D, v = .slice (some ⟨b, 0, none⟩) ps.length c ∧ hg = [(b, .cells D 38 true)] ∧ D.length = c ∧ D.take ps.length = ps.map (·.1) ∧ ps.length ≤ c ∧ D.all one = true
theorem zeros_one (n : Nat) : (zeros [Value.slice none 0 0] n).all one = true := by simp [zeros, one]
set_option maxRecDepth 10000 in
theorem Clone_spec (st : St) (r : Hp) (v : Value) (ps : List (Value × List Nat)) (hv : Ps r v ps) (hl : ps.length ≤ 100000) (hO : Own st r) (k q : Value → St → Prop)
    (hk : ∀ v' hg st', CL v' ps hg → Own st' (hg ++ r) → k v' st') :
    ACall (C base w0 G) 42 [v] st k q := by
  refine ACall.of (cx := C base w0 G) mixed Tryd.func42 rfl (by kernel_rfl) (by simp [Tryd.ntmps42]) ?_
  simp only [Tryd.results42]
  have hO1 := hO.new (.cells [] 38 true)
  have hsrc := (hv.sub fun e he => List.mem_cons_of_mem _ he).src hO1
  have hone := hv.one
  obtain ⟨a, c, hvs⟩ : ∃ a c, v = .slice a ps.length c := by
    obtain ⟨a, c, h, _⟩ := hv.1.isSlice
    rw [List.length_map] at h
    exact ⟨a, c, h⟩
  by_cases hnil : v = .slice none 0 0
  · have hps : ps = [] := by
      rw [hvs] at hnil
      injection hnil with _ h _
      exact List.eq_nil_of_length_eq_zero h
    subst hps
    simp (config := { implicitDefEqProofs := false }) only [↓GP, ↓GM, GQ, abuiltinX, ↓awp_seq, ↓awp_block, C_ex, Nat.reduceBEq, acap, afieldAddr, aload, astore, abin, anum, astr, aun, isAggD, cond_true, cond_false, ↓reduceIte, C_P, C_G, isTuple, Value.cells, setL, ares, aresL, ares1, reduceCtorEq, Nat.reduceEqDiff, eq_self, Nat.reduceAdd, if_true, if_false, Go.Abs.one, Nat.reduceLeDiff, undef, gsl, aextract, aindexAddr, amake, implies_true, forall_const, alen, abuiltin, anil, isC, Int.reduceEq, Int.reduceLT, Int.reduceLE, Int.reduceAdd, Int.reduceToNat, Int.reduceNeg, Nat.reduceMul, Nat.reduceSub, abuild, afill, Int.reduceBNe, Int.reduceBEq, hnil, Tryd.underlying88]
    exact hk _ [] _ (.inl ⟨rfl, rfl, rfl⟩) hO
  · obtain ⟨ad, rfl⟩ : ∃ ad, a = some ad := by
      cases a with
      | some ad => exact ⟨ad, rfl⟩
      | none =>
        rcases hv.1 with ⟨h1, h | ⟨x, o, sp, c', h⟩⟩ | ⟨x, o, sp, c', cs, ty, own, h, hm, hc⟩
        · exact absurd h hnil
        · rw [hvs] at h; injection h with h; cases h
        · rw [hvs] at h; injection h with h; cases h
    rw [hvs] at hsrc
    simp (config := { implicitDefEqProofs := false }) only [↓GP, ↓GM, GQ, abuiltinX, ↓awp_seq, ↓awp_block, C_ex, Nat.reduceBEq, acap, afieldAddr, aload, astore, abin, anum, astr, aun, isAggD, cond_true, cond_false, ↓reduceIte, C_P, C_G, isTuple, Value.cells, setL, ares, aresL, ares1, reduceCtorEq, Nat.reduceEqDiff, eq_self, Nat.reduceAdd, if_true, if_false, Go.Abs.one, Nat.reduceLeDiff, undef, gsl, aextract, aindexAddr, amake, implies_true, forall_const, alen, abuiltin, anil, isC, Int.reduceEq, Int.reduceLT, Int.reduceLE, Int.reduceAdd, Int.reduceToNat, Int.reduceNeg, Nat.reduceMul, Nat.reduceSub, abuild, afill, Int.reduceBNe, Int.reduceBEq, hvs, Tryd.underlying88, buildSlice0 Tryd.underlying88 asz38 azc38, ↓ab_appendX]
    by_cases hne : ps = []
    · subst hne
      simp only [List.length_nil] at hsrc ⊢
      have hb : (st.new (.cells [] 38 true)).H st.n = some (.cells [] 38 true) := new_at _
      refine .inr ?_
      have hsrc0 : asrc (st.new (.cells [] 38 true)) 1 (.slice (some ad) 0 c) = some (0, []) := hsrc
      rw [aappend_fit (m := 0) (Cs := []) Tryd.underlying88 (by rw [Tryd.underlying88]; rfl) asz38 azc38 aby38 hsrc0 rfl hb (by decide) (by simp), setL, set_self hb]
      simp (config := { implicitDefEqProofs := false }) only [↓GP, ↓GM, GQ, abuiltinX, ↓awp_seq, ↓awp_block, C_ex, Nat.reduceBEq, acap, afieldAddr, aload, astore, abin, anum, astr, aun, isAggD, cond_true, cond_false, ↓reduceIte, C_P, C_G, isTuple, Value.cells, setL, ares, aresL, ares1, reduceCtorEq, Nat.reduceEqDiff, eq_self, Nat.reduceAdd, if_true, if_false, Go.Abs.one, Nat.reduceLeDiff, undef, gsl, aextract, aindexAddr, amake, implies_true, forall_const, alen, abuiltin, anil, isC, Int.reduceEq, Int.reduceLT, Int.reduceLE, Int.reduceAdd, Int.reduceToNat, Int.reduceNeg, Nat.reduceMul, Nat.reduceSub, abuild, afill, Int.reduceBNe, Int.reduceBEq]
      exact hk _ [(st.n, .cells [] 38 true)] _ (.inr ⟨st.n, 0, [], rfl, rfl, rfl, rfl, Nat.le_refl _, rfl⟩) hO1
    · have hpos : 0 < ps.length := List.length_pos_iff.2 hne
      refine .inl ?_
      have hac : acut (st.new (.cells [] 38 true)) st.n 0 (0 * 1) = some [] := by simp [acut, new_at, cut]
      rw [agrownL_exact Tryd.underlying88 asz38 azc38 aby38 (asrcT_slice (by rw [Tryd.underlying88]; rfl) hsrc) hac (by omega) (by omega), aroom_some]
      intro c' hc'
      simp (config := { implicitDefEqProofs := false }) only [↓GP, ↓GM, GQ, abuiltinX, ↓awp_seq, ↓awp_block, C_ex, Nat.reduceBEq, acap, afieldAddr, aload, astore, abin, anum, astr, aun, isAggD, cond_true, cond_false, ↓reduceIte, C_P, C_G, isTuple, Value.cells, setL, ares, aresL, ares1, reduceCtorEq, Nat.reduceEqDiff, eq_self, Nat.reduceAdd, if_true, if_false, Go.Abs.one, Nat.reduceLeDiff, undef, gsl, aextract, aindexAddr, amake, implies_true, forall_const, alen, abuiltin, anil, isC, Int.reduceEq, Int.reduceLT, Int.reduceLE, Int.reduceAdd, Int.reduceToNat, Int.reduceNeg, Nat.reduceMul, Nat.reduceSub, abuild, afill, Int.reduceBNe, Int.reduceBEq] at hc' ⊢
      refine hk _ [(st.n + 1, .cells (ps.map (·.1) ++ zeros [.slice none 0 0] (c' - ps.length)) 38 true)] _ (.inr ⟨st.n + 1, c', _, rfl, rfl, ?_, ?_, hc', by rw [List.all_append, hone, zeros_one]; rfl⟩) ?_
      · simp [zeros_length]; omega
      · rw [List.take_append_of_le_length (by simp), List.take_of_length_le (by simp)]
      · exact (hO1.new (.cells (ps.map (·.1) ++ zeros [.slice none 0 0] (c' - ps.length)) 38 true)).sub (List.Sublist.cons_cons _ (List.sublist_cons_self _ _))

theorem set_take {l : List Value} (x : Value) (rows : List Value) (n : Nat) (hn : rows.length = n) (hl : n + 1 ≤ l.length) : (setL (setL l 0 [x]) 1 rows).take (n + 1) = x :: rows := by
  subst hn
  cases l with
  | nil => simp at hl
  | cons y r =>
    have h1 : setL (y :: r) 0 [x] = x :: r := rfl
    rw [h1, setL_take_drop _ _ _ (by simp at hl ⊢; omega)]
    simp
theorem set_take' {l : List Value} (x : Value) (rows : List Value) (n : Nat) (hn : rows.length = n) (hl : n + 1 ≤ l.length) : (setL (setL l 1 rows) 0 [x]).take (n + 1) = x :: rows := by
  subst hn
  cases l with
  | nil => simp at hl
  | cons y r =>
    rw [setL_take_drop rows (y :: r) 1 (by simp at hl ⊢; omega)]
    simp [setL]
set_option maxRecDepth 10000 in
theorem Insert_spec (st : St) (r : Hp) (v pv : Value) (ps : List (Value × List Nat)) (hg : Hp) (V : Nat) (hv : CL v ps hg) (hl : ps.length ≤ 100000) (hV : (V, .cells [pv] 38 true) ∈ r) (hp1 : one pv = true) (hps : (ps.map (·.1)).all one = true) (hO : Own st (hg ++ r)) (k q : Value → St → Prop)
    (hk : ∀ b c D st', D.take (ps.length + 1) = pv :: ps.map (·.1) → Own st' ((b, .cells D 38 true) :: r) → k (.slice (some ⟨b, 0, none⟩) (ps.length + 1) c) st') :
    ACall (C base w0 G) 41 [v, .int .i64 0, .slice (some ⟨V, 0, none⟩) 1 1] st k q := by
  refine ACall.of (cx := C base w0 G) mixed Tryd.func41 rfl (by kernel_rfl) (by simp [Tryd.ntmps41]) ?_
  simp only [Tryd.results41]
  have hsV : ∀ s h, Own s (h ++ r) → asrc s 1 (.slice (some ⟨V, 0, none⟩) 1 1) = some (1, [pv]) := fun s h hO => asrc_one (hO.get (List.mem_append_right _ hV)) rfl
  have hwn : IntKind.i64.wrap ((ps.length : Int) + 1) = ((ps.length + 1 : Nat) : Int) := by rw [w_i64 (by omega)]; rfl
  rcases hv with ⟨rfl, rfl, rfl⟩ | ⟨b, c, D, rfl, rfl, hDl, hD, hc, hDo⟩
  · have hsr := asrcT_slice (P := Tryd.prog) (t' := 88) (z := [.slice none 0 0]) (by rw [Tryd.underlying88]; rfl) (hsV st [] hO)
    have hsn : aslice Tryd.prog st 88 (.slice none 0 0) (some (.int .i64 0)) none none = some (.slice none 0 0) := by simp [aslice, Tryd.underlying88, abounds, bnd, asz38]
    simp (config := { implicitDefEqProofs := false }) only [↓GP, ↓GM, GQ, abuiltinX, ↓awp_seq, ↓awp_block, C_ex, Nat.reduceBEq, acap, afieldAddr, aload, astore, abin, anum, astr, aun, isAggD, cond_true, cond_false, ↓reduceIte, C_P, C_G, isTuple, Value.cells, setL, ares, aresL, ares1, reduceCtorEq, Nat.reduceEqDiff, eq_self, Nat.reduceAdd, if_true, if_false, Go.Abs.one, Nat.reduceLeDiff, undef, gsl, aextract, aindexAddr, amake, implies_true, forall_const, alen, abuiltin, anil, isC, Int.reduceEq, Int.reduceLT, Int.reduceLE, Int.reduceAdd, Int.reduceToNat, Int.reduceNeg, Nat.reduceMul, Nat.reduceSub, abuild, afill, Int.reduceBNe, Int.reduceBEq, Tryd.underlying88, Tryd.underlying3, hsn, ↓ab_appendX]
    refine .inl ?_
    rw [agrownL_nil Tryd.underlying88 asz38 azc38 aby38 hsr (by decide) (by decide), aroom_some]
    intro c' hc'
    simp (config := { implicitDefEqProofs := false }) only [↓GP, ↓GM, GQ, abuiltinX, ↓awp_seq, ↓awp_block, C_ex, Nat.reduceBEq, acap, afieldAddr, aload, astore, abin, anum, astr, aun, isAggD, cond_true, cond_false, ↓reduceIte, C_P, C_G, isTuple, Value.cells, setL, ares, aresL, ares1, reduceCtorEq, Nat.reduceEqDiff, eq_self, Nat.reduceAdd, if_true, if_false, Go.Abs.one, Nat.reduceLeDiff, undef, gsl, aextract, aindexAddr, amake, implies_true, forall_const, alen, abuiltin, anil, isC, Int.reduceEq, Int.reduceLT, Int.reduceLE, Int.reduceAdd, Int.reduceToNat, Int.reduceNeg, Nat.reduceMul, Nat.reduceSub, abuild, afill, Int.reduceBNe, Int.reduceBEq]
    exact hk _ _ _ _ rfl (hO.new (.cells ([pv] ++ zeros [.slice none 0 0] (c' - 1)) 38 true))
  · have hsl0 : ∀ s, aslice Tryd.prog s 88 (.slice (some ⟨b, 0, none⟩) ps.length c) (some (.int .i64 0)) none none = some (.slice (some ⟨b, 0, none⟩) ps.length c) := fun s =>
      (aslice_exact (lo := some (.int .i64 (0 : Nat))) (hi := none) Tryd.underlying88 asz38 (abounds_lo (Nat.zero_le _) hc)).trans (by simp)
    have hcb := hO.head
    have hrl : (ps.map (·.1)).length = ps.length := by simp
    have hne : b ≠ V := fun e => (hO.ne rfl hV) e.symm
    by_cases h0 : ps.length = 0
    · have hps0 : ps = [] := List.eq_nil_of_length_eq_zero h0
      subst hps0
      have hsl00 := hsl0 st
      simp only [List.length_nil] at hsl00
      simp (config := { implicitDefEqProofs := false }) only [↓GP, ↓GM, GQ, abuiltinX, ↓awp_seq, ↓awp_block, C_ex, Nat.reduceBEq, acap, afieldAddr, aload, astore, abin, anum, astr, aun, isAggD, cond_true, cond_false, ↓reduceIte, C_P, C_G, isTuple, Value.cells, setL, ares, aresL, ares1, reduceCtorEq, Nat.reduceEqDiff, eq_self, Nat.reduceAdd, if_true, if_false, Go.Abs.one, Nat.reduceLeDiff, undef, gsl, aextract, aindexAddr, amake, implies_true, forall_const, alen, abuiltin, anil, isC, Int.reduceEq, Int.reduceLT, Int.reduceLE, Int.reduceAdd, Int.reduceToNat, Int.reduceNeg, Nat.reduceMul, Nat.reduceSub, abuild, afill, Int.reduceBNe, Int.reduceBEq, Tryd.underlying88, Tryd.underlying3, hsl00, ↓ab_appendX]
      by_cases hc0 : c = 0
      · subst hc0
        refine .inl ?_
        have hac : acut st b 0 (0 * 1) = some [] := by simp [acut, hcb, cut]
        rw [agrownL_exact Tryd.underlying88 asz38 azc38 aby38 (asrcT_slice (by rw [Tryd.underlying88]; rfl) (hsV st _ hO)) hac (by decide) (by decide), aroom_some]
        intro c' hc'
        simp (config := { implicitDefEqProofs := false }) only [↓GP, ↓GM, GQ, abuiltinX, ↓awp_seq, ↓awp_block, C_ex, Nat.reduceBEq, acap, afieldAddr, aload, astore, abin, anum, astr, aun, isAggD, cond_true, cond_false, ↓reduceIte, C_P, C_G, isTuple, Value.cells, setL, ares, aresL, ares1, reduceCtorEq, Nat.reduceEqDiff, eq_self, Nat.reduceAdd, if_true, if_false, Go.Abs.one, Nat.reduceLeDiff, undef, gsl, aextract, aindexAddr, amake, implies_true, forall_const, alen, abuiltin, anil, isC, Int.reduceEq, Int.reduceLT, Int.reduceLE, Int.reduceAdd, Int.reduceToNat, Int.reduceNeg, Nat.reduceMul, Nat.reduceSub, abuild, afill, Int.reduceBNe, Int.reduceBEq]
        exact hk _ _ _ _ rfl (hO.tail.new (.cells ([pv] ++ zeros [.slice none 0 0] (c' - 1)) 38 true))
      · refine .inr ?_
        rw [aappend_fit (m := 1) (Cs := [pv]) Tryd.underlying88 (by rw [Tryd.underlying88]; rfl) asz38 azc38 aby38 (hsV st _ hO) (by simp [hp1]) hcb (by omega) (by omega)]
        simp (config := { implicitDefEqProofs := false }) only [↓GP, ↓GM, GQ, abuiltinX, ↓awp_seq, ↓awp_block, C_ex, Nat.reduceBEq, acap, afieldAddr, aload, astore, abin, anum, astr, aun, isAggD, cond_true, cond_false, ↓reduceIte, C_P, C_G, isTuple, Value.cells, setL, ares, aresL, ares1, reduceCtorEq, Nat.reduceEqDiff, eq_self, Nat.reduceAdd, if_true, if_false, Go.Abs.one, Nat.reduceLeDiff, undef, gsl, aextract, aindexAddr, amake, implies_true, forall_const, alen, abuiltin, anil, isC, Int.reduceEq, Int.reduceLT, Int.reduceLE, Int.reduceAdd, Int.reduceToNat, Int.reduceNeg, Nat.reduceMul, Nat.reduceSub, abuild, afill, Int.reduceBNe, Int.reduceBEq]
        refine hk b c (D.set 0 pv) _ ?_ (hO.set rfl (.cells (D.set 0 pv) 38 true) rfl)
        cases D with
        | nil => simp at hDl; exact absurd hDl.symm hc0
        | cons y r => rfl
    · by_cases hcap : ps.length + 1 ≤ c
      · have hsl1 : ∀ s, aslice Tryd.prog s 88 (.slice (some ⟨b, 0, none⟩) ps.length c) none (some (.int .i64 (ps.length + 1 : Nat))) none = some (.slice (some ⟨b, 0, none⟩) (ps.length + 1) c) := fun s =>
          (aslice_exact (lo := none) (hi := some (.int .i64 (ps.length + 1 : Nat))) Tryd.underlying88 asz38 (abounds_hi hcap)).trans (by simp)
        have hsl2 : ∀ s, aslice Tryd.prog s 88 (.slice (some ⟨b, 0, none⟩) (ps.length + 1) c) (some (.int .i64 1)) none none = some (.slice (some ⟨b, 1, none⟩) ps.length (c - 1)) := fun s =>
          (aslice_exact (lo := some (.int .i64 (1 : Nat))) (hi := none) Tryd.underlying88 asz38 (abounds_lo (by omega) hcap)).trans (by simp)
        have hsl3 : ∀ s, aslice Tryd.prog s 88 (.slice (some ⟨b, 0, none⟩) (ps.length + 1) c) (some (.int .i64 0)) none none = some (.slice (some ⟨b, 0, none⟩) (ps.length + 1) c) := fun s =>
          (aslice_exact (lo := some (.int .i64 (0 : Nat))) (hi := none) Tryd.underlying88 asz38 (abounds_lo (Nat.zero_le _) hcap)).trans (by simp)
        have w1 : IntKind.i64.wrap 1 = 1 := by decide
        simp (config := { implicitDefEqProofs := false }) only [↓GP, ↓GM, GQ, abuiltinX, ↓awp_seq, ↓awp_block, C_ex, Nat.reduceBEq, acap, afieldAddr, aload, astore, abin, anum, astr, aun, isAggD, cond_true, cond_false, ↓reduceIte, C_P, C_G, isTuple, Value.cells, setL, ares, aresL, ares1, reduceCtorEq, Nat.reduceEqDiff, eq_self, Nat.reduceAdd, if_true, if_false, Go.Abs.one, Nat.reduceLeDiff, undef, gsl, aextract, aindexAddr, amake, implies_true, forall_const, alen, abuiltin, anil, isC, Int.reduceEq, Int.reduceLT, Int.reduceLE, Int.reduceAdd, Int.reduceToNat, Int.reduceNeg, Nat.reduceMul, Nat.reduceSub, abuild, afill, Int.reduceBNe, Int.reduceBEq, Tryd.underlying88, Tryd.underlying3, hsl0, show ¬ (0 : Int) = (ps.length : Int) by omega, hwn, show ¬ ((ps.length + 1 : Nat) : Int) > (c : Int) by omega, decide_false, ↓ab_appendX, hsl1, hsl2, w1]
        have hVm : (V, Ob.cells [pv] 38 true) ∈ [(b, Ob.cells D 38 true)] ++ r := List.mem_append_right _ hV
        refine ACallF.overlaps (sz := 1) (fn := Tryd.f55) (tR := 4) Tryd.func55 (by kernel_rfl) (by kernel_rfl) (by kernel_rfl) (by kernel_rfl) Tryd.underlying88 asz38 (hO.get hVm) hcb hne.symm (show isU8 (Tryd.prog.underlying 38) = false by rw [Tryd.underlying38]; rfl) (by simp) (by omega) (by decide) (by omega) ?_
        simp (config := { implicitDefEqProofs := false }) only [↓GP, ↓GM, GQ, abuiltinX, ↓awp_seq, ↓awp_block, C_ex, Nat.reduceBEq, acap, afieldAddr, aload, astore, abin, anum, astr, aun, isAggD, cond_true, cond_false, ↓reduceIte, C_P, C_G, isTuple, Value.cells, setL, ares, aresL, ares1, reduceCtorEq, Nat.reduceEqDiff, eq_self, Nat.reduceAdd, if_true, if_false, Go.Abs.one, Nat.reduceLeDiff, undef, gsl, aextract, aindexAddr, amake, implies_true, forall_const, alen, abuiltin, anil, isC, Int.reduceEq, Int.reduceLT, Int.reduceLE, Int.reduceAdd, Int.reduceToNat, Int.reduceNeg, Nat.reduceMul, Nat.reduceSub, abuild, afill, Int.reduceBNe, Int.reduceBEq, w1]
        have hsrcD : asrc st 1 (.slice (some ⟨b, 0, none⟩) (ps.length + 1) c) = some (ps.length + 1, D.take (ps.length + 1)) := by
          have : cut D 0 ((ps.length + 1) * 1) = some (D.take (ps.length + 1)) := by
            unfold cut
            rw [Nat.mul_one, if_pos (by omega), List.drop_zero]
          simp only [asrc, acut, hcb, this]
        have hone2 : (D.take (ps.length + 1)).all one = true := List.all_eq_true.2 fun v hv => List.all_eq_true.1 hDo v (List.mem_of_mem_take hv)
        refine ADraw.of [(0, false, []), (1, false, []), (2, false, []), (3, false, []), (4, false, []), (5, false, []), (6, false, []), (7, false, []), (8, false, [])] [] [] (by kernel_rfl) ?_
        simp (config := { implicitDefEqProofs := false }) only [↓GP, ↓GM, GQ, abuiltinX, ↓awp_seq, ↓awp_block, C_ex, Nat.reduceBEq, acap, afieldAddr, aload, astore, abin, anum, astr, aun, isAggD, cond_true, cond_false, ↓reduceIte, C_P, C_G, isTuple, Value.cells, setL, ares, aresL, ares1, reduceCtorEq, Nat.reduceEqDiff, eq_self, Nat.reduceAdd, if_true, if_false, Go.Abs.one, Nat.reduceLeDiff, undef, gsl, aextract, aindexAddr, amake, implies_true, forall_const, alen, abuiltin, anil, isC, Int.reduceEq, Int.reduceLT, Int.reduceLE, Int.reduceAdd, Int.reduceToNat, Int.reduceNeg, Nat.reduceMul, Nat.reduceSub, abuild, afill, Int.reduceBNe, Int.reduceBEq, Tryd.underlying3, hsl2, hsl3, w1,
          acopy_of (st := st) (t' := 88) (sp := none) (off := 1) (L := ps.length) (c := c - 1) (x := .slice (some ⟨b, 0, none⟩) (ps.length + 1) c) Tryd.underlying88 asz38 hsrcD hone2 hcb (by omega)]
        have hmn : (ps.length + 1).min ps.length = ps.length := Nat.min_eq_right (by omega)
        have hrows : List.take ps.length (List.take (ps.length + 1) D) = ps.map (·.1) := by rw [List.take_take, Nat.min_eq_left (by omega), hD]
        rw [hmn, hrows]
        have hD1l : (setL D 1 (ps.map (·.1))).length = c := by rw [setL_length, hDl]
        have hDt := set_take' (l := D) pv (ps.map (·.1)) ps.length hrl (by omega)
        have hOs := hO.set rfl (.cells (setL D 1 (ps.map (·.1))) 38 true) rfl
        generalize setL D 1 (ps.map (·.1)) = D1 at *
        have hmin1 : Nat.min 1 (ps.length + 1) = 1 := Nat.min_eq_left (by omega)
        simp (config := { implicitDefEqProofs := false }) only [↓GP, ↓GM, GQ, abuiltinX, ↓awp_seq, ↓awp_block, C_ex, Nat.reduceBEq, acap, afieldAddr, aload, astore, abin, anum, astr, aun, isAggD, cond_true, cond_false, ↓reduceIte, C_P, C_G, isTuple, Value.cells, setL, ares, aresL, ares1, reduceCtorEq, Nat.reduceEqDiff, eq_self, Nat.reduceAdd, if_true, if_false, Go.Abs.one, Nat.reduceLeDiff, undef, gsl, aextract, aindexAddr, amake, implies_true, forall_const, alen, abuiltin, anil, isC, Int.reduceEq, Int.reduceLT, Int.reduceLE, Int.reduceAdd, Int.reduceToNat, Int.reduceNeg, Nat.reduceMul, Nat.reduceSub, abuild, afill, Int.reduceBNe, Int.reduceBEq,
          acopy_of (st := st.set b (some (.cells D1 38 true))) (t' := 88) (sp := none) (off := 0) (L := ps.length + 1) (c := c) (x := .slice (some ⟨V, 0, none⟩) 1 1) Tryd.underlying88 asz38 (hsV _ [(b, .cells D1 38 true)] hOs) (by simp [hp1]) hOs.head (by omega), hmin1, List.take_succ_cons, List.take_zero]
        refine hk b c (setL D1 0 [pv]) _ hDt (hOs.set rfl (.cells (setL D1 0 [pv]) 38 true) rfl)
      · have hsl4 : ∀ s, aslice Tryd.prog s 88 (.slice (some ⟨b, 0, none⟩) ps.length c) none (some (.int .i64 0)) none = some (.slice (some ⟨b, 0, none⟩) 0 c) := fun s =>
          (aslice_exact (lo := none) (hi := some (.int .i64 (0 : Nat))) Tryd.underlying88 asz38 (abounds_hi (Nat.zero_le _))).trans (by simp)
        have wz : IntKind.i64.wrap (((ps.length + 1 : Nat) : Int) - 0) = ((ps.length + 1 : Nat) : Int) := by rw [w_i64 (by omega)]; omega
        simp (config := { implicitDefEqProofs := false }) only [↓GP, ↓GM, GQ, abuiltinX, ↓awp_seq, ↓awp_block, C_ex, Nat.reduceBEq, acap, afieldAddr, aload, astore, abin, anum, astr, aun, isAggD, cond_true, cond_false, ↓reduceIte, C_P, C_G, isTuple, Value.cells, setL, ares, aresL, ares1, reduceCtorEq, Nat.reduceEqDiff, eq_self, Nat.reduceAdd, if_true, if_false, Go.Abs.one, Nat.reduceLeDiff, undef, gsl, aextract, aindexAddr, amake, implies_true, forall_const, alen, abuiltin, anil, isC, Int.reduceEq, Int.reduceLT, Int.reduceLE, Int.reduceAdd, Int.reduceToNat, Int.reduceNeg, Nat.reduceMul, Nat.reduceSub, abuild, afill, Int.reduceBNe, Int.reduceBEq, Tryd.underlying88, Tryd.underlying3, hsl0, hsl4, wz, show ¬ (0 : Int) = (ps.length : Int) by omega, hwn, show ((ps.length + 1 : Nat) : Int) > (c : Int) by omega, decide_true, ↓ab_appendX]
        refine .inl ?_
        have hac : acut st b 0 (0 * 1) = some [] := by simp [acut, hcb, cut]
        have hag : agrownL Tryd.prog st #[88, 3] [.slice (some ⟨b, 0, none⟩) 0 c, .int .i64 (ps.length + 1 : Nat)] = some (38, ps.length + 1, zeros [.slice none 0 0] (ps.length + 1), [.slice none 0 0]) :=
          (agrownL_exact Tryd.underlying88 asz38 azc38 aby38 (asrcT_int (by rw [Tryd.underlying3]; rfl) (by omega)) hac (by omega) (by omega)).trans (by simp)
        rw [hag, aroom_some]
        intro c' hc'
        simp (config := { implicitDefEqProofs := false }) only [↓GP, ↓GM, GQ, abuiltinX, ↓awp_seq, ↓awp_block, C_ex, Nat.reduceBEq, acap, afieldAddr, aload, astore, abin, anum, astr, aun, isAggD, cond_true, cond_false, ↓reduceIte, C_P, C_G, isTuple, Value.cells, setL, ares, aresL, ares1, reduceCtorEq, Nat.reduceEqDiff, eq_self, Nat.reduceAdd, if_true, if_false, Go.Abs.one, Nat.reduceLeDiff, undef, gsl, aextract, aindexAddr, amake, implies_true, forall_const, alen, abuiltin, anil, isC, Int.reduceEq, Int.reduceLT, Int.reduceLE, Int.reduceAdd, Int.reduceToNat, Int.reduceNeg, Nat.reduceMul, Nat.reduceSub, abuild, afill, Int.reduceBNe, Int.reduceBEq]
        have hOz := hO.tail.new (.cells (zeros [.slice none 0 0] (ps.length + 1) ++ zeros [.slice none 0 0] (c' - (ps.length + 1))) 38 true)
        have hOz2 := hO.new (.cells (zeros [.slice none 0 0] (ps.length + 1) ++ zeros [.slice none 0 0] (c' - (ps.length + 1))) 38 true)
        have hzl : (zeros [Value.slice none 0 0] (ps.length + 1) ++ zeros [Value.slice none 0 0] (c' - (ps.length + 1))).length = c' := by simp [zeros_length]; omega
        obtain ⟨Z, hZ⟩ : ∃ Z, Z = zeros [Value.slice none 0 0] (ps.length + 1) ++ zeros [Value.slice none 0 0] (c' - (ps.length + 1)) := ⟨_, rfl⟩
        rw [← hZ] at hOz hOz2 hzl ⊢
        have hnew := hOz2.head
        have hsl5 : ∀ s, aslice Tryd.prog s 88 (.slice (some ⟨st.n, 0, none⟩) (ps.length + 1) c') (some (.int .i64 0)) none none = some (.slice (some ⟨st.n, 0, none⟩) (ps.length + 1) c') := fun s =>
          (aslice_exact (lo := some (.int .i64 (0 : Nat))) (hi := none) Tryd.underlying88 asz38 (abounds_lo (Nat.zero_le _) (by omega))).trans (by simp)
        have hsl6 : ∀ s, aslice Tryd.prog s 88 (.slice (some ⟨st.n, 0, none⟩) (ps.length + 1) c') (some (.int .i64 1)) none none = some (.slice (some ⟨st.n, 1, none⟩) ps.length (c' - 1)) := fun s =>
          (aslice_exact (lo := some (.int .i64 (1 : Nat))) (hi := none) Tryd.underlying88 asz38 (abounds_lo (by omega) (by omega))).trans (by simp)
        have w1 : IntKind.i64.wrap 1 = 1 := by decide
        have hsV2 := asrc_one (c := 1) (sp := none) (hOz2.get (b := V) (o := .cells [pv] 38 true) (by simp [hV])) (n := 1) rfl
        simp (config := { implicitDefEqProofs := false }) only [↓GP, ↓GM, GQ, abuiltinX, ↓awp_seq, ↓awp_block, C_ex, Nat.reduceBEq, acap, afieldAddr, aload, astore, abin, anum, astr, aun, isAggD, cond_true, cond_false, ↓reduceIte, C_P, C_G, isTuple, Value.cells, setL, ares, aresL, ares1, reduceCtorEq, Nat.reduceEqDiff, eq_self, Nat.reduceAdd, if_true, if_false, Go.Abs.one, Nat.reduceLeDiff, undef, gsl, aextract, aindexAddr, amake, implies_true, forall_const, alen, abuiltin, anil, isC, Int.reduceEq, Int.reduceLT, Int.reduceLE, Int.reduceAdd, Int.reduceToNat, Int.reduceNeg, Nat.reduceMul, Nat.reduceSub, abuild, afill, Int.reduceBNe, Int.reduceBEq, hsl5,
          acopy_of (st := st.new (.cells Z 38 true)) (t' := 88) (sp := none) (off := 0) (L := ps.length + 1) (c := c') (x := .slice (some ⟨V, 0, none⟩) 1 1) Tryd.underlying88 asz38 hsV2 (by simp [hp1]) hnew (by omega)]
        have hmin1 : Nat.min 1 (ps.length + 1) = 1 := Nat.min_eq_left (by omega)
        have hZt := set_take (l := Z) pv (ps.map (·.1)) ps.length hrl (by omega)
        have hZ1l : (setL Z 0 [pv]).length = c' := by rw [setL_length, hzl]
        have hOz3 := hOz2.set rfl (.cells (setL Z 0 [pv]) 38 true) rfl
        rw [hmin1, show List.take 1 [pv] = [pv] from rfl]
        generalize setL Z 0 [pv] = Z1 at *
        have hcD := hOz3.get (b := b) (o := .cells D 38 true) (by simp)
        have hsrcD : asrc ((st.new (.cells Z 38 true)).set st.n (some (.cells Z1 38 true))) 1 (.slice (some ⟨b, 0, none⟩) ps.length c) = some (ps.length, ps.map (·.1)) := by
          have : cut D 0 (ps.length * 1) = some (ps.map (·.1)) := by
            unfold cut
            rw [Nat.mul_one, if_pos (by omega), List.drop_zero, hD]
          simp only [asrc, acut, hcD, this]
        have hmn : Nat.min ps.length ps.length = ps.length := Nat.min_self _
        have htk : List.take ps.length (ps.map (·.1)) = ps.map (·.1) := List.take_of_length_le (by simp)
        refine ADraw.of [(0, false, []), (1, false, []), (2, false, []), (3, false, []), (4, false, []), (5, false, []), (6, false, []), (7, false, []), (8, false, [])] [] [] (by kernel_rfl) ?_
        simp (config := { implicitDefEqProofs := false }) only [↓GP, ↓GM, GQ, abuiltinX, ↓awp_seq, ↓awp_block, C_ex, Nat.reduceBEq, acap, afieldAddr, aload, astore, abin, anum, astr, aun, isAggD, cond_true, cond_false, ↓reduceIte, C_P, C_G, isTuple, Value.cells, setL, ares, aresL, ares1, reduceCtorEq, Nat.reduceEqDiff, eq_self, Nat.reduceAdd, if_true, if_false, Go.Abs.one, Nat.reduceLeDiff, undef, gsl, aextract, aindexAddr, amake, implies_true, forall_const, alen, abuiltin, anil, isC, Int.reduceEq, Int.reduceLT, Int.reduceLE, Int.reduceAdd, Int.reduceToNat, Int.reduceNeg, Nat.reduceMul, Nat.reduceSub, abuild, afill, Int.reduceBNe, Int.reduceBEq, Tryd.underlying3, hsl6, hsl0, w1,
          acopy_of (st := (st.new (.cells Z 38 true)).set st.n (some (.cells Z1 38 true))) (t' := 88) (sp := none) (off := 1) (L := ps.length) (c := c' - 1) (x := .slice (some ⟨b, 0, none⟩) ps.length c) Tryd.underlying88 asz38 hsrcD hps hOz3.head (by omega), hmn, htk]
        exact hk _ _ _ _ hZt ((hOz3.set rfl (.cells (setL Z1 1 (ps.map (·.1))) 38 true) rfl).sub (List.Sublist.cons_cons _ (List.sublist_cons_self _ _)))
end Go.Proofs.YthohmdkibkompaaDoor
