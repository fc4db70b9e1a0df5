/- The records of a half. No conditions. -/
import Derived.Test.YtiooigkcliomlaaJ13
set_option linter.unusedVariables false
set_option linter.unusedSimpArgs false
namespace Go.Proofs.Ytiooigkcliomlaa
open Go Go.Abs Go.RowKit
variable {base : Nat} {w0 : World} {G : Nat}

def halfF : Nat → List (List Nat) → Nat → List (List Nat) → Nat → Nat × List (List Nat) × Nat
  | 0, _, gen, out, at_ => (gen, out, at_)
  | f + 1, l, gen, out, at_ => match readM (l.drop at_) gen out.length with
    | none => (gen, out, at_)
    | some (b, g) => halfF f l g (out ++ [b]) (at_ + 1 + needN b.length)
def halfM (l : List (List Nat)) : Nat × List (List Nat) × Nat := halfF (l.length + 1) l 0 [] 0
/-- A slice of slices of bytes that may be cut. -/
def Recs (h : Hp) (v : Value) (l : List (List Nat)) : Prop := ∃ qs : List (Value × List Nat), qs.map (·.2) = l ∧ Ps h v qs ∧ Sl Try.prog h v 1
theorem flat_64 : ∀ l : List (List Nat), (∀ p ∈ l, p.length = 64) → l.flatten.length = l.length * 64
  | [], _ => rfl
  | a :: l, h => by rw [List.flatten_cons, List.length_append, flat_64 l fun p hp => h p (by simp [hp]), h a (by simp), List.length_cons]; omega
theorem readM_some {l : List (List Nat)} {gen num : Nat} {b : List Nat} {g : Nat} (h64 : ∀ s ∈ l, s.length = 64 ∧ ∀ d ∈ s, d < 256) (h : readM l gen num = some (b, g)) : l ≠ [] ∧ 1 + needN b.length ≤ l.length ∧ g < 4294967296 ∧ g ≠ 0 ∧ (gen ≠ 0 → g = gen) ∧ b.length ≤ l.length * 64 := by
  unfold readM at h
  split at h
  · cases h
  · rename_i l0 rest
    split at h
    · cases h
    · rename_i hc
      simp only [not_or, not_and, Decidable.not_not] at hc
      obtain ⟨c1, c2, c3, c4⟩ := hc
      split at h
      · injection h with h
        injection h with h1 h2
        subst h1 h2
        have hl : ((rest.take (needN (word4 l0 9))).flatten.take (word4 l0 9)).length = word4 l0 9 := by
          rw [List.length_take, flat_64 _ fun s hs => (h64 s (List.mem_cons_of_mem _ (List.mem_of_mem_take hs))).1, List.length_take]
          unfold needN at *
          omega
        rw [hl]
        refine ⟨by simp, by simp; omega, word4_lt (h64 l0 (by simp)).2 1, c1, fun h => c2 h, by simp; omega⟩
      · cases h
theorem halfF_stop {f : Nat} {l : List (List Nat)} {gen : Nat} {out : List (List Nat)} {at_ : Nat} (h : readM (l.drop at_) gen out.length = none) : halfF f l gen out at_ = (gen, out, at_) := by
  cases f with
  | zero => rfl
  | succ f => rw [halfF, h]
set_option maxRecDepth 10000 in
theorem half_spec (st : St) (r : Hp) (v : Value) (ps : List (Value × List Nat)) (hv : Secs r v ps) (hl : ps.length ≤ 1500) (hO : Own st r) (k q : Value → St → Prop)
    (hk : ∀ outv H st', Recs H outv (halfM (ps.map (·.2))).2.1 → Own st' (H ++ r) → k (.tuple #[.int .i64 (halfM (ps.map (·.2))).1, outv, .int .i64 (halfM (ps.map (·.2))).2.2]) st') :
    ACall (C base w0 G) 36 [v] st k q := by
  obtain ⟨hP, hS, hE⟩ := hv
  obtain ⟨a, c, hvs⟩ : ∃ a c, v = .slice a ps.length c := by
    obtain ⟨a, c, h, _⟩ := hP.1.isSlice
    rw [List.length_map] at h
    exact ⟨a, c, h⟩
  have h64 : ∀ s ∈ ps.map (·.2), s.length = 64 ∧ ∀ d ∈ s, d < 256 := fun s hs => by
    obtain ⟨p, hp, rfl⟩ := List.mem_map.1 hs
    exact ⟨(hE p hp).2, (hP.2 p hp).2⟩
  refine ACall.of (cx := C base w0 G) mixed Try.func36 rfl (by kernel_rfl) (by simp [Try.ntmps36]) ?_
  simp only [Try.results36]
  simp (config := { implicitDefEqProofs := false }) only [↓GP, GQ, ↓awp_seq, ↓awp_block, C_ex, Nat.reduceBEq, acap, afieldAddr, aload, astore, abin, anum, astr, aun, isAggD, cond_true, cond_false, ↓reduceIte, C_P, C_G, isTuple, Value.cells, setL, ares, aresL, ares1, reduceCtorEq, Nat.reduceEqDiff, eq_self, Nat.reduceAdd, if_true, if_false, one, Nat.reduceLeDiff, undef, gsl, aextract, aindexAddr, amake, implies_true, forall_const, alen, abuiltin, anil, isC, Int.reduceEq, Int.reduceLT, Int.reduceLE, Int.reduceAdd, Int.reduceToNat, Int.reduceNeg, Nat.reduceMul, Nat.reduceSub, abuild, afill, Int.reduceBNe, Int.reduceBEq, hvs, Try.underlying22, Try.underlying3]
  refine ⟨fun m ρ s => ∃ (at_ f gen : Nat) (qs : List (Value × List Nat)) (ov : Value) (ho hr : Hp), m = ps.length - at_ ∧ at_ ≤ ps.length ∧ ρ 0 = v ∧ ρ 5 = ov ∧ ρ 6 = .int .i64 gen ∧ ρ 7 = .int .i64 at_ ∧ gen < 4294967296 ∧ qs.length ≤ at_ ∧
    ps.length + 1 ≤ f + at_ ∧ halfF f (ps.map (·.2)) gen (qs.map (·.2)) at_ = halfM (ps.map (·.2)) ∧ GVc ov (qs.map (·.1)) qs.length 1 23 ho ∧ (∀ q ∈ qs, Nb hr q.1 q.2) ∧ Own s (ho ++ (hr ++ r)),
    ⟨ps.length, 0, ps.length + 1, 0, [], _, [], [], rfl, Nat.zero_le _, hvs.symm, rfl, rfl, rfl, by decide, Nat.le_refl _, Nat.le_refl _, by rw [halfM, List.length_map]; rfl, GVc.nil, by simp, hO⟩, ?_⟩
  rintro m ρ s ⟨at_, f, gen, qs, ov, ho, hr, rfl, hat, h0, h5, h6, h7, hgen, hql, hf, hF, hG, hQ, hO⟩
  have hsub : ∀ e ∈ r, e ∈ ho ++ (hr ++ r) := fun e he => by simp [he]
  obtain ⟨v2, hv2, hP2, hS2⟩ := (hP.sub hsub).part (t := 22) (lo := some (.int .i64 at_)) (hi := none) (l := at_) (r := ps.length) (hS.sub hsub) hO Try.underlying22 asz23 (fun c hc => abounds_lo hat hc) hat (Nat.le_refl _)
  have e2 : (ps.drop at_).take (ps.length - at_) = ps.drop at_ := List.take_of_length_le (by rw [List.length_drop]; exact Nat.le_refl _)
  rw [e2] at hP2
  obtain ⟨oa, oc, hov⟩ := hG.isSlice
  have hsec : Secs (ho ++ (hr ++ r)) v2 (ps.drop at_) := ⟨hP2, hS2, fun p hp => ⟨(hE p (List.mem_of_mem_drop hp)).1.sub hsub, (hE p (List.mem_of_mem_drop hp)).2⟩⟩
  have hdm : (ps.drop at_).map (·.2) = (ps.map (·.2)).drop at_ := List.map_drop
  simp (config := { implicitDefEqProofs := false }) only [↓GP, GQ, ↓awp_seq, ↓awp_block, C_ex, Nat.reduceBEq, acap, afieldAddr, aload, astore, abin, anum, astr, aun, isAggD, cond_true, cond_false, ↓reduceIte, C_P, C_G, isTuple, Value.cells, setL, ares, aresL, ares1, reduceCtorEq, Nat.reduceEqDiff, eq_self, Nat.reduceAdd, if_true, if_false, one, Nat.reduceLeDiff, undef, gsl, aextract, aindexAddr, amake, implies_true, forall_const, alen, abuiltin, anil, isC, Int.reduceEq, Int.reduceLT, Int.reduceLE, Int.reduceAdd, Int.reduceToNat, Int.reduceNeg, Nat.reduceMul, Nat.reduceSub, abuild, afill, Int.reduceBNe, Int.reduceBEq, h0, h5, h6, h7, hv2, hov, Try.underlying22]
  refine ACallF.enter Try.func51 rfl (by kernel_rfl) (read_spec s _ v2 (ps.drop at_) gen qs.length hsec (by rw [List.length_drop]; omega) hgen (by omega) hO _ _ (fun hnone bv g s2 hO2 => ?_) (fun b g bv hb s2 hsome hNb hO2 => ?_))
  · rw [hdm] at hnone
    rw [halfF_stop (by rw [List.length_map]; exact hnone)] at hF
    simp (config := { implicitDefEqProofs := false }) only [↓GP, GQ, ↓awp_seq, ↓awp_block, C_ex, Nat.reduceBEq, acap, afieldAddr, aload, astore, abin, anum, astr, aun, isAggD, cond_true, cond_false, ↓reduceIte, C_P, C_G, isTuple, Value.cells, setL, ares, aresL, ares1, reduceCtorEq, Nat.reduceEqDiff, eq_self, Nat.reduceAdd, if_true, if_false, one, Nat.reduceLeDiff, undef, gsl, aextract, aindexAddr, amake, implies_true, forall_const, alen, abuiltin, anil, isC, Int.reduceEq, Int.reduceLT, Int.reduceLE, Int.reduceAdd, Int.reduceToNat, Int.reduceNeg, Nat.reduceMul, Nat.reduceSub, abuild, afill, Int.reduceBNe, Int.reduceBEq, h0, h5, h6, h7, hov, Try.underlying22]
    rw [← hov]
    have e1 := congrArg Prod.fst hF
    have e2 := congrArg (fun x => x.2.1) hF
    have e3 := congrArg (fun x => x.2.2) hF
    simp only at e1 e2 e3
    have hk := hk ov (ho ++ hr) s2 ⟨qs, e2, (hG.ps rfl asz23 hQ).1, (hG.ps rfl asz23 hQ).2⟩ (by rw [List.append_assoc]; exact hO2)
    rw [← e1, ← e3] at hk
    exact hk
  · rw [hdm] at hsome
    obtain ⟨s1, s2', s3, s4, s5, s6⟩ := readM_some (fun s hs => h64 s (List.mem_of_mem_drop hs)) hsome
    rw [List.length_drop, List.length_map] at s2' s6
    obtain ⟨ba, bc, hbv⟩ := hNb.isSlice
    simp (config := { implicitDefEqProofs := false }) only [↓GP, GQ, ↓awp_seq, ↓awp_block, C_ex, Nat.reduceBEq, acap, afieldAddr, aload, astore, abin, anum, astr, aun, isAggD, cond_true, cond_false, ↓reduceIte, C_P, C_G, isTuple, Value.cells, setL, ares, aresL, ares1, reduceCtorEq, Nat.reduceEqDiff, eq_self, Nat.reduceAdd, if_true, if_false, one, Nat.reduceLeDiff, undef, gsl, aextract, aindexAddr, amake, implies_true, forall_const, alen, abuiltin, anil, isC, Int.reduceEq, Int.reduceLT, Int.reduceLE, Int.reduceAdd, Int.reduceToNat, Int.reduceNeg, Nat.reduceMul, Nat.reduceSub, abuild, afill, Int.reduceBNe, Int.reduceBEq, h0, h5, h6, h7, hov, hbv, Try.underlying22]
    have hb1 := abuildSlice_one (st := s2) (v := .slice ba b.length bc) Try.underlying22 asz23 azc23 rfl rfl rfl (by decide)
    simp (config := { implicitDefEqProofs := false }) only [↓GP, GQ, ↓awp_seq, ↓awp_block, C_ex, Nat.reduceBEq, acap, afieldAddr, aload, astore, abin, anum, astr, aun, isAggD, cond_true, cond_false, ↓reduceIte, C_P, C_G, isTuple, Value.cells, setL, ares, aresL, ares1, reduceCtorEq, Nat.reduceEqDiff, eq_self, Nat.reduceAdd, if_true, if_false, one, Nat.reduceLeDiff, undef, gsl, aextract, aindexAddr, amake, implies_true, forall_const, alen, abuiltin, anil, isC, Int.reduceEq, Int.reduceLT, Int.reduceLE, Int.reduceAdd, Int.reduceToNat, Int.reduceNeg, Nat.reduceMul, Nat.reduceSub, abuild, afill, Int.reduceBNe, Int.reduceBEq, h0, h5, h6, h7, hov, hbv, Try.underlying22, hb1]
    rw [← hov]
    have hO3 : Own s2 (ho ++ ((hb ++ hr) ++ r)) := hO2.perm (by simpa using perm_of [hb, ho, hr, r] [0, 1, 2, 3] [1, 0, 2, 3] rfl)
    refine GVc.append1 (c := [.slice ba b.length bc]) Try.underlying22 (by rw [Try.underlying22]; rfl) asz23 azc23 aby23 hG hO3 rfl rfl (by omega) fun v7 h7' s7 hG7 hO7 => ?_
    have hO7' : Own s7 (h7' ++ ((hb ++ hr) ++ r)) := hO7
    obtain ⟨a7, c7, hv7⟩ := hG7.isSlice
    simp (config := { implicitDefEqProofs := false }) only [↓GP, GQ, ↓awp_seq, ↓awp_block, C_ex, Nat.reduceBEq, acap, afieldAddr, aload, astore, abin, anum, astr, aun, isAggD, cond_true, cond_false, ↓reduceIte, C_P, C_G, isTuple, Value.cells, setL, ares, aresL, ares1, reduceCtorEq, Nat.reduceEqDiff, eq_self, Nat.reduceAdd, if_true, if_false, one, Nat.reduceLeDiff, undef, gsl, aextract, aindexAddr, amake, implies_true, forall_const, alen, abuiltin, anil, isC, Int.reduceEq, Int.reduceLT, Int.reduceLE, Int.reduceAdd, Int.reduceToNat, Int.reduceNeg, Nat.reduceMul, Nat.reduceSub, abuild, afill, Int.reduceBNe, Int.reduceBEq, h0, h5, h6, h7, hbv, Try.underlying23]
    refine ACallF.enter Try.func38 rfl (by kernel_rfl) (need_spec s7 b.length (by omega) _ _ ?_)
    simp (config := { implicitDefEqProofs := false }) only [↓GP, GQ, ↓awp_seq, ↓awp_block, C_ex, Nat.reduceBEq, acap, afieldAddr, aload, astore, abin, anum, astr, aun, isAggD, cond_true, cond_false, ↓reduceIte, C_P, C_G, isTuple, Value.cells, setL, ares, aresL, ares1, reduceCtorEq, Nat.reduceEqDiff, eq_self, Nat.reduceAdd, if_true, if_false, one, Nat.reduceLeDiff, undef, gsl, aextract, aindexAddr, amake, implies_true, forall_const, alen, abuiltin, anil, isC, Int.reduceEq, Int.reduceLT, Int.reduceLE, Int.reduceAdd, Int.reduceToNat, Int.reduceNeg, Nat.reduceMul, Nat.reduceSub, abuild, afill, Int.reduceBNe, Int.reduceBEq, h0, h5, h6, h7, hbv, Try.underlying23, Try.underlying3]
    obtain ⟨f', rfl⟩ : ∃ f', f = f' + 1 := ⟨f - 1, by omega⟩
    rw [halfF, List.length_map, hsome] at hF
    refine ⟨ps.length - (at_ + 1 + needN b.length), by omega, at_ + 1 + needN b.length, f', g, qs ++ [(bv, b)], v7, h7', hb ++ hr, rfl, by omega, rfl, rfl, ?_, s3, by simp; omega, by omega, by rw [List.map_append]; exact hF, ?_, fun q hq => ?_, hO7'⟩
    · rw [w_i64 (x := (at_ : Int) + 1) (by omega), w_i64 (by omega)]; rfl
    · rw [List.map_append, List.length_append, List.map_singleton, hbv]
      exact hG7
    · rcases List.mem_append.1 hq with h | h
      · exact (hQ q h).sub fun e he => List.mem_append_right _ he
      · simp at h
        subst h
        exact hNb.sub fun e he => List.mem_append_left _ he
end Go.Proofs.Ytiooigkcliomlaa
