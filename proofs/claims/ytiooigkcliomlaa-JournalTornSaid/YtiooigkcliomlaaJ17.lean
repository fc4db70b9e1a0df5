/- Sectors are made nought. No conditions. -/
import Derived.Test.YtiooigkcliomlaaJ16
set_option linter.unusedVariables false
set_option linter.unusedSimpArgs false
namespace Go.Proofs.Ytiooigkcliomlaa
open Go Go.Abs Go.RowKit
variable {base : Nat} {w0 : World} {G : Nat}

/-- What a fuse may be. -/
def FZ (fz : Int) : Prop := -1 ≤ fz ∧ fz ≤ 9223372036854775807
theorem FZ.dec {fz : Int} (h : FZ fz) : FZ (dec1 fz) := by unfold FZ dec1 at *; split <;> omega
theorem dec_none : dec1 (-1) = -1 := rfl
/-- What a fuse is behind calls that went well. -/
def Spent (fz fz' : Int) : Prop := FZ fz' ∧ (fz = -1 → fz' = -1) ∧ (fz ≠ -1 → fz' ≠ -1)
theorem Spent.refl {fz : Int} (h : FZ fz) : Spent fz fz := ⟨h, id, id⟩
theorem Spent.dec {fz fz' : Int} (h : Spent fz fz') (h0 : fz' ≠ 0) : Spent fz (dec1 fz') := by
  obtain ⟨h1, h2, h3⟩ := h
  refine ⟨h1.dec, fun e => by rw [h2 e]; rfl, fun e => ?_⟩
  have := h3 e
  unfold dec1 FZ at *
  split <;> omega
/-- The writes of noughts, from a sector on, so many sectors. -/
def noughtF (S : List (List Nat)) (all : Bool) (a : Nat) : Nat → List LN
  | 0 => []
  | k + 1 => noughtF S all a k ++ (if all = true ∨ S.getD (a + k) [] ≠ nought64 then [(a + k, nought64)] else [])
theorem noughtF_length (S : List (List Nat)) (all : Bool) (a : Nat) : ∀ k, (noughtF S all a k).length ≤ k
  | 0 => Nat.le_refl _
  | k + 1 => by
    have := noughtF_length S all a k
    unfold noughtF
    rw [List.length_append]
    split <;> simp <;> omega
theorem noughtF_lt (S : List (List Nat)) (all : Bool) (a : Nat) : ∀ k, ∀ w ∈ noughtF S all a k, w.1 < a + k
  | 0 => by simp [noughtF]
  | k + 1 => by
    intro w hw
    unfold noughtF at hw
    rcases List.mem_append.1 hw with h | h
    · have := noughtF_lt S all a k w h; omega
    · split at h
      · simp at h; subst h; simp only; omega
      · simp at h
theorem readN_miss (o : List Nat) (L : List LN) (a : Nat) (h : ∀ w ∈ L, w.1 ≠ a) : readN o L a = o := by
  induction L generalizing o with
  | nil => rfl
  | cons w r ih =>
    show readN (if w.1 = a then w.2 else o) r a = o
    rw [if_neg (h w (by simp))]
    exact ih o fun w' hw' => h w' (by simp [hw'])
set_option maxRecDepth 10000 in
theorem nought_spec (st : St) (r h : Hp) (p : Nat) (S : List (List Nat)) (fz : Int) (a n : Nat) (all : Bool) (hD : DN p S [] fz h) (hO : Own st (h ++ r)) (hfz : FZ fz) (hn : a + n ≤ S.length) (hS : S.length ≤ 5000) (hall : all = true → n ≠ 0) (k q : Value → St → Prop)
    (hpow : ∀ j h' st', fz ≠ -1 → j ≤ n → DN p S (noughtF S all a j) 0 h' → Own st' (h' ++ r) → k (.int .i64 50) st')
    (hok : ∀ fz' h' st', Spent fz fz' → DN p (appN S (noughtF S all a n)) [] fz' h' → Own st' (h' ++ r) → k (.int .i64 0) st') :
    ACall (C base w0 G) 34 [.pointer (some ⟨p, 0, none⟩), .int .i64 a, .int .i64 (a + n : Nat), .bool all] st k q := by
  refine ACall.of (cx := C base w0 G) mixed Try.func34 rfl (by kernel_rfl) (by simp [Try.ntmps34]) ?_
  simp only [Try.results34]
  simp (config := { implicitDefEqProofs := false }) only [↓GP, GQ, ↓awp_seq, ↓awp_block, C_ex, Nat.reduceBEq, acap, afieldAddr, aload, astore, abin, anum, astr, aun, isAggD, cond_true, cond_false, ↓reduceIte, C_P, C_G, isTuple, Value.cells, setL, ares, aresL, ares1, reduceCtorEq, Nat.reduceEqDiff, eq_self, Nat.reduceAdd, if_true, if_false, one, Nat.reduceLeDiff, undef, gsl, aextract, aindexAddr, amake, implies_true, forall_const, alen, abuiltin, anil, isC, Int.reduceEq, Int.reduceLT, Int.reduceLE, Int.reduceAdd, Int.reduceToNat, Int.reduceNeg, Nat.reduceMul, Nat.reduceSub, abuild, afill, Int.reduceBNe, Int.reduceBEq, Try.underlying23, asz5, azc5, aby5]
  have hO1 := (hO.new (.cells (zeros [.int .u8 0] 64) 5 true)).perm (perm_front h _ r).symm
  rw [zeros_nl] at hO1
  refine ⟨by decide, fun m ρ s => ∃ (j z : Nat) (fz' : Int) (h : Hp), m = n - j ∧ j ≤ n ∧ ρ 0 = .pointer (some ⟨p, 0, none⟩) ∧ ρ 2 = .int .i64 (a + n : Nat) ∧ ρ 3 = .bool all ∧ ρ 9 = .slice (some ⟨z, 0, none⟩) 64 64 ∧ ρ 10 = .bool (all || !(noughtF S all a j).isEmpty) ∧ ρ 11 = .int .i64 (a + j : Nat) ∧
    Spent fz fz' ∧ DN p S (noughtF S all a j) fz' h ∧ Own s (h ++ ((z, .cells (nl nought64) 5 true) :: r)), ⟨n, 0, st.n, fz, h, rfl, Nat.zero_le _, rfl, rfl, rfl, rfl, ?_, rfl, Spent.refl hfz, hD, hO1⟩, ?_⟩
  · cases all <;> rfl
  rintro m ρ s ⟨j, z, fz', h', rfl, hj, h0, h2, h3, h9, h10, h11, hsp, hD', hO'⟩
  have hNb : Nb ((z, Ob.cells (nl nought64) 5 true) :: r) (.slice (some ⟨z, 0, none⟩) 64 64) nought64 := nb_exact (l := nought64) (c := 64) (ty := 5) (own := true) (by simp) nought_sec.2
  have hLl : (noughtF S all a j).length ≤ 1000000 := Nat.le_trans (noughtF_length S all a j) (by omega)
  by_cases hjn : j < n
  · simp (config := { implicitDefEqProofs := false }) only [↓GP, GQ, ↓awp_seq, ↓awp_block, C_ex, Nat.reduceBEq, acap, afieldAddr, aload, astore, abin, anum, astr, aun, isAggD, cond_true, cond_false, ↓reduceIte, C_P, C_G, isTuple, Value.cells, setL, ares, aresL, ares1, reduceCtorEq, Nat.reduceEqDiff, eq_self, Nat.reduceAdd, if_true, if_false, one, Nat.reduceLeDiff, undef, gsl, aextract, aindexAddr, amake, implies_true, forall_const, alen, abuiltin, anil, isC, Int.reduceEq, Int.reduceLT, Int.reduceLE, Int.reduceAdd, Int.reduceToNat, Int.reduceNeg, Nat.reduceMul, Nat.reduceSub, abuild, afill, Int.reduceBNe, Int.reduceBEq, h0, h2, h3, h9, h10, h11, show ((a + j : Nat) : Int) < ((a + n : Nat) : Int) by omega, decide_true]
    refine ReadN s _ h' p S _ fz' (a + j : Nat) hD' hO' hLl _ _ (fun hh => absurd ⟨by omega, by omega⟩ hh) fun b s2 _ _ hsec hO2 => ?_
    rw [Int.toNat_natCast, readN_miss _ _ _ (fun w hw => by have := noughtF_lt S all a j w hw; omega)] at hO2 hsec
    have hwr : ∀ (s3 : St) (hx : Hp), Own s3 (h' ++ ((z, .cells (nl nought64) 5 true) :: r)) → True := fun _ _ _ => trivial
    have step : noughtF S all a (j + 1) = noughtF S all a j ++ (if all = true ∨ S.getD (a + j) [] ≠ nought64 then [(a + j, nought64)] else []) := rfl
    have next : ∀ (s3 : St), IntKind.i64.wrap (((a + j : Nat) : Int) + 1) = ((a + (j + 1) : Nat) : Int) := fun _ => by rw [w_i64 (by omega)]; omega
    have hO2' : Own s2 (h' ++ ((b, .cells (nl (S.getD (a + j) [])) 5 true) :: ((z, .cells (nl nought64) 5 true) :: r))) := hO2.perm (perm_front h' _ _).symm
    have hNb' : Nb ((b, .cells (nl (S.getD (a + j) [])) 5 true) :: ((z, Ob.cells (nl nought64) 5 true) :: r)) (.slice (some ⟨z, 0, none⟩) 64 64) nought64 := hNb.sub fun e he => List.mem_cons_of_mem _ he
    have write : (all = true ∨ S.getD (a + j) [] ≠ nought64) → ∀ K : Value → St → Prop,
        (∀ s3 h3, fz ≠ -1 → DN p S (noughtF S all a j) 0 h3 → Own s3 (h3 ++ r) → K (.int .i64 50) s3) →
        (∀ s3 h3 fz3, Spent fz fz3 → DN p S (noughtF S all a (j + 1)) fz3 h3 → Own s3 (h3 ++ ((z, .cells (nl nought64) 5 true) :: r)) → K (.int .i64 0) s3) →
        ACallF (C base w0 G) 18 [.pointer (some ⟨p, 0, none⟩), .int .i64 (a + j : Nat), .slice (some ⟨z, 0, none⟩) 64 64] s2 K q := by
      intro hc K k1 k2
      rw [if_pos hc] at step
      refine WriteN s2 _ h' p S _ fz' (a + j : Nat) _ nought64 hD' hO2' hNb' hsp.1.2 hLl _ _ (fun hh => absurd ⟨by omega, by omega, rfl⟩ hh) (fun _ _ _ hz => ?_) (fun h3 s3 _ _ _ hz hD3 hO3 => ?_)
      · subst hz
        refine k1 s2 h' (fun e => ?_) hD' (hO2'.sub (List.Sublist.append_left ((List.sublist_cons_self _ r).trans (List.sublist_cons_self _ _)) _))
        have := hsp.2.1 e
        omega
      · rw [Int.toNat_natCast, ← step] at hD3
        exact k2 s3 h3 _ (hsp.dec hz) hD3 (hO3.sub (List.Sublist.append_left (List.sublist_cons_self _ _) _))
    have wnext : IntKind.i64.wrap (((a + j : Nat) : Int) + 1) = ((a + (j + 1) : Nat) : Int) := by rw [w_i64 (by omega)]; omega
    have goon : ∀ s3 h3 fz3, (all = true ∨ S.getD (a + j) [] ≠ nought64) → Spent fz fz3 → DN p S (noughtF S all a (j + 1)) fz3 h3 → Own s3 (h3 ++ ((z, .cells (nl nought64) 5 true) :: r)) → True := fun _ _ _ _ _ _ _ => trivial
    have hany : (all = true ∨ S.getD (a + j) [] ≠ nought64) → (all || !(noughtF S all a (j + 1)).isEmpty) = true := fun hc => by
      rw [step, if_pos hc]
      simp
    cases all with
    | true =>
      simp (config := { implicitDefEqProofs := false }) only [↓GP, GQ, ↓awp_seq, ↓awp_block, C_ex, Nat.reduceBEq, acap, afieldAddr, aload, astore, abin, anum, astr, aun, isAggD, cond_true, cond_false, ↓reduceIte, C_P, C_G, isTuple, Value.cells, setL, ares, aresL, ares1, reduceCtorEq, Nat.reduceEqDiff, eq_self, Nat.reduceAdd, if_true, if_false, one, Nat.reduceLeDiff, undef, gsl, aextract, aindexAddr, amake, implies_true, forall_const, alen, abuiltin, anil, isC, Int.reduceEq, Int.reduceLT, Int.reduceLE, Int.reduceAdd, Int.reduceToNat, Int.reduceNeg, Nat.reduceMul, Nat.reduceSub, abuild, afill, Int.reduceBNe, Int.reduceBEq, h0, h2, h3, h9, h10, h11]
      refine write (.inl rfl) _ (fun s3 hx hne hD3 hO3 => ?_) (fun s3 hx fz3 hs3 hD3 hO3 => ?_)
      · simp (config := { implicitDefEqProofs := false }) only [↓GP, GQ, ↓awp_seq, ↓awp_block, C_ex, Nat.reduceBEq, acap, afieldAddr, aload, astore, abin, anum, astr, aun, isAggD, cond_true, cond_false, ↓reduceIte, C_P, C_G, isTuple, Value.cells, setL, ares, aresL, ares1, reduceCtorEq, Nat.reduceEqDiff, eq_self, Nat.reduceAdd, if_true, if_false, one, Nat.reduceLeDiff, undef, gsl, aextract, aindexAddr, amake, implies_true, forall_const, alen, abuiltin, anil, isC, Int.reduceEq, Int.reduceLT, Int.reduceLE, Int.reduceAdd, Int.reduceToNat, Int.reduceNeg, Nat.reduceMul, Nat.reduceSub, abuild, afill, Int.reduceBNe, Int.reduceBEq, h0, h2, h3, h9, h10, h11, Try.underlying27]
        exact hpow j hx s3 hne (by omega) hD3 hO3
      · simp (config := { implicitDefEqProofs := false }) only [↓GP, GQ, ↓awp_seq, ↓awp_block, C_ex, Nat.reduceBEq, acap, afieldAddr, aload, astore, abin, anum, astr, aun, isAggD, cond_true, cond_false, ↓reduceIte, C_P, C_G, isTuple, Value.cells, setL, ares, aresL, ares1, reduceCtorEq, Nat.reduceEqDiff, eq_self, Nat.reduceAdd, if_true, if_false, one, Nat.reduceLeDiff, undef, gsl, aextract, aindexAddr, amake, implies_true, forall_const, alen, abuiltin, anil, isC, Int.reduceEq, Int.reduceLT, Int.reduceLE, Int.reduceAdd, Int.reduceToNat, Int.reduceNeg, Nat.reduceMul, Nat.reduceSub, abuild, afill, Int.reduceBNe, Int.reduceBEq, h0, h2, h3, h9, h10, h11, Try.underlying27, Try.underlying3, wnext]
        exact ⟨n - (j + 1), by omega, j + 1, z, fz3, hx, rfl, by omega, rfl, rfl, rfl, hs3, hD3, hO3⟩
    | false =>
      simp (config := { implicitDefEqProofs := false }) only [↓GP, GQ, ↓awp_seq, ↓awp_block, C_ex, Nat.reduceBEq, acap, afieldAddr, aload, astore, abin, anum, astr, aun, isAggD, cond_true, cond_false, ↓reduceIte, C_P, C_G, isTuple, Value.cells, setL, ares, aresL, ares1, reduceCtorEq, Nat.reduceEqDiff, eq_self, Nat.reduceAdd, if_true, if_false, one, Nat.reduceLeDiff, undef, gsl, aextract, aindexAddr, amake, implies_true, forall_const, alen, abuiltin, anil, isC, Int.reduceEq, Int.reduceLT, Int.reduceLE, Int.reduceAdd, Int.reduceToNat, Int.reduceNeg, Nat.reduceMul, Nat.reduceSub, abuild, afill, Int.reduceBNe, Int.reduceBEq, h0, h2, h3, h9, h10, h11]
      have hbN : Nb ((b, .cells (nl (S.getD (a + j) [])) 5 true) :: (h' ++ ((z, .cells (nl nought64) 5 true) :: r))) (.slice (some ⟨b, 0, some 0⟩) 64 64) (S.getD (a + j) []) := by
        have := nb_exact (b := b) (l := S.getD (a + j) []) (c := 64) (sp := some 0) (ty := 5) (own := true) (h := (b, .cells (nl (S.getD (a + j) [])) 5 true) :: (h' ++ ((z, .cells (nl nought64) 5 true) :: r))) (by simp) hsec.2
        rw [hsec.1] at this
        exact this
      refine ACallF.enter Try.func48 rfl (by kernel_rfl) (Equal_spec s2 _ _ _ _ _ hbN (hNb.sub fun e he => List.mem_cons_of_mem _ (List.mem_append_right _ he)) hO2 _ _ ?_)
      by_cases hE : S.getD (a + j) [] = nought64
      · rw [decide_eq_true hE]
        simp (config := { implicitDefEqProofs := false }) only [↓GP, GQ, ↓awp_seq, ↓awp_block, C_ex, Nat.reduceBEq, acap, afieldAddr, aload, astore, abin, anum, astr, aun, isAggD, cond_true, cond_false, ↓reduceIte, C_P, C_G, isTuple, Value.cells, setL, ares, aresL, ares1, reduceCtorEq, Nat.reduceEqDiff, eq_self, Nat.reduceAdd, if_true, if_false, one, Nat.reduceLeDiff, undef, gsl, aextract, aindexAddr, amake, implies_true, forall_const, alen, abuiltin, anil, isC, Int.reduceEq, Int.reduceLT, Int.reduceLE, Int.reduceAdd, Int.reduceToNat, Int.reduceNeg, Nat.reduceMul, Nat.reduceSub, abuild, afill, Int.reduceBNe, Int.reduceBEq, h0, h2, h3, h9, h10, h11, Try.underlying27, Try.underlying3, wnext]
        rw [if_neg (fun h => h.elim (by simp) fun h => h hE), List.append_nil] at step
        exact ⟨n - (j + 1), by omega, j + 1, z, fz', h', rfl, by omega, rfl, by rw [step], rfl, hsp, by rw [step]; exact hD', hO2'.sub (List.Sublist.append_left (List.sublist_cons_self _ _) _)⟩
      · rw [decide_eq_false hE]
        simp (config := { implicitDefEqProofs := false }) only [↓GP, GQ, ↓awp_seq, ↓awp_block, C_ex, Nat.reduceBEq, acap, afieldAddr, aload, astore, abin, anum, astr, aun, isAggD, cond_true, cond_false, ↓reduceIte, C_P, C_G, isTuple, Value.cells, setL, ares, aresL, ares1, reduceCtorEq, Nat.reduceEqDiff, eq_self, Nat.reduceAdd, if_true, if_false, one, Nat.reduceLeDiff, undef, gsl, aextract, aindexAddr, amake, implies_true, forall_const, alen, abuiltin, anil, isC, Int.reduceEq, Int.reduceLT, Int.reduceLE, Int.reduceAdd, Int.reduceToNat, Int.reduceNeg, Nat.reduceMul, Nat.reduceSub, abuild, afill, Int.reduceBNe, Int.reduceBEq, h0, h2, h3, h9, h10, h11]
        refine write (.inr hE) _ (fun s3 hx hne hD3 hO3 => ?_) (fun s3 hx fz3 hs3 hD3 hO3 => ?_)
        · simp (config := { implicitDefEqProofs := false }) only [↓GP, GQ, ↓awp_seq, ↓awp_block, C_ex, Nat.reduceBEq, acap, afieldAddr, aload, astore, abin, anum, astr, aun, isAggD, cond_true, cond_false, ↓reduceIte, C_P, C_G, isTuple, Value.cells, setL, ares, aresL, ares1, reduceCtorEq, Nat.reduceEqDiff, eq_self, Nat.reduceAdd, if_true, if_false, one, Nat.reduceLeDiff, undef, gsl, aextract, aindexAddr, amake, implies_true, forall_const, alen, abuiltin, anil, isC, Int.reduceEq, Int.reduceLT, Int.reduceLE, Int.reduceAdd, Int.reduceToNat, Int.reduceNeg, Nat.reduceMul, Nat.reduceSub, abuild, afill, Int.reduceBNe, Int.reduceBEq, h0, h2, h3, h9, h10, h11, Try.underlying27]
          exact hpow j hx s3 hne (by omega) hD3 hO3
        · simp (config := { implicitDefEqProofs := false }) only [↓GP, GQ, ↓awp_seq, ↓awp_block, C_ex, Nat.reduceBEq, acap, afieldAddr, aload, astore, abin, anum, astr, aun, isAggD, cond_true, cond_false, ↓reduceIte, C_P, C_G, isTuple, Value.cells, setL, ares, aresL, ares1, reduceCtorEq, Nat.reduceEqDiff, eq_self, Nat.reduceAdd, if_true, if_false, one, Nat.reduceLeDiff, undef, gsl, aextract, aindexAddr, amake, implies_true, forall_const, alen, abuiltin, anil, isC, Int.reduceEq, Int.reduceLT, Int.reduceLE, Int.reduceAdd, Int.reduceToNat, Int.reduceNeg, Nat.reduceMul, Nat.reduceSub, abuild, afill, Int.reduceBNe, Int.reduceBEq, h0, h2, h3, h9, h10, h11, Try.underlying27, Try.underlying3, wnext]
          exact ⟨n - (j + 1), by omega, j + 1, z, fz3, hx, rfl, by omega, rfl, by have := hany (.inr hE); rw [Bool.false_or] at this; rw [this], rfl, hs3, hD3, hO3⟩
  · obtain rfl : j = n := by omega
    simp (config := { implicitDefEqProofs := false }) only [↓GP, GQ, ↓awp_seq, ↓awp_block, C_ex, Nat.reduceBEq, acap, afieldAddr, aload, astore, abin, anum, astr, aun, isAggD, cond_true, cond_false, ↓reduceIte, C_P, C_G, isTuple, Value.cells, setL, ares, aresL, ares1, reduceCtorEq, Nat.reduceEqDiff, eq_self, Nat.reduceAdd, if_true, if_false, one, Nat.reduceLeDiff, undef, gsl, aextract, aindexAddr, amake, implies_true, forall_const, alen, abuiltin, anil, isC, Int.reduceEq, Int.reduceLT, Int.reduceLE, Int.reduceAdd, Int.reduceToNat, Int.reduceNeg, Nat.reduceMul, Nat.reduceSub, abuild, afill, Int.reduceBNe, Int.reduceBEq, h0, h2, h3, h9, h10, h11, show ¬ ((a + j : Nat) : Int) < ((a + j : Nat) : Int) by omega, decide_false]
    cases hb : (all || !(noughtF S all a j).isEmpty) with
    | true =>
      simp (config := { implicitDefEqProofs := false }) only [↓GP, GQ, ↓awp_seq, ↓awp_block, C_ex, Nat.reduceBEq, acap, afieldAddr, aload, astore, abin, anum, astr, aun, isAggD, cond_true, cond_false, ↓reduceIte, C_P, C_G, isTuple, Value.cells, setL, ares, aresL, ares1, reduceCtorEq, Nat.reduceEqDiff, eq_self, Nat.reduceAdd, if_true, if_false, one, Nat.reduceLeDiff, undef, gsl, aextract, aindexAddr, amake, implies_true, forall_const, alen, abuiltin, anil, isC, Int.reduceEq, Int.reduceLT, Int.reduceLE, Int.reduceAdd, Int.reduceToNat, Int.reduceNeg, Nat.reduceMul, Nat.reduceSub, abuild, afill, Int.reduceBNe, Int.reduceBEq]
      have hO'' := hO'.sub (List.Sublist.append_left (List.sublist_cons_self _ r) h')
      refine SyncN s r h' p S _ fz' hD' hO'' hsp.1.2 hLl _ _ (fun hz => ?_) (fun h5 s5 hz hD5 hO5 => ?_)
      · simp (config := { implicitDefEqProofs := false }) only [↓GP, GQ, ↓awp_seq, ↓awp_block, C_ex, Nat.reduceBEq, acap, afieldAddr, aload, astore, abin, anum, astr, aun, isAggD, cond_true, cond_false, ↓reduceIte, C_P, C_G, isTuple, Value.cells, setL, ares, aresL, ares1, reduceCtorEq, Nat.reduceEqDiff, eq_self, Nat.reduceAdd, if_true, if_false, one, Nat.reduceLeDiff, undef, gsl, aextract, aindexAddr, amake, implies_true, forall_const, alen, abuiltin, anil, isC, Int.reduceEq, Int.reduceLT, Int.reduceLE, Int.reduceAdd, Int.reduceToNat, Int.reduceNeg, Nat.reduceMul, Nat.reduceSub, abuild, afill, Int.reduceBNe, Int.reduceBEq]
        subst hz
        exact hpow j h' s (fun e => by have := hsp.2.1 e; omega) (Nat.le_refl _) hD' hO''
      · simp (config := { implicitDefEqProofs := false }) only [↓GP, GQ, ↓awp_seq, ↓awp_block, C_ex, Nat.reduceBEq, acap, afieldAddr, aload, astore, abin, anum, astr, aun, isAggD, cond_true, cond_false, ↓reduceIte, C_P, C_G, isTuple, Value.cells, setL, ares, aresL, ares1, reduceCtorEq, Nat.reduceEqDiff, eq_self, Nat.reduceAdd, if_true, if_false, one, Nat.reduceLeDiff, undef, gsl, aextract, aindexAddr, amake, implies_true, forall_const, alen, abuiltin, anil, isC, Int.reduceEq, Int.reduceLT, Int.reduceLE, Int.reduceAdd, Int.reduceToNat, Int.reduceNeg, Nat.reduceMul, Nat.reduceSub, abuild, afill, Int.reduceBNe, Int.reduceBEq]
        exact hok _ h5 s5 (hsp.dec hz) hD5 hO5
    | false =>
      simp (config := { implicitDefEqProofs := false }) only [↓GP, GQ, ↓awp_seq, ↓awp_block, C_ex, Nat.reduceBEq, acap, afieldAddr, aload, astore, abin, anum, astr, aun, isAggD, cond_true, cond_false, ↓reduceIte, C_P, C_G, isTuple, Value.cells, setL, ares, aresL, ares1, reduceCtorEq, Nat.reduceEqDiff, eq_self, Nat.reduceAdd, if_true, if_false, one, Nat.reduceLeDiff, undef, gsl, aextract, aindexAddr, amake, implies_true, forall_const, alen, abuiltin, anil, isC, Int.reduceEq, Int.reduceLT, Int.reduceLE, Int.reduceAdd, Int.reduceToNat, Int.reduceNeg, Nat.reduceMul, Nat.reduceSub, abuild, afill, Int.reduceBNe, Int.reduceBEq]
      have he : noughtF S all a j = [] := by
        rw [Bool.or_eq_false_iff] at hb
        simpa using hb.2
      rw [he] at hD' hok
      exact hok fz' h' s hsp hD' (hO'.sub (List.Sublist.append_left (List.sublist_cons_self _ r) h'))
end Go.Proofs.Ytiooigkcliomlaa
