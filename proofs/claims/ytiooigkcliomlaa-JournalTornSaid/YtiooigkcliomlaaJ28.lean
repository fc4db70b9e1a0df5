/- A journal opened, and a record more, by what its sectors have; the document's example. No conditions. -/
import Derived.Test.YtiooigkcliomlaaJ27
set_option linter.unusedVariables false
set_option linter.unusedSimpArgs false
namespace Go.Proofs.Ytiooigkcliomlaa
open Go Go.Abs Go.RowKit
variable {base : Nat} {w0 : World} {G : Nat}

/-- A journal's block. -/
def JB (jp p : Nat) (T : List (List Nat)) (w g : Nat) (recs : List (List Nat)) (pl : Bool) : Nat × Ob := (jp, jc p (T.length / 2) w g recs.length (lay g recs).length pl)
def Opens (T : List (List Nat)) (w g : Nat) (recs : List (List Nat)) : Prop := ∃ T3, openM T = (w, g, recs, (lay g recs).length, T3) ∧ JI T3 w g recs ∧ T3.length = T.length
theorem OpenJ (st : St) (r h : Hp) (p : Nat) (S : List (List Nat)) (L : List LN) {w g : Nat} {recs : List (List Nat)} (hop : Opens (appN S L) w g recs) (hD : DN p S L (-1) h) (hO : Own st (h ++ r)) (h4 : 4 ≤ S.length) (hS : S.length ≤ 1500) (hL : L.length ≤ 1000000) (k q : Value → St → Prop)
    (hk : ∀ jp sv rv h' H T st', JI T w g recs → T.length = S.length → DN p T [] (-1) h' → Nb H sv (recs.headD []) → Recs H rv recs.tail → Own st' (JB jp p T w g recs false :: (h' ++ (H ++ r))) → k (.tuple #[.pointer (some ⟨jp, 0, none⟩), sv, rv, .int .i64 0]) st') :
    ACallF (C base w0 G) 10 [.pointer (some ⟨p, 0, none⟩)] st k q := by
  obtain ⟨T3, e1, e2, e3⟩ := hop
  rw [appN_length] at e3
  refine Open_spec st r h p S L hD hO h4 hS hL k q fun jp sv rv h' H st' hD' hN hR hO' => ?_
  rw [e1] at hD' hN hR hO'
  refine hk jp sv rv h' H T3 st' e2 e3 hD' hN hR ?_
  unfold JB
  rw [e3]
  exact hO'
theorem AppendJ (st : St) (r h : Hp) (jp p : Nat) (T : List (List Nat)) (w g : Nat) (recs : List (List Nat)) (fz : Int) (bv : Value) (l : List Nat) (hJ : JI T w g recs) (hD : DN p T [] fz h) (hO : Own st (JB jp p T w g recs false :: (h ++ r))) (hb : Nb r bv l) (hfz : FZ fz)
    (hS : T.length ≤ 1500) (hl : l.length ≤ 1000000000) (k q : Value → St → Prop)
    (hlong : 262144 < l.length → k (.int .i64 12) st)
    (hfull : l.length ≤ 262144 → ¬ (1 + needN l.length ≤ T.length / 2 - (lay g recs).length) → k (.int .i64 51) st)
    (hpow : ∀ S' L' h' st', l.length ≤ 262144 → 1 + needN l.length ≤ T.length / 2 - (lay g recs).length → fz ≠ -1 → WFail T (w * (T.length / 2) + (lay g recs).length) g recs.length l S' L' → DN p S' L' 0 h' → Own st' (JB jp p T w g recs true :: (h' ++ r)) → k (.int .i64 50) st')
    (hok : ∀ fz' T2 h' st', l.length ≤ 262144 → 1 + needN l.length ≤ T.length / 2 - (lay g recs).length → Spent fz fz' → JI T2 w g (recs ++ [l]) → T2.length = T.length → T2 = wrote T (w * (T.length / 2) + (lay g recs).length) g recs.length l → (lay g (recs ++ [l])).length = (lay g recs).length + 1 + needN l.length → DN p T2 [] fz' h' → Own st' (JB jp p T2 w g (recs ++ [l]) false :: (h' ++ r)) → k (.int .i64 0) st') :
    ACallF (C base w0 G) 11 [.pointer (some ⟨jp, 0, none⟩), bv] st k q := by
  have he := hJ.end_le
  have hge := layF_ge g 0 recs
  have hge : recs.length ≤ (lay g recs).length := hge
  refine Append_spec st r h jp p (T.length / 2) w g recs.length (lay g recs).length false T [] fz bv l hD hO hb (fun _ => rfl) hfz (by omega) (by omega) (by omega) hJ.hw hJ.glt (by omega) hl k q hlong hfull (fun _ _ h => by cases h) (fun S' L' h' st' a1 a2 _ a4 a5 a6 a7 => hpow S' L' h' st' a1 a2 a4 a5 a6 a7) (fun fz' h' st' a1 a2 _ a4 a5 a6 => ?_)
  obtain ⟨b1, b2⟩ := hJ.wrote hb.2 (by omega) a2
  refine hok fz' _ h' st' a1 a2 a4 b1 (wrote_length _ _ _ _ _) rfl b2 a5 ?_
  unfold JB
  rw [wrote_length, b2, List.length_append]
  exact a6
theorem opens_fresh {n : Nat} (hn : 4 ≤ n) : Opens (noughts n) 0 1 [[]] := by
  obtain ⟨T1, e1, e2, e3, e4⟩ := fresh hn
  exact ⟨T1, by rw [e1, e4], e2, by rw [e3]; simp [noughts]⟩
theorem JI.opens {T : List (List Nat)} {w g : Nat} {recs : List (List Nat)} (h : JI T w g recs) : Opens T w g recs := ⟨T, h.opened, h, rfl⟩
theorem JT.opens {T : List (List Nat)} {w g : Nat} {recs tail : List (List Nat)} (h : JT T w g recs tail) : Opens T w g recs := h.opened
theorem crashN_none (T : List (List Nat)) (a b : Int) : crashN T [] a b = T := by unfold crashN; simp [appN]
set_option maxHeartbeats 1000000 in
set_option maxRecDepth 10000 in
theorem awake_spec (st : St) (r : Hp) (hO : Own st r) (k q : Value → St → Prop) (hk : ∀ st', Own st' r → k (.bool true) st') : ACallF (C base w0 G) 8 [] st k q := by
  refine ACallF.enter Try.func8 rfl (by kernel_rfl) ?_
  refine ACall.of (cx := C base w0 G) mixed Try.func8 rfl (by kernel_rfl) (by simp [Try.ntmps8]) ?_
  simp only [Try.results8]
  simp (config := { implicitDefEqProofs := false }) only [↓GP, GQ, ↓awp_seq, ↓awp_block, C_ex, Nat.reduceBEq, acap, afieldAddr, aload, astore, abin, anum, astr, aun, isAggD, cond_true, cond_false, ↓reduceIte, C_P, C_G, isTuple, Value.cells, setL, ares, aresL, ares1, reduceCtorEq, Nat.reduceEqDiff, eq_self, Nat.reduceAdd, if_true, if_false, one, Nat.reduceLeDiff, undef, gsl, aextract, aindexAddr, amake, implies_true, forall_const, alen, abuiltin, anil, isC, Int.reduceEq, Int.reduceLT, Int.reduceLE, Int.reduceAdd, Int.reduceToNat, Int.reduceNeg, Nat.reduceMul, Nat.reduceSub, abuild, afill, Int.reduceBNe, Int.reduceBEq]
  refine NewN st r 8 hO _ _ (fun h => absurd (by omega) h) fun p h1 s1 _ _ hD1 hO1 => ?_
  have hD1 : DN p (noughts 8) [] (-1) h1 := hD1
  simp (config := { implicitDefEqProofs := false }) only [↓GP, GQ, ↓awp_seq, ↓awp_block, C_ex, Nat.reduceBEq, acap, afieldAddr, aload, astore, abin, anum, astr, aun, isAggD, cond_true, cond_false, ↓reduceIte, C_P, C_G, isTuple, Value.cells, setL, ares, aresL, ares1, reduceCtorEq, Nat.reduceEqDiff, eq_self, Nat.reduceAdd, if_true, if_false, one, Nat.reduceLeDiff, undef, gsl, aextract, aindexAddr, amake, implies_true, forall_const, alen, abuiltin, anil, isC, Int.reduceEq, Int.reduceLT, Int.reduceLE, Int.reduceAdd, Int.reduceToNat, Int.reduceNeg, Nat.reduceMul, Nat.reduceSub, abuild, afill, Int.reduceBNe, Int.reduceBEq]
  refine OpenJ s1 r h1 p (noughts 8) [] (opens_fresh (by decide)) hD1 hO1 (by decide) (by decide) (by decide) _ _ fun jp sv rv h2 H2 T2 s2 hJ2 hl2 hD2 hN2 hR2 hO2 => ?_
  have hl2 : T2.length = 8 := hl2
  obtain ⟨sa, sc, hsv⟩ := hN2.isSlice
  obtain ⟨qs, hq, hP2, _⟩ := hR2
  have hqe : qs = [] := List.map_eq_nil_iff.1 hq
  subst hqe
  obtain ⟨ra, rc, hrv⟩ : ∃ a c, rv = .slice a 0 c := by
    obtain ⟨a, c, h, _⟩ := hP2.1.isSlice
    exact ⟨a, c, h⟩
  have hsv : sv = .slice sa 0 sc := hsv
  have hb1 := abuildSlice_one (st := s2) (v := .int .u8 97) Try.underlying23 asz5 azc5 rfl rfl rfl (by decide)
  have hO3 : Own _ ((s2.n, Ob.cells [.int .u8 97] 5 true) :: (JB jp p T2 0 1 [[]] false :: (h2 ++ (H2 ++ r)))) := hO2.new _
  have hcv : ∀ s : St, s.H s2.n = some (.cells [.int .u8 97] 5 true) → aconv Try.prog s 23 23 (.slice (some ⟨s2.n, 0, none⟩) 1 1) = some (.slice (some ⟨s2.n, 0, none⟩) 1 1, s) := fun s hs => by
    simp [aconv, Try.underlying23, Try.underlying5, hs, isU8]
  simp (config := { implicitDefEqProofs := false }) only [↓GP, GQ, ↓awp_seq, ↓awp_block, C_ex, Nat.reduceBEq, acap, afieldAddr, aload, astore, abin, anum, astr, aun, isAggD, cond_true, cond_false, ↓reduceIte, C_P, C_G, isTuple, Value.cells, setL, ares, aresL, ares1, reduceCtorEq, Nat.reduceEqDiff, eq_self, Nat.reduceAdd, if_true, if_false, one, Nat.reduceLeDiff, undef, gsl, aextract, aindexAddr, amake, implies_true, forall_const, alen, abuiltin, anil, isC, Int.reduceEq, Int.reduceLT, Int.reduceLE, Int.reduceAdd, Int.reduceToNat, Int.reduceNeg, Nat.reduceMul, Nat.reduceSub, abuild, afill, Int.reduceBNe, Int.reduceBEq, hsv, hrv, hb1, hcv _ hO3.head, Try.underlying22, Try.underlying23, Try.underlying30, Try.underlying27, Try.underlying3]
  have hO3' : Own _ (JB jp p T2 0 1 [[]] false :: (h2 ++ ((s2.n, Ob.cells [.int .u8 97] 5 true) :: (H2 ++ r)))) := hO3.perm (by simpa using perm_of [[(s2.n, Ob.cells [.int .u8 97] 5 true)], [JB jp p T2 0 1 [[]] false], h2, H2 ++ r] [0, 1, 2, 3] [1, 2, 0, 3] rfl)
  have hNa : Nb ((s2.n, Ob.cells [.int .u8 97] 5 true) :: (H2 ++ r)) (.slice (some ⟨s2.n, 0, none⟩) 1 1) [97] := nb_exact (l := [97]) (c := 1) (ty := 5) (own := true) (List.mem_cons_self ..) (by simp)
  refine AppendJ _ _ h2 jp p T2 0 1 [[]] (-1) _ [97] hJ2 hD2 hO3' hNa ⟨by decide, by decide⟩ (by omega) (by decide) _ _ (fun h => absurd h (by decide)) (fun _ h => absurd (by rw [hl2]; decide) h) (fun _ _ _ _ _ _ h => absurd rfl h) (fun fz' T3 h4 s4 _ _ hsp hJ4 hl4 _ _ hD4 hO4 => ?_)
  obtain rfl := hsp.2.1 rfl
  simp (config := { implicitDefEqProofs := false }) only [↓GP, GQ, ↓awp_seq, ↓awp_block, C_ex, Nat.reduceBEq, acap, afieldAddr, aload, astore, abin, anum, astr, aun, isAggD, cond_true, cond_false, ↓reduceIte, C_P, C_G, isTuple, Value.cells, setL, ares, aresL, ares1, reduceCtorEq, Nat.reduceEqDiff, eq_self, Nat.reduceAdd, if_true, if_false, one, Nat.reduceLeDiff, undef, gsl, aextract, aindexAddr, amake, implies_true, forall_const, alen, abuiltin, anil, isC, Int.reduceEq, Int.reduceLT, Int.reduceLE, Int.reduceAdd, Int.reduceToNat, Int.reduceNeg, Nat.reduceMul, Nat.reduceSub, abuild, afill, Int.reduceBNe, Int.reduceBEq, Try.underlying22, Try.underlying23, Try.underlying30, Try.underlying27, Try.underlying3]
  refine CrashN s4 (JB jp p T3 0 1 ([[]] ++ [[97]]) false :: ((s2.n, Ob.cells [.int .u8 97] 5 true) :: (H2 ++ r))) h4 p T3 [] (-1) 0 0 hD4 (hO4.perm (perm_front h4 _ _).symm) (by decide) _ _ fun h5 s5 hD5 hO5 => ?_
  rw [crashN_none] at hD5
  simp (config := { implicitDefEqProofs := false }) only [↓GP, GQ, ↓awp_seq, ↓awp_block, C_ex, Nat.reduceBEq, acap, afieldAddr, aload, astore, abin, anum, astr, aun, isAggD, cond_true, cond_false, ↓reduceIte, C_P, C_G, isTuple, Value.cells, setL, ares, aresL, ares1, reduceCtorEq, Nat.reduceEqDiff, eq_self, Nat.reduceAdd, if_true, if_false, one, Nat.reduceLeDiff, undef, gsl, aextract, aindexAddr, amake, implies_true, forall_const, alen, abuiltin, anil, isC, Int.reduceEq, Int.reduceLT, Int.reduceLE, Int.reduceAdd, Int.reduceToNat, Int.reduceNeg, Nat.reduceMul, Nat.reduceSub, abuild, afill, Int.reduceBNe, Int.reduceBEq, Try.underlying22, Try.underlying23, Try.underlying30, Try.underlying27, Try.underlying3]
  refine OpenJ s5 _ h5 p T3 [] hJ4.opens hD5 hO5 (by omega) (by omega) (by decide) _ _ fun jp6 sv6 rv6 h6 H6 T6 s6 hJ6 hl6 hD6 hN6 hR6 hO6 => ?_
  obtain ⟨sa6, sc6, hsv6⟩ := hN6.isSlice
  obtain ⟨qs6, hq6, hP6, _⟩ := hR6
  obtain ⟨x, hx⟩ : ∃ x, qs6 = [x] := List.length_eq_one_iff.1 (by have := congrArg List.length hq6; simpa using this)
  subst hx
  have hx2 : x.2 = [97] := by simpa using hq6
  obtain ⟨ra6, rc6, hrv6⟩ : ∃ a c, rv6 = .slice a 1 c := by
    obtain ⟨a, c, h, _⟩ := hP6.1.isSlice
    exact ⟨a, c, h⟩
  have hsub6 : ∀ e ∈ H6, e ∈ JB jp6 p T6 0 1 ([[]] ++ [[97]]) false :: (h6 ++ (H6 ++ (JB jp p T3 0 1 ([[]] ++ [[97]]) false :: ((s2.n, Ob.cells [.int .u8 97] 5 true) :: (H2 ++ r))))) := fun e he => by simp [he]
  obtain ⟨B, o, sp, c2, cs, ty, own, hvx, hmem, hget⟩ := (hP6.sub hsub6).at hO6 (by simp)
  have hB := hO6.get hmem
  have g0 := hget 0 x rfl
  rw [Nat.add_zero] at g0
  have hNx := (hP6.2 x (by simp)).sub hsub6
  rw [hx2] at hNx
  have hst := hNx.strP hO6
  have hsv6 : sv6 = .slice sa6 0 sc6 := hsv6
  have hvx : rv6 = .slice (some ⟨B, o, sp⟩) 1 c2 := hvx
  have hE : strOf [(97 : Int)] = { data := #[97] } := rfl
  simp (config := { implicitDefEqProofs := false }) only [↓GP, GQ, ↓awp_seq, ↓awp_block, C_ex, Nat.reduceBEq, acap, afieldAddr, aload, astore, abin, anum, astr, aun, isAggD, cond_true, cond_false, ↓reduceIte, C_P, C_G, isTuple, Value.cells, setL, ares, aresL, ares1, reduceCtorEq, Nat.reduceEqDiff, eq_self, Nat.reduceAdd, if_true, if_false, one, Nat.reduceLeDiff, undef, gsl, aextract, aindexAddr, amake, implies_true, forall_const, alen, abuiltin, anil, isC, Int.reduceEq, Int.reduceLT, Int.reduceLE, Int.reduceAdd, Int.reduceToNat, Int.reduceNeg, Nat.reduceMul, Nat.reduceSub, abuild, afill, Int.reduceBNe, Int.reduceBEq, hsv6, hvx, hB, g0, asz23, hst, hE, beq_self_eq_true, Try.underlying9, Try.underlying22, Try.underlying23, Try.underlying30, Try.underlying27, Try.underlying3]
  refine hk s6 (hO6.sub ?_)
  refine List.Sublist.cons _ (((?_ : List.Sublist r _).trans (List.sublist_append_right H6 _)).trans (List.sublist_append_right h6 _))
  exact List.Sublist.cons _ (List.Sublist.cons _ (List.sublist_append_right H2 r))
end Go.Proofs.Ytiooigkcliomlaa
