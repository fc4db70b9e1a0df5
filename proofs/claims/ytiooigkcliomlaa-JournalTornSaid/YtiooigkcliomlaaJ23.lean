/- A disk is opened. No conditions. -/
import Derived.Test.YtiooigkcliomlaaJ22
set_option linter.unusedVariables false
set_option linter.unusedSimpArgs false
namespace Go.Proofs.Ytiooigkcliomlaa
open Go Go.Abs Go.RowKit
variable {base : Nat} {w0 : World} {G : Nat}

set_option maxHeartbeats 1600000 in
set_option maxRecDepth 10000 in
theorem Open_spec (st : St) (r h : Hp) (p : Nat) (S : List (List Nat)) (L : List LN) (hD : DN p S L (-1) h) (hO : Own st (h ++ r)) (h4 : 4 ≤ S.length) (hS : S.length ≤ 1500) (hL : L.length ≤ 1000000) (k q : Value → St → Prop)
    (hk : ∀ jp sv rv h' H st', DN p (openM (appN S L)).2.2.2.2 [] (-1) h' → Nb H sv ((openM (appN S L)).2.2.1.headD []) → Recs H rv (openM (appN S L)).2.2.1.tail →
      Own st' ((jp, jc p (S.length / 2) (openM (appN S L)).1 (openM (appN S L)).2.1 (openM (appN S L)).2.2.1.length (openM (appN S L)).2.2.2.1 false) :: (h' ++ (H ++ r))) → k (.tuple #[.pointer (some ⟨jp, 0, none⟩), sv, rv, .int .i64 0]) st') :
    ACallF (C base w0 G) 10 [.pointer (some ⟨p, 0, none⟩)] st k q := by
  refine ACallF.enter Try.func10 rfl (by kernel_rfl) ?_
  refine ACall.of (cx := C base w0 G) mixed Try.func10 rfl (by kernel_rfl) (by simp [Try.ntmps10]) ?_
  simp only [Try.results10]
  simp (config := { implicitDefEqProofs := false }) only [↓GP, GQ, ↓awp_seq, ↓awp_block, C_ex, Nat.reduceBEq, acap, afieldAddr, aload, astore, abin, anum, astr, aun, isAggD, cond_true, cond_false, ↓reduceIte, C_P, C_G, isTuple, Value.cells, setL, ares, aresL, ares1, reduceCtorEq, Nat.reduceEqDiff, eq_self, Nat.reduceAdd, if_true, if_false, one, Nat.reduceLeDiff, undef, gsl, aextract, aindexAddr, amake, implies_true, forall_const, alen, abuiltin, anil, isC, Int.reduceEq, Int.reduceLT, Int.reduceLE, Int.reduceAdd, Int.reduceToNat, Int.reduceNeg, Nat.reduceMul, Nat.reduceSub, abuild, afill, Int.reduceBNe, Int.reduceBEq, Try.underlying26]
  refine SizeN st r h p S L (-1) hD hO _ _ ?_
  simp (config := { implicitDefEqProofs := false }) only [↓GP, GQ, ↓awp_seq, ↓awp_block, C_ex, Nat.reduceBEq, acap, afieldAddr, aload, astore, abin, anum, astr, aun, isAggD, cond_true, cond_false, ↓reduceIte, C_P, C_G, isTuple, Value.cells, setL, ares, aresL, ares1, reduceCtorEq, Nat.reduceEqDiff, eq_self, Nat.reduceAdd, if_true, if_false, one, Nat.reduceLeDiff, undef, gsl, aextract, aindexAddr, amake, implies_true, forall_const, alen, abuiltin, anil, isC, Int.reduceEq, Int.reduceLT, Int.reduceLE, Int.reduceAdd, Int.reduceToNat, Int.reduceNeg, Nat.reduceMul, Nat.reduceSub, abuild, afill, Int.reduceBNe, Int.reduceBEq, Try.underlying3, show ¬ (S.length : Int) < 4 by omega, decide_false]
  refine SyncN st r h p S L (-1) hD hO (by decide) hL _ _ (fun hz => absurd hz (by decide)) fun h1 s1 _ hD1 hO1 => ?_
  have hSl : (appN S L).length = S.length := appN_length S L
  rw [dec_none] at hD1
  generalize appN S L = T at *
  simp (config := { implicitDefEqProofs := false }) only [↓GP, GQ, ↓awp_seq, ↓awp_block, C_ex, Nat.reduceBEq, acap, afieldAddr, aload, astore, abin, anum, astr, aun, isAggD, cond_true, cond_false, ↓reduceIte, C_P, C_G, isTuple, Value.cells, setL, ares, aresL, ares1, reduceCtorEq, Nat.reduceEqDiff, eq_self, Nat.reduceAdd, if_true, if_false, one, Nat.reduceLeDiff, undef, gsl, aextract, aindexAddr, amake, implies_true, forall_const, alen, abuiltin, anil, isC, Int.reduceEq, Int.reduceLT, Int.reduceLE, Int.reduceAdd, Int.reduceToNat, Int.reduceNeg, Nat.reduceMul, Nat.reduceSub, abuild, afill, Int.reduceBNe, Int.reduceBEq, Try.underlying3, Try.underlying27]
  refine SizeN s1 r h1 p T [] (-1) hD1 hO1 _ _ ?_
  simp (config := { implicitDefEqProofs := false }) only [↓GP, GQ, ↓awp_seq, ↓awp_block, C_ex, Nat.reduceBEq, acap, afieldAddr, aload, astore, abin, anum, astr, aun, isAggD, cond_true, cond_false, ↓reduceIte, C_P, C_G, isTuple, Value.cells, setL, ares, aresL, ares1, reduceCtorEq, Nat.reduceEqDiff, eq_self, Nat.reduceAdd, if_true, if_false, one, Nat.reduceLeDiff, undef, gsl, aextract, aindexAddr, amake, implies_true, forall_const, alen, abuiltin, anil, isC, Int.reduceEq, Int.reduceLT, Int.reduceLE, Int.reduceAdd, Int.reduceToNat, Int.reduceNeg, Nat.reduceMul, Nat.reduceSub, abuild, afill, Int.reduceBNe, Int.reduceBEq, Try.underlying3, Try.underlying27]
  refine ⟨fun m ρ s => ∃ (i : Nat) (qs : List (Value × List Nat)) (ov : Value) (ho hr : Hp), m = T.length - i ∧ i ≤ T.length ∧ ρ 0 = .pointer (some ⟨p, 0, none⟩) ∧ ρ 7 = ov ∧ ρ 29 = .int .i64 T.length ∧ ρ 30 = .int .i64 i ∧ qs.map (·.2) = T.take i ∧ GVc ov (qs.map (·.1)) qs.length 1 23 ho ∧
    (∀ q ∈ qs, Nb hr q.1 q.2 ∧ Sl Try.prog hr q.1 1) ∧ Own s (ho ++ (hr ++ (h1 ++ r))), ⟨T.length, 0, [], _, [], [], rfl, Nat.zero_le _, rfl, rfl, rfl, rfl, rfl, GVc.nil, by simp, hO1⟩, ?_⟩
  rintro m ρ s ⟨i, qs, ov, ho, hr, rfl, hi, p0, p7, p29, p30, hq, hG, hQ, hOs⟩
  have hql : qs.length = i := by have := congrArg List.length hq; rw [List.length_map, List.length_take] at this; omega
  obtain ⟨oa, oc, hov⟩ := hG.isSlice
  by_cases hiT : i < T.length
  · simp (config := { implicitDefEqProofs := false }) only [↓GP, GQ, ↓awp_seq, ↓awp_block, C_ex, Nat.reduceBEq, acap, afieldAddr, aload, astore, abin, anum, astr, aun, isAggD, cond_true, cond_false, ↓reduceIte, C_P, C_G, isTuple, Value.cells, setL, ares, aresL, ares1, reduceCtorEq, Nat.reduceEqDiff, eq_self, Nat.reduceAdd, if_true, if_false, one, Nat.reduceLeDiff, undef, gsl, aextract, aindexAddr, amake, implies_true, forall_const, alen, abuiltin, anil, isC, Int.reduceEq, Int.reduceLT, Int.reduceLE, Int.reduceAdd, Int.reduceToNat, Int.reduceNeg, Nat.reduceMul, Nat.reduceSub, abuild, afill, Int.reduceBNe, Int.reduceBEq, p0, p7, p29, p30, Int.ofNat_lt, hiT, decide_true]
    have hOr : Own s (h1 ++ (ho ++ (hr ++ r))) := hOs.perm (by simpa using perm_of [ho, hr, h1, r] [0, 1, 2, 3] [2, 0, 1, 3] rfl)
    refine ReadN s _ h1 p T [] (-1) (i : Nat) hD1 hOr (by decide) _ _ (fun hh => absurd ⟨by omega, by omega⟩ hh) fun b s2 _ _ hsec hO2 => ?_
    rw [Int.toNat_natCast] at hsec hO2
    have hsec : Sec (T.getD i []) := hsec
    have hO2 : Own s2 ((b, .cells (nl (T.getD i [])) 5 true) :: (h1 ++ (ho ++ (hr ++ r)))) := hO2
    have hb1 := abuildSlice_one (st := s2) (v := .slice (some ⟨b, 0, some 0⟩) 64 64) Try.underlying22 asz23 azc23 rfl rfl rfl (by decide)
    simp (config := { implicitDefEqProofs := false }) only [↓GP, GQ, ↓awp_seq, ↓awp_block, C_ex, Nat.reduceBEq, acap, afieldAddr, aload, astore, abin, anum, astr, aun, isAggD, cond_true, cond_false, ↓reduceIte, C_P, C_G, isTuple, Value.cells, setL, ares, aresL, ares1, reduceCtorEq, Nat.reduceEqDiff, eq_self, Nat.reduceAdd, if_true, if_false, one, Nat.reduceLeDiff, undef, gsl, aextract, aindexAddr, amake, implies_true, forall_const, alen, abuiltin, anil, isC, Int.reduceEq, Int.reduceLT, Int.reduceLE, Int.reduceAdd, Int.reduceToNat, Int.reduceNeg, Nat.reduceMul, Nat.reduceSub, abuild, afill, Int.reduceBNe, Int.reduceBEq, p0, p7, p29, p30, hov, hb1]
    rw [← hov]
    have hO3 : Own s2 (ho ++ (((b, .cells (nl (T.getD i [])) 5 true) :: hr) ++ (h1 ++ r))) := hO2.perm (by simpa using perm_of [[(b, Ob.cells (nl (T.getD i [])) 5 true)], h1, ho, hr, r] [0, 1, 2, 3, 4] [2, 0, 3, 1, 4] rfl)
    refine GVc.append1 (c := [.slice (some ⟨b, 0, some 0⟩) 64 64]) Try.underlying22 (by rw [Try.underlying22]; rfl) asz23 azc23 aby23 hG hO3 rfl rfl (by omega) fun v7 h7' s7 hG7 hO7 => ?_
    have hO7' : Own s7 (h7' ++ (((b, .cells (nl (T.getD i [])) 5 true) :: hr) ++ (h1 ++ r))) := hO7
    simp (config := { implicitDefEqProofs := false }) only [↓GP, GQ, ↓awp_seq, ↓awp_block, C_ex, Nat.reduceBEq, acap, afieldAddr, aload, astore, abin, anum, astr, aun, isAggD, cond_true, cond_false, ↓reduceIte, C_P, C_G, isTuple, Value.cells, setL, ares, aresL, ares1, reduceCtorEq, Nat.reduceEqDiff, eq_self, Nat.reduceAdd, if_true, if_false, one, Nat.reduceLeDiff, undef, gsl, aextract, aindexAddr, amake, implies_true, forall_const, alen, abuiltin, anil, isC, Int.reduceEq, Int.reduceLT, Int.reduceLE, Int.reduceAdd, Int.reduceToNat, Int.reduceNeg, Nat.reduceMul, Nat.reduceSub, abuild, afill, Int.reduceBNe, Int.reduceBEq, p0, p7, p29, p30]
    refine ⟨T.length - (i + 1), by omega, i + 1, qs ++ [(.slice (some ⟨b, 0, some 0⟩) 64 64, T.getD i [])], v7, h7', (b, .cells (nl (T.getD i [])) 5 true) :: hr, rfl, by omega, rfl, by rw [w_i64 (by omega)]; rfl, ?_, ?_, fun x hx => ?_, hO7'⟩
    · rw [List.map_append, hq, List.take_add_one, List.getElem?_eq_getElem hiT, List.getD_eq_getElem?_getD, List.getElem?_eq_getElem hiT]; rfl
    · rw [List.map_append, List.length_append, List.map_singleton]
      exact hG7
    · rcases List.mem_append.1 hx with e | e
      · exact ⟨(hQ x e).1.sub fun y hy => List.mem_cons_of_mem _ hy, (hQ x e).2.sub fun y hy => List.mem_cons_of_mem _ hy⟩
      · simp only [List.mem_singleton] at e
        subst e
        refine ⟨?_, .inr ⟨b, 0, some 0, 64, 64, rfl, Nat.le_refl _, .inr ⟨rfl, _, 5, true, List.mem_cons_self .., fun _ => asz5⟩⟩⟩
        have := nb_exact (b := b) (l := T.getD i []) (c := 64) (sp := some 0) (ty := 5) (own := true) (h := (b, .cells (nl (T.getD i [])) 5 true) :: hr) (List.mem_cons_self ..) hsec.2
        rw [hsec.1] at this
        exact this
  · obtain rfl : i = T.length := by omega
    rw [List.take_length] at hq
    have wh : IntKind.i64.wrap ((T.length : Int).tdiv 2) = ((S.length / 2 : Nat) : Int) := by rw [Int.tdiv_eq_ediv_of_nonneg (by omega), w_i64 (by omega)]; omega
    simp (config := { implicitDefEqProofs := false }) only [↓GP, GQ, ↓awp_seq, ↓awp_block, C_ex, Nat.reduceBEq, acap, afieldAddr, aload, astore, abin, anum, astr, aun, isAggD, cond_true, cond_false, ↓reduceIte, C_P, C_G, isTuple, Value.cells, setL, ares, aresL, ares1, reduceCtorEq, Nat.reduceEqDiff, eq_self, Nat.reduceAdd, if_true, if_false, one, Nat.reduceLeDiff, undef, gsl, aextract, aindexAddr, amake, implies_true, forall_const, alen, abuiltin, anil, isC, Int.reduceEq, Int.reduceLT, Int.reduceLE, Int.reduceAdd, Int.reduceToNat, Int.reduceNeg, Nat.reduceMul, Nat.reduceSub, abuild, afill, Int.reduceBNe, Int.reduceBEq, p0, p7, p29, p30, Int.ofNat_lt, Nat.lt_irrefl, decide_false]
    have hOr : Own s (h1 ++ (ho ++ (hr ++ r))) := hOs.perm (by simpa using perm_of [ho, hr, h1, r] [0, 1, 2, 3] [2, 0, 1, 3] rfl)
    refine SizeN s _ h1 p T [] (-1) hD1 hOr _ _ ?_
    simp (config := { implicitDefEqProofs := false }) only [↓GP, GQ, ↓awp_seq, ↓awp_block, C_ex, Nat.reduceBEq, acap, afieldAddr, aload, astore, abin, anum, astr, aun, isAggD, cond_true, cond_false, ↓reduceIte, C_P, C_G, isTuple, Value.cells, setL, ares, aresL, ares1, reduceCtorEq, Nat.reduceEqDiff, eq_self, Nat.reduceAdd, if_true, if_false, one, Nat.reduceLeDiff, undef, gsl, aextract, aindexAddr, amake, implies_true, forall_const, alen, abuiltin, anil, isC, Int.reduceEq, Int.reduceLT, Int.reduceLE, Int.reduceAdd, Int.reduceToNat, Int.reduceNeg, Nat.reduceMul, Nat.reduceSub, abuild, afill, Int.reduceBNe, Int.reduceBEq, p0, p7, p29, p30, Try.underlying3, wh, azc69, apl69, Try.underlying69, abox, asz69]
    have hPS := hG.ps rfl asz23 (fun q h => (hQ q h).1)
    have hO5 := hOs.new (jc p (S.length / 2) 0 0 0 0 false)
    unfold jc at hO5
    generalize s.n = jp at *
    generalize hs5 : s.new _ = s5 at hO5 ⊢
    have hsub : ∀ e ∈ ho ++ hr, e ∈ ((jp, Ob.cells [.pointer (some ⟨p, 0, none⟩), .int .i64 (S.length / 2 : Nat), .int .i64 (0 : Nat), .int .i64 (0 : Nat), .int .i64 (0 : Nat), .int .i64 (0 : Nat), .bool false] 69 true) :: (ho ++ (hr ++ (h1 ++ r)))) := fun e he => by
      rcases List.mem_append.1 he with h | h <;> simp [h]
    have hP5 := hPS.1.sub hsub
    have hS5 := hPS.2.sub hsub
    have hE5 : ∀ q ∈ qs, Sl Try.prog _ q.1 1 := fun q hq => ((hQ q hq).2.sub (fun e he => List.mem_append_right ho he)).sub hsub
    refine ACallF.enter Try.func16 rfl (by kernel_rfl) (Scan_spec s5 _ ov qs hP5 hS5 hE5 (by omega) hO5 _ _ fun lv H s6 hR6 hO6 => ?_)
    rw [hq] at hR6 ⊢
    have hTs := hD1.2.1
    have hj6 := hO6.get (b := jp) (o := Ob.cells [.pointer (some ⟨p, 0, none⟩), .int .i64 (S.length / 2 : Nat), .int .i64 (0 : Nat), .int .i64 (0 : Nat), .int .i64 (0 : Nat), .int .i64 (0 : Nat), .bool false] 69 true) (by simp)
    unfold openM at hk
    rcases scanM_some hTs (by omega) with hm | ⟨w, hw1, hm1, hm2, hm3, hm4⟩
    · rw [hm] at hk ⊢
      simp only [show ((-1 : Int) < 0) by decide, if_true] at hk
      rw [hSl] at hk
      simp (config := { implicitDefEqProofs := false }) only [↓GP, GQ, ↓awp_seq, ↓awp_block, C_ex, Nat.reduceBEq, acap, afieldAddr, aload, astore, abin, anum, astr, aun, isAggD, cond_true, cond_false, ↓reduceIte, C_P, C_G, isTuple, Value.cells, setL, ares, aresL, ares1, reduceCtorEq, Nat.reduceEqDiff, eq_self, Nat.reduceAdd, if_true, if_false, one, Nat.reduceLeDiff, undef, gsl, aextract, aindexAddr, amake, implies_true, forall_const, alen, abuiltin, anil, isC, Int.reduceEq, Int.reduceLT, Int.reduceLE, Int.reduceAdd, Int.reduceToNat, Int.reduceNeg, Nat.reduceMul, Nat.reduceSub, abuild, afill, Int.reduceBNe, Int.reduceBEq, p0, Try.underlying3]
      have hO7 : Own s6 (h1 ++ ((jp, Ob.cells [.pointer (some ⟨p, 0, none⟩), .int .i64 (S.length / 2 : Nat), .int .i64 (0 : Nat), .int .i64 (0 : Nat), .int .i64 (0 : Nat), .int .i64 (0 : Nat), .bool false] 69 true) :: (H ++ (ho ++ (hr ++ r))))) := hO6.perm (by simpa using perm_of [H, [(jp, Ob.cells [.pointer (some ⟨p, 0, none⟩), .int .i64 (S.length / 2 : Nat), .int .i64 (0 : Nat), .int .i64 (0 : Nat), .int .i64 (0 : Nat), .int .i64 (0 : Nat), .bool false] 69 true)], ho, hr, h1, r] [0, 1, 2, 3, 4, 5] [4, 1, 0, 2, 3, 5] rfl)
      simp (config := { implicitDefEqProofs := false }) only [↓GP, GQ, ↓awp_seq, ↓awp_block, C_ex, Nat.reduceBEq, acap, afieldAddr, aload, astore, abin, anum, astr, aun, isAggD, cond_true, cond_false, ↓reduceIte, C_P, C_G, isTuple, Value.cells, setL, ares, aresL, ares1, reduceCtorEq, Nat.reduceEqDiff, eq_self, Nat.reduceAdd, if_true, if_false, one, Nat.reduceLeDiff, undef, gsl, aextract, aindexAddr, amake, implies_true, forall_const, alen, abuiltin, anil, isC, Int.reduceEq, Int.reduceLT, Int.reduceLE, Int.reduceAdd, Int.reduceToNat, Int.reduceNeg, Nat.reduceMul, Nat.reduceSub, abuild, afill, Int.reduceBNe, Int.reduceBEq, p0, hj6, afo69_1, asz3, Try.underlying3]
      have hn := nought_spec (base := base) (w0 := w0) (G := G) s6 _ h1 p T (-1) 0 (S.length / 2) true hD1 hO7 ⟨by decide, by decide⟩ (by omega) (by omega) (fun _ => by omega)
      rw [Nat.zero_add] at hn
      refine ACallF.enter Try.func34 rfl (by kernel_rfl) (hn _ _ (fun j h' s' hne => absurd rfl hne) fun fz' h8 s8 hsp hD8 hO8 => ?_)
      obtain rfl := hsp.2.1 rfl
      simp (config := { implicitDefEqProofs := false }) only [↓GP, GQ, ↓awp_seq, ↓awp_block, C_ex, Nat.reduceBEq, acap, afieldAddr, aload, astore, abin, anum, astr, aun, isAggD, cond_true, cond_false, ↓reduceIte, C_P, C_G, isTuple, Value.cells, setL, ares, aresL, ares1, reduceCtorEq, Nat.reduceEqDiff, eq_self, Nat.reduceAdd, if_true, if_false, one, Nat.reduceLeDiff, undef, gsl, aextract, aindexAddr, amake, implies_true, forall_const, alen, abuiltin, anil, isC, Int.reduceEq, Int.reduceLT, Int.reduceLE, Int.reduceAdd, Int.reduceToNat, Int.reduceNeg, Nat.reduceMul, Nat.reduceSub, abuild, afill, Int.reduceBNe, Int.reduceBEq, p0, Try.underlying27]
      have hw := write_spec (base := base) (w0 := w0) (G := G) s8 _ h8 p _ (-1) 0 1 0 (.slice none 0 0) [] hD8 hO8 nb_nil (by decide) ⟨by decide, by decide⟩ (by rw [appN_length]; show 0 + 1 + 0 ≤ _; omega) (by rw [appN_length]; omega) (by decide) (by decide)
      refine ACallF.enter Try.func35 rfl (by kernel_rfl) (hw _ _ (fun S' L' h' s' hne => absurd rfl hne) fun fz' h9 s9 hsp hD9 hO9 => ?_)
      obtain rfl := hsp.2.1 rfl
      have hb1 := abuildSlice_one (st := s9) (v := .slice none 0 0) Try.underlying22 asz23 azc23 rfl rfl rfl (by decide)
      have hOa : Own _ ((jp, Ob.cells [.pointer (some ⟨p, 0, none⟩), .int .i64 (S.length / 2 : Nat), .int .i64 (0 : Nat), .int .i64 (0 : Nat), .int .i64 (0 : Nat), .int .i64 (0 : Nat), .bool false] 69 true) :: (s9.n, Ob.cells [.slice none 0 0] 23 true) :: (h9 ++ (H ++ (ho ++ (hr ++ r))))) := (hO9.new (.cells [.slice none 0 0] 23 true)).perm (by simpa using perm_of [[(s9.n, Ob.cells [.slice none 0 0] 23 true)], h9, [(jp, Ob.cells [.pointer (some ⟨p, 0, none⟩), .int .i64 (S.length / 2 : Nat), .int .i64 (0 : Nat), .int .i64 (0 : Nat), .int .i64 (0 : Nat), .int .i64 (0 : Nat), .bool false] 69 true)], H ++ (ho ++ (hr ++ r))] [0, 1, 2, 3] [2, 0, 1, 3] rfl)
      have hja := hOa.head
      have hOb := ((hOa.set rfl (.cells [.pointer (some ⟨p, 0, none⟩), .int .i64 (S.length / 2 : Nat), .int .i64 (0 : Nat), .int .i64 1, .int .i64 (0 : Nat), .int .i64 (0 : Nat), .bool false] 69 true) rfl).set rfl (.cells [.pointer (some ⟨p, 0, none⟩), .int .i64 (S.length / 2 : Nat), .int .i64 (0 : Nat), .int .i64 1, .int .i64 1, .int .i64 (0 : Nat), .bool false] 69 true) rfl).set rfl (.cells [.pointer (some ⟨p, 0, none⟩), .int .i64 (S.length / 2 : Nat), .int .i64 (0 : Nat), .int .i64 1, .int .i64 1, .int .i64 1, .bool false] 69 true) rfl
      have hn1 := hOa.ne rfl (b' := s9.n) (o' := .cells [.slice none 0 0] 23 true) (by simp)
      have hja' : (if jp = s9.n then some (Ob.cells [Value.slice none 0 0] 23 true) else s9.H jp) = _ := hja
      rw [if_neg (fun e => hn1 e.symm)] at hja'
      have hn1' : ¬ jp = s9.n := fun e => hn1 e.symm
      have esl : ∀ st, aslice Try.prog st 22 (.slice (some ⟨s9.n, 0, none⟩) 1 1) (some (.int .i64 1)) none none = some (.slice (some ⟨s9.n, 1, none⟩) 0 0) := fun st => by
        have := aslice_exact (P := Try.prog) (st := st) (B := s9.n) (off := 0) (len := 1) (cap := 1) (lo := some (.int .i64 (1 : Nat))) (hi := none) Try.underlying22 asz23 (abounds_lo (lo := 1) (Nat.le_refl _) (Nat.le_refl _))
        simpa using this
      simp (config := { implicitDefEqProofs := false }) only [↓GP, GQ, ↓awp_seq, ↓awp_block, C_ex, Nat.reduceBEq, acap, afieldAddr, aload, astore, abin, anum, astr, aun, isAggD, cond_true, cond_false, ↓reduceIte, C_P, C_G, isTuple, Value.cells, setL, ares, aresL, ares1, reduceCtorEq, Nat.reduceEqDiff, eq_self, Nat.reduceAdd, if_true, if_false, one, Nat.reduceLeDiff, undef, gsl, aextract, aindexAddr, amake, implies_true, forall_const, alen, abuiltin, anil, isC, Int.reduceEq, Int.reduceLT, Int.reduceLE, Int.reduceAdd, Int.reduceToNat, Int.reduceNeg, Nat.reduceMul, Nat.reduceSub, abuild, afill, Int.reduceBNe, Int.reduceBEq, p0, hb1, hja', hn1', afo69_3, afo69_4, afo69_5, asz3, Try.underlying3, Try.underlying27]
      refine ADraw.of [(0, false, []), (1, false, []), (2, false, []), (3, false, []), (4, false, []), (5, false, []), (6, false, []), (7, false, []), (8, false, []), (9, false, [])] [] [] (by kernel_rfl) ?_
      simp (config := { implicitDefEqProofs := false }) only [↓GP, GQ, ↓awp_seq, ↓awp_block, C_ex, Nat.reduceBEq, acap, afieldAddr, aload, astore, abin, anum, astr, aun, isAggD, cond_true, cond_false, ↓reduceIte, C_P, C_G, isTuple, Value.cells, setL, ares, aresL, ares1, reduceCtorEq, Nat.reduceEqDiff, eq_self, Nat.reduceAdd, if_true, if_false, one, Nat.reduceLeDiff, undef, gsl, aextract, aindexAddr, amake, implies_true, forall_const, alen, abuiltin, anil, isC, Int.reduceEq, Int.reduceLT, Int.reduceLE, Int.reduceAdd, Int.reduceToNat, Int.reduceNeg, Nat.reduceMul, Nat.reduceSub, abuild, afill, Int.reduceBNe, Int.reduceBEq, p0, hn1, esl, asz23, Try.underlying22, Try.underlying23]
      refine hk jp _ _ h9 [] _ hD9 nb_nil ⟨[], rfl, ⟨.inl ⟨rfl, .inr ⟨_, _, _, _, rfl⟩⟩, by simp⟩, .inr ⟨_, _, none, 0, 0, rfl, Nat.le_refl _, .inl rfl⟩⟩ ?_
      refine hOb.sub (List.Sublist.cons_cons _ (List.Sublist.cons _ (List.Sublist.append_left ?_ _)))
      exact (List.sublist_append_right hr r).trans ((List.sublist_append_right ho _).trans (List.sublist_append_right H _))
    · have hfa := halfM_facts (halfOf_sec hTs w)
      have hhl := halfOf_length (T := T) hw1
      rw [hSl] at hhl
      rw [hm1, hm2, hm3, Int.toNat_natCast, if_neg (show ¬ ((w : Nat) : Int) < 0 by omega), hSl] at hk
      rw [hm3] at hR6
      rw [hm1, hm2]
      obtain ⟨qs2, hq2, hP2, hS2⟩ := hR6
      have hn2 : qs2.length = (halfM (halfOf T w)).2.1.length := by rw [← hq2, List.length_map]
      obtain ⟨la, lc, hlv⟩ : ∃ a c, lv = .slice a (halfM (halfOf T w)).2.1.length c := by
        obtain ⟨a, c, h, _⟩ := hP2.1.isSlice
        rw [List.length_map, hn2] at h
        exact ⟨a, c, h⟩
      have hO7 : Own s6 ((jp, Ob.cells [.pointer (some ⟨p, 0, none⟩), .int .i64 (S.length / 2 : Nat), .int .i64 (0 : Nat), .int .i64 (0 : Nat), .int .i64 (0 : Nat), .int .i64 (0 : Nat), .bool false] 69 true) :: (H ++ (ho ++ (hr ++ (h1 ++ r))))) := hO6.perm (perm_front H _ _)
      have hO8 := ((hO7.set rfl (.cells [.pointer (some ⟨p, 0, none⟩), .int .i64 (S.length / 2 : Nat), .int .i64 (w : Nat), .int .i64 (0 : Nat), .int .i64 (0 : Nat), .int .i64 (0 : Nat), .bool false] 69 true) rfl).set rfl (.cells [.pointer (some ⟨p, 0, none⟩), .int .i64 (S.length / 2 : Nat), .int .i64 (w : Nat), .int .i64 ((halfM (halfOf T w)).1 : Nat), .int .i64 (0 : Nat), .int .i64 (0 : Nat), .bool false] 69 true) rfl).set rfl (.cells [.pointer (some ⟨p, 0, none⟩), .int .i64 (S.length / 2 : Nat), .int .i64 (w : Nat), .int .i64 ((halfM (halfOf T w)).1 : Nat), .int .i64 ((halfM (halfOf T w)).2.1.length : Nat), .int .i64 (0 : Nat), .bool false] 69 true) rfl
      simp (config := { implicitDefEqProofs := false }) only [↓GP, GQ, ↓awp_seq, ↓awp_block, C_ex, Nat.reduceBEq, acap, afieldAddr, aload, astore, abin, anum, astr, aun, isAggD, cond_true, cond_false, ↓reduceIte, C_P, C_G, isTuple, Value.cells, setL, ares, aresL, ares1, reduceCtorEq, Nat.reduceEqDiff, eq_self, Nat.reduceAdd, if_true, if_false, one, Nat.reduceLeDiff, undef, gsl, aextract, aindexAddr, amake, implies_true, forall_const, alen, abuiltin, anil, isC, Int.reduceEq, Int.reduceLT, Int.reduceLE, Int.reduceAdd, Int.reduceToNat, Int.reduceNeg, Nat.reduceMul, Nat.reduceSub, abuild, afill, Int.reduceBNe, Int.reduceBEq, p0, p7, hlv, hj6, afo69_1, afo69_2, afo69_3, afo69_4, asz3, Try.underlying3, Try.underlying22, show ¬ ((w : Nat) : Int) < 0 by omega, decide_false]
      rw [← hlv]
      generalize St.set (St.set (St.set s6 _ _) _ _) _ _ = s8 at *
      have hj8 := hO8.head
      generalize hAA : halfM (halfOf T w) = AA at *
      obtain ⟨f1, f2, f3, f4⟩ := hfa
      have hwh : w * (S.length / 2) ≤ 1 * (S.length / 2) := Nat.mul_le_mul_right _ hw1
      have wm : IntKind.i64.wrap ((w : Int) * ((S.length / 2 : Nat) : Int)) = ((w * (S.length / 2) : Nat) : Int) := by rw [w_i64 (by rw [← Int.natCast_mul]; omega), Int.natCast_mul]
      have w1 : IntKind.i64.wrap ((w : Int) + 1) = ((w + 1 : Nat) : Int) := by rw [w_i64 (by omega)]; omega
      have hmul : (w + 1) * (S.length / 2) = w * (S.length / 2) + S.length / 2 := by rw [Nat.add_mul, Nat.one_mul]
      have wm1 : IntKind.i64.wrap (((w + 1 : Nat) : Int) * ((S.length / 2 : Nat) : Int)) = ((w * (S.length / 2) + S.length / 2 : Nat) : Int) := by rw [← Int.natCast_mul, hmul, w_i64 (by omega)]
      have wa : IntKind.i64.wrap (((w * (S.length / 2) : Nat) : Int) + (AA.2.2 : Int)) = ((w * (S.length / 2) + AA.2.2 : Nat) : Int) := by rw [w_i64 (by omega)]; omega
      have hsub8 : ∀ e ∈ ho ++ hr, e ∈ ((jp, Ob.cells [.pointer (some ⟨p, 0, none⟩), .int .i64 (S.length / 2 : Nat), .int .i64 (w : Nat), .int .i64 (AA.1 : Nat), .int .i64 (AA.2.1.length : Nat), .int .i64 (0 : Nat), .bool false] 69 true) :: (H ++ (ho ++ (hr ++ (h1 ++ r))))) := fun e he => by
        rcases List.mem_append.1 he with h | h <;> simp [h]
      obtain ⟨v9, hv9, hP9, hS9⟩ := (hPS.1.sub hsub8).part (t := 22) (lo := some (.int .i64 (w * (S.length / 2) : Nat))) (hi := some (.int .i64 (w * (S.length / 2) + S.length / 2 : Nat))) (l := w * (S.length / 2)) (r := w * (S.length / 2) + S.length / 2) (hPS.2.sub hsub8) hO8 Try.underlying22 asz23 (fun c hc => abounds_lohi (by omega) (by omega)) (by omega) (by omega)
      rw [Nat.add_sub_cancel_left] at hP9
      have hmp : ((qs.drop (w * (S.length / 2))).take (S.length / 2)).map (·.2) = halfOf T w := by rw [List.map_take, List.map_drop, hq, halfOf, hSl]
      have hsec9 : Secs _ v9 ((qs.drop (w * (S.length / 2))).take (S.length / 2)) := ⟨hP9, hS9, fun x hx => by
        have hx' := List.mem_of_mem_drop (List.mem_of_mem_take hx)
        exact ⟨((hQ x hx').2.sub (fun e he => List.mem_append_right ho he)).sub hsub8, (hTs x.2 (by rw [← hq]; exact List.mem_map_of_mem hx')).1⟩⟩
      refine ADraw.of [(0, false, []), (1, false, []), (2, false, []), (3, false, []), (4, false, []), (5, false, []), (6, false, []), (7, false, []), (8, false, []), (9, false, []), (10, false, []), (11, false, []), (12, false, []), (13, false, []), (14, false, []), (15, false, []), (16, false, []), (17, false, []), (18, false, []), (19, false, []), (20, false, []), (21, false, []), (22, false, []), (23, false, [])] [] [] (by kernel_rfl) ?_
      simp (config := { implicitDefEqProofs := false }) only [↓GP, GQ, ↓awp_seq, ↓awp_block, C_ex, Nat.reduceBEq, acap, afieldAddr, aload, astore, abin, anum, astr, aun, isAggD, cond_true, cond_false, ↓reduceIte, C_P, C_G, isTuple, Value.cells, setL, ares, aresL, ares1, reduceCtorEq, Nat.reduceEqDiff, eq_self, Nat.reduceAdd, if_true, if_false, one, Nat.reduceLeDiff, undef, gsl, aextract, aindexAddr, amake, implies_true, forall_const, alen, abuiltin, anil, isC, Int.reduceEq, Int.reduceLT, Int.reduceLE, Int.reduceAdd, Int.reduceToNat, Int.reduceNeg, Nat.reduceMul, Nat.reduceSub, abuild, afill, Int.reduceBNe, Int.reduceBEq, p0, p7, hj8, afo69_1, asz3, Try.underlying3, wm, w1, wm1, hv9]
      refine ACallF.enter Try.func36 rfl (by kernel_rfl) (half_spec s8 _ v9 _ hsec9 (by rw [List.length_take]; omega) hO8 _ _ fun ov9 H9 s9 hR9 hO9 => ?_)
      rw [hmp, hAA] at hR9 ⊢
      have hO10 : Own s9 ((jp, Ob.cells [.pointer (some ⟨p, 0, none⟩), .int .i64 (S.length / 2 : Nat), .int .i64 (w : Nat), .int .i64 (AA.1 : Nat), .int .i64 (AA.2.1.length : Nat), .int .i64 (0 : Nat), .bool false] 69 true) :: (H9 ++ (H ++ (ho ++ (hr ++ (h1 ++ r)))))) := hO9.perm (perm_front H9 _ _)
      have hj9 := hO10.head
      have hO11 := hO10.set rfl (.cells [.pointer (some ⟨p, 0, none⟩), .int .i64 (S.length / 2 : Nat), .int .i64 (w : Nat), .int .i64 (AA.1 : Nat), .int .i64 (AA.2.1.length : Nat), .int .i64 (AA.2.2 : Nat), .bool false] 69 true) rfl
      simp (config := { implicitDefEqProofs := false }) only [↓GP, GQ, ↓awp_seq, ↓awp_block, C_ex, Nat.reduceBEq, acap, afieldAddr, aload, astore, abin, anum, astr, aun, isAggD, cond_true, cond_false, ↓reduceIte, C_P, C_G, isTuple, Value.cells, setL, ares, aresL, ares1, reduceCtorEq, Nat.reduceEqDiff, eq_self, Nat.reduceAdd, if_true, if_false, one, Nat.reduceLeDiff, undef, gsl, aextract, aindexAddr, amake, implies_true, forall_const, alen, abuiltin, anil, isC, Int.reduceEq, Int.reduceLT, Int.reduceLE, Int.reduceAdd, Int.reduceToNat, Int.reduceNeg, Nat.reduceMul, Nat.reduceSub, abuild, afill, Int.reduceBNe, Int.reduceBEq, p0, p7, hj9, afo69_5, asz3, Try.underlying3]
      refine ADraw.of [(0, false, []), (1, false, []), (2, false, []), (3, false, []), (4, false, []), (5, false, []), (6, false, []), (7, false, []), (8, false, []), (9, false, []), (10, false, []), (11, false, []), (12, false, []), (13, false, []), (14, false, []), (15, false, []), (16, false, []), (17, false, []), (18, false, []), (19, false, []), (20, false, [])] [] [] (by kernel_rfl) ?_
      simp (config := { implicitDefEqProofs := false }) only [↓GP, GQ, ↓awp_seq, ↓awp_block, C_ex, Nat.reduceBEq, acap, afieldAddr, aload, astore, abin, anum, astr, aun, isAggD, cond_true, cond_false, ↓reduceIte, C_P, C_G, isTuple, Value.cells, setL, ares, aresL, ares1, reduceCtorEq, Nat.reduceEqDiff, eq_self, Nat.reduceAdd, if_true, if_false, one, Nat.reduceLeDiff, undef, gsl, aextract, aindexAddr, amake, implies_true, forall_const, alen, abuiltin, anil, isC, Int.reduceEq, Int.reduceLT, Int.reduceLE, Int.reduceAdd, Int.reduceToNat, Int.reduceNeg, Nat.reduceMul, Nat.reduceSub, abuild, afill, Int.reduceBNe, Int.reduceBEq, p0, p7, afo69_1, afo69_5, asz3, Try.underlying3, wm, w1, wm1, wa]
      generalize St.set s9 _ _ = s11 at *
      have hO12 : Own s11 (h1 ++ ((jp, Ob.cells [.pointer (some ⟨p, 0, none⟩), .int .i64 (S.length / 2 : Nat), .int .i64 (w : Nat), .int .i64 (AA.1 : Nat), .int .i64 (AA.2.1.length : Nat), .int .i64 (AA.2.2 : Nat), .bool false] 69 true) :: (H9 ++ (H ++ (ho ++ (hr ++ r)))))) := hO11.perm (by simpa using perm_of [[(jp, Ob.cells [.pointer (some ⟨p, 0, none⟩), .int .i64 (S.length / 2 : Nat), .int .i64 (w : Nat), .int .i64 (AA.1 : Nat), .int .i64 (AA.2.1.length : Nat), .int .i64 (AA.2.2 : Nat), .bool false] 69 true)], H9, H, ho, hr, h1, r] [0, 1, 2, 3, 4, 5, 6] [5, 0, 1, 2, 3, 4, 6] rfl)
      have hn := nought_spec (base := base) (w0 := w0) (G := G) s11 _ h1 p T (-1) (w * (S.length / 2) + AA.2.2) (S.length / 2 - AA.2.2) false hD1 hO12 ⟨by decide, by decide⟩ (by omega) (by omega) (fun h => by cases h)
      rw [show w * (S.length / 2) + AA.2.2 + (S.length / 2 - AA.2.2) = w * (S.length / 2) + S.length / 2 by omega] at hn
      refine ACallF.enter Try.func34 rfl (by kernel_rfl) (hn _ _ (fun j h' s' hne => absurd rfl hne) fun fz' h13 s13 hsp hD13 hO13 => ?_)
      obtain rfl := hsp.2.1 rfl
      have hO14 : Own s13 ((jp, Ob.cells [.pointer (some ⟨p, 0, none⟩), .int .i64 (S.length / 2 : Nat), .int .i64 (w : Nat), .int .i64 (AA.1 : Nat), .int .i64 (AA.2.1.length : Nat), .int .i64 (AA.2.2 : Nat), .bool false] 69 true) :: (h13 ++ ((H9 ++ (H ++ (ho ++ hr))) ++ r))) := by
        have := hO13.perm (perm_front h13 _ _)
        simpa only [List.append_assoc] using this
      have hmH : ∀ e ∈ H, e ∈ ((jp, Ob.cells [.pointer (some ⟨p, 0, none⟩), .int .i64 (S.length / 2 : Nat), .int .i64 (w : Nat), .int .i64 (AA.1 : Nat), .int .i64 (AA.2.1.length : Nat), .int .i64 (AA.2.2 : Nat), .bool false] 69 true) :: (h13 ++ ((H9 ++ (H ++ (ho ++ hr))) ++ r))) := fun e he => by simp [he]
      have hne2 : qs2 ≠ [] := fun e => f3 hm4 (by rw [← hq2, e]; rfl)
      obtain ⟨p2, qs3, rfl⟩ := List.exists_cons_of_ne_nil hne2
      obtain ⟨Bl, ol, spl, cl, csl, tyl, ownl, hlx, hmeml, hgetl⟩ := hP2.at (hO14.sub (List.Sublist.cons _ ((((List.sublist_append_left H _).trans (List.sublist_append_right H9 _)).trans (List.sublist_append_left _ r)).trans (List.sublist_append_right h13 _)))) (by simp)
      have gl := hO14.get (hmH _ hmeml)
      have g0 := hgetl 0 p2 rfl
      rw [Nat.add_zero] at g0
      obtain ⟨vr', hvr', hPr', hSr'⟩ := hP2.part (st := s13) (t := 22) (lo := some (.int .i64 (1 : Nat))) (hi := none) (l := 1) (r := (p2 :: qs3).length) hS2 (hO14.sub (List.Sublist.cons _ ((((List.sublist_append_left H _).trans (List.sublist_append_right H9 _)).trans (List.sublist_append_left _ r)).trans (List.sublist_append_right h13 _)))) Try.underlying22 asz23 (fun c hc => abounds_lo (by simp) hc) (by simp) (Nat.le_refl _)
      have hvr' : aslice Try.prog s13 22 lv (some (.int .i64 1)) none none = some vr' := hvr'
      simp (config := { implicitDefEqProofs := false }) only [↓GP, GQ, ↓awp_seq, ↓awp_block, C_ex, Nat.reduceBEq, acap, afieldAddr, aload, astore, abin, anum, astr, aun, isAggD, cond_true, cond_false, ↓reduceIte, C_P, C_G, isTuple, Value.cells, setL, ares, aresL, ares1, reduceCtorEq, Nat.reduceEqDiff, eq_self, Nat.reduceAdd, if_true, if_false, one, Nat.reduceLeDiff, undef, gsl, aextract, aindexAddr, amake, implies_true, forall_const, alen, abuiltin, anil, isC, Int.reduceEq, Int.reduceLT, Int.reduceLE, Int.reduceAdd, Int.reduceToNat, Int.reduceNeg, Nat.reduceMul, Nat.reduceSub, abuild, afill, Int.reduceBNe, Int.reduceBEq, p0, p7, Try.underlying3, Try.underlying27]
      refine ADraw.of [(0, false, []), (1, false, []), (2, false, []), (3, false, []), (4, false, []), (5, false, []), (6, false, []), (7, false, []), (8, false, []), (9, false, [])] [] [] (by kernel_rfl) ?_
      rw [hlx, List.length_cons] at hvr'
      rw [hlx]
      simp (config := { implicitDefEqProofs := false }) only [↓GP, GQ, ↓awp_seq, ↓awp_block, C_ex, Nat.reduceBEq, acap, afieldAddr, aload, astore, abin, anum, astr, aun, isAggD, cond_true, cond_false, ↓reduceIte, C_P, C_G, isTuple, Value.cells, setL, ares, aresL, ares1, reduceCtorEq, Nat.reduceEqDiff, eq_self, Nat.reduceAdd, if_true, if_false, one, Nat.reduceLeDiff, undef, gsl, aextract, aindexAddr, amake, implies_true, forall_const, alen, abuiltin, anil, isC, Int.reduceEq, Int.reduceLT, Int.reduceLE, Int.reduceAdd, Int.reduceToNat, Int.reduceNeg, Nat.reduceMul, Nat.reduceSub, abuild, afill, Int.reduceBNe, Int.reduceBEq, p0, p7, gl, g0, hvr', asz23, Try.underlying22, Try.underlying23]
      have e3 : ((p2 :: qs3).drop 1).take ((p2 :: qs3).length - 1) = qs3 := by simp
      rw [e3] at hPr'
      have hHH : ∀ e ∈ H, e ∈ H9 ++ (H ++ (ho ++ hr)) := fun e he => by simp [he]
      refine ⟨by omega, hk jp p2.1 vr' h13 (H9 ++ (H ++ (ho ++ hr))) s13 hD13 ?_ ⟨qs3, by rw [← hq2]; rfl, hPr'.sub hHH, hSr'.sub hHH⟩ hO14⟩
      have := (hP2.2 p2 (by simp)).sub hHH
      rw [← hq2]
      exact this
end Go.Proofs.Ytiooigkcliomlaa
