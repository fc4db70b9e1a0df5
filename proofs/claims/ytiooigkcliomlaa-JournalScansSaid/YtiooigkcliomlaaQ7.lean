/- Heads that are the same; halves that are alike up to their end: plain facts. No conditions. -/
import Derived.Test.YtiooigkcliomlaaQ6
set_option linter.unusedVariables false
set_option linter.unusedSimpArgs false
namespace Go.Proofs.Ytiooigkcliomlaa
open Go Go.Abs Go.RowKit

theorem word4_eq {m : List Nat} (h : ∀ d ∈ m, d < 256) {o x : Nat} (hx : x < 4294967296) (e : word4 m o = x) : m.getD o 0 = x / 16777216 % 256 ∧ m.getD (o + 1) 0 = x / 65536 % 256 ∧ m.getD (o + 2) 0 = x / 256 % 256 ∧ m.getD (o + 3) 0 = x % 256 := by
  have h0 := getD8 h o
  have h1 := getD8 h (o + 1)
  have h2 := getD8 h (o + 2)
  have h3 := getD8 h (o + 3)
  unfold word4 at e
  omega
theorem headL_word (g num : Nat) (b : List Nat) : (∀ i, 17 ≤ i → i < 63 → (headL g num b).getD i 0 = 0) ∧ (headL g num b).getD 0 0 = 74 ∧ (headL g num b).getD 63 0 = 165 := by
  refine ⟨fun i h1 h2 => ?_, rfl, rfl⟩
  have : ∀ j, j < 46 → (headL g num b).getD (17 + j) 0 = 0 := by
    intro j hj
    unfold headL
    rw [List.getD_eq_getElem?_getD, List.getElem?_append_left (by rw [List.length_append, List.length_replicate, head17_length]; omega), List.getElem?_append_right (by rw [head17_length]; omega), head17_length, List.getElem?_replicate, if_pos (by omega)]
    rfl
  have := this (i - 17) (by omega)
  rwa [show 17 + (i - 17) = i by omega] at this
theorem headL_iff {m : List Nat} (hm : Sec m) {num : Nat} {b : List Nat} (hnum : num < 4294967296) (hb : b.length < 4294967296) (hb8 : ∀ d ∈ b, d < 256) (hn : b.length = word4 m 9) :
    headL (word4 m 1) num b = m ↔ (m.getD 0 0 = 74 ∧ m.getD 63 0 = 165 ∧ word4 m 5 = num ∧ (∀ i, 17 ≤ i → i < 63 → m.getD i 0 = 0) ∧ crcN b = word4 m 13) := by
  constructor
  · intro e
    have hw := headL_word (word4 m 1) num b
    have h5 : word4 (headL (word4 m 1) num b) 5 = num := word_out num hnum
    have h13 : word4 (headL (word4 m 1) num b) 13 = crcN b := word_out _ (crcN_lt hb8)
    rw [e] at hw h5 h13
    exact ⟨hw.2.1, hw.2.2, h5, hw.1, h13.symm⟩
  · rintro ⟨h0, h63, h5, hz, hc⟩
    have a1 := word4_eq hm.2 (word4_lt hm.2 1) rfl
    have a5 := word4_eq hm.2 hnum h5
    have a9 := word4_eq hm.2 hb hn.symm
    have a13 := word4_eq hm.2 (crcN_lt hb8) hc.symm
    refine List.ext_getElem (by rw [headL_length, hm.1]) fun i h1 h2 => ?_
    rw [headL_length] at h1
    have key : (headL (word4 m 1) num b).getD i 0 = m.getD i 0 := by
      by_cases c1 : 17 ≤ i ∧ i < 63
      · rw [(headL_word _ _ _).1 i c1.1 c1.2, hz i c1.1 c1.2]
      · by_cases c2 : i = 63
        · subst c2; rw [h63]; rfl
        · have : i < 17 := by omega
          obtain ⟨b0, b1, b2, b3⟩ := a1
          obtain ⟨c0, c1', c2', c3⟩ := a5
          obtain ⟨d0, d1, d2, d3⟩ := a9
          obtain ⟨e0, e1, e2, e3⟩ := a13
          obtain rfl | rfl | rfl | rfl | rfl | rfl | rfl | rfl | rfl | rfl | rfl | rfl | rfl | rfl | rfl | rfl | rfl : i = 0 ∨ i = 1 ∨ i = 2 ∨ i = 3 ∨ i = 4 ∨ i = 5 ∨ i = 6 ∨ i = 7 ∨ i = 8 ∨ i = 9 ∨ i = 10 ∨ i = 11 ∨ i = 12 ∨ i = 13 ∨ i = 14 ∨ i = 15 ∨ i = 16 := by omega
          · exact h0.symm
          · exact b0.symm
          · exact b1.symm
          · exact b2.symm
          · exact b3.symm
          · exact c0.symm
          · exact c1'.symm
          · exact c2'.symm
          · exact c3.symm
          · exact d0.symm
          · exact d1.symm
          · exact d2.symm
          · exact d3.symm
          · exact e0.symm
          · exact e1.symm
          · exact e2.symm
          · exact e3.symm
    rw [List.getD_eq_getElem?_getD, List.getD_eq_getElem?_getD, List.getElem?_eq_getElem (by rw [headL_length]; exact h1), List.getElem?_eq_getElem h2] at key
    exact key
theorem readM_cons (l0 : List Nat) (rest : List (List Nat)) (gen num : Nat) : readM (l0 :: rest) gen num =
    if word4 l0 1 = 0 ∨ (gen ≠ 0 ∧ word4 l0 1 ≠ gen) ∨ word4 l0 9 > (rest.length + 1) * 64 ∨ 1 + needN (word4 l0 9) > rest.length + 1 then none
    else if headL (word4 l0 1) num ((rest.take (needN (word4 l0 9))).flatten.take (word4 l0 9)) = l0 then some ((rest.take (needN (word4 l0 9))).flatten.take (word4 l0 9), word4 l0 1) else none := rfl
set_option maxRecDepth 20000 in
/-- What a record's reading hangs on. -/
theorem readM_congr {l l' : List (List Nat)} {gen num : Nat} {b : List Nat} {g : Nat} (h64 : ∀ s ∈ l, s.length = 64 ∧ ∀ d ∈ s, d < 256) (h : readM l gen num = some (b, g)) (hl : l'.length = l.length) (ht : l'.take (1 + needN b.length) = l.take (1 + needN b.length)) : readM l' gen num = some (b, g) := by
  obtain ⟨hne, hfit, _, _, _, _⟩ := readM_some h64 h
  cases l with
  | nil => exact absurd rfl hne
  | cons l0 rest =>
    cases l' with
    | nil => simp at hl
    | cons l0' rest' =>
      rw [Nat.add_comm, List.take_succ_cons, List.take_succ_cons] at ht
      injection ht with e1 e2
      subst e1
      have hl' : rest'.length = rest.length := by simpa using hl
      rw [readM_cons] at h ⊢
      rw [hl']
      split at h
      · cases h
      · rename_i hc
        rw [if_neg hc]
        split at h
        · rename_i he
          injection h with h
          injection h with h1 h2
          have hbl : b.length = word4 l0' 9 := by
            rw [← h1, List.length_take, flat_64 _ fun s hs => (h64 s (List.mem_cons_of_mem _ (List.mem_of_mem_take hs))).1, List.length_take]
            simp only [not_or] at hc
            have := hc.2.2.2
            unfold needN at *
            omega
          rw [hbl] at e2
          rw [e2, if_pos he, h1, h2]
        · cases h
theorem halfF_congr {l l' : List (List Nat)} (h64 : ∀ s ∈ l, Sec s) (hl : l'.length = l.length) : ∀ (f gen : Nat) (out : List (List Nat)) (at_ : Nat), l.length + 1 ≤ f + at_ →
    (∀ j, j < (halfF f l gen out at_).2.2 → l'.getD j [] = l.getD j []) → Bad (l'.drop (halfF f l gen out at_).2.2) → at_ ≤ l.length → halfF f l' gen out at_ = halfF f l gen out at_
  | 0, gen, out, at_, hf, _, _, h => by omega
  | f + 1, gen, out, at_, hf, hs, hb, hat => by
    rw [halfF] at hs hb
    rw [halfF, halfF]
    cases hr : readM (l.drop at_) gen out.length with
    | none =>
      rw [hr] at hs hb
      simp only at hs hb ⊢
      rw [readM_bad hb]
    | some x =>
      obtain ⟨b, g⟩ := x
      rw [hr] at hs hb
      simp only at hs hb ⊢
      have h64d : ∀ s ∈ l.drop at_, s.length = 64 ∧ ∀ d ∈ s, d < 256 := fun s hs => h64 s (List.mem_of_mem_drop hs)
      obtain ⟨_, hfit, _, _, _, _⟩ := readM_some h64d hr
      rw [List.length_drop] at hfit
      have hend : at_ + 1 + needN b.length ≤ (halfF f l g (out ++ [b]) (at_ + 1 + needN b.length)).2.2 := halfF_end _ _ _ _ _
      have hr' : readM (l'.drop at_) gen out.length = some (b, g) := by
        refine readM_congr h64d hr (by rw [List.length_drop, List.length_drop, hl]) ?_
        refine list_ext (by rw [List.length_take, List.length_take, List.length_drop, List.length_drop, hl]) fun j hj => ?_
        rw [List.length_take, List.length_drop] at hj
        rw [List.getD_eq_getElem?_getD, List.getD_eq_getElem?_getD, List.getElem?_take, if_pos (by omega), List.getElem?_take, if_pos (by omega), List.getElem?_drop, List.getElem?_drop, ← List.getD_eq_getElem?_getD, ← List.getD_eq_getElem?_getD]
        exact hs _ (by omega)
      rw [hr']
      simp only
      exact halfF_congr h64 hl f g (out ++ [b]) _ (by omega) hs hb (by omega)
where halfF_end : ∀ (f : Nat) (l : List (List Nat)) (gen : Nat) (out : List (List Nat)) (at_ : Nat), at_ ≤ (halfF f l gen out at_).2.2
  | 0, _, _, _, _ => Nat.le_refl _
  | f + 1, l, gen, out, at_ => by
    rw [halfF]
    cases readM (l.drop at_) gen out.length with
    | none => exact Nat.le_refl _
    | some x =>
      obtain ⟨b, g⟩ := x
      have := halfF_end f l g (out ++ [b]) (at_ + 1 + needN b.length)
      simp only
      omega
/-- A half that is made nought behind its end has what it had. -/
theorem halfM_congr {l l' : List (List Nat)} (h64 : ∀ s ∈ l, Sec s) (hl : l'.length = l.length) (hs : ∀ j, j < (halfM l).2.2 → l'.getD j [] = l.getD j []) (hb : Bad (l'.drop (halfM l).2.2)) : halfM l' = halfM l := by
  unfold halfM at hs hb ⊢
  rw [hl]
  exact halfF_congr h64 hl _ _ _ _ (by omega) hs hb (Nat.zero_le _)
end Go.Proofs.Ytiooigkcliomlaa
/- The document's records of a half. No conditions. -/
set_option linter.unusedVariables false
set_option linter.unusedSimpArgs false
namespace Go.Proofs.Ytiooigkcliomlaa
open Go Go.Abs Go.RowKit
variable {base : Nat} {w0 : World} {G : Nat}

set_option maxRecDepth 10000 in
theorem Rnum_spec (st : St) (r : Hp) (v : Value) (m : List Nat) (hv : Nb r v m) (h4 : m.length = 4) (hO : Own st r) (k q : Value → St → Prop) (hk : k (.int .u32 (word4 m 0 : Nat)) st) : ACallF (C base w0 G) 45 [v] st k q := by
  refine ACallF.enter Try.func45 rfl (by kernel_rfl) ?_
  obtain ⟨B, o, sp, c, cs, ty, own, hvx, hmem, hget⟩ := hv.at (by intro e; rw [e] at h4; simp at h4)
  rw [h4] at hvx
  have hB := hO.get hmem
  have g0 := hget 0 (by omega)
  have g1 := hget 1 (by omega)
  have g2 := hget 2 (by omega)
  have g3 := hget 3 (by omega)
  have b0 := getD8 hv.2 0
  have b1 := getD8 hv.2 1
  have b2 := getD8 hv.2 2
  have b3 := getD8 hv.2 3
  have hw : word4 m 0 = ((m.getD 0 0 * 256 + m.getD 1 0) * 256 + m.getD 2 0) * 256 + m.getD 3 0 := rfl
  rw [hw] at hk
  generalize m.getD 0 0 = x0 at *
  generalize m.getD 1 0 = x1 at *
  generalize m.getD 2 0 = x2 at *
  generalize m.getD 3 0 = x3 at *
  rw [Nat.add_zero] at g0
  refine ACall.of (cx := C base w0 G) mixed Try.func45 rfl (by kernel_rfl) (by simp [Try.ntmps45]) ?_
  simp only [Try.results45]
  have c0 : IntKind.u32.wrap (x0 : Int) = (x0 : Int) := w_u32 (by omega)
  have c1 : IntKind.u32.wrap (x1 : Int) = (x1 : Int) := w_u32 (by omega)
  have c2 : IntKind.u32.wrap (x2 : Int) = (x2 : Int) := w_u32 (by omega)
  have c3 : IntKind.u32.wrap (x3 : Int) = (x3 : Int) := w_u32 (by omega)
  have e0 : IntKind.u32.wrap ((x0 : Int) * 256) = ((x0 * 256 : Nat) : Int) := by rw [w_u32 (by omega)]; omega
  have e1 : IntKind.u32.wrap (((x0 * 256 : Nat) : Int) + (x1 : Int)) = ((x0 * 256 + x1 : Nat) : Int) := by rw [w_u32 (by omega)]; omega
  have e2 : IntKind.u32.wrap (((x0 * 256 + x1 : Nat) : Int) * 256) = (((x0 * 256 + x1) * 256 : Nat) : Int) := by rw [w_u32 (by omega)]; omega
  have e3 : IntKind.u32.wrap ((((x0 * 256 + x1) * 256 : Nat) : Int) + (x2 : Int)) = (((x0 * 256 + x1) * 256 + x2 : Nat) : Int) := by rw [w_u32 (by omega)]; omega
  have e4 : IntKind.u32.wrap ((((x0 * 256 + x1) * 256 + x2 : Nat) : Int) * 256) = ((((x0 * 256 + x1) * 256 + x2) * 256 : Nat) : Int) := by rw [w_u32 (by omega)]; omega
  have e5 : IntKind.u32.wrap (((((x0 * 256 + x1) * 256 + x2) * 256 : Nat) : Int) + (x3 : Int)) = ((((x0 * 256 + x1) * 256 + x2) * 256 + x3 : Nat) : Int) := by rw [w_u32 (by omega)]; omega
  simp (config := { implicitDefEqProofs := false }) only [↓GP, GQ, ↓awp_seq, ↓awp_block, C_ex, Nat.reduceBEq, acap, afieldAddr, aload, astore, abin, anum, astr, aun, isAggD, cond_true, cond_false, ↓reduceIte, C_P, C_G, isTuple, Value.cells, setL, ares, aresL, ares1, reduceCtorEq, Nat.reduceEqDiff, eq_self, Nat.reduceAdd, if_true, if_false, one, Nat.reduceLeDiff, undef, gsl, aextract, aindexAddr, amake, implies_true, forall_const, alen, abuiltin, anil, isC, Int.reduceEq, Int.reduceLT, Int.reduceLE, Int.reduceAdd, Int.reduceToNat, Int.reduceNeg, Nat.reduceMul, Nat.reduceSub, abuild, afill, Int.reduceBNe, Int.reduceBEq]
  refine ADraw.of [(0, false, []), (1, false, []), (2, false, []), (3, false, []), (4, false, []), (5, false, []), (6, false, []), (7, false, []), (8, false, []), (9, false, []), (10, false, []), (11, false, []), (12, false, []), (13, false, []), (14, false, []), (15, false, []), (16, false, []), (17, false, []), (18, false, []), (19, false, []), (20, false, []), (21, false, []), (22, false, [])] [] [] (by kernel_rfl) ?_
  simp (config := { implicitDefEqProofs := false }) only [↓GP, GQ, ↓awp_seq, ↓awp_block, C_ex, Nat.reduceBEq, acap, afieldAddr, aload, astore, abin, anum, astr, aun, isAggD, cond_true, cond_false, ↓reduceIte, C_P, C_G, isTuple, Value.cells, setL, ares, aresL, ares1, reduceCtorEq, Nat.reduceEqDiff, eq_self, Nat.reduceAdd, if_true, if_false, one, Nat.reduceLeDiff, undef, gsl, aextract, aindexAddr, amake, implies_true, forall_const, alen, abuiltin, anil, isC, Int.reduceEq, Int.reduceLT, Int.reduceLE, Int.reduceAdd, Int.reduceToNat, Int.reduceNeg, Nat.reduceMul, Nat.reduceSub, abuild, afill, Int.reduceBNe, Int.reduceBEq, hvx, Try.underlying23, Try.underlying5, Try.underlying3, Try.underlying47, asz5, aconv, hB, g0, g1, g2, g3, c0, c1, c2, c3, e0, e1, e2, e3, e4, e5]
  exact hk
theorem getD_cut (m : List Nat) (o i : Nat) (hi : i < 4) : ((m.drop o).take 4).getD i 0 = m.getD (o + i) 0 := by
  rw [List.getD_eq_getElem?_getD, List.getD_eq_getElem?_getD, List.getElem?_take, if_pos hi, List.getElem?_drop]
theorem word_cut (m : List Nat) (o : Nat) : word4 ((m.drop o).take 4) 0 = word4 m o := by
  unfold word4
  rw [getD_cut m o 0 (by decide), getD_cut m o (0 + 1) (by decide), getD_cut m o (0 + 2) (by decide), getD_cut m o (0 + 3) (by decide)]
  rfl
theorem cut4 {st : St} {r : Hp} {v : Value} {m : List Nat} (hv : Nb r v m) (hs : Sl Try.prog r v 1) (hm : m.length = 64) (hO : Own st r) (o : Nat) (ho : o ≤ 60) :
    ∃ v', aslice Try.prog st 23 v (some (.int .i64 (o : Nat))) (some (.int .i64 (o + 4 : Nat))) none = some v' ∧ Nb r v' ((m.drop o).take 4) := by
  obtain ⟨v', h1, h2, _⟩ := hv.part (lo := some (.int .i64 (o : Nat))) (hi := some (.int .i64 (o + 4 : Nat))) (l := o) (r := o + 4) hs hO Try.underlying23 asz5 (fun c hc => abounds_lohi (by omega) (by omega)) (by omega) (by omega)
  rw [show o + 4 - o = 4 by omega] at h2
  exact ⟨v', h1, h2⟩
theorem GVc.sl {v : Value} {cs : List Value} {n : Nat} {hg r : Hp} (h : GVc v cs n 1 5 hg) : Sl Try.prog (hg ++ r) v 1 := by
  rcases h with ⟨rfl, _, _, _⟩ | ⟨b, rfl, _, _, rfl⟩ | ⟨b, c, D, rfl, rfl, _, hc⟩
  · exact .inl rfl
  · exact .inr ⟨b, 0, none, 0, 0, rfl, Nat.le_refl _, .inl rfl⟩
  · exact .inr ⟨b, 0, some 0, n, c, rfl, hc, .inr ⟨rfl, D, 5, true, by simp, fun _ => asz5⟩⟩
end Go.Proofs.Ytiooigkcliomlaa
/- The document's records of a half. No conditions. -/
set_option linter.unusedVariables false
set_option linter.unusedSimpArgs false
namespace Go.Proofs.Ytiooigkcliomlaa
open Go Go.Abs Go.RowKit
variable {base : Nat} {w0 : World} {G : Nat}

set_option maxHeartbeats 4000000 in
set_option maxRecDepth 10000 in
theorem Rhalf_spec (st : St) (r : Hp) (v : Value) (ps : List (Value × List Nat)) (hv : Secs r v ps) (hl : ps.length ≤ 1500) (hO : Own st r) (k q : Value → St → Prop)
    (hk : ∀ outv H st', Recs H outv (halfM (ps.map (·.2))).2.1 → Own st' (H ++ r) → k (.tuple #[outv, .int .i64 (halfM (ps.map (·.2))).1, .int .i64 (halfM (ps.map (·.2))).2.2]) st') :
    ACallF (C base w0 G) 21 [v] st k q := by
  refine ACallF.enter Try.func21 rfl (by kernel_rfl) ?_
  obtain ⟨hP, hS, hE⟩ := hv
  obtain ⟨a, c, hvs⟩ : ∃ a c, v = .slice a ps.length c := by
    obtain ⟨a, c, h, _⟩ := hP.1.isSlice
    rw [List.length_map] at h
    exact ⟨a, c, h⟩
  have h64 : ∀ s ∈ ps.map (·.2), s.length = 64 ∧ ∀ d ∈ s, d < 256 := fun s hs => by
    obtain ⟨p, hp, rfl⟩ := List.mem_map.1 hs
    exact ⟨(hE p hp).2, (hP.2 p hp).2⟩
  refine ACall.of (cx := C base w0 G) mixed Try.func21 rfl (by kernel_rfl) (by simp [Try.ntmps21]) ?_
  simp only [Try.results21]
  simp (config := { implicitDefEqProofs := false }) only [↓GP, GQ, ↓awp_seq, ↓awp_block, C_ex, Nat.reduceBEq, acap, afieldAddr, aload, astore, abin, anum, astr, aun, isAggD, cond_true, cond_false, ↓reduceIte, C_P, C_G, isTuple, Value.cells, setL, ares, aresL, ares1, reduceCtorEq, Nat.reduceEqDiff, eq_self, Nat.reduceAdd, if_true, if_false, one, Nat.reduceLeDiff, undef, gsl, aextract, aindexAddr, amake, implies_true, forall_const, alen, abuiltin, anil, isC, Int.reduceEq, Int.reduceLT, Int.reduceLE, Int.reduceAdd, Int.reduceToNat, Int.reduceNeg, Nat.reduceMul, Nat.reduceSub, abuild, afill, Int.reduceBNe, Int.reduceBEq, hvs, Try.underlying22, Try.underlying3]
  refine ⟨fun m ρ s => ∃ (at_ f gen : Nat) (qs : List (Value × List Nat)) (ov : Value) (ho hr : Hp), m = ps.length - at_ ∧ at_ ≤ ps.length ∧ ρ 0 = v ∧ ρ 5 = ov ∧ ρ 6 = .int .u32 gen ∧ ρ 7 = .int .i64 at_ ∧ gen < 4294967296 ∧ qs.length ≤ at_ ∧
    ps.length + 1 ≤ f + at_ ∧ halfF f (ps.map (·.2)) gen (qs.map (·.2)) at_ = halfM (ps.map (·.2)) ∧ GVc ov (qs.map (·.1)) qs.length 1 23 ho ∧ (∀ q ∈ qs, Nb hr q.1 q.2) ∧ Own s (ho ++ (hr ++ r)),
    ⟨ps.length, 0, ps.length + 1, 0, [], _, [], [], rfl, Nat.zero_le _, hvs.symm, rfl, rfl, rfl, by decide, Nat.le_refl _, Nat.le_refl _, by rw [halfM, List.length_map]; rfl, GVc.nil, by simp, hO⟩, ?_⟩
  rintro m ρ s ⟨at_, f, gen, qs, ov, ho, hr, rfl, hat, h0, h5, h6, h7, hgen, hql, hf, hF, hG, hQ, hO⟩
  have hsub : ∀ e ∈ r, e ∈ ho ++ (hr ++ r) := fun e he => by simp [he]
  have wgen : IntKind.i64.wrap (gen : Int) = (gen : Int) := w_i64 (by omega)
  have fin : readM ((ps.map (·.2)).drop at_) gen qs.length = none → ∀ s' X, Own s' (X ++ (ho ++ (hr ++ r))) → k (.tuple #[ov, .int .i64 gen, .int .i64 at_]) s' := fun hnone s' X hO' => by
    rw [halfF_stop (by rw [List.length_map]; exact hnone)] at hF
    have e1 := congrArg Prod.fst hF
    have e2 := congrArg (fun x => x.2.1) hF
    have e3 := congrArg (fun x => x.2.2) hF
    simp only at e1 e2 e3
    have hk := hk ov (X ++ (ho ++ hr)) s' ⟨qs, e2, (hG.ps rfl asz23 hQ).1.sub fun e he => List.mem_append_right _ he, (hG.ps rfl asz23 hQ).2.sub fun e he => List.mem_append_right _ he⟩ (by simpa using hO')
    rw [← e1, ← e3] at hk
    exact hk
  by_cases him : at_ < ps.length
  case neg =>
    obtain rfl : at_ = ps.length := by omega
    simp (config := { implicitDefEqProofs := false }) only [↓GP, GQ, ↓awp_seq, ↓awp_block, C_ex, Nat.reduceBEq, acap, afieldAddr, aload, astore, abin, anum, astr, aun, isAggD, cond_true, cond_false, ↓reduceIte, C_P, C_G, isTuple, Value.cells, setL, ares, aresL, ares1, reduceCtorEq, Nat.reduceEqDiff, eq_self, Nat.reduceAdd, if_true, if_false, one, Nat.reduceLeDiff, undef, gsl, aextract, aindexAddr, amake, implies_true, forall_const, alen, abuiltin, anil, isC, Int.reduceEq, Int.reduceLT, Int.reduceLE, Int.reduceAdd, Int.reduceToNat, Int.reduceNeg, Nat.reduceMul, Nat.reduceSub, abuild, afill, Int.reduceBNe, Int.reduceBEq, h0, h5, h6, h7, hvs, Try.underlying22, Try.underlying3, Try.underlying47, Int.ofNat_lt, Nat.lt_irrefl, decide_false, aconv, wgen]
    exact fin (by rw [List.drop_of_length_le (by simp)]; rfl) s [] hO
  obtain ⟨B, o, sp, c', cs, ty, own, hvx, hmem, hget⟩ := hP.at (hO.perm (show List.Perm _ ((ho ++ hr) ++ r) by simp)).right (by intro e; rw [e] at him; simp at him)
  have hp : ps[at_]? = some ps[at_] := List.getElem?_eq_getElem him
  generalize ps[at_] = x at hp
  obtain ⟨x1, m⟩ := x
  have hg := hget at_ (x1, m) hp
  have hB := hO.get (b := B) (o := .cells cs ty own) (by simp [hmem])
  have hN : Nb r x1 m := hP.2 (x1, m) (List.mem_of_getElem? hp)
  obtain ⟨hSm, hm64⟩ := hE (x1, m) (List.mem_of_getElem? hp)
  have hSm : Sl Try.prog r x1 1 := hSm
  have hm64 : m.length = 64 := hm64
  have hsec : Sec m := ⟨hm64, hN.2⟩
  have hNs := hN.sub hsub
  have hSs := hSm.sub hsub
  obtain ⟨v1, hv1, hN1⟩ := cut4 hNs hSs hm64 hO 1 (by decide)
  obtain ⟨v5, hv5, hN5⟩ := cut4 hNs hSs hm64 hO 5 (by decide)
  obtain ⟨v9, hv9, hN9⟩ := cut4 hNs hSs hm64 hO 9 (by decide)
  have hl4 : ∀ o, o ≤ 60 → ((m.drop o).take 4).length = 4 := fun o ho => by rw [List.length_take, List.length_drop]; omega
  obtain ⟨B2, o2, sp2, c2, cs2, ty2, own2, hx1, hmem2, hget2⟩ := hNs.at (by intro e; rw [e] at hm64; simp at hm64)
  rw [hm64] at hx1
  have hB2 := hO.get hmem2
  have z0 := hget2 0 (by omega)
  have z63 := hget2 63 (by omega)
  rw [Nat.add_zero] at z0
  have hdrop : (ps.map (·.2)).drop at_ = m :: (ps.map (·.2)).drop (at_ + 1) := by
    rw [List.drop_eq_getElem_cons (by rw [List.length_map]; exact him)]
    congr 1
    have := List.getElem?_map (f := fun p : Value × List Nat => p.2) (l := ps) (i := at_)
    rw [hp, List.getElem?_eq_getElem (by rw [List.length_map]; exact him)] at this
    exact Option.some.inj this
  have hrl : ((ps.map (·.2)).drop (at_ + 1)).length = ps.length - (at_ + 1) := by rw [List.length_drop, List.length_map]
  rw [hdrop, readM_cons, hrl] at fin
  have wl1 := word4_lt hN.2 1
  have wl9 := word4_lt hN.2 9
  have wl5 := word4_lt hN.2 5
  have ww9 : IntKind.i64.wrap ((word4 m 9 : Nat) : Int) = ((word4 m 9 : Nat) : Int) := w_i64 (by omega)
  have ww5 : IntKind.i64.wrap ((word4 m 5 : Nat) : Int) = ((word4 m 5 : Nat) : Int) := w_i64 (by omega)
  have wm : IntKind.i64.wrap (64 * (ps.length : Int)) = ((64 * ps.length : Nat) : Int) := by rw [w_i64 (by omega)]; omega
  have wa1 : IntKind.i64.wrap ((at_ : Int) + 1) = ((at_ + 1 : Nat) : Int) := by rw [w_i64 (by omega)]; omega
  subst hx1
  simp (config := { implicitDefEqProofs := false }) only [↓GP, GQ, ↓awp_seq, ↓awp_block, C_ex, Nat.reduceBEq, acap, afieldAddr, aload, astore, abin, anum, astr, aun, isAggD, cond_true, cond_false, ↓reduceIte, C_P, C_G, isTuple, Value.cells, setL, ares, aresL, ares1, reduceCtorEq, Nat.reduceEqDiff, eq_self, Nat.reduceAdd, if_true, if_false, one, Nat.reduceLeDiff, undef, gsl, aextract, aindexAddr, amake, implies_true, forall_const, alen, abuiltin, anil, isC, Int.reduceEq, Int.reduceLT, Int.reduceLE, Int.reduceAdd, Int.reduceToNat, Int.reduceNeg, Nat.reduceMul, Nat.reduceSub, abuild, afill, Int.reduceBNe, Int.reduceBEq, h0, h5, h6, h7, hvx, hB, hg, asz23, Try.underlying22, Try.underlying23, Try.underlying3, Int.ofNat_lt, him, decide_true]
  refine ⟨by omega, ?_⟩
  obtain ⟨oa, oc, hov⟩ := hG.isSlice
  have hv9' : aslice Try.prog s 23 (.slice (some ⟨B2, o2, sp2⟩) 64 c2) (some (.int .i64 9)) (some (.int .i64 13)) none = some v9 := hv9
  have hv1' : aslice Try.prog s 23 (.slice (some ⟨B2, o2, sp2⟩) 64 c2) (some (.int .i64 1)) (some (.int .i64 5)) none = some v1 := hv1
  have hv5' : aslice Try.prog s 23 (.slice (some ⟨B2, o2, sp2⟩) 64 c2) (some (.int .i64 5)) (some (.int .i64 9)) none = some v5 := hv5
  generalize hrest : (ps.map (·.2)).drop (at_ + 1) = rest at fin hrl hdrop
  have hr64 : ∀ s ∈ rest, s.length = 64 ∧ ∀ d ∈ s, d < 256 := fun s hs => h64 s (List.mem_of_mem_drop (i := at_ + 1) (by rw [hrest]; exact hs))
  have hbl : 1 + needN (word4 m 9) ≤ rest.length + 1 → ((rest.take (needN (word4 m 9))).flatten.take (word4 m 9)).length = word4 m 9 := fun hh => by
    rw [List.length_take, flat_64 _ fun s hs => (hr64 s (List.mem_of_mem_take hs)).1, List.length_take]
    unfold needN at *
    omega
  have hb8 : ∀ d ∈ ((rest.take (needN (word4 m 9))).flatten.take (word4 m 9)), d < 256 := fun d hd => by
    obtain ⟨s, hs, hd⟩ := List.mem_flatten.1 (List.mem_of_mem_take hd)
    exact (hr64 s (List.mem_of_mem_take hs)).2 d hd
  have hiff : 1 + needN (word4 m 9) ≤ rest.length + 1 → _ := fun hh => headL_iff hsec (num := qs.length) (b := (rest.take (needN (word4 m 9))).flatten.take (word4 m 9)) (by omega) (by rw [hbl hh]; exact wl9) hb8 (hbl hh)
  generalize hbb : (rest.take (needN (word4 m 9))).flatten.take (word4 m 9) = b at *
  have hnone : ((word4 m 1 = 0 ∨ (gen ≠ 0 ∧ word4 m 1 ≠ gen) ∨ 1 + needN (word4 m 9) > rest.length + 1) ∨ ¬ (m.getD 0 0 = 74 ∧ m.getD 63 0 = 165 ∧ word4 m 5 = qs.length ∧ (∀ i, 17 ≤ i → i < 63 → m.getD i 0 = 0) ∧ crcN b = word4 m 13)) → ∀ s' X, Own s' (X ++ (ho ++ (hr ++ r))) → k (.tuple #[ov, .int .i64 gen, .int .i64 at_]) s' := fun hh => by
    refine fin ?_
    split
    · rfl
    · rename_i hc
      simp only [not_or] at hc
      rw [if_neg]
      intro e
      rcases hh with (h | h | h) | h
      · exact hc.1 h
      · exact hc.2.1 h
      · rw [← hrl] at hc; exact hc.2.2.2 h
      · rw [← hrl] at hc; exact h ((hiff (by omega)).1 e)
  have wan : IntKind.i64.wrap (((at_ + 1 : Nat) : Int) + ((needN (word4 m 9) : Nat) : Int)) = ((at_ + 1 + needN (word4 m 9) : Nat) : Int) := by
    have : needN (word4 m 9) ≤ 4294967296 := by unfold needN; omega
    rw [w_i64 (by omega)]; omega
  simp (config := { implicitDefEqProofs := false }) only [↓GP, GQ, ↓awp_seq, ↓awp_block, C_ex, Nat.reduceBEq, acap, afieldAddr, aload, astore, abin, anum, astr, aun, isAggD, cond_true, cond_false, ↓reduceIte, C_P, C_G, isTuple, Value.cells, setL, ares, aresL, ares1, reduceCtorEq, Nat.reduceEqDiff, eq_self, Nat.reduceAdd, if_true, if_false, one, Nat.reduceLeDiff, undef, gsl, aextract, aindexAddr, amake, implies_true, forall_const, alen, abuiltin, anil, isC, Int.reduceEq, Int.reduceLT, Int.reduceLE, Int.reduceAdd, Int.reduceToNat, Int.reduceNeg, Nat.reduceMul, Nat.reduceSub, abuild, afill, Int.reduceBNe, Int.reduceBEq, Try.underlying3, Try.underlying5, Try.underlying22, Try.underlying23, Try.underlying47, aconv, ww9, ww5, wm, wa1, wgen, wan, asz5, asz23, hB, hB2, z0, z63, hg, hv9', hv1', hv5', hvx, h0, h5, h6, h7, hov]
  refine Rnum_spec s _ v9 _ hN9 (hl4 9 (by decide)) hO _ _ ?_
  rw [word_cut]
  simp (config := { implicitDefEqProofs := false }) only [↓GP, GQ, ↓awp_seq, ↓awp_block, C_ex, Nat.reduceBEq, acap, afieldAddr, aload, astore, abin, anum, astr, aun, isAggD, cond_true, cond_false, ↓reduceIte, C_P, C_G, isTuple, Value.cells, setL, ares, aresL, ares1, reduceCtorEq, Nat.reduceEqDiff, eq_self, Nat.reduceAdd, if_true, if_false, one, Nat.reduceLeDiff, undef, gsl, aextract, aindexAddr, amake, implies_true, forall_const, alen, abuiltin, anil, isC, Int.reduceEq, Int.reduceLT, Int.reduceLE, Int.reduceAdd, Int.reduceToNat, Int.reduceNeg, Nat.reduceMul, Nat.reduceSub, abuild, afill, Int.reduceBNe, Int.reduceBEq, Try.underlying3, Try.underlying5, Try.underlying22, Try.underlying23, Try.underlying47, aconv, ww9, ww5, wm, wa1, wgen, wan, asz5, asz23, hB, hB2, z0, z63, hg, hv9', hv1', hv5', hvx, h0, h5, h6, h7, hov]
  refine Rnum_spec s _ v1 _ hN1 (hl4 1 (by decide)) hO _ _ ?_
  rw [word_cut]
  simp (config := { implicitDefEqProofs := false }) only [↓GP, GQ, C_ex, Nat.reduceBEq, acap, afieldAddr, aload, astore, abin, anum, astr, aun, isAggD, cond_true, cond_false, ↓reduceIte, C_P, C_G, isTuple, Value.cells, setL, ares, aresL, ares1, reduceCtorEq, Nat.reduceEqDiff, eq_self, Nat.reduceAdd, if_true, if_false, one, Nat.reduceLeDiff, undef, gsl, aextract, aindexAddr, amake, implies_true, forall_const, alen, abuiltin, anil, isC, Int.reduceEq, Int.reduceLT, Int.reduceLE, Int.reduceAdd, Int.reduceToNat, Int.reduceNeg, Nat.reduceMul, Nat.reduceSub, abuild, afill, Int.reduceBNe, Int.reduceBEq, Try.underlying3, Try.underlying5, Try.underlying22, Try.underlying23, Try.underlying47, aconv, ww9, ww5, wm, wa1, wgen, wan, asz5, asz23, hB, hB2, z0, z63, hg, hv9', hv1', hv5', hvx, h0, h5, h6, h7, hov]
  refine seq_cut (fun ρ s' => ρ 0 = v ∧ ρ 5 = ov ∧ ρ 6 = .int .u32 gen ∧ ρ 7 = .int .i64 at_ ∧ ρ 8 = .slice (some ⟨B2, o2, sp2⟩) 64 c2 ∧ ρ 9 = .int .i64 (word4 m 9 : Nat) ∧ ρ 10 = .int .u32 (word4 m 1 : Nat) ∧ s' = s ∧
    (m.getD 0 0 = 74 ∧ m.getD 63 0 = 165 ∧ word4 m 5 = qs.length ∧ ¬ (word4 m 1 = 0 ∨ (gen ≠ 0 ∧ word4 m 1 ≠ gen) ∨ 1 + needN (word4 m 9) > rest.length + 1))) ?_ ?_
  · by_cases a0 : m.getD 0 0 = 74
    case neg =>
      simp (config := { implicitDefEqProofs := false }) only [↓GP, GQ, ↓awp_seq, ↓awp_block, C_ex, Nat.reduceBEq, acap, afieldAddr, aload, astore, abin, anum, astr, aun, isAggD, cond_true, cond_false, ↓reduceIte, C_P, C_G, isTuple, Value.cells, setL, ares, aresL, ares1, reduceCtorEq, Nat.reduceEqDiff, eq_self, Nat.reduceAdd, if_true, if_false, one, Nat.reduceLeDiff, undef, gsl, aextract, aindexAddr, amake, implies_true, forall_const, alen, abuiltin, anil, isC, Int.reduceEq, Int.reduceLT, Int.reduceLE, Int.reduceAdd, Int.reduceToNat, Int.reduceNeg, Nat.reduceMul, Nat.reduceSub, abuild, afill, Int.reduceBNe, Int.reduceBEq, Try.underlying3, Try.underlying5, Try.underlying22, Try.underlying23, Try.underlying47, aconv, ww9, ww5, wm, wa1, wgen, wan, asz5, asz23, hB, hB2, z0, z63, hg, hv9', hv1', hv5', hvx, h0, h5, h6, h7, hov, bneT (show ¬ ((m.getD 0 0 : Nat) : Int) = 74 by omega)]
      rw [← hov]
      exact hnone (.inr fun h => a0 h.1) s [] hO
    by_cases a63 : m.getD 63 0 = 165
    case neg =>
      simp (config := { implicitDefEqProofs := false }) only [↓GP, GQ, ↓awp_seq, ↓awp_block, C_ex, Nat.reduceBEq, acap, afieldAddr, aload, astore, abin, anum, astr, aun, isAggD, cond_true, cond_false, ↓reduceIte, C_P, C_G, isTuple, Value.cells, setL, ares, aresL, ares1, reduceCtorEq, Nat.reduceEqDiff, eq_self, Nat.reduceAdd, if_true, if_false, one, Nat.reduceLeDiff, undef, gsl, aextract, aindexAddr, amake, implies_true, forall_const, alen, abuiltin, anil, isC, Int.reduceEq, Int.reduceLT, Int.reduceLE, Int.reduceAdd, Int.reduceToNat, Int.reduceNeg, Nat.reduceMul, Nat.reduceSub, abuild, afill, Int.reduceBNe, Int.reduceBEq, Try.underlying3, Try.underlying5, Try.underlying22, Try.underlying23, Try.underlying47, aconv, ww9, ww5, wm, wa1, wgen, wan, asz5, asz23, hB, hB2, z0, z63, hg, hv9', hv1', hv5', hvx, h0, h5, h6, h7, hov, bneF (show ((m.getD 0 0 : Nat) : Int) = 74 by omega), bneT (show ¬ ((m.getD 63 0 : Nat) : Int) = 165 by omega)]
      rw [← hov]
      exact hnone (.inr fun h => a63 h.2.1) s [] hO
    by_cases ag : word4 m 1 = 0
    · simp (config := { implicitDefEqProofs := false }) only [↓GP, GQ, ↓awp_seq, ↓awp_block, C_ex, Nat.reduceBEq, acap, afieldAddr, aload, astore, abin, anum, astr, aun, isAggD, cond_true, cond_false, ↓reduceIte, C_P, C_G, isTuple, Value.cells, setL, ares, aresL, ares1, reduceCtorEq, Nat.reduceEqDiff, eq_self, Nat.reduceAdd, if_true, if_false, one, Nat.reduceLeDiff, undef, gsl, aextract, aindexAddr, amake, implies_true, forall_const, alen, abuiltin, anil, isC, Int.reduceEq, Int.reduceLT, Int.reduceLE, Int.reduceAdd, Int.reduceToNat, Int.reduceNeg, Nat.reduceMul, Nat.reduceSub, abuild, afill, Int.reduceBNe, Int.reduceBEq, Try.underlying3, Try.underlying5, Try.underlying22, Try.underlying23, Try.underlying47, aconv, ww9, ww5, wm, wa1, wgen, wan, asz5, asz23, hB, hB2, z0, z63, hg, hv9', hv1', hv5', hvx, h0, h5, h6, h7, hov, bneF (show ((m.getD 0 0 : Nat) : Int) = 74 by omega), bneF (show ((m.getD 63 0 : Nat) : Int) = 165 by omega), beqT (show ((word4 m 1 : Nat) : Int) = 0 by omega)]
      rw [← hov]
      exact hnone (.inl (.inl ag)) s [] hO
    by_cases agen : gen ≠ 0 ∧ word4 m 1 ≠ gen
    · simp (config := { implicitDefEqProofs := false }) only [↓GP, GQ, ↓awp_seq, ↓awp_block, C_ex, Nat.reduceBEq, acap, afieldAddr, aload, astore, abin, anum, astr, aun, isAggD, cond_true, cond_false, ↓reduceIte, C_P, C_G, isTuple, Value.cells, setL, ares, aresL, ares1, reduceCtorEq, Nat.reduceEqDiff, eq_self, Nat.reduceAdd, if_true, if_false, one, Nat.reduceLeDiff, undef, gsl, aextract, aindexAddr, amake, implies_true, forall_const, alen, abuiltin, anil, isC, Int.reduceEq, Int.reduceLT, Int.reduceLE, Int.reduceAdd, Int.reduceToNat, Int.reduceNeg, Nat.reduceMul, Nat.reduceSub, abuild, afill, Int.reduceBNe, Int.reduceBEq, Try.underlying3, Try.underlying5, Try.underlying22, Try.underlying23, Try.underlying47, aconv, ww9, ww5, wm, wa1, wgen, wan, asz5, asz23, hB, hB2, z0, z63, hg, hv9', hv1', hv5', hvx, h0, h5, h6, h7, hov, bneF (show ((m.getD 0 0 : Nat) : Int) = 74 by omega), bneF (show ((m.getD 63 0 : Nat) : Int) = 165 by omega), beqF (show ¬ ((word4 m 1 : Nat) : Int) = 0 by omega), bneT (show ¬ (gen : Int) = 0 by omega), bneT (show ¬ ((word4 m 1 : Nat) : Int) = (gen : Int) by omega)]
      rw [← hov]
      exact hnone (.inl (.inr (.inl agen))) s [] hO
    have hgen2 : ((gen : Int) != 0) = false ∨ (((gen : Int) != 0) = true ∧ (((word4 m 1 : Nat) : Int) != (gen : Int)) = false) := by
      by_cases hz : gen = 0
      · exact .inl (bneF (by omega))
      · exact .inr ⟨bneT (by omega), bneF (by omega)⟩
    have step : ∀ P : Prop, (((gen : Int) != 0) = false → P) → (((gen : Int) != 0) = true → (((word4 m 1 : Nat) : Int) != (gen : Int)) = false → P) → P := fun P h1 h2 => hgen2.elim h1 fun h => h2 h.1 h.2
    refine step _ (fun hz => ?_) (fun hz hz2 => ?_)
    · simp (config := { implicitDefEqProofs := false }) only [↓GP, GQ, ↓awp_seq, ↓awp_block, C_ex, Nat.reduceBEq, acap, afieldAddr, aload, astore, abin, anum, astr, aun, isAggD, cond_true, cond_false, ↓reduceIte, C_P, C_G, isTuple, Value.cells, setL, ares, aresL, ares1, reduceCtorEq, Nat.reduceEqDiff, eq_self, Nat.reduceAdd, if_true, if_false, one, Nat.reduceLeDiff, undef, gsl, aextract, aindexAddr, amake, implies_true, forall_const, alen, abuiltin, anil, isC, Int.reduceEq, Int.reduceLT, Int.reduceLE, Int.reduceAdd, Int.reduceToNat, Int.reduceNeg, Nat.reduceMul, Nat.reduceSub, abuild, afill, Int.reduceBNe, Int.reduceBEq, Try.underlying3, Try.underlying5, Try.underlying22, Try.underlying23, Try.underlying47, aconv, ww9, ww5, wm, wa1, wgen, wan, asz5, asz23, hB, hB2, z0, z63, hg, hv9', hv1', hv5', hvx, h0, h5, h6, h7, hov, bneF (show ((m.getD 0 0 : Nat) : Int) = 74 by omega), bneF (show ((m.getD 63 0 : Nat) : Int) = 165 by omega), beqF (show ¬ ((word4 m 1 : Nat) : Int) = 0 by omega), hz]
      refine Rnum_spec s _ v5 _ hN5 (hl4 5 (by decide)) hO _ _ ?_
      rw [word_cut]
      by_cases an : word4 m 5 = qs.length
      case neg =>
        simp (config := { implicitDefEqProofs := false }) only [↓GP, GQ, ↓awp_seq, ↓awp_block, C_ex, Nat.reduceBEq, acap, afieldAddr, aload, astore, abin, anum, astr, aun, isAggD, cond_true, cond_false, ↓reduceIte, C_P, C_G, isTuple, Value.cells, setL, ares, aresL, ares1, reduceCtorEq, Nat.reduceEqDiff, eq_self, Nat.reduceAdd, if_true, if_false, one, Nat.reduceLeDiff, undef, gsl, aextract, aindexAddr, amake, implies_true, forall_const, alen, abuiltin, anil, isC, Int.reduceEq, Int.reduceLT, Int.reduceLE, Int.reduceAdd, Int.reduceToNat, Int.reduceNeg, Nat.reduceMul, Nat.reduceSub, abuild, afill, Int.reduceBNe, Int.reduceBEq, Try.underlying3, Try.underlying5, Try.underlying22, Try.underlying23, Try.underlying47, aconv, ww9, ww5, wm, wa1, wgen, wan, asz5, asz23, hB, hB2, z0, z63, hg, hv9', hv1', hv5', hvx, h0, h5, h6, h7, hov, bneT (show ¬ ((word4 m 5 : Nat) : Int) = (qs.length : Int) by omega)]
        rw [← hov]
        exact hnone (.inr fun h => an h.2.2.1) s [] hO
      by_cases al : word4 m 9 > 64 * ps.length
      · simp (config := { implicitDefEqProofs := false }) only [↓GP, GQ, ↓awp_seq, ↓awp_block, C_ex, Nat.reduceBEq, acap, afieldAddr, aload, astore, abin, anum, astr, aun, isAggD, cond_true, cond_false, ↓reduceIte, C_P, C_G, isTuple, Value.cells, setL, ares, aresL, ares1, reduceCtorEq, Nat.reduceEqDiff, eq_self, Nat.reduceAdd, if_true, if_false, one, Nat.reduceLeDiff, undef, gsl, aextract, aindexAddr, amake, implies_true, forall_const, alen, abuiltin, anil, isC, Int.reduceEq, Int.reduceLT, Int.reduceLE, Int.reduceAdd, Int.reduceToNat, Int.reduceNeg, Nat.reduceMul, Nat.reduceSub, abuild, afill, Int.reduceBNe, Int.reduceBEq, Try.underlying3, Try.underlying5, Try.underlying22, Try.underlying23, Try.underlying47, aconv, ww9, ww5, wm, wa1, wgen, wan, asz5, asz23, hB, hB2, z0, z63, hg, hv9', hv1', hv5', hvx, h0, h5, h6, h7, hov, bneF (show ((word4 m 5 : Nat) : Int) = (qs.length : Int) by omega), show ((word4 m 9 : Nat) : Int) > ((64 * ps.length : Nat) : Int) by omega, decide_true]
        rw [← hov]
        exact hnone (.inl (.inr (.inr (by unfold needN; omega)))) s [] hO
      simp (config := { implicitDefEqProofs := false }) only [↓GP, GQ, ↓awp_seq, ↓awp_block, C_ex, Nat.reduceBEq, acap, afieldAddr, aload, astore, abin, anum, astr, aun, isAggD, cond_true, cond_false, ↓reduceIte, C_P, C_G, isTuple, Value.cells, setL, ares, aresL, ares1, reduceCtorEq, Nat.reduceEqDiff, eq_self, Nat.reduceAdd, if_true, if_false, one, Nat.reduceLeDiff, undef, gsl, aextract, aindexAddr, amake, implies_true, forall_const, alen, abuiltin, anil, isC, Int.reduceEq, Int.reduceLT, Int.reduceLE, Int.reduceAdd, Int.reduceToNat, Int.reduceNeg, Nat.reduceMul, Nat.reduceSub, abuild, afill, Int.reduceBNe, Int.reduceBEq, Try.underlying3, Try.underlying5, Try.underlying22, Try.underlying23, Try.underlying47, aconv, ww9, ww5, wm, wa1, wgen, wan, asz5, asz23, hB, hB2, z0, z63, hg, hv9', hv1', hv5', hvx, h0, h5, h6, h7, hov, bneF (show ((word4 m 5 : Nat) : Int) = (qs.length : Int) by omega), show ¬ ((word4 m 9 : Nat) : Int) > ((64 * ps.length : Nat) : Int) by omega, decide_false]
      refine RNeed_spec s _ (by omega) _ _ ?_
      by_cases af : at_ + 1 + needN (word4 m 9) > ps.length
      · simp (config := { implicitDefEqProofs := false }) only [↓GP, GQ, ↓awp_seq, ↓awp_block, C_ex, Nat.reduceBEq, acap, afieldAddr, aload, astore, abin, anum, astr, aun, isAggD, cond_true, cond_false, ↓reduceIte, C_P, C_G, isTuple, Value.cells, setL, ares, aresL, ares1, reduceCtorEq, Nat.reduceEqDiff, eq_self, Nat.reduceAdd, if_true, if_false, one, Nat.reduceLeDiff, undef, gsl, aextract, aindexAddr, amake, implies_true, forall_const, alen, abuiltin, anil, isC, Int.reduceEq, Int.reduceLT, Int.reduceLE, Int.reduceAdd, Int.reduceToNat, Int.reduceNeg, Nat.reduceMul, Nat.reduceSub, abuild, afill, Int.reduceBNe, Int.reduceBEq, Try.underlying3, Try.underlying5, Try.underlying22, Try.underlying23, Try.underlying47, aconv, ww9, ww5, wm, wa1, wgen, wan, asz5, asz23, hB, hB2, z0, z63, hg, hv9', hv1', hv5', hvx, h0, h5, h6, h7, hov, show ((at_ + 1 + needN (word4 m 9) : Nat) : Int) > (ps.length : Int) by omega, decide_true]
        rw [← hov]
        exact hnone (.inl (.inr (.inr (by omega)))) s [] hO
      simp (config := { implicitDefEqProofs := false }) only [↓GP, GQ, ↓awp_seq, ↓awp_block, C_ex, Nat.reduceBEq, acap, afieldAddr, aload, astore, abin, anum, astr, aun, isAggD, cond_true, cond_false, ↓reduceIte, C_P, C_G, isTuple, Value.cells, setL, ares, aresL, ares1, reduceCtorEq, Nat.reduceEqDiff, eq_self, Nat.reduceAdd, if_true, if_false, one, Nat.reduceLeDiff, undef, gsl, aextract, aindexAddr, amake, implies_true, forall_const, alen, abuiltin, anil, isC, Int.reduceEq, Int.reduceLT, Int.reduceLE, Int.reduceAdd, Int.reduceToNat, Int.reduceNeg, Nat.reduceMul, Nat.reduceSub, abuild, afill, Int.reduceBNe, Int.reduceBEq, Try.underlying3, Try.underlying5, Try.underlying22, Try.underlying23, Try.underlying47, aconv, ww9, ww5, wm, wa1, wgen, wan, asz5, asz23, hB, hB2, z0, z63, hg, hv9', hv1', hv5', hvx, h0, h5, h6, h7, hov, show ¬ ((at_ + 1 + needN (word4 m 9) : Nat) : Int) > (ps.length : Int) by omega, decide_false]
      exact ⟨a0, a63, an, fun h => h.elim ag fun h => h.elim agen fun h => by omega⟩
    · simp (config := { implicitDefEqProofs := false }) only [↓GP, GQ, ↓awp_seq, ↓awp_block, C_ex, Nat.reduceBEq, acap, afieldAddr, aload, astore, abin, anum, astr, aun, isAggD, cond_true, cond_false, ↓reduceIte, C_P, C_G, isTuple, Value.cells, setL, ares, aresL, ares1, reduceCtorEq, Nat.reduceEqDiff, eq_self, Nat.reduceAdd, if_true, if_false, one, Nat.reduceLeDiff, undef, gsl, aextract, aindexAddr, amake, implies_true, forall_const, alen, abuiltin, anil, isC, Int.reduceEq, Int.reduceLT, Int.reduceLE, Int.reduceAdd, Int.reduceToNat, Int.reduceNeg, Nat.reduceMul, Nat.reduceSub, abuild, afill, Int.reduceBNe, Int.reduceBEq, Try.underlying3, Try.underlying5, Try.underlying22, Try.underlying23, Try.underlying47, aconv, ww9, ww5, wm, wa1, wgen, wan, asz5, asz23, hB, hB2, z0, z63, hg, hv9', hv1', hv5', hvx, h0, h5, h6, h7, hov, bneF (show ((m.getD 0 0 : Nat) : Int) = 74 by omega), bneF (show ((m.getD 63 0 : Nat) : Int) = 165 by omega), beqF (show ¬ ((word4 m 1 : Nat) : Int) = 0 by omega), hz, hz2]
      refine Rnum_spec s _ v5 _ hN5 (hl4 5 (by decide)) hO _ _ ?_
      rw [word_cut]
      by_cases an : word4 m 5 = qs.length
      case neg =>
        simp (config := { implicitDefEqProofs := false }) only [↓GP, GQ, ↓awp_seq, ↓awp_block, C_ex, Nat.reduceBEq, acap, afieldAddr, aload, astore, abin, anum, astr, aun, isAggD, cond_true, cond_false, ↓reduceIte, C_P, C_G, isTuple, Value.cells, setL, ares, aresL, ares1, reduceCtorEq, Nat.reduceEqDiff, eq_self, Nat.reduceAdd, if_true, if_false, one, Nat.reduceLeDiff, undef, gsl, aextract, aindexAddr, amake, implies_true, forall_const, alen, abuiltin, anil, isC, Int.reduceEq, Int.reduceLT, Int.reduceLE, Int.reduceAdd, Int.reduceToNat, Int.reduceNeg, Nat.reduceMul, Nat.reduceSub, abuild, afill, Int.reduceBNe, Int.reduceBEq, Try.underlying3, Try.underlying5, Try.underlying22, Try.underlying23, Try.underlying47, aconv, ww9, ww5, wm, wa1, wgen, wan, asz5, asz23, hB, hB2, z0, z63, hg, hv9', hv1', hv5', hvx, h0, h5, h6, h7, hov, bneT (show ¬ ((word4 m 5 : Nat) : Int) = (qs.length : Int) by omega)]
        rw [← hov]
        exact hnone (.inr fun h => an h.2.2.1) s [] hO
      by_cases al : word4 m 9 > 64 * ps.length
      · simp (config := { implicitDefEqProofs := false }) only [↓GP, GQ, ↓awp_seq, ↓awp_block, C_ex, Nat.reduceBEq, acap, afieldAddr, aload, astore, abin, anum, astr, aun, isAggD, cond_true, cond_false, ↓reduceIte, C_P, C_G, isTuple, Value.cells, setL, ares, aresL, ares1, reduceCtorEq, Nat.reduceEqDiff, eq_self, Nat.reduceAdd, if_true, if_false, one, Nat.reduceLeDiff, undef, gsl, aextract, aindexAddr, amake, implies_true, forall_const, alen, abuiltin, anil, isC, Int.reduceEq, Int.reduceLT, Int.reduceLE, Int.reduceAdd, Int.reduceToNat, Int.reduceNeg, Nat.reduceMul, Nat.reduceSub, abuild, afill, Int.reduceBNe, Int.reduceBEq, Try.underlying3, Try.underlying5, Try.underlying22, Try.underlying23, Try.underlying47, aconv, ww9, ww5, wm, wa1, wgen, wan, asz5, asz23, hB, hB2, z0, z63, hg, hv9', hv1', hv5', hvx, h0, h5, h6, h7, hov, bneF (show ((word4 m 5 : Nat) : Int) = (qs.length : Int) by omega), show ((word4 m 9 : Nat) : Int) > ((64 * ps.length : Nat) : Int) by omega, decide_true]
        rw [← hov]
        exact hnone (.inl (.inr (.inr (by unfold needN; omega)))) s [] hO
      simp (config := { implicitDefEqProofs := false }) only [↓GP, GQ, ↓awp_seq, ↓awp_block, C_ex, Nat.reduceBEq, acap, afieldAddr, aload, astore, abin, anum, astr, aun, isAggD, cond_true, cond_false, ↓reduceIte, C_P, C_G, isTuple, Value.cells, setL, ares, aresL, ares1, reduceCtorEq, Nat.reduceEqDiff, eq_self, Nat.reduceAdd, if_true, if_false, one, Nat.reduceLeDiff, undef, gsl, aextract, aindexAddr, amake, implies_true, forall_const, alen, abuiltin, anil, isC, Int.reduceEq, Int.reduceLT, Int.reduceLE, Int.reduceAdd, Int.reduceToNat, Int.reduceNeg, Nat.reduceMul, Nat.reduceSub, abuild, afill, Int.reduceBNe, Int.reduceBEq, Try.underlying3, Try.underlying5, Try.underlying22, Try.underlying23, Try.underlying47, aconv, ww9, ww5, wm, wa1, wgen, wan, asz5, asz23, hB, hB2, z0, z63, hg, hv9', hv1', hv5', hvx, h0, h5, h6, h7, hov, bneF (show ((word4 m 5 : Nat) : Int) = (qs.length : Int) by omega), show ¬ ((word4 m 9 : Nat) : Int) > ((64 * ps.length : Nat) : Int) by omega, decide_false]
      refine RNeed_spec s _ (by omega) _ _ ?_
      by_cases af : at_ + 1 + needN (word4 m 9) > ps.length
      · simp (config := { implicitDefEqProofs := false }) only [↓GP, GQ, ↓awp_seq, ↓awp_block, C_ex, Nat.reduceBEq, acap, afieldAddr, aload, astore, abin, anum, astr, aun, isAggD, cond_true, cond_false, ↓reduceIte, C_P, C_G, isTuple, Value.cells, setL, ares, aresL, ares1, reduceCtorEq, Nat.reduceEqDiff, eq_self, Nat.reduceAdd, if_true, if_false, one, Nat.reduceLeDiff, undef, gsl, aextract, aindexAddr, amake, implies_true, forall_const, alen, abuiltin, anil, isC, Int.reduceEq, Int.reduceLT, Int.reduceLE, Int.reduceAdd, Int.reduceToNat, Int.reduceNeg, Nat.reduceMul, Nat.reduceSub, abuild, afill, Int.reduceBNe, Int.reduceBEq, Try.underlying3, Try.underlying5, Try.underlying22, Try.underlying23, Try.underlying47, aconv, ww9, ww5, wm, wa1, wgen, wan, asz5, asz23, hB, hB2, z0, z63, hg, hv9', hv1', hv5', hvx, h0, h5, h6, h7, hov, show ((at_ + 1 + needN (word4 m 9) : Nat) : Int) > (ps.length : Int) by omega, decide_true]
        rw [← hov]
        exact hnone (.inl (.inr (.inr (by omega)))) s [] hO
      simp (config := { implicitDefEqProofs := false }) only [↓GP, GQ, ↓awp_seq, ↓awp_block, C_ex, Nat.reduceBEq, acap, afieldAddr, aload, astore, abin, anum, astr, aun, isAggD, cond_true, cond_false, ↓reduceIte, C_P, C_G, isTuple, Value.cells, setL, ares, aresL, ares1, reduceCtorEq, Nat.reduceEqDiff, eq_self, Nat.reduceAdd, if_true, if_false, one, Nat.reduceLeDiff, undef, gsl, aextract, aindexAddr, amake, implies_true, forall_const, alen, abuiltin, anil, isC, Int.reduceEq, Int.reduceLT, Int.reduceLE, Int.reduceAdd, Int.reduceToNat, Int.reduceNeg, Nat.reduceMul, Nat.reduceSub, abuild, afill, Int.reduceBNe, Int.reduceBEq, Try.underlying3, Try.underlying5, Try.underlying22, Try.underlying23, Try.underlying47, aconv, ww9, ww5, wm, wa1, wgen, wan, asz5, asz23, hB, hB2, z0, z63, hg, hv9', hv1', hv5', hvx, h0, h5, h6, h7, hov, show ¬ ((at_ + 1 + needN (word4 m 9) : Nat) : Int) > (ps.length : Int) by omega, decide_false]
      exact ⟨a0, a63, an, fun h => h.elim ag fun h => h.elim agen fun h => by omega⟩
  rintro ρ s' ⟨p0, p5, p6, p7, p8, p9, p10, rfl, a0, a63, an, hpass⟩
  simp (config := { implicitDefEqProofs := false }) only [↓GP, GQ, ↓awp_seq, ↓awp_block, C_ex, Nat.reduceBEq, acap, afieldAddr, aload, astore, abin, anum, astr, aun, isAggD, cond_true, cond_false, ↓reduceIte, C_P, C_G, isTuple, Value.cells, setL, ares, aresL, ares1, reduceCtorEq, Nat.reduceEqDiff, eq_self, Nat.reduceAdd, if_true, if_false, one, Nat.reduceLeDiff, undef, gsl, aextract, aindexAddr, amake, implies_true, forall_const, alen, abuiltin, anil, isC, Int.reduceEq, Int.reduceLT, Int.reduceLE, Int.reduceAdd, Int.reduceToNat, Int.reduceNeg, Nat.reduceMul, Nat.reduceSub, abuild, afill, Int.reduceBNe, Int.reduceBEq, Try.underlying3, Try.underlying4, Try.underlying5, Try.underlying22, Try.underlying23, Try.underlying47, aconv, ww9, ww5, wm, wa1, wgen, wan, asz5, asz23, p0, p5, p6, p7, p8, p9, p10]
  refine ⟨fun t ρ s2 => ∃ i : Nat, t = 63 - i ∧ 17 ≤ i ∧ i ≤ 63 ∧ ρ 0 = v ∧ ρ 5 = ov ∧ ρ 6 = .int .u32 gen ∧ ρ 7 = .int .i64 at_ ∧ ρ 8 = .slice (some ⟨B2, o2, sp2⟩) 64 c2 ∧ ρ 9 = .int .i64 (word4 m 9 : Nat) ∧ ρ 10 = .int .u32 (word4 m 1 : Nat) ∧ ρ 12 = .int .i64 i ∧
    (∃ z : Bool, ρ 11 = .bool z ∧ (z = true ↔ ∀ j, 17 ≤ j → j < i → m.getD j 0 = 0)) ∧ s2 = s', ⟨46, 17, rfl, by decide, by decide, p0, p5, p6, p7, p8, p9, p10, rfl, ⟨true, rfl, fun _ j h1 h2 => by omega, fun _ => rfl⟩, rfl⟩, ?_⟩
  clear p0 p5 p6 p7 p8 p9 p10
  rintro t ρ s2 ⟨i, rfl, hi1, hi2, p0, p5, p6, p7, p8, p9, p10, p12, ⟨z, p11, hz⟩, rfl⟩
  by_cases hi : i < 63
  · have zi := hget2 i (by omega)
    cases z with
    | true =>
      have hzz := hz.1 rfl
      simp (config := { implicitDefEqProofs := false }) only [↓GP, GQ, ↓awp_seq, ↓awp_block, C_ex, Nat.reduceBEq, acap, afieldAddr, aload, astore, abin, anum, astr, aun, isAggD, cond_true, cond_false, ↓reduceIte, C_P, C_G, isTuple, Value.cells, setL, ares, aresL, ares1, reduceCtorEq, Nat.reduceEqDiff, eq_self, Nat.reduceAdd, if_true, if_false, one, Nat.reduceLeDiff, undef, gsl, aextract, aindexAddr, amake, implies_true, forall_const, alen, abuiltin, anil, isC, Int.reduceEq, Int.reduceLT, Int.reduceLE, Int.reduceAdd, Int.reduceToNat, Int.reduceNeg, Nat.reduceMul, Nat.reduceSub, abuild, afill, Int.reduceBNe, Int.reduceBEq, Try.underlying3, Try.underlying4, Try.underlying5, Try.underlying22, Try.underlying23, Try.underlying47, aconv, ww9, ww5, wm, wa1, wgen, wan, asz5, asz23, p0, p5, p6, p7, p8, p9, p10, p11, p12, hB2, zi, show (i : Int) < 63 by omega, decide_true, Nat.mul_one, Int.toNat_natCast]
      refine ⟨by omega, 63 - (i + 1), by omega, i + 1, rfl, by omega, by omega, by rw [w_i64 (by omega)]; rfl, _, rfl, ?_⟩
      constructor
      · intro h j h1 h2
        have h : m.getD i 0 = 0 := by simpa using h
        by_cases hj : j = i
        · rw [hj]; exact h
        · exact hzz j h1 (by omega)
      · intro h
        have := h i hi1 (by omega)
        show (((m.getD i 0 : Nat) : Int) == 0) = true
        rw [this]
        rfl
    | false =>
      simp (config := { implicitDefEqProofs := false }) only [↓GP, GQ, ↓awp_seq, ↓awp_block, C_ex, Nat.reduceBEq, acap, afieldAddr, aload, astore, abin, anum, astr, aun, isAggD, cond_true, cond_false, ↓reduceIte, C_P, C_G, isTuple, Value.cells, setL, ares, aresL, ares1, reduceCtorEq, Nat.reduceEqDiff, eq_self, Nat.reduceAdd, if_true, if_false, one, Nat.reduceLeDiff, undef, gsl, aextract, aindexAddr, amake, implies_true, forall_const, alen, abuiltin, anil, isC, Int.reduceEq, Int.reduceLT, Int.reduceLE, Int.reduceAdd, Int.reduceToNat, Int.reduceNeg, Nat.reduceMul, Nat.reduceSub, abuild, afill, Int.reduceBNe, Int.reduceBEq, Try.underlying3, Try.underlying4, Try.underlying5, Try.underlying22, Try.underlying23, Try.underlying47, aconv, ww9, ww5, wm, wa1, wgen, wan, asz5, asz23, p0, p5, p6, p7, p8, p9, p10, p11, p12, show (i : Int) < 63 by omega, decide_true]
      refine ⟨63 - (i + 1), by omega, i + 1, rfl, by omega, by omega, by rw [w_i64 (by omega)]; rfl, false, rfl, ⟨fun h => absurd h (by decide), fun h => ?_⟩⟩
      have := hz.2 fun j h1 h2 => h j h1 (by omega)
      cases this
  · obtain rfl : i = 63 := by omega
    simp (config := { implicitDefEqProofs := false }) only [↓GP, GQ, ↓awp_seq, ↓awp_block, C_ex, Nat.reduceBEq, acap, afieldAddr, aload, astore, abin, anum, astr, aun, isAggD, cond_true, cond_false, ↓reduceIte, C_P, C_G, isTuple, Value.cells, setL, ares, aresL, ares1, reduceCtorEq, Nat.reduceEqDiff, eq_self, Nat.reduceAdd, if_true, if_false, one, Nat.reduceLeDiff, undef, gsl, aextract, aindexAddr, amake, implies_true, forall_const, alen, abuiltin, anil, isC, Int.reduceEq, Int.reduceLT, Int.reduceLE, Int.reduceAdd, Int.reduceToNat, Int.reduceNeg, Nat.reduceMul, Nat.reduceSub, abuild, afill, Int.reduceBNe, Int.reduceBEq, Try.underlying3, Try.underlying4, Try.underlying5, Try.underlying22, Try.underlying23, Try.underlying47, aconv, ww9, ww5, wm, wa1, wgen, wan, asz5, asz23, p0, p5, p6, p7, p8, p9, p10, p11, p12, show ¬ ((63 : Nat) : Int) < 63 by omega, decide_false]
    have hnd : needN (word4 m 9) ≤ rest.length := by omega
    have hn15 : word4 m 9 ≤ 96000 := by unfold needN at hnd; omega
    refine ⟨fun t ρ s3 => ∃ (i : Nat) (bv : Value) (hb : Hp), t = needN (word4 m 9) - i ∧ i ≤ needN (word4 m 9) ∧ ρ 0 = v ∧ ρ 5 = ov ∧ ρ 6 = .int .u32 gen ∧ ρ 7 = .int .i64 at_ ∧ ρ 8 = .slice (some ⟨B2, o2, sp2⟩) 64 c2 ∧ ρ 9 = .int .i64 (word4 m 9 : Nat) ∧ ρ 10 = .int .u32 (word4 m 1 : Nat) ∧ ρ 11 = .bool z ∧ ρ 13 = bv ∧ ρ 14 = .int .i64 i ∧
      GVc bv (nl (rest.take i).flatten) (i * 64) 1 5 hb ∧ Own s3 (hb ++ (ho ++ (hr ++ r))), ⟨_, 0, .slice none 0 0, [], rfl, Nat.zero_le _, p0, p5, p6, p7, p8, p9, p10, p11, rfl, rfl, GVc.nil, hO⟩, ?_⟩
    clear p0 p5 p6 p7 p8 p9 p10 p11 p12
    rintro t ρ s3 ⟨i, bv, hb, rfl, hi, p0, p5, p6, p7, p8, p9, p10, p11, p13, p14, hGb, hOb⟩
    obtain ⟨ba, bc, hbv⟩ := hGb.isSlice
    by_cases hin : i < needN (word4 m 9)
    · have hri : rest[i]? = (ps[at_ + 1 + i]?).map (·.2) := by rw [← hrest, List.getElem?_drop, List.getElem?_map]
      have hy : ps[at_ + 1 + i]? = some ps[at_ + 1 + i] := List.getElem?_eq_getElem (by omega)
      generalize ps[at_ + 1 + i] = y at hy
      rw [hy] at hri
      have hri : rest[i]? = some y.2 := hri
      have gy := hget (at_ + 1 + i) y hy
      have hNy := hP.2 y (List.mem_of_getElem? hy)
      have hy64 := (hE y (List.mem_of_getElem? hy)).2
      have hBb := hOb.get (b := B) (o := .cells cs ty own) (by simp [hmem])
      have wai : IntKind.i64.wrap (((at_ + 1 : Nat) : Int) + (i : Int)) = ((at_ + 1 + i : Nat) : Int) := by rw [w_i64 (by omega)]; omega
      simp (config := { implicitDefEqProofs := false }) only [↓GP, GQ, ↓awp_seq, ↓awp_block, C_ex, Nat.reduceBEq, acap, afieldAddr, aload, astore, abin, anum, astr, aun, isAggD, cond_true, cond_false, ↓reduceIte, C_P, C_G, isTuple, Value.cells, setL, ares, aresL, ares1, reduceCtorEq, Nat.reduceEqDiff, eq_self, Nat.reduceAdd, if_true, if_false, one, Nat.reduceLeDiff, undef, gsl, aextract, aindexAddr, amake, implies_true, forall_const, alen, abuiltin, anil, isC, Int.reduceEq, Int.reduceLT, Int.reduceLE, Int.reduceAdd, Int.reduceToNat, Int.reduceNeg, Nat.reduceMul, Nat.reduceSub, abuild, afill, Int.reduceBNe, Int.reduceBEq, Try.underlying3, Try.underlying22, Try.underlying23, wa1, wai, asz5, asz23, p0, p5, p6, p7, p8, p9, p10, p11, p13, p14]
      refine RNeed_spec s3 _ (by omega) _ _ ?_
      simp (config := { implicitDefEqProofs := false }) only [↓GP, GQ, ↓awp_seq, ↓awp_block, C_ex, Nat.reduceBEq, acap, afieldAddr, aload, astore, abin, anum, astr, aun, isAggD, cond_true, cond_false, ↓reduceIte, C_P, C_G, isTuple, Value.cells, setL, ares, aresL, ares1, reduceCtorEq, Nat.reduceEqDiff, eq_self, Nat.reduceAdd, if_true, if_false, one, Nat.reduceLeDiff, undef, gsl, aextract, aindexAddr, amake, implies_true, forall_const, alen, abuiltin, anil, isC, Int.reduceEq, Int.reduceLT, Int.reduceLE, Int.reduceAdd, Int.reduceToNat, Int.reduceNeg, Nat.reduceMul, Nat.reduceSub, abuild, afill, Int.reduceBNe, Int.reduceBEq, Try.underlying3, Try.underlying22, Try.underlying23, wa1, wai, asz5, asz23, p0, p5, p6, p7, p8, p9, p10, p11, p13, p14, hvx, hBb, gy, show (i : Int) < ((needN (word4 m 9) : Nat) : Int) by omega, decide_true, Int.toNat_natCast, Nat.mul_one]
      refine ⟨by omega, ?_⟩
      refine GVc.append (m := 64) (Cs := nl y.2) Try.underlying23 (by rw [Try.underlying23]; rfl) asz5 azc5 aby5 hGb hOb (by have := (hNy.sub (h' := hb ++ (ho ++ (hr ++ r))) (fun e he => by simp [he])).src hOb; rwa [hy64] at this) (by rw [nl_length, hy64]) (nl_one _) (by omega) fun v4 h4 s4 hG4 hO4 => ?_
      simp (config := { implicitDefEqProofs := false }) only [↓GP, GQ, ↓awp_seq, ↓awp_block, C_ex, Nat.reduceBEq, acap, afieldAddr, aload, astore, abin, anum, astr, aun, isAggD, cond_true, cond_false, ↓reduceIte, C_P, C_G, isTuple, Value.cells, setL, ares, aresL, ares1, reduceCtorEq, Nat.reduceEqDiff, eq_self, Nat.reduceAdd, if_true, if_false, one, Nat.reduceLeDiff, undef, gsl, aextract, aindexAddr, amake, implies_true, forall_const, alen, abuiltin, anil, isC, Int.reduceEq, Int.reduceLT, Int.reduceLE, Int.reduceAdd, Int.reduceToNat, Int.reduceNeg, Nat.reduceMul, Nat.reduceSub, abuild, afill, Int.reduceBNe, Int.reduceBEq, Try.underlying3, p0, p5, p6, p7, p8, p9, p10, p11, p13, p14]
      refine ⟨needN (word4 m 9) - (i + 1), by omega, i + 1, v4, h4, rfl, by omega, rfl, by rw [w_i64 (by omega)]; rfl, ?_, hO4⟩
      rw [List.take_add_one, hri, List.flatten_append, nl_append, show (i + 1) * 64 = i * 64 + 64 by omega]
      simpa using hG4
    · obtain rfl : i = needN (word4 m 9) := by omega
      simp (config := { implicitDefEqProofs := false }) only [↓GP, GQ, ↓awp_seq, ↓awp_block, C_ex, Nat.reduceBEq, acap, afieldAddr, aload, astore, abin, anum, astr, aun, isAggD, cond_true, cond_false, ↓reduceIte, C_P, C_G, isTuple, Value.cells, setL, ares, aresL, ares1, reduceCtorEq, Nat.reduceEqDiff, eq_self, Nat.reduceAdd, if_true, if_false, one, Nat.reduceLeDiff, undef, gsl, aextract, aindexAddr, amake, implies_true, forall_const, alen, abuiltin, anil, isC, Int.reduceEq, Int.reduceLT, Int.reduceLE, Int.reduceAdd, Int.reduceToNat, Int.reduceNeg, Nat.reduceMul, Nat.reduceSub, abuild, afill, Int.reduceBNe, Int.reduceBEq, Try.underlying3, Try.underlying22, Try.underlying23, wa1, asz5, asz23, p0, p5, p6, p7, p8, p9, p10, p11, p13, p14]
      refine RNeed_spec s3 _ (by omega) _ _ ?_
      simp (config := { implicitDefEqProofs := false }) only [↓GP, GQ, ↓awp_seq, ↓awp_block, C_ex, Nat.reduceBEq, acap, afieldAddr, aload, astore, abin, anum, astr, aun, isAggD, cond_true, cond_false, ↓reduceIte, C_P, C_G, isTuple, Value.cells, setL, ares, aresL, ares1, reduceCtorEq, Nat.reduceEqDiff, eq_self, Nat.reduceAdd, if_true, if_false, one, Nat.reduceLeDiff, undef, gsl, aextract, aindexAddr, amake, implies_true, forall_const, alen, abuiltin, anil, isC, Int.reduceEq, Int.reduceLT, Int.reduceLE, Int.reduceAdd, Int.reduceToNat, Int.reduceNeg, Nat.reduceMul, Nat.reduceSub, abuild, afill, Int.reduceBNe, Int.reduceBEq, Try.underlying3, Try.underlying22, Try.underlying23, wa1, asz5, asz23, p0, p5, p6, p7, p8, p9, p10, p11, p13, p14, Int.ofNat_lt, Nat.lt_irrefl, decide_false]
      have hNb : Nb hb bv (rest.take (needN (word4 m 9))).flatten := by simpa using hGb.nb (r := []) (by rw [flat_64 _ fun s hs => (hr64 s (List.mem_of_mem_take hs)).1, List.length_take]; omega) (fun d hd => by
        obtain ⟨s, hs, hd⟩ := List.mem_flatten.1 hd
        exact (hr64 s (List.mem_of_mem_take hs)).2 d hd)
      have hnw : word4 m 9 ≤ needN (word4 m 9) * 64 := by unfold needN; omega
      have hfl : (rest.take (needN (word4 m 9))).flatten.length = needN (word4 m 9) * 64 := by rw [flat_64 _ fun s hs => (hr64 s (List.mem_of_mem_take hs)).1, List.length_take]; omega
      obtain ⟨v13, hv13, hN13, _⟩ := hNb.part (lo := none) (hi := some (.int .i64 (word4 m 9 : Nat))) (l := 0) (r := word4 m 9) (by simpa using GVc.sl (r := []) hGb) (hOb.sub (List.sublist_append_left _ _)) Try.underlying23 asz5 (fun c hc => abounds_hi (by omega)) (by omega) (by omega)
      rw [List.drop_zero, Nat.sub_zero, hbb] at hN13
      obtain ⟨v17, hv17, hN17⟩ := cut4 (hNs.sub (h' := hb ++ (ho ++ (hr ++ r))) (fun e he => List.mem_append_right _ he)) (hSs.sub (fun e he => List.mem_append_right _ he)) hm64 hOb 13 (by decide)
      have hv17' : aslice Try.prog s3 23 (.slice (some ⟨B2, o2, sp2⟩) 64 c2) (some (.int .i64 13)) (some (.int .i64 17)) none = some v17 := hv17
      have hbl' : b.length = word4 m 9 := hbl (by omega)
      obtain ⟨b13, c13, hb13⟩ := hN13.isSlice
      simp (config := { implicitDefEqProofs := false }) only [↓GP, GQ, ↓awp_seq, ↓awp_block, C_ex, Nat.reduceBEq, acap, afieldAddr, aload, astore, abin, anum, astr, aun, isAggD, cond_true, cond_false, ↓reduceIte, C_P, C_G, isTuple, Value.cells, setL, ares, aresL, ares1, reduceCtorEq, Nat.reduceEqDiff, eq_self, Nat.reduceAdd, if_true, if_false, one, Nat.reduceLeDiff, undef, gsl, aextract, aindexAddr, amake, implies_true, forall_const, alen, abuiltin, anil, isC, Int.reduceEq, Int.reduceLT, Int.reduceLE, Int.reduceAdd, Int.reduceToNat, Int.reduceNeg, Nat.reduceMul, Nat.reduceSub, abuild, afill, Int.reduceBNe, Int.reduceBEq, Try.underlying3, Try.underlying22, Try.underlying23, wa1, asz5, asz23, p0, p5, p6, p7, p8, p9, p10, p11, p13, p14, hv13]
      refine ADraw.of [(0, false, []), (1, false, []), (2, false, []), (3, false, []), (5, false, []), (6, true, []), (4, false, [6]), (7, false, []), (8, false, []), (9, false, [])] [6] [(6, 4)] (by kernel_rfl) ?_
      cases z with
      | false =>
        simp (config := { implicitDefEqProofs := false }) only [↓GP, GQ, ↓awp_seq, ↓awp_block, C_ex, Nat.reduceBEq, acap, afieldAddr, aload, astore, abin, anum, astr, aun, isAggD, cond_true, cond_false, ↓reduceIte, C_P, C_G, isTuple, Value.cells, setL, ares, aresL, ares1, reduceCtorEq, Nat.reduceEqDiff, eq_self, Nat.reduceAdd, if_true, if_false, one, Nat.reduceLeDiff, undef, gsl, aextract, aindexAddr, amake, implies_true, forall_const, alen, abuiltin, anil, isC, Int.reduceEq, Int.reduceLT, Int.reduceLE, Int.reduceAdd, Int.reduceToNat, Int.reduceNeg, Nat.reduceMul, Nat.reduceSub, abuild, afill, Int.reduceBNe, Int.reduceBEq, Try.underlying3, Try.underlying22, Try.underlying23, Try.underlying47, aconv, wgen, asz5, asz23, p0, p5, p6, p7, p8, p9, p10, p11, p13, p14, hv13, hv17']
        exact hnone (.inr fun h => by have := hz.2 h.2.2.2.1; cases this) s3 hb hOb
      | true =>
        simp (config := { implicitDefEqProofs := false }) only [↓GP, GQ, ↓awp_seq, ↓awp_block, C_ex, Nat.reduceBEq, acap, afieldAddr, aload, astore, abin, anum, astr, aun, isAggD, cond_true, cond_false, ↓reduceIte, C_P, C_G, isTuple, Value.cells, setL, ares, aresL, ares1, reduceCtorEq, Nat.reduceEqDiff, eq_self, Nat.reduceAdd, if_true, if_false, one, Nat.reduceLeDiff, undef, gsl, aextract, aindexAddr, amake, implies_true, forall_const, alen, abuiltin, anil, isC, Int.reduceEq, Int.reduceLT, Int.reduceLE, Int.reduceAdd, Int.reduceToNat, Int.reduceNeg, Nat.reduceMul, Nat.reduceSub, abuild, afill, Int.reduceBNe, Int.reduceBEq, Try.underlying3, Try.underlying22, Try.underlying23, Try.underlying47, aconv, wgen, asz5, asz23, p0, p5, p6, p7, p8, p9, p10, p11, p13, p14, hv13, hv17']
        refine Rcrc_spec s3 _ v13 b (hN13.sub fun e he => List.mem_append_left _ he) (by omega) hOb _ _ ?_
        simp (config := { implicitDefEqProofs := false }) only [↓GP, GQ, ↓awp_seq, ↓awp_block, C_ex, Nat.reduceBEq, acap, afieldAddr, aload, astore, abin, anum, astr, aun, isAggD, cond_true, cond_false, ↓reduceIte, C_P, C_G, isTuple, Value.cells, setL, ares, aresL, ares1, reduceCtorEq, Nat.reduceEqDiff, eq_self, Nat.reduceAdd, if_true, if_false, one, Nat.reduceLeDiff, undef, gsl, aextract, aindexAddr, amake, implies_true, forall_const, alen, abuiltin, anil, isC, Int.reduceEq, Int.reduceLT, Int.reduceLE, Int.reduceAdd, Int.reduceToNat, Int.reduceNeg, Nat.reduceMul, Nat.reduceSub, abuild, afill, Int.reduceBNe, Int.reduceBEq, Try.underlying3, Try.underlying22, Try.underlying23, Try.underlying47, aconv, wgen, asz5, asz23, p0, p5, p6, p7, p8, p9, p10, p11, p13, p14, hv13, hv17']
        refine Rnum_spec s3 _ v17 _ hN17 (hl4 13 (by decide)) hOb _ _ ?_
        rw [word_cut]
        by_cases hcrc : crcN b = word4 m 13
        case neg =>
          simp (config := { implicitDefEqProofs := false }) only [↓GP, GQ, ↓awp_seq, ↓awp_block, C_ex, Nat.reduceBEq, acap, afieldAddr, aload, astore, abin, anum, astr, aun, isAggD, cond_true, cond_false, ↓reduceIte, C_P, C_G, isTuple, Value.cells, setL, ares, aresL, ares1, reduceCtorEq, Nat.reduceEqDiff, eq_self, Nat.reduceAdd, if_true, if_false, one, Nat.reduceLeDiff, undef, gsl, aextract, aindexAddr, amake, implies_true, forall_const, alen, abuiltin, anil, isC, Int.reduceEq, Int.reduceLT, Int.reduceLE, Int.reduceAdd, Int.reduceToNat, Int.reduceNeg, Nat.reduceMul, Nat.reduceSub, abuild, afill, Int.reduceBNe, Int.reduceBEq, Try.underlying3, Try.underlying22, Try.underlying23, Try.underlying47, aconv, wgen, asz5, asz23, p0, p5, p6, p7, p8, p9, p10, p11, p13, p14, hv13, hv17', bneT (show ¬ ((crcN b : Nat) : Int) = ((word4 m 13 : Nat) : Int) by omega)]
          exact hnone (.inr fun h => hcrc h.2.2.2.2) s3 hb hOb
        have hsome : readM ((ps.map (·.2)).drop at_) gen qs.length = some (b, word4 m 1) := by
          rw [hdrop, readM_cons, if_neg (by simp only [not_or] at hpass ⊢; exact ⟨hpass.1, hpass.2.1, by unfold needN at hnd; omega, by omega⟩), hbb, if_pos ((hiff (by omega)).2 ⟨a0, a63, an, hz.1 rfl, hcrc⟩)]
        subst hb13
        have hb1 := abuildSlice_one (st := s3) (v := .slice b13 b.length c13) Try.underlying22 asz23 azc23 rfl rfl rfl (by decide)
        simp (config := { implicitDefEqProofs := false }) only [↓GP, GQ, ↓awp_seq, ↓awp_block, C_ex, Nat.reduceBEq, acap, afieldAddr, aload, astore, abin, anum, astr, aun, isAggD, cond_true, cond_false, ↓reduceIte, C_P, C_G, isTuple, Value.cells, setL, ares, aresL, ares1, reduceCtorEq, Nat.reduceEqDiff, eq_self, Nat.reduceAdd, if_true, if_false, one, Nat.reduceLeDiff, undef, gsl, aextract, aindexAddr, amake, implies_true, forall_const, alen, abuiltin, anil, isC, Int.reduceEq, Int.reduceLT, Int.reduceLE, Int.reduceAdd, Int.reduceToNat, Int.reduceNeg, Nat.reduceMul, Nat.reduceSub, abuild, afill, Int.reduceBNe, Int.reduceBEq, Try.underlying3, Try.underlying22, Try.underlying23, Try.underlying47, aconv, wgen, asz5, asz23, p0, p5, p6, p7, p8, p9, p10, p11, p13, p14, hv13, hv17', bneF (show ((crcN b : Nat) : Int) = ((word4 m 13 : Nat) : Int) by omega), hb1]
        have hO3 : Own s3 (ho ++ ((hb ++ hr) ++ r)) := hOb.perm (by simpa using perm_of [hb, ho, hr, r] [0, 1, 2, 3] [1, 0, 2, 3] rfl)
        refine GVc.append1 (c := [.slice b13 b.length c13]) Try.underlying22 (by rw [Try.underlying22]; rfl) asz23 azc23 aby23 hG hO3 rfl rfl (by omega) fun v7 h7' s7 hG7 hO7 => ?_
        have hO7' : Own s7 (h7' ++ ((hb ++ hr) ++ r)) := hO7
        simp (config := { implicitDefEqProofs := false }) only [↓GP, GQ, ↓awp_seq, ↓awp_block, C_ex, Nat.reduceBEq, acap, afieldAddr, aload, astore, abin, anum, astr, aun, isAggD, cond_true, cond_false, ↓reduceIte, C_P, C_G, isTuple, Value.cells, setL, ares, aresL, ares1, reduceCtorEq, Nat.reduceEqDiff, eq_self, Nat.reduceAdd, if_true, if_false, one, Nat.reduceLeDiff, undef, gsl, aextract, aindexAddr, amake, implies_true, forall_const, alen, abuiltin, anil, isC, Int.reduceEq, Int.reduceLT, Int.reduceLE, Int.reduceAdd, Int.reduceToNat, Int.reduceNeg, Nat.reduceMul, Nat.reduceSub, abuild, afill, Int.reduceBNe, Int.reduceBEq, Try.underlying3, Try.underlying22, Try.underlying23, Try.underlying47, aconv, wgen, asz5, asz23, p0, p5, p6, p7, p8, p9, p10, p11, p13, p14, hv13, hv17']
        refine RNeed_spec s7 _ (by omega) _ _ ?_
        simp (config := { implicitDefEqProofs := false }) only [↓GP, GQ, ↓awp_seq, ↓awp_block, C_ex, Nat.reduceBEq, acap, afieldAddr, aload, astore, abin, anum, astr, aun, isAggD, cond_true, cond_false, ↓reduceIte, C_P, C_G, isTuple, Value.cells, setL, ares, aresL, ares1, reduceCtorEq, Nat.reduceEqDiff, eq_self, Nat.reduceAdd, if_true, if_false, one, Nat.reduceLeDiff, undef, gsl, aextract, aindexAddr, amake, implies_true, forall_const, alen, abuiltin, anil, isC, Int.reduceEq, Int.reduceLT, Int.reduceLE, Int.reduceAdd, Int.reduceToNat, Int.reduceNeg, Nat.reduceMul, Nat.reduceSub, abuild, afill, Int.reduceBNe, Int.reduceBEq, Try.underlying3, Try.underlying22, Try.underlying23, Try.underlying47, aconv, wgen, asz5, asz23, p0, p5, p6, p7, p8, p9, p10, p11, p13, p14, hv13, hv17', wa1, wan]
        obtain ⟨f', rfl⟩ : ∃ f', f = f' + 1 := ⟨f - 1, by omega⟩
        rw [halfF, List.length_map, hsome] at hF
        simp only [hbl'] at hF
        refine ⟨ps.length - (at_ + 1 + needN (word4 m 9)), by omega, at_ + 1 + needN (word4 m 9), f', word4 m 1, qs ++ [(.slice b13 b.length c13, b)], v7, h7', hb ++ hr, rfl, by omega, hvx, rfl, rfl, rfl, wl1, by simp; omega, by omega, by rw [List.map_append]; exact hF, ?_, fun q hq => ?_, hO7'⟩
        · rw [List.map_append, List.length_append, List.map_singleton]
          exact hG7
        · rcases List.mem_append.1 hq with h | h
          · exact (hQ q h).sub fun e he => List.mem_append_right _ he
          · simp at h
            subst h
            exact hN13.sub fun e he => List.mem_append_left _ he
end Go.Proofs.Ytiooigkcliomlaa
/- The document's answer for any sectors; the sectors of a disk. No conditions. -/
set_option linter.unusedVariables false
set_option linter.unusedSimpArgs false
namespace Go.Proofs.Ytiooigkcliomlaa
open Go Go.Abs Go.RowKit
variable {base : Nat} {w0 : World} {G : Nat}

set_option maxHeartbeats 1000000 in
set_option maxRecDepth 10000 in
theorem RScan_spec (st : St) (r : Hp) (v : Value) (ps : List (Value × List Nat)) (hP : Ps r v ps) (hS : Sl Try.prog r v 1) (hE : ∀ p ∈ ps, Sl Try.prog r p.1 1) (hl : ps.length ≤ 1500) (hO : Own st r) (k q : Value → St → Prop)
    (hk : ∀ outv H st', Recs H outv (scanM (ps.map (·.2))).2.2 → Own st' (H ++ r) → k (.tuple #[.int .i64 (scanM (ps.map (·.2))).1, .int .i64 (scanM (ps.map (·.2))).2.1, outv]) st') :
    ACallF (C base w0 G) 17 [v] st k q := by
  refine ACallF.enter Try.func17 rfl (by kernel_rfl) ?_
  obtain ⟨a, c, hvs⟩ : ∃ a c, v = .slice a ps.length c := by
    obtain ⟨a, c, h, _⟩ := hP.1.isSlice
    rw [List.length_map] at h
    exact ⟨a, c, h⟩
  have hany : ((ps.map (·.2)).any fun s => decide (s.length ≠ 64)) = (ps.any fun s => decide (s.2.length ≠ 64)) := by rw [List.any_map]; rfl
  refine ACall.of (cx := C base w0 G) mixed Try.func17 rfl (by kernel_rfl) (by simp [Try.ntmps17]) ?_
  simp only [Try.results17]
  rw [scanM, List.length_map, hany] at hk
  by_cases h4 : ps.length < 4
  · rw [if_pos (.inl h4)] at hk
    simp (config := { implicitDefEqProofs := false }) only [↓GP, GQ, ↓awp_seq, ↓awp_block, C_ex, Nat.reduceBEq, acap, afieldAddr, aload, astore, abin, anum, astr, aun, isAggD, cond_true, cond_false, ↓reduceIte, C_P, C_G, isTuple, Value.cells, setL, ares, aresL, ares1, reduceCtorEq, Nat.reduceEqDiff, eq_self, Nat.reduceAdd, if_true, if_false, one, Nat.reduceLeDiff, undef, gsl, aextract, aindexAddr, amake, implies_true, forall_const, alen, abuiltin, anil, isC, Int.reduceEq, Int.reduceLT, Int.reduceLE, Int.reduceAdd, Int.reduceToNat, Int.reduceNeg, Nat.reduceMul, Nat.reduceSub, abuild, afill, Int.reduceBNe, Int.reduceBEq, hvs, Try.underlying22, Try.underlying3, show (ps.length : Int) < 4 by omega, decide_true]
    exact hk _ [] st Recs.nil hO
  simp (config := { implicitDefEqProofs := false }) only [↓GP, GQ, ↓awp_seq, ↓awp_block, C_ex, Nat.reduceBEq, acap, afieldAddr, aload, astore, abin, anum, astr, aun, isAggD, cond_true, cond_false, ↓reduceIte, C_P, C_G, isTuple, Value.cells, setL, ares, aresL, ares1, reduceCtorEq, Nat.reduceEqDiff, eq_self, Nat.reduceAdd, if_true, if_false, one, Nat.reduceLeDiff, undef, gsl, aextract, aindexAddr, amake, implies_true, forall_const, alen, abuiltin, anil, isC, Int.reduceEq, Int.reduceLT, Int.reduceLE, Int.reduceAdd, Int.reduceToNat, Int.reduceNeg, Nat.reduceMul, Nat.reduceSub, abuild, afill, Int.reduceBNe, Int.reduceBEq, hvs, Try.underlying22, Try.underlying3, show ¬ (ps.length : Int) < 4 by omega, decide_false]
  refine ⟨fun m ρ s => ∃ i : Nat, m = ps.length - i ∧ i ≤ ps.length ∧ ρ 0 = v ∧ ρ 5 = .int .i64 i ∧ (∀ p ∈ ps.take i, p.2.length = 64) ∧ s = st, ⟨ps.length, 0, rfl, Nat.zero_le _, hvs.symm, rfl, by simp, rfl⟩, ?_⟩
  rintro m ρ s ⟨i, rfl, hi, h0, h5, hall, rfl⟩
  by_cases him : i < ps.length
  · obtain ⟨B, o, sp, c', cs, ty, own, hvx, hmem, hget⟩ := hP.at hO (by intro e; rw [e] at him; simp at him)
    have hp : ps[i]? = some ps[i] := List.getElem?_eq_getElem him
    generalize ps[i] = x at hp
    obtain ⟨x1, xl⟩ := x
    have hg := hget i (x1, xl) hp
    have hB := hO.get hmem
    obtain ⟨xa, xc, hx⟩ := (hP.2 (x1, xl) (List.mem_of_getElem? hp)).isSlice
    have hx : x1 = .slice xa xl.length xc := hx
    subst hx
    by_cases h64 : xl.length = 64
    · simp (config := { implicitDefEqProofs := false }) only [↓GP, GQ, ↓awp_seq, ↓awp_block, C_ex, Nat.reduceBEq, acap, afieldAddr, aload, astore, abin, anum, astr, aun, isAggD, cond_true, cond_false, ↓reduceIte, C_P, C_G, isTuple, Value.cells, setL, ares, aresL, ares1, reduceCtorEq, Nat.reduceEqDiff, eq_self, Nat.reduceAdd, if_true, if_false, one, Nat.reduceLeDiff, undef, gsl, aextract, aindexAddr, amake, implies_true, forall_const, alen, abuiltin, anil, isC, Int.reduceEq, Int.reduceLT, Int.reduceLE, Int.reduceAdd, Int.reduceToNat, Int.reduceNeg, Nat.reduceMul, Nat.reduceSub, abuild, afill, Int.reduceBNe, Int.reduceBEq, h0, h5, hvx, hB, hg, asz23, Try.underlying22, Try.underlying23, Try.underlying3, Int.ofNat_lt, him, decide_true, bneF (show (xl.length : Int) = 64 by omega)]
      refine ⟨by omega, ps.length - (i + 1), by omega, i + 1, rfl, by omega, by rw [w_i64 (by omega)]; rfl, fun y hy => ?_⟩
      rw [List.take_add_one, hp] at hy
      rcases List.mem_append.1 hy with h | h
      · exact hall y h
      · simp at h; subst h; exact h64
    · simp (config := { implicitDefEqProofs := false }) only [↓GP, GQ, ↓awp_seq, ↓awp_block, C_ex, Nat.reduceBEq, acap, afieldAddr, aload, astore, abin, anum, astr, aun, isAggD, cond_true, cond_false, ↓reduceIte, C_P, C_G, isTuple, Value.cells, setL, ares, aresL, ares1, reduceCtorEq, Nat.reduceEqDiff, eq_self, Nat.reduceAdd, if_true, if_false, one, Nat.reduceLeDiff, undef, gsl, aextract, aindexAddr, amake, implies_true, forall_const, alen, abuiltin, anil, isC, Int.reduceEq, Int.reduceLT, Int.reduceLE, Int.reduceAdd, Int.reduceToNat, Int.reduceNeg, Nat.reduceMul, Nat.reduceSub, abuild, afill, Int.reduceBNe, Int.reduceBEq, h0, h5, hvx, hB, hg, asz23, Try.underlying22, Try.underlying23, Try.underlying3, Int.ofNat_lt, him, decide_true, bneT (show ¬ (xl.length : Int) = 64 by omega)]
      rw [if_pos (.inr (List.any_eq_true.2 ⟨_, List.mem_of_getElem? hp, by simpa using h64⟩))] at hk
      exact ⟨by omega, hk _ [] s Recs.nil hO⟩
  obtain rfl : i = ps.length := by omega
  rw [List.take_length] at hall
  have hc : (ps.any fun s => decide (s.2.length ≠ 64)) = false := List.any_eq_false.2 fun p hp => by simpa using hall p hp
  rw [hc, if_neg (by simpa using h4)] at hk
  have h64 : ∀ p ∈ ps, Sl Try.prog r p.1 1 ∧ p.2.length = 64 := fun p hp => ⟨hE p hp, hall p hp⟩
  have wq : IntKind.i64.wrap ((ps.length : Int).tdiv 2) = ((ps.length / 2 : Nat) : Int) := by rw [Int.tdiv_eq_ediv_of_nonneg (by omega), w_i64 (by omega)]; omega
  simp (config := { implicitDefEqProofs := false }) only [↓GP, GQ, ↓awp_seq, ↓awp_block, C_ex, Nat.reduceBEq, acap, afieldAddr, aload, astore, abin, anum, astr, aun, isAggD, cond_true, cond_false, ↓reduceIte, C_P, C_G, isTuple, Value.cells, setL, ares, aresL, ares1, reduceCtorEq, Nat.reduceEqDiff, eq_self, Nat.reduceAdd, if_true, if_false, one, Nat.reduceLeDiff, undef, gsl, aextract, aindexAddr, amake, implies_true, forall_const, alen, abuiltin, anil, isC, Int.reduceEq, Int.reduceLT, Int.reduceLE, Int.reduceAdd, Int.reduceToNat, Int.reduceNeg, Nat.reduceMul, Nat.reduceSub, abuild, afill, Int.reduceBNe, Int.reduceBEq, h0, h5, hvs, Try.underlying22, Try.underlying3, Int.ofNat_lt, Nat.lt_irrefl, decide_false, wq]
  generalize hn : ps.length / 2 = n at *
  obtain ⟨v1, hv1, hP1, hS1⟩ := hP.part (t := 22) (lo := none) (hi := some (.int .i64 n)) (l := 0) (r := n) hS hO Try.underlying22 asz23 (fun c hc => abounds_hi (by omega)) (by omega) (by omega)
  rw [List.drop_zero, Nat.sub_zero] at hP1
  rw [← hvs, hv1]
  simp (config := { implicitDefEqProofs := false }) only [↓GP, GQ, ↓awp_seq, ↓awp_block, C_ex, Nat.reduceBEq, acap, afieldAddr, aload, astore, abin, anum, astr, aun, isAggD, cond_true, cond_false, ↓reduceIte, C_P, C_G, isTuple, Value.cells, setL, ares, aresL, ares1, reduceCtorEq, Nat.reduceEqDiff, eq_self, Nat.reduceAdd, if_true, if_false, one, Nat.reduceLeDiff, undef, gsl, aextract, aindexAddr, amake, implies_true, forall_const, alen, abuiltin, anil, isC, Int.reduceEq, Int.reduceLT, Int.reduceLE, Int.reduceAdd, Int.reduceToNat, Int.reduceNeg, Nat.reduceMul, Nat.reduceSub, abuild, afill, Int.reduceBNe, Int.reduceBEq]
  refine Rhalf_spec s r v1 (ps.take n) ⟨hP1, hS1, fun p hp => h64 p (List.mem_of_mem_take hp)⟩ (by rw [List.length_take]; omega) hO _ _ fun ov1 H1 s1 hR1 hO1 => ?_
  rw [List.map_take] at hR1 ⊢
  have hsub1 : ∀ e ∈ r, e ∈ H1 ++ r := fun e he => List.mem_append_right _ he
  obtain ⟨v2, hv2, hP2, hS2⟩ := (hP.sub hsub1).part (t := 22) (lo := some (.int .i64 n)) (hi := some (.int .i64 (n * 2 : Nat))) (l := n) (r := n * 2) (hS.sub hsub1) hO1 Try.underlying22 asz23 (fun c hc => abounds_lohi (by omega) (by omega)) (by omega) (by omega)
  have e2 : n * 2 - n = n := by omega
  rw [e2] at hP2
  have w2 : IntKind.i64.wrap ((n : Int) + (n : Int)) = ((n * 2 : Nat) : Int) := by rw [w_i64 (by omega)]; omega
  simp (config := { implicitDefEqProofs := false }) only [↓GP, GQ, ↓awp_seq, ↓awp_block, C_ex, Nat.reduceBEq, acap, afieldAddr, aload, astore, abin, anum, astr, aun, isAggD, cond_true, cond_false, ↓reduceIte, C_P, C_G, isTuple, Value.cells, setL, ares, aresL, ares1, reduceCtorEq, Nat.reduceEqDiff, eq_self, Nat.reduceAdd, if_true, if_false, one, Nat.reduceLeDiff, undef, gsl, aextract, aindexAddr, amake, implies_true, forall_const, alen, abuiltin, anil, isC, Int.reduceEq, Int.reduceLT, Int.reduceLE, Int.reduceAdd, Int.reduceToNat, Int.reduceNeg, Nat.reduceMul, Nat.reduceSub, abuild, afill, Int.reduceBNe, Int.reduceBEq, h0, Try.underlying22, Try.underlying3, w2, hv2]
  refine Rhalf_spec s1 (H1 ++ r) v2 ((ps.drop n).take n) ⟨hP2, hS2, fun p hp => ⟨(h64 p (List.mem_of_mem_drop (List.mem_of_mem_take hp))).1.sub hsub1, (h64 p (List.mem_of_mem_drop (List.mem_of_mem_take hp))).2⟩⟩ (by rw [List.length_take]; omega) hO1 _ _ fun ov2 H2 s2 hR2 hO2 => ?_
  rw [List.map_take, List.map_drop] at hR2 ⊢
  generalize halfM ((ps.map (·.2)).take n) = A at *
  generalize halfM (((ps.map (·.2)).drop n).take n) = D at *
  have hO2' : Own s2 ((H2 ++ H1) ++ r) := by rw [List.append_assoc]; exact hO2
  by_cases hA : A.1 = 0
  · by_cases hD : D.1 = 0
    · rw [if_pos ⟨hA, hD⟩] at hk
      simp (config := { implicitDefEqProofs := false }) only [↓GP, GQ, ↓awp_seq, ↓awp_block, C_ex, Nat.reduceBEq, acap, afieldAddr, aload, astore, abin, anum, astr, aun, isAggD, cond_true, cond_false, ↓reduceIte, C_P, C_G, isTuple, Value.cells, setL, ares, aresL, ares1, reduceCtorEq, Nat.reduceEqDiff, eq_self, Nat.reduceAdd, if_true, if_false, one, Nat.reduceLeDiff, undef, gsl, aextract, aindexAddr, amake, implies_true, forall_const, alen, abuiltin, anil, isC, Int.reduceEq, Int.reduceLT, Int.reduceLE, Int.reduceAdd, Int.reduceToNat, Int.reduceNeg, Nat.reduceMul, Nat.reduceSub, abuild, afill, Int.reduceBNe, Int.reduceBEq, Try.underlying22, Try.underlying3, beqT (show (A.1 : Int) = 0 by omega), beqT (show (D.1 : Int) = 0 by omega)]
      exact hk _ (H2 ++ H1) s2 Recs.nil hO2'
    · rw [if_neg (fun h => hD h.2), if_neg (by omega)] at hk
      simp (config := { implicitDefEqProofs := false }) only [↓GP, GQ, ↓awp_seq, ↓awp_block, C_ex, Nat.reduceBEq, acap, afieldAddr, aload, astore, abin, anum, astr, aun, isAggD, cond_true, cond_false, ↓reduceIte, C_P, C_G, isTuple, Value.cells, setL, ares, aresL, ares1, reduceCtorEq, Nat.reduceEqDiff, eq_self, Nat.reduceAdd, if_true, if_false, one, Nat.reduceLeDiff, undef, gsl, aextract, aindexAddr, amake, implies_true, forall_const, alen, abuiltin, anil, isC, Int.reduceEq, Int.reduceLT, Int.reduceLE, Int.reduceAdd, Int.reduceToNat, Int.reduceNeg, Nat.reduceMul, Nat.reduceSub, abuild, afill, Int.reduceBNe, Int.reduceBEq, Try.underlying22, Try.underlying3, beqT (show (A.1 : Int) = 0 by omega), beqF (show ¬ (D.1 : Int) = 0 by omega), show ¬ (A.1 : Int) ≥ (D.1 : Int) by omega, decide_false]
      exact hk _ (H2 ++ H1) s2 (hR2.sub fun e he => List.mem_append_left _ he) hO2'
  · by_cases hAD : A.1 ≥ D.1
    · rw [if_neg (fun h => hA h.1), if_pos hAD] at hk
      simp (config := { implicitDefEqProofs := false }) only [↓GP, GQ, ↓awp_seq, ↓awp_block, C_ex, Nat.reduceBEq, acap, afieldAddr, aload, astore, abin, anum, astr, aun, isAggD, cond_true, cond_false, ↓reduceIte, C_P, C_G, isTuple, Value.cells, setL, ares, aresL, ares1, reduceCtorEq, Nat.reduceEqDiff, eq_self, Nat.reduceAdd, if_true, if_false, one, Nat.reduceLeDiff, undef, gsl, aextract, aindexAddr, amake, implies_true, forall_const, alen, abuiltin, anil, isC, Int.reduceEq, Int.reduceLT, Int.reduceLE, Int.reduceAdd, Int.reduceToNat, Int.reduceNeg, Nat.reduceMul, Nat.reduceSub, abuild, afill, Int.reduceBNe, Int.reduceBEq, Try.underlying22, Try.underlying3, beqF (show ¬ (A.1 : Int) = 0 by omega), show (A.1 : Int) ≥ (D.1 : Int) by omega, decide_true]
      exact hk _ (H2 ++ H1) s2 (hR1.sub fun e he => List.mem_append_right _ he) hO2'
    · rw [if_neg (fun h => hA h.1), if_neg hAD] at hk
      simp (config := { implicitDefEqProofs := false }) only [↓GP, GQ, ↓awp_seq, ↓awp_block, C_ex, Nat.reduceBEq, acap, afieldAddr, aload, astore, abin, anum, astr, aun, isAggD, cond_true, cond_false, ↓reduceIte, C_P, C_G, isTuple, Value.cells, setL, ares, aresL, ares1, reduceCtorEq, Nat.reduceEqDiff, eq_self, Nat.reduceAdd, if_true, if_false, one, Nat.reduceLeDiff, undef, gsl, aextract, aindexAddr, amake, implies_true, forall_const, alen, abuiltin, anil, isC, Int.reduceEq, Int.reduceLT, Int.reduceLE, Int.reduceAdd, Int.reduceToNat, Int.reduceNeg, Nat.reduceMul, Nat.reduceSub, abuild, afill, Int.reduceBNe, Int.reduceBEq, Try.underlying22, Try.underlying3, beqF (show ¬ (A.1 : Int) = 0 by omega), show ¬ (A.1 : Int) ≥ (D.1 : Int) by omega, decide_false]
      exact hk _ (H2 ++ H1) s2 (hR2.sub fun e he => List.mem_append_left _ he) hO2'
set_option maxRecDepth 10000 in
theorem sectors_spec (st : St) (r h : Hp) (p : Nat) (T : List (List Nat)) (hD : DN p T [] (-1) h) (hO : Own st (h ++ r)) (hT : T.length ≤ 1500) (k q : Value → St → Prop)
    (hk : ∀ ov qs H st', Secs H ov qs → qs.map (·.2) = T → Own st' (H ++ (h ++ r)) → k ov st') : ACallF (C base w0 G) 20 [.pointer (some ⟨p, 0, none⟩)] st k q := by
  refine ACallF.enter Try.func20 rfl (by kernel_rfl) ?_
  refine ACall.of (cx := C base w0 G) mixed Try.func20 rfl (by kernel_rfl) (by simp [Try.ntmps20]) ?_
  simp only [Try.results20]
  simp (config := { implicitDefEqProofs := false }) only [↓GP, GQ, ↓awp_seq, ↓awp_block, C_ex, Nat.reduceBEq, acap, afieldAddr, aload, astore, abin, anum, astr, aun, isAggD, cond_true, cond_false, ↓reduceIte, C_P, C_G, isTuple, Value.cells, setL, ares, aresL, ares1, reduceCtorEq, Nat.reduceEqDiff, eq_self, Nat.reduceAdd, if_true, if_false, one, Nat.reduceLeDiff, undef, gsl, aextract, aindexAddr, amake, implies_true, forall_const, alen, abuiltin, anil, isC, Int.reduceEq, Int.reduceLT, Int.reduceLE, Int.reduceAdd, Int.reduceToNat, Int.reduceNeg, Nat.reduceMul, Nat.reduceSub, abuild, afill, Int.reduceBNe, Int.reduceBEq]
  refine ⟨fun m ρ s => ∃ (i : Nat) (qs : List (Value × List Nat)) (ov : Value) (ho hr : Hp), m = T.length - i ∧ i ≤ T.length ∧ ρ 0 = .pointer (some ⟨p, 0, none⟩) ∧ ρ 3 = ov ∧ ρ 4 = .int .i64 i ∧ qs.map (·.2) = T.take i ∧ GVc ov (qs.map (·.1)) qs.length 1 23 ho ∧
    (∀ q ∈ qs, Nb hr q.1 q.2 ∧ Sl Try.prog hr q.1 1) ∧ Own s (ho ++ (hr ++ (h ++ r))), ⟨T.length, 0, [], _, [], [], rfl, Nat.zero_le _, rfl, rfl, rfl, rfl, GVc.nil, by simp, hO⟩, ?_⟩
  rintro m ρ s ⟨i, qs, ov, ho, hr, rfl, hi, p0, p3, p4, hq, hG, hQ, hOs⟩
  have hql : qs.length = i := by have := congrArg List.length hq; rw [List.length_map, List.length_take] at this; omega
  obtain ⟨oa, oc, hov⟩ := hG.isSlice
  have hOr : Own s (h ++ (ho ++ (hr ++ r))) := hOs.perm (by simpa using perm_of [ho, hr, h, r] [0, 1, 2, 3] [2, 0, 1, 3] rfl)
  simp (config := { implicitDefEqProofs := false }) only [↓GP, GQ, ↓awp_seq, ↓awp_block, C_ex, Nat.reduceBEq, acap, afieldAddr, aload, astore, abin, anum, astr, aun, isAggD, cond_true, cond_false, ↓reduceIte, C_P, C_G, isTuple, Value.cells, setL, ares, aresL, ares1, reduceCtorEq, Nat.reduceEqDiff, eq_self, Nat.reduceAdd, if_true, if_false, one, Nat.reduceLeDiff, undef, gsl, aextract, aindexAddr, amake, implies_true, forall_const, alen, abuiltin, anil, isC, Int.reduceEq, Int.reduceLT, Int.reduceLE, Int.reduceAdd, Int.reduceToNat, Int.reduceNeg, Nat.reduceMul, Nat.reduceSub, abuild, afill, Int.reduceBNe, Int.reduceBEq, p0, p3, p4]
  refine SizeN s _ h p T [] (-1) hD hOr _ _ ?_
  by_cases hiT : i < T.length
  · simp (config := { implicitDefEqProofs := false }) only [↓GP, GQ, ↓awp_seq, ↓awp_block, C_ex, Nat.reduceBEq, acap, afieldAddr, aload, astore, abin, anum, astr, aun, isAggD, cond_true, cond_false, ↓reduceIte, C_P, C_G, isTuple, Value.cells, setL, ares, aresL, ares1, reduceCtorEq, Nat.reduceEqDiff, eq_self, Nat.reduceAdd, if_true, if_false, one, Nat.reduceLeDiff, undef, gsl, aextract, aindexAddr, amake, implies_true, forall_const, alen, abuiltin, anil, isC, Int.reduceEq, Int.reduceLT, Int.reduceLE, Int.reduceAdd, Int.reduceToNat, Int.reduceNeg, Nat.reduceMul, Nat.reduceSub, abuild, afill, Int.reduceBNe, Int.reduceBEq, p0, p3, p4, Try.underlying3, Int.ofNat_lt, hiT, decide_true]
    refine ReadN s _ h p T [] (-1) (i : Nat) hD hOr (by decide) _ _ (fun hh => absurd ⟨by omega, by omega⟩ hh) fun b s2 _ _ hsec hO2 => ?_
    rw [Int.toNat_natCast] at hsec hO2
    have hsec : Sec (T.getD i []) := hsec
    have hO2 : Own s2 ((b, .cells (nl (T.getD i [])) 5 true) :: (h ++ (ho ++ (hr ++ r)))) := hO2
    have hb1 := abuildSlice_one (st := s2) (v := .slice (some ⟨b, 0, some 0⟩) 64 64) Try.underlying22 asz23 azc23 rfl rfl rfl (by decide)
    simp (config := { implicitDefEqProofs := false }) only [↓GP, GQ, ↓awp_seq, ↓awp_block, C_ex, Nat.reduceBEq, acap, afieldAddr, aload, astore, abin, anum, astr, aun, isAggD, cond_true, cond_false, ↓reduceIte, C_P, C_G, isTuple, Value.cells, setL, ares, aresL, ares1, reduceCtorEq, Nat.reduceEqDiff, eq_self, Nat.reduceAdd, if_true, if_false, one, Nat.reduceLeDiff, undef, gsl, aextract, aindexAddr, amake, implies_true, forall_const, alen, abuiltin, anil, isC, Int.reduceEq, Int.reduceLT, Int.reduceLE, Int.reduceAdd, Int.reduceToNat, Int.reduceNeg, Nat.reduceMul, Nat.reduceSub, abuild, afill, Int.reduceBNe, Int.reduceBEq, p0, p3, p4, hov, hb1]
    rw [← hov]
    have hO3 : Own s2 (ho ++ (((b, .cells (nl (T.getD i [])) 5 true) :: hr) ++ (h ++ r))) := hO2.perm (by simpa using perm_of [[(b, Ob.cells (nl (T.getD i [])) 5 true)], h, ho, hr, r] [0, 1, 2, 3, 4] [2, 0, 3, 1, 4] rfl)
    refine GVc.append1 (c := [.slice (some ⟨b, 0, some 0⟩) 64 64]) Try.underlying22 (by rw [Try.underlying22]; rfl) asz23 azc23 aby23 hG hO3 rfl rfl (by omega) fun v7 h7' s7 hG7 hO7 => ?_
    have hO7' : Own s7 (h7' ++ (((b, .cells (nl (T.getD i [])) 5 true) :: hr) ++ (h ++ r))) := hO7
    simp (config := { implicitDefEqProofs := false }) only [↓GP, GQ, ↓awp_seq, ↓awp_block, C_ex, Nat.reduceBEq, acap, afieldAddr, aload, astore, abin, anum, astr, aun, isAggD, cond_true, cond_false, ↓reduceIte, C_P, C_G, isTuple, Value.cells, setL, ares, aresL, ares1, reduceCtorEq, Nat.reduceEqDiff, eq_self, Nat.reduceAdd, if_true, if_false, one, Nat.reduceLeDiff, undef, gsl, aextract, aindexAddr, amake, implies_true, forall_const, alen, abuiltin, anil, isC, Int.reduceEq, Int.reduceLT, Int.reduceLE, Int.reduceAdd, Int.reduceToNat, Int.reduceNeg, Nat.reduceMul, Nat.reduceSub, abuild, afill, Int.reduceBNe, Int.reduceBEq, p0, p3, p4, Try.underlying3]
    refine ⟨T.length - (i + 1), by omega, i + 1, qs ++ [(.slice (some ⟨b, 0, some 0⟩) 64 64, T.getD i [])], v7, h7', (b, .cells (nl (T.getD i [])) 5 true) :: hr, rfl, by omega, rfl, by rw [w_i64 (by omega)]; rfl, ?_, ?_, fun x hx => ?_, hO7'⟩
    · rw [List.map_append, hq, List.take_add_one, List.getElem?_eq_getElem hiT, List.getD_eq_getElem?_getD, List.getElem?_eq_getElem hiT]; rfl
    · rw [List.map_append, List.length_append, List.map_singleton]
      exact hG7
    · rcases List.mem_append.1 hx with e | e
      · exact ⟨(hQ x e).1.sub fun y hy => List.mem_cons_of_mem _ hy, (hQ x e).2.sub fun y hy => List.mem_cons_of_mem _ hy⟩
      · simp only [List.mem_singleton] at e
        subst e
        refine ⟨?_, .inr ⟨b, 0, some 0, 64, 64, rfl, Nat.le_refl _, .inr ⟨rfl, _, 5, true, List.mem_cons_self .., fun _ => asz5⟩⟩⟩
        have := nb_exact (b := b) (l := T.getD i []) (c := 64) (sp := some 0) (ty := 5) (own := true) (h := (b, .cells (nl (T.getD i [])) 5 true) :: hr) (List.mem_cons_self ..) hsec.2
        rw [hsec.1] at this
        exact this
  · obtain rfl : i = T.length := by omega
    rw [List.take_length] at hq
    simp (config := { implicitDefEqProofs := false }) only [↓GP, GQ, ↓awp_seq, ↓awp_block, C_ex, Nat.reduceBEq, acap, afieldAddr, aload, astore, abin, anum, astr, aun, isAggD, cond_true, cond_false, ↓reduceIte, C_P, C_G, isTuple, Value.cells, setL, ares, aresL, ares1, reduceCtorEq, Nat.reduceEqDiff, eq_self, Nat.reduceAdd, if_true, if_false, one, Nat.reduceLeDiff, undef, gsl, aextract, aindexAddr, amake, implies_true, forall_const, alen, abuiltin, anil, isC, Int.reduceEq, Int.reduceLT, Int.reduceLE, Int.reduceAdd, Int.reduceToNat, Int.reduceNeg, Nat.reduceMul, Nat.reduceSub, abuild, afill, Int.reduceBNe, Int.reduceBEq, p0, p3, p4, Try.underlying3, Int.ofNat_lt, Nat.lt_irrefl, decide_false]
    have hPS := hG.ps rfl asz23 (fun q h => (hQ q h).1)
    refine hk ov qs (ho ++ hr) s ⟨hPS.1, hPS.2, fun p hp => ⟨(hQ p hp).2.sub fun e he => List.mem_append_right _ he, ?_⟩⟩ hq (by rw [List.append_assoc]; exact hOs)
    have : p.2 ∈ T := by rw [← hq]; exact List.mem_map_of_mem hp
    exact (hD.2.1 _ this).1
end Go.Proofs.Ytiooigkcliomlaa
/- What any sectors have once they were opened: plain facts. No conditions. -/
set_option linter.unusedVariables false
set_option linter.unusedSimpArgs false
namespace Go.Proofs.Ytiooigkcliomlaa
open Go Go.Abs Go.RowKit

structure Opened (T : List (List Nat)) (w g : Nat) (recs : List (List Nat)) (e : Nat) (T2 : List (List Nat)) : Prop where
  hw : w ≤ 1
  len : T2.length = T.length
  sec : ∀ s ∈ T2, Sec s
  ne : recs ≠ []
  has : (halfM (halfOf T2 w)).2.1 = recs
  ends : (halfM (halfOf T2 w)).2.2 = e
  el : e ≤ T.length / 2
  glt : g < 4294967296
  rl : recs.length ≤ e
  nought : ∀ j, e ≤ j → j < T.length / 2 → T2.getD (w * (T.length / 2) + j) [] = nought64
  other : ∀ i, i < w * (T.length / 2) ∨ (w + 1) * (T.length / 2) ≤ i → T2.getD i [] = T.getD i []
  scan : if (scanM T).1 < 0 then (w, g, recs) = (0, 1, [[]]) else (scanM T).1 = (w : Nat) ∧ (scanM T).2.1 = g ∧ (scanM T).2.2 = recs
theorem open_facts {T : List (List Nat)} (hS : ∀ s ∈ T, Sec s) (h4 : 4 ≤ T.length) : Opened T (openM T).1 (openM T).2.1 (openM T).2.2.1 (openM T).2.2.2.1 (openM T).2.2.2.2 := by
  rcases scanM_some hS h4 with hm | ⟨w, hw1, hm1, hm2, hm3, hm4⟩
  · have ho : openM T = (0, 1, [[]], 1, wrote (appN T (noughtF T true 0 (T.length / 2))) 0 1 0 []) := by
      unfold openM; rw [hm, if_pos (by decide)]
    rw [ho]
    simp only
    have hl0 := appN_length T (noughtF T true 0 (T.length / 2))
    have hn0 := nought_getD T true 0 (T.length / 2) (by omega)
    have hs0 : ∀ s ∈ appN T (noughtF T true 0 (T.length / 2)), Sec s := appN_sec hS (noughtF_fit (by omega))
    generalize appN T (noughtF T true 0 (T.length / 2)) = A at *
    have hz : needN ([] : List Nat).length = 0 := rfl
    have hw := wrote_getD A 0 1 0 [] (by rw [hz, hl0]; omega)
    have hwl := wrote_length A 0 1 0 []
    have hws := wrote_sec (g := 1) (num := 0) (a := 0) (l := []) hs0 (by simp) (by rw [hz, hl0]; omega)
    generalize wrote A 0 1 0 [] = T1 at *
    rw [hl0] at hwl
    have hhalf : halfOf T1 0 = lay 1 [[]] ++ noughts (T.length / 2 - 1) := by
      refine list_ext ?_ fun j hj => ?_
      · rw [halfOf_length (by decide), List.length_append, noughts, List.length_replicate, hwl]
        show _ = 1 + (_ - 1)
        omega
      · rw [halfOf_length (by decide), hwl] at hj
        rw [halfOf_getD (by rw [hwl]; exact hj), hwl, Nat.zero_mul, Nat.zero_add, hw]
        cases j with
        | zero => rfl
        | succ j =>
          rw [if_neg (by omega), if_neg (by rw [hz]; omega), hn0, if_pos (by omega)]
          show nought64 = (noughts (T.length / 2 - 1)).getD j []
          rw [noughts, List.getD_eq_getElem?_getD, List.getElem?_replicate, if_pos (by omega)]; rfl
    have hM : halfM (halfOf T1 0) = (1, [[]], 1) := by
      rw [hhalf, halfM_lay (by decide) (by decide) (by simp) (by simp) (bad_noughts _)]
      rfl
    refine ⟨by decide, hwl, hws, by simp, by rw [hM], by rw [hM], by omega, by decide, by simp, fun j h1 h2 => ?_, fun i hi => ?_, by rw [hm, if_pos (by decide)]⟩
    · rw [Nat.zero_mul, Nat.zero_add, hw, if_neg (by omega), if_neg (by rw [hz]; omega), hn0, if_pos (by omega)]
    · rw [hw, if_neg (by omega), if_neg (by rw [hz]; omega), hn0, if_neg (by omega)]
  · have ho : openM T = (w, (halfM (halfOf T w)).1, (halfM (halfOf T w)).2.1, (halfM (halfOf T w)).2.2, appN T (noughtF T false (w * (T.length / 2) + (halfM (halfOf T w)).2.2) (T.length / 2 - (halfM (halfOf T w)).2.2))) := by
      unfold openM; rw [hm1, hm2, hm3, if_neg (by omega), Int.toNat_natCast]
    rw [ho]
    simp only
    obtain ⟨f1, f2, f3, f4⟩ := halfM_facts (halfOf_sec hS w)
    rw [halfOf_length hw1] at f1
    have hwm : w * (T.length / 2) ≤ 1 * (T.length / 2) := Nat.mul_le_mul_right _ hw1
    have hw2 : (w + 1) * (T.length / 2) = w * (T.length / 2) + T.length / 2 := by rw [Nat.add_mul, Nat.one_mul]
    have hl0 := appN_length T (noughtF T false (w * (T.length / 2) + (halfM (halfOf T w)).2.2) (T.length / 2 - (halfM (halfOf T w)).2.2))
    have hn0 := nought_getD T false (w * (T.length / 2) + (halfM (halfOf T w)).2.2) (T.length / 2 - (halfM (halfOf T w)).2.2) (by omega)
    have hs0 := appN_sec hS (noughtF_fit (S := T) (all := false) (a := w * (T.length / 2) + (halfM (halfOf T w)).2.2) (k := T.length / 2 - (halfM (halfOf T w)).2.2) (by omega))
    generalize appN T (noughtF T false (w * (T.length / 2) + (halfM (halfOf T w)).2.2) (T.length / 2 - (halfM (halfOf T w)).2.2)) = T1 at *
    have hcon : halfM (halfOf T1 w) = halfM (halfOf T w) := by
      refine halfM_congr (halfOf_sec hS w) (by rw [halfOf_length hw1, halfOf_length hw1, hl0]) (fun j hj => ?_) ?_
      · rw [halfOf_getD (by omega), halfOf_getD (by omega), hl0, hn0, if_neg (by omega)]
      · generalize he : (halfM (halfOf T w)).2.2 = e at *
        by_cases hel : e < T.length / 2
        · refine .inl ?_
          rw [List.headD_eq_head?_getD, List.head?_drop, ← List.getD_eq_getElem?_getD, halfOf_getD (by omega), hl0, hn0, if_pos (by omega)]
          exact nought_0
        · rw [List.drop_of_length_le (by rw [halfOf_length hw1, hl0]; omega)]
          exact bad_nil
    refine ⟨hw1, hl0, hs0, f3 hm4, by rw [hcon], by rw [hcon], f1, f2, f4, fun j h1 h2 => ?_, fun i hi => ?_, by rw [hm1, if_neg (by omega)]; exact ⟨rfl, hm2, hm3⟩⟩
    · rw [hn0, if_pos (by omega)]
    · rw [hn0, if_neg (by omega)]
end Go.Proofs.Ytiooigkcliomlaa
