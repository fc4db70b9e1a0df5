/- A record more, or its remains; plain facts. No conditions. -/
import Derived.Test.YtiooigkcliomlaaJ25
set_option linter.unusedVariables false
set_option linter.unusedSimpArgs false
namespace Go.Proofs.Ytiooigkcliomlaa
open Go Go.Abs Go.RowKit

theorem headL_sec (g num : Nat) (l : List Nat) : Sec (headL g num l) := ⟨headL_length _ _ _, headL_lt _ _ _⟩
theorem payF_fit {S : List (List Nat)} {a : Nat} {l : List Nat} (hl : ∀ d ∈ l, d < 256) : ∀ k, k ≤ needN l.length → a + k < S.length → FitL S.length (payF l a k)
  | 0, _, _ => fun w hw => by simp [payF] at hw
  | k + 1, h1, h2 => fun w hw => by
    rw [payF] at hw
    rcases List.mem_append.1 hw with e | e
    · exact payF_fit hl k (by omega) (by omega) w e
    · simp at e; subst e; exact ⟨by simp only; omega, chunkN_sec hl (by omega)⟩
theorem payF_at (l : List Nat) (a : Nat) : ∀ k, ∀ w ∈ payF l a k, a < w.1 ∧ w.1 ≤ a + k
  | 0 => by simp [payF]
  | k + 1 => fun w hw => by
    rw [payF] at hw
    rcases List.mem_append.1 hw with e | e
    · have := payF_at l a k w e; omega
    · simp at e; subst e; simp only; omega
theorem wrote_sec {S : List (List Nat)} {a g num : Nat} {l : List Nat} (hS : ∀ s ∈ S, Sec s) (hl : ∀ d ∈ l, d < 256) (h : a + needN l.length < S.length) : ∀ s ∈ wrote S a g num l, Sec s := by
  unfold wrote
  refine appN_sec (appN_sec hS (payF_fit hl _ (Nat.le_refl _) h)) fun w hw => ?_
  simp at hw
  subst hw
  exact ⟨by rw [appN_length]; simp only; omega, headL_sec _ _ _⟩
/-- What is left where a write failed. -/
structure Left_ (T T2 : List (List Nat)) (a m : Nat) : Prop where
  len : T2.length = T.length
  sec : ∀ s ∈ T2, Sec s
  same : ∀ j, ¬ (a ≤ j ∧ j ≤ a + m) → T2.getD j [] = T.getD j []
  bad : (T2.getD a []).getD 63 0 ≠ 165
theorem getD_take_drop {a b : List Nat} (ha : a.length = 64) (hb : b.length = 64) (c j : Nat) (hc : c ≤ 64) (hj : j < 64) : (a.take c ++ b.drop c).getD j 0 = if j < c then a.getD j 0 else b.getD j 0 := by
  rw [List.getD_eq_getElem?_getD, List.getD_eq_getElem?_getD, List.getD_eq_getElem?_getD]
  by_cases h : j < c
  · rw [if_pos h, List.getElem?_append_left (by rw [List.length_take]; omega), List.getElem?_take, if_pos h]
  · rw [if_neg h, List.getElem?_append_right (by rw [List.length_take]; omega), List.length_take, List.getElem?_drop]
    congr 2; omega
theorem crashN_one {S : List (List Nat)} {x : LN} {keep part : Int} : crashN S [x] keep part = S.set x.1 x.2 ∨ crashN S [x] keep part = S.set x.1 (x.2.take (kp part 64) ++ (S.getD x.1 []).drop (kp part 64)) := by
  unfold crashN
  have h1 := kp_le keep 1
  rw [show [x].length = 1 from rfl]
  rcases Nat.lt_or_ge (kp keep 1) 1 with h | h
  · have : kp keep 1 = 0 := by omega
    rw [this]
    exact .inr rfl
  · have : kp keep 1 = 1 := by omega
    rw [this]
    exact .inl rfl
/-- A failed write, and a crash, or all that waits done. -/
theorem fail_left {T : List (List Nat)} {a g num : Nat} {l : List Nat} {S' : List (List Nat)} {L' : List LN} (hT : ∀ s ∈ T, Sec s) (hl : ∀ d ∈ l, d < 256) (hm : a + needN l.length < T.length) (h0 : T.getD a [] = nought64) (hF : WFail T a g num l S' L') {T2 : List (List Nat)}
    (h2 : (∃ keep part, T2 = crashN S' L' keep part) ∨ T2 = appN S' L') : Left_ T T2 a (needN l.length) ∨ T2 = wrote T a g num l := by
  have hpf := payF_fit (S := T) (a := a) hl (needN l.length) (Nat.le_refl _) hm
  rcases hF with ⟨rfl, j, hj, rfl⟩ | ⟨rfl, rfl | rfl⟩
  · have hfj := payF_fit (S := S') (a := a) hl j hj (by omega)
    refine .inl ?_
    have hot : ∀ i, ¬ (a ≤ i ∧ i ≤ a + needN l.length) → ∀ w ∈ payF l a j, w.1 ≠ i := fun i hi w hw e => by have := payF_at l a j w hw; omega
    have hat : ∀ w ∈ payF l a j, w.1 ≠ a := fun w hw e => by have := payF_at l a j w hw; omega
    have hn : (nought64 : List Nat).getD 63 0 ≠ 165 := by decide
    rcases h2 with ⟨keep, part, rfl⟩ | rfl
    · exact ⟨crashN_length _ _ _ _, crashN_sec hT hfj _ _, fun i hi => crashN_getD_other (hot i hi), by rw [crashN_getD_other hat, h0]; exact hn⟩
    · exact ⟨appN_length _ _, appN_sec hT hfj, fun i hi => appN_getD_other (hot i hi), by rw [appN_getD_other hat, h0]; exact hn⟩
  · refine .inl ?_
    have e : T2 = appN T (payF l a (needN l.length)) := by
      rcases h2 with ⟨keep, part, rfl⟩ | rfl
      · unfold crashN; simp [appN]
      · rfl
    subst e
    refine ⟨appN_length _ _, appN_sec hT hpf, fun i hi => ?_, ?_⟩
    · rw [payF_getD T l a _ hm, if_neg (by omega)]
    · rw [payF_getD T l a _ hm, if_neg (by omega), h0]; decide
  · have hS := appN_sec hT hpf
    have hlen := appN_length T (payF l a (needN l.length))
    have hga : (appN T (payF l a (needN l.length))).getD a [] = nought64 := by rw [payF_getD T l a _ hm, if_neg (by omega), h0]
    rcases h2 with ⟨keep, part, rfl⟩ | rfl
    · rcases crashN_one (S := appN T (payF l a (needN l.length))) (x := (a, headL g num l)) (keep := keep) (part := part) with h | h
      · exact .inr h
      · have hk := kp_le part 64
        by_cases h64 : kp part 64 = 64
        · refine .inr ?_
          rw [h]
          simp only [hga, h64]
          rw [List.take_of_length_le (by rw [headL_length]; exact Nat.le_refl _), List.drop_of_length_le (by simp [nought64]), List.append_nil]
          rfl
        · refine .inl ⟨crashN_length _ _ _ _ |>.trans hlen, ?_, fun i hi => ?_, ?_⟩
          · refine crashN_sec (L := [(a, headL g num l)]) hS (fun w hw => ?_) keep part
            simp at hw
            subst hw
            exact ⟨by rw [hlen]; simp only; omega, headL_sec _ _ _⟩
          · rw [crashN_getD_other fun w hw => by simp at hw; subst hw; simp only; omega, payF_getD T l a _ hm, if_neg (by omega)]
          · rw [h]
            simp only [hga]
            rw [getD_set', if_pos ⟨rfl, by rw [hlen]; omega⟩, getD_take_drop (headL_length _ _ _) (by simp [nought64]) _ _ hk (by decide), if_neg (by omega)]
            decide
    · exact .inr rfl
/-- A record more. -/
theorem JI.wrote {T : List (List Nat)} {w g : Nat} {recs : List (List Nat)} {b : List Nat} (h : JI T w g recs) (hb : ∀ d ∈ b, d < 256) (hbl : b.length < 4294967296) (hfit : 1 + needN b.length ≤ T.length / 2 - (lay g recs).length) :
    JI (wrote T (w * (T.length / 2) + (lay g recs).length) g recs.length b) w g (recs ++ [b]) ∧ (lay g (recs ++ [b])).length = (lay g recs).length + 1 + needN b.length := by
  have he := h.end_le
  have hw := h.hw
  have hwm : w * (T.length / 2) ≤ 1 * (T.length / 2) := Nat.mul_le_mul_right _ hw
  have hlay : lay g (recs ++ [b]) = lay g recs ++ (headL g recs.length b :: chunks b) := by
    unfold lay
    rw [layF_append, Nat.zero_add]
    simp [layF]
  have hle : (lay g (recs ++ [b])).length = (lay g recs).length + 1 + needN b.length := by
    rw [hlay, List.length_append, List.length_cons, chunks_length]; omega
  refine ⟨?_, hle⟩
  have hin : w * (T.length / 2) + (lay g recs).length + needN b.length < T.length := by omega
  have hgd := wrote_getD T (w * (T.length / 2) + (lay g recs).length) g recs.length b hin
  have hlen := wrote_length T (w * (T.length / 2) + (lay g recs).length) g recs.length b
  have hsec := wrote_sec (g := g) (num := recs.length) h.sec hb hin
  generalize Go.Proofs.Ytiooigkcliomlaa.wrote T (w * (T.length / 2) + (lay g recs).length) g recs.length b = T2 at *
  have hother : ∀ v, v ≤ 1 → v ≠ w → halfOf T2 v = halfOf T v := fun v hv hne => halfOf_same hv hlen fun j hj => by
    have hv2 : v * (T.length / 2) ≤ 1 * (T.length / 2) := Nat.mul_le_mul_right _ hv
    rw [hgd]
    rcases Nat.lt_or_ge 0 w with h1 | h1
    · obtain rfl : w = 1 := by omega
      obtain rfl : v = 0 := by omega
      rw [if_neg (by omega), if_neg (by omega)]
    · obtain rfl : w = 0 := by omega
      obtain rfl : v = 1 := by omega
      rw [if_neg (by omega), if_neg (by omega)]
  refine ⟨hsec, hw, h.g0, h.glt, by simp, fun x hx => ?_, by rw [hlen]; exact h.n4, ?_, bad_noughts _, ?_⟩
  · rcases List.mem_append.1 hx with e | e
    · exact h.len x e
    · simp at e; subst e; exact hbl
  · refine list_ext ?_ fun j hj => ?_
    · rw [halfOf_length hw, List.length_append, noughts, List.length_replicate, hlen, hle]; omega
    · rw [halfOf_length hw, hlen] at hj
      rw [halfOf_getD (by rw [hlen]; exact hj), hlen, hgd]
      by_cases c1 : j < (lay g recs).length
      · rw [if_neg (by omega), if_neg (by omega), ← halfOf_getD hj, h.lay, hlay, List.getD_eq_getElem?_getD, List.getD_eq_getElem?_getD, List.getElem?_append_left c1, List.append_assoc, List.getElem?_append_left c1]
      · by_cases c2 : j = (lay g recs).length
        · rw [if_pos (by omega), hlay, List.append_assoc, List.getD_eq_getElem?_getD, List.getElem?_append_right (by omega), c2, Nat.sub_self]
          rfl
        · rw [if_neg (by omega)]
          by_cases c3 : j ≤ (lay g recs).length + needN b.length
          · rw [if_pos (by omega), hlay, List.append_assoc, List.getD_eq_getElem?_getD, List.getElem?_append_right (by omega)]
            obtain ⟨i, hi⟩ : ∃ i, j - (lay g recs).length = i + 1 := ⟨j - (lay g recs).length - 1, by omega⟩
            rw [hi, List.cons_append, List.getElem?_cons_succ, List.getElem?_append_left (by rw [chunks_length]; omega), chunks, List.getElem?_map, List.getElem?_range (by omega)]
            show _ = chunkN b i
            congr 1; omega
          · rw [if_neg (by omega), h.nought (by omega) hj, List.getD_eq_getElem?_getD, List.getElem?_append_right (by rw [hle]; omega), noughts, List.getElem?_replicate, if_pos (by rw [hle]; omega)]
            rfl
  · have ho := h.other
    rcases Nat.lt_or_ge 0 w with h1 | h1
    · obtain rfl : w = 1 := by omega
      rw [hother 0 (by decide) (by decide)]; exact ho
    · obtain rfl : w = 0 := by omega
      rw [hother 1 (by decide) (by decide)]; exact ho
/-- Where a record's write failed, the records ahead stay. -/
theorem JI.left {T T2 : List (List Nat)} {w g : Nat} {recs : List (List Nat)} {m : Nat} (h : JI T w g recs) (hfit : 1 + m ≤ T.length / 2 - (lay g recs).length) (hL : Left_ T T2 (w * (T.length / 2) + (lay g recs).length) m) : ∃ tail, JT T2 w g recs tail := by
  have he := h.end_le
  have hw := h.hw
  have hlen := hL.len
  have hwm : w * (T.length / 2) ≤ 1 * (T.length / 2) := Nat.mul_le_mul_right _ hw
  have hother : ∀ v, v ≤ 1 → v ≠ w → halfOf T2 v = halfOf T v := fun v hv hne => halfOf_same hv hlen fun j hj => by
    have hv2 : v * (T.length / 2) ≤ 1 * (T.length / 2) := Nat.mul_le_mul_right _ hv
    refine hL.same _ ?_
    rcases Nat.lt_or_ge 0 w with h1 | h1
    · obtain rfl : w = 1 := by omega
      obtain rfl : v = 0 := by omega
      omega
    · obtain rfl : w = 0 := by omega
      obtain rfl : v = 1 := by omega
      omega
  refine ⟨(halfOf T2 w).drop (lay g recs).length, hL.sec, hw, h.g0, h.glt, h.ne, h.len, by rw [hlen]; exact h.n4, ?_, .inr ?_, ?_⟩
  · have e : (halfOf T2 w).take (lay g recs).length = lay g recs := by
      refine list_ext ?_ fun j hj => ?_
      · rw [List.length_take, halfOf_length hw, hlen]; omega
      · rw [List.length_take] at hj
        have h1 : ((halfOf T2 w).take (lay g recs).length).getD j [] = (halfOf T2 w).getD j [] := by
          rw [List.getD_eq_getElem?_getD, List.getD_eq_getElem?_getD, List.getElem?_take, if_pos (by omega)]
        rw [h1, halfOf_getD (by rw [hlen]; omega), hlen, hL.same _ (by omega), ← halfOf_getD (by omega), h.lay, List.getD_eq_getElem?_getD, List.getD_eq_getElem?_getD, List.getElem?_append_left (by omega)]
    conv => lhs; rw [← List.take_append_drop (lay g recs).length (halfOf T2 w), e]
  · have h1 : ((halfOf T2 w).drop (lay g recs).length).headD [] = (halfOf T2 w).getD (lay g recs).length [] := by
      rw [List.headD_eq_head?_getD, List.head?_drop, List.getD_eq_getElem?_getD]
    rw [h1, halfOf_getD (by rw [hlen]; omega), hlen]
    exact hL.bad
  · have ho := h.other
    rcases Nat.lt_or_ge 0 w with h1 | h1
    · obtain rfl : w = 1 := by omega
      rw [hother 0 (by decide) (by decide)]; exact ho
    · obtain rfl : w = 0 := by omega
      rw [hother 1 (by decide) (by decide)]; exact ho
end Go.Proofs.Ytiooigkcliomlaa
