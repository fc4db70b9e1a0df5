/- What a journal's sectors have, whatever fails: plain facts. No conditions. -/
import Derived.Test.YtiooigkcliomlaaJ24
set_option linter.unusedVariables false
set_option linter.unusedSimpArgs false
namespace Go.Proofs.Ytiooigkcliomlaa
open Go Go.Abs Go.RowKit

/-- Sectors of which one half has these records, and wins; behind its end there's no record. -/
structure JT (T : List (List Nat)) (w g : Nat) (recs tail : List (List Nat)) : Prop where
  sec : ∀ s ∈ T, Sec s
  hw : w ≤ 1
  g0 : g ≠ 0
  glt : g < 4294967296
  ne : recs ≠ []
  len : ∀ b ∈ recs, b.length < 4294967296
  n4 : 4 ≤ T.length
  lay : halfOf T w = lay g recs ++ tail
  bad : Bad tail
  other : if w = 0 then (halfM (halfOf T 1)).1 ≤ g else (halfM (halfOf T 0)).1 < g
def noughts (k : Nat) : List (List Nat) := List.replicate k nought64
theorem bad_noughts (k : Nat) : Bad (noughts k) := by
  cases k with
  | zero => exact bad_nil
  | succ k => exact bad_nought _
/-- .. and there are noughts alone. -/
def JI (T : List (List Nat)) (w g : Nat) (recs : List (List Nat)) : Prop := JT T w g recs (noughts (T.length / 2 - (lay g recs).length))
theorem JT.end_le {T : List (List Nat)} {w g : Nat} {recs tail : List (List Nat)} (h : JT T w g recs tail) : (Go.Proofs.Ytiooigkcliomlaa.lay g recs).length + tail.length = T.length / 2 := by
  have := congrArg List.length h.lay
  rw [halfOf_length h.hw, List.length_append] at this
  omega
theorem JT.half {T : List (List Nat)} {w g : Nat} {recs tail : List (List Nat)} (h : JT T w g recs tail) : halfM (halfOf T w) = (g, recs, (Go.Proofs.Ytiooigkcliomlaa.lay g recs).length) := by
  rw [h.lay]
  exact halfM_lay h.glt h.g0 h.ne h.len h.bad
theorem JT.scan {T : List (List Nat)} {w g : Nat} {recs tail : List (List Nat)} (h : JT T w g recs tail) : scanM T = ((w : Int), g, recs) := by
  have hh := h.half
  have ho := h.other
  have hg := h.g0
  rw [scanM_eq h.sec h.n4]
  rcases Nat.lt_or_ge 0 w with hw | hw
  · obtain rfl : w = 1 := by have := h.hw; omega
    rw [if_neg (by decide)] at ho
    rw [hh, if_neg (fun e => hg e.2), if_neg (by simp only; omega)]
    rfl
  · obtain rfl : w = 0 := by omega
    rw [if_pos rfl] at ho
    rw [hh, if_neg (fun e => hg e.1), if_pos (by simpa using ho)]
    rfl
theorem JT.opened {T : List (List Nat)} {w g : Nat} {recs tail : List (List Nat)} (h : JT T w g recs tail) : ∃ T3, openM T = (w, g, recs, (Go.Proofs.Ytiooigkcliomlaa.lay g recs).length, T3) ∧ JI T3 w g recs ∧ T3.length = T.length := by
  have hs := h.scan
  have he := h.end_le
  have hh := h.half
  unfold openM
  rw [hs]
  simp only [show ¬ ((w : Int) < 0) by omega, if_false, Int.toNat_natCast, hh]
  refine ⟨_, rfl, ?_, appN_length _ _⟩
  have hw := h.hw
  have hwm : w * (T.length / 2) ≤ 1 * (T.length / 2) := Nat.mul_le_mul_right _ hw
  have hg := nought_getD T false (w * (T.length / 2) + (Go.Proofs.Ytiooigkcliomlaa.lay g recs).length) (T.length / 2 - (Go.Proofs.Ytiooigkcliomlaa.lay g recs).length) (by omega)
  generalize hT3 : appN T (noughtF T false (w * (T.length / 2) + (Go.Proofs.Ytiooigkcliomlaa.lay g recs).length) (T.length / 2 - (Go.Proofs.Ytiooigkcliomlaa.lay g recs).length)) = T3 at *
  have hl : T3.length = T.length := by rw [← hT3, appN_length]
  have hL : FitL T.length (noughtF T false (w * (T.length / 2) + (Go.Proofs.Ytiooigkcliomlaa.lay g recs).length) (T.length / 2 - (Go.Proofs.Ytiooigkcliomlaa.lay g recs).length)) := fun x hx => by
    have h1 := noughtF_lt T false _ _ x hx
    refine ⟨by omega, ?_⟩
    have key : ∀ k, ∀ x ∈ noughtF T false (w * (T.length / 2) + (Go.Proofs.Ytiooigkcliomlaa.lay g recs).length) k, x.2 = nought64 := by
      intro k
      induction k with
      | zero => intro x hx; simp [noughtF] at hx
      | succ k ih =>
        intro x hx
        rw [noughtF] at hx
        rcases List.mem_append.1 hx with e | e
        · exact ih x e
        · split at e
          · simp at e; rw [e]
          · simp at e
    rw [key _ x hx]
    exact nought_sec
  have hother : ∀ v, v ≤ 1 → v ≠ w → halfOf T3 v = halfOf T v := fun v hv hne => halfOf_same hv hl fun j hj => by
    rw [hg, if_neg]
    have hv2 : v * (T.length / 2) ≤ 1 * (T.length / 2) := Nat.mul_le_mul_right _ hv
    rcases Nat.lt_or_ge 0 w with h1 | h1
    · obtain rfl : w = 1 := by omega
      obtain rfl : v = 0 := by omega
      omega
    · obtain rfl : w = 0 := by omega
      obtain rfl : v = 1 := by omega
      omega
  refine ⟨?_, hw, h.g0, h.glt, h.ne, h.len, by rw [hl]; exact h.n4, ?_, bad_noughts _, ?_⟩
  · rw [← hT3]; exact appN_sec h.sec hL
  · refine list_ext ?_ fun j hj => ?_
    · rw [halfOf_length hw, List.length_append, noughts, List.length_replicate]; omega
    · rw [halfOf_length hw, hl] at hj
      rw [halfOf_getD (by rw [hl]; exact hj), hl, hg]
      by_cases e : j < (Go.Proofs.Ytiooigkcliomlaa.lay g recs).length
      · rw [if_neg (by omega), ← halfOf_getD hj, h.lay, List.getD_eq_getElem?_getD, List.getD_eq_getElem?_getD, List.getElem?_append_left e, List.getElem?_append_left e]
      · rw [if_pos (by omega), List.getD_eq_getElem?_getD, List.getElem?_append_right (by omega), noughts, List.getElem?_replicate, if_pos (by omega)]
        rfl
  · have ho := h.other
    rcases Nat.lt_or_ge 0 w with h1 | h1
    · obtain rfl : w = 1 := by omega
      rw [hother 0 (by decide) (by decide)]; exact ho
    · obtain rfl : w = 0 := by omega
      rw [hother 1 (by decide) (by decide)]; exact ho
/-- A disk whose winner has noughts behind its end stays as it is. -/
theorem JI.nought {T : List (List Nat)} {w g : Nat} {recs : List (List Nat)} (h : JI T w g recs) {j : Nat} (h1 : (lay g recs).length ≤ j) (h2 : j < T.length / 2) : T.getD (w * (T.length / 2) + j) [] = nought64 := by
  rw [← halfOf_getD h2, h.lay, List.getD_eq_getElem?_getD, List.getElem?_append_right h1, noughts, List.getElem?_replicate, if_pos (by omega)]
  rfl
theorem JI.opened {T : List (List Nat)} {w g : Nat} {recs : List (List Nat)} (h : JI T w g recs) : openM T = (w, g, recs, (lay g recs).length, T) := by
  have hs := h.scan
  have hh := h.half
  have he := h.end_le
  unfold openM
  rw [hs]
  simp only [show ¬ ((w : Int) < 0) by omega, if_false, Int.toNat_natCast, hh]
  rw [noughtF_none _ fun j h1 h2 => by
    have := h.nought (j := j - w * (T.length / 2)) (by omega) (by omega)
    rwa [show w * (T.length / 2) + (j - w * (T.length / 2)) = j by omega] at this]
  rfl
end Go.Proofs.Ytiooigkcliomlaa
