/- From a world to the abstract heap. -/
import Derived.Test.YtigjbehgfjjlkaaGreatDoorAbsY
set_option linter.unusedVariables false
set_option linter.unusedSimpArgs false
namespace Go.Abs
open Go.RowKit
def lowL (n : Nat) : Value → Bool
  | .pointer (some a) => decide (a.block < n) && a.spot.isNone
  | .slice (some a) len cap => decide (a.block < n) && a.spot.isNone && decide (len ≤ cap)
  | v => nC v
def low (n : Nat) (v : Value) : Value :=
  match v with
  | .slice (some _) 0 0 => .slice (some ⟨n, 0, none⟩) 0 0
  | v => bif lowL n v then v else undef
def lowA (n : Nat) (v : Value) : Value :=
  match v with
  | .agg cs => .agg (cs.map (low n))
  | v => low n v
def st0 (w : World) : St where
  H := fun B => match w.heap[B]? with
    | some (.cells ccs ty _) => some (.cells (ccs.toList.map (low w.heap.size)) ty false)
    | _ => none
  n := w.heap.size + 1
def φ0 (w : World) : Emb := fun B => if B < w.heap.size + 1 then some ⟨B, 0, (match w.heap[B]? with | some (.cells ccs _ _) => ccs.size | _ => 0), 0⟩ else none
theorem VR.lowL {w : World} {v : Value} (h : lowL w.heap.size v = true) : VR (φ0 w) v v := by
  have hφ : ∀ B, B < w.heap.size → ∃ e, φ0 w B = some ⟨B, 0, e, 0⟩ := fun B hB => ⟨_, by unfold φ0; rw [if_pos (by omega)]⟩
  unfold Abs.lowL at h
  split at h
  · rename_i a
    obtain ⟨B, off, sp⟩ := a
    simp only [Bool.and_eq_true, decide_eq_true_eq] at h
    obtain ⟨h1, h2⟩ := h
    have : sp = none := by cases sp <;> simp_all
    subst this
    obtain ⟨e, he⟩ := hφ B h1
    have := VR.ptr (off := off) he
    simpa using this
  · rename_i a len cap
    obtain ⟨B, off, sp⟩ := a
    simp only [Bool.and_eq_true, decide_eq_true_eq] at h
    obtain ⟨⟨h1, h2⟩, h3⟩ := h
    have : sp = none := by cases sp <;> simp_all
    subst this
    obtain ⟨e, he⟩ := hφ B h1
    exact .slcX he h3 (.inl (by simp))
  · exact VR.nC h
theorem VR.low {w : World} (v : Value) : VR (φ0 w) (low w.heap.size v) v := by
  unfold Abs.low
  split
  · rename_i a
    obtain ⟨e, he⟩ : ∃ e, φ0 w w.heap.size = some ⟨w.heap.size, 0, e, 0⟩ := ⟨_, by unfold φ0; rw [if_pos (by omega)]⟩
    exact .slcX he (Nat.le_refl _) (.inr rfl)
  · cases hc : Abs.lowL w.heap.size v with
    | true => exact VR.lowL hc
    | false => exact .junk _
theorem VR.lowA {w : World} (v : Value) : VR (φ0 w) (lowA w.heap.size v) v := by
  unfold Abs.lowA
  split
  · rename_i cs
    refine .agg (by simp) fun i h1 h2 => ?_
    simp only [Array.getElem_map]
    exact VR.low _
  · exact VR.low _
theorem HR0 {P : Program} {G : Nat} {ex : TypeId → Bool} (w : World) (hG : G ≤ w.heap.size) : HR ⟨P, w.heap.size, w, G, ex, fun _ => false⟩ (φ0 w) (st0 w) w where
  below := Below.refl _ _
  size := Nat.le_refl _
  glob := hG
  ident := fun g hg => ⟨_, by unfold φ0; rw [if_pos (Nat.lt_succ_of_lt (Nat.lt_of_lt_of_le hg hG))], rfl, rfl, rfl⟩
  dom := fun B p hp => by
    unfold φ0 at hp
    split at hp
    · assumption
    · cases hp
  live := fun B o hB => by
    simp only [st0] at hB
    split at hB
    · rename_i ccs ty fz hb
      injection hB with hB
      subst hB
      have hlt : B < w.heap.size := (Array.getElem?_eq_some_iff.1 hb).1
      refine ⟨⟨B, 0, ccs.size, 0⟩, by unfold φ0; rw [if_pos (Nat.lt_succ_of_lt hlt), hb], ccs, fz, hb, by simp, by simp, fun i V hi => ?_, (fun _ => ⟨hlt, rfl⟩), (fun e => by cases e)⟩
      rw [List.getElem?_map] at hi
      cases hc : ccs.toList[i]? with
      | none => rw [hc] at hi; cases hi
      | some v =>
        rw [hc] at hi
        injection hi with hi
        subst hi
        exact ⟨v, by simpa using hc, VR.low _⟩
    · cases hB
  dis := fun B B' o o' p p' hne h1 h2 k1 k2 => by
    simp only [st0] at h1
    split at h1
    · injection h1 with h1; subst h1; cases k1
    · cases h1
  kept := fun d hd => by cases hd
theorem E8 {P : Program} {G : Nat} {ex : TypeId → Bool} {f : Nat} {args : Array Value} {w : World} (hG : G ≤ w.heap.size)
    (h : ay ⟨P, w.heap.size, w, G, ex, fun _ => false⟩ f (args.toList.map (lowA w.heap.size)) (st0 w) (fun V _ => V = .bool true) (fun _ _ => False)) :
    Calls P f args w fun e w' => e = .returned (.bool true) ∧ Below w.heap.size w w' := by
  refine (h (fun _ => false) (φ0 w) w args (HR0 w hG) ⟨by simp, fun i V hi => ?_⟩).mono fun e w' he => ?_
  · rw [List.getElem?_map] at hi
    cases hc : args.toList[i]? with
    | none => rw [hc] at hi; cases hi
    | some v => rw [hc] at hi; injection hi with hi; subst hi; exact ⟨v, rfl, VR.lowA v⟩
  cases e with
  | returned v =>
    obtain ⟨φ', V, st', _, hv, hr, rfl⟩ := he
    exact ⟨by rw [hv.gM], hr.below⟩
  | panicked ch => obtain ⟨φ', V, v, st', _, _, _, _, hf⟩ := he; exact hf.elim
  | outgrown => exact he.elim
theorem Ka {w : World} {B : Nat} {c : Array Value} {e : TypeId} {f : Nat × Nat} (h : w.heap[B]? = some (.cells c e f)) : (st0 w).H B = some (.cells (c.toList.map (low w.heap.size)) e false) := by
  simp only [st0, h]
end Go.Abs
