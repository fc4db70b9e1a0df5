/- Maps whose keys are texts. -/
import Derived.Test.YtigjbehgfjjlkaaGreatDoorAbsS
set_option linter.unusedVariables false
set_option linter.unusedSimpArgs false
namespace Go.Abs
open Go.RowKit
section
variable {α : Type}
def mput (k : List Nat) (v : α) : List (List Nat × α) → List (List Nat × α)
  | [] => [(k, v)]
  | (a, u) :: r => if a = k then (k, v) :: r else (a, u) :: mput k v r
def mdel (k : List Nat) : List (List Nat × α) → List (List Nat × α)
  | [] => []
  | (a, u) :: r => if a = k then r else (a, u) :: mdel k r
def midx (k : List Nat) : List (List Nat × α) → Option Nat
  | [] => none
  | (a, v) :: r => if a = k then some 0 else (midx k r).map (· + 1)
def MRel (f : α → Value) : List MapEntry → List (List Nat × α) → Prop
  | [], [] => True
  | e :: es, (a, v) :: r => e.key = .string (str a) ∧ e.val = f v ∧ Bt a ∧ MRel f es r
  | _, _ => False
theorem MRel.modify {f : α → Value} {k : List Nat} (hk : Bt k) (v : α) : ∀ (es : List MapEntry) (F : List (List Nat × α)) (j : Nat), MRel f es F → midx k F = some j →
    MRel f (es.modify j fun e => { e with key := .string (str k), val := f v }) (mput k v F)
  | [], [], j, h, hj => by simp [midx] at hj
  | [], _ :: _, j, h, hj => h.elim
  | _ :: _, [], j, h, hj => h.elim
  | e :: es, (a, u) :: r, j, ⟨h1, h2, h3, h4⟩, hj => by
    unfold midx at hj
    unfold mput
    by_cases e1 : a = k
    · rw [if_pos e1] at hj ⊢
      injection hj with hj
      subst hj
      exact ⟨rfl, rfl, hk, h4⟩
    · rw [if_neg e1] at hj ⊢
      cases hm : midx k r with
      | none => rw [hm] at hj; cases hj
      | some j' =>
        rw [hm] at hj
        injection hj with hj
        subst hj
        exact ⟨h1, h2, h3, MRel.modify hk v es r j' h4 hm⟩
theorem MRel.push {f : α → Value} {k : List Nat} (hk : Bt k) (v : α) (c : Nat) : ∀ (es : List MapEntry) (F : List (List Nat × α)), MRel f es F → midx k F = none →
    MRel f (es ++ [{ key := .string (str k), val := f v, born := c }]) (mput k v F)
  | [], [], h, hj => ⟨rfl, rfl, hk, trivial⟩
  | [], _ :: _, h, hj => h.elim
  | _ :: _, [], h, hj => h.elim
  | e :: es, (a, u) :: r, ⟨h1, h2, h3, h4⟩, hj => by
    unfold midx at hj
    unfold mput
    by_cases e1 : a = k
    · rw [if_pos e1] at hj; cases hj
    · rw [if_neg e1] at hj ⊢
      cases hm : midx k r with
      | none => exact ⟨h1, h2, h3, MRel.push hk v c es r h4 hm⟩
      | some j' => rw [hm] at hj; cases hj
theorem MRel.erase {f : α → Value} {k : List Nat} : ∀ (es : List MapEntry) (F : List (List Nat × α)) (j : Nat), MRel f es F → midx k F = some j → MRel f (es.eraseIdx j) (mdel k F)
  | [], [], j, h, hj => by simp [midx] at hj
  | [], _ :: _, j, h, hj => h.elim
  | _ :: _, [], j, h, hj => h.elim
  | e :: es, (a, u) :: r, j, ⟨h1, h2, h3, h4⟩, hj => by
    unfold midx at hj
    unfold mdel
    by_cases e1 : a = k
    · rw [if_pos e1] at hj ⊢
      injection hj with hj
      subst hj
      exact h4
    · rw [if_neg e1] at hj ⊢
      cases hm : midx k r with
      | none => rw [hm] at hj; cases hj
      | some j' =>
        rw [hm] at hj
        injection hj with hj
        subst hj
        exact ⟨h1, h2, h3, MRel.erase es r j' h4 hm⟩
def StL (es : List MapEntry) (clk : Nat) : Prop := (∀ x ∈ es, x.born < clk) ∧ (es.map (·.born)).Nodup
theorem StL.nil : StL [] 0 := ⟨fun x hx => (by cases hx), List.nodup_nil⟩
theorem lW (g : MapEntry → MapEntry) (hg : ∀ e, (g e).born = e.born) : ∀ (es : List MapEntry) (j : Nat), (es.modify j g).map (·.born) = es.map (·.born)
  | [], j => by simp
  | e :: es, 0 => by simp [hg]
  | e :: es, j + 1 => by simp [lW g hg es j]
theorem StL.modify {es : List MapEntry} {clk : Nat} (h : StL es clk) (g : MapEntry → MapEntry) (hg : ∀ e, (g e).born = e.born) (j : Nat) : StL (es.modify j g) clk := by
  have e := lW g hg es j
  refine ⟨fun x hx => ?_, by rw [e]; exact h.2⟩
  have h1 : x.born ∈ (es.modify j g).map (·.born) := List.mem_map_of_mem hx
  rw [e] at h1
  obtain ⟨y, hy, h2⟩ := List.mem_map.1 h1
  rw [← h2]
  exact h.1 y hy
theorem StL.push {es : List MapEntry} {clk : Nat} (h : StL es clk) (K V : Value) : StL (es ++ [{ key := K, val := V, born := clk }]) (clk + 1) := by
  refine ⟨fun x hx => ?_, ?_⟩
  · rcases List.mem_append.1 hx with hx | hx
    · exact Nat.lt_succ_of_lt (h.1 x hx)
    · rw [List.mem_singleton.1 hx]; exact Nat.lt_succ_self _
  · rw [List.map_append, List.nodup_append]
    refine ⟨h.2, by simp, fun a ha b hb => ?_⟩
    obtain ⟨x, hx, rfl⟩ := List.mem_map.1 ha
    simp at hb
    subst hb
    have := h.1 x hx
    omega
theorem StL.erase {es : List MapEntry} {clk : Nat} (h : StL es clk) (j : Nat) : StL (es.eraseIdx j) clk :=
  ⟨fun x hx => h.1 x ((List.eraseIdx_sublist es j).mem hx), h.2.sublist ((List.eraseIdx_sublist es j).map _)⟩
def Kl (f : α → Value) (es : List MapEntry) (clk : Nat) (F : List (List Nat × α)) : Prop := MRel f es F ∧ StL es clk ∧ (F.map (·.1)).Nodup
theorem Kl.nil {f : α → Value} : Kl f [] 0 [] := ⟨trivial, StL.nil, List.nodup_nil⟩
end
end Go.Abs
