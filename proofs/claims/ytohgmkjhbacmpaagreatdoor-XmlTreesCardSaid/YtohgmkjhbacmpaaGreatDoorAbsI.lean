/- Maps whose keys are texts. -/
import Derived.Test.YtohgmkjhbacmpaaGreatDoorAbsS
set_option linter.unusedVariables false
set_option linter.unusedSimpArgs false
namespace Go.Abs
open Go.RowKit
section
variable {α : Type}
def mget (k : List Nat) : List (List Nat × α) → Option α
  | [] => none
  | (a, v) :: r => if a = k then some v else mget k r
def mput (k : List Nat) (v : α) : List (List Nat × α) → List (List Nat × α)
  | [] => [(k, v)]
  | (a, u) :: r => if a = k then (k, v) :: r else (a, u) :: mput k v r
def mdel (k : List Nat) : List (List Nat × α) → List (List Nat × α)
  | [] => []
  | (a, u) :: r => if a = k then r else (a, u) :: mdel k r
def midx (k : List Nat) : List (List Nat × α) → Option Nat
  | [] => none
  | (a, v) :: r => if a = k then some 0 else (midx k r).map (· + 1)
/-- These entries are that. -/
def MRel (f : α → Value) : List MapEntry → List (List Nat × α) → Prop
  | [], [] => True
  | e :: es, (a, v) :: r => e.key = .string (str a) ∧ e.val = f v ∧ Bt a ∧ MRel f es r
  | _, _ => False
theorem str_beqB {a b : List Nat} (ha : Bt a) (hb : Bt b) : (str a == str b) = decide (a = b) := by
  have e0 : (str a == str b) = ((str a).data == (str b).data) := rfl
  rw [e0]
  by_cases h : a = b
  · subst h; simp
  · rw [decide_eq_false h, beq_eq_false_iff_ne]
    exact fun e => h (str_inj ha hb (ByteArray.ext e))
theorem findNow_str {f : α → Value} {k : List Nat} (hk : Bt k) : ∀ (es : List MapEntry) (F : List (List Nat × α)) (i : Nat), MRel f es F →
    Instr.findNow .string (.string (str k)) es i = some (match midx k F, mget k F with | some j, some v => some (i + j, f v) | _, _ => none)
  | [], [], i, h => rfl
  | [], _ :: _, i, h => h.elim
  | _ :: _, [], i, h => h.elim
  | e :: es, (a, v) :: r, i, ⟨h1, h2, h3, h4⟩ => by
    have ih := findNow_str hk es r (i + 1) h4
    simp only [Instr.findNow, h1, Instr.sameNow, str_beqB hk h3, mget, midx]
    by_cases e1 : a = k
    · subst e1; simp [h2]
    · rw [decide_eq_false (fun e => e1 e.symm), if_neg e1, if_neg e1]
      simp only [ih]
      cases midx k r with
      | none => rfl
      | some j => cases mget k r with
        | none => rfl
        | some v => simp; omega
theorem midx_get {k : List Nat} : ∀ F : List (List Nat × α), (midx k F).isSome = (mget k F).isSome
  | [] => rfl
  | (a, v) :: r => by
    unfold midx mget
    split
    · rfl
    · rw [← midx_get r]; cases midx k r <;> rfl
theorem MRel.modify {f : α → Value} {k : List Nat} (hk : Bt k) (v : α) : ∀ (es : List MapEntry) (F : List (List Nat × α)) (j : Nat), MRel f es F → midx k F = some j →
    MRel f (es.modify j fun e => { e with key := .string (str k), val := f v }) (mput k v F)
  | [], [], j, h, hj => by simp [midx] at hj
  | [], _ :: _, j, h, hj => h.elim
  | _ :: _, [], j, h, hj => h.elim
  | e :: es, (a, u) :: r, j, ⟨h1, h2, h3, h4⟩, hj => by
    unfold midx at hj
    unfold mput
    by_cases e1 : a = k
    · rw [if_pos e1] at hj ⊢
      injection hj with hj
      subst hj
      exact ⟨rfl, rfl, hk, h4⟩
    · rw [if_neg e1] at hj ⊢
      cases hm : midx k r with
      | none => rw [hm] at hj; cases hj
      | some j' =>
        rw [hm] at hj
        injection hj with hj
        subst hj
        exact ⟨h1, h2, h3, MRel.modify hk v es r j' h4 hm⟩
theorem MRel.push {f : α → Value} {k : List Nat} (hk : Bt k) (v : α) (c : Nat) : ∀ (es : List MapEntry) (F : List (List Nat × α)), MRel f es F → midx k F = none →
    MRel f (es ++ [{ key := .string (str k), val := f v, born := c }]) (mput k v F)
  | [], [], h, hj => ⟨rfl, rfl, hk, trivial⟩
  | [], _ :: _, h, hj => h.elim
  | _ :: _, [], h, hj => h.elim
  | e :: es, (a, u) :: r, ⟨h1, h2, h3, h4⟩, hj => by
    unfold midx at hj
    unfold mput
    by_cases e1 : a = k
    · rw [if_pos e1] at hj; cases hj
    · rw [if_neg e1] at hj ⊢
      cases hm : midx k r with
      | none => exact ⟨h1, h2, h3, MRel.push hk v c es r h4 hm⟩
      | some j' => rw [hm] at hj; cases hj
theorem MRel.erase {f : α → Value} {k : List Nat} : ∀ (es : List MapEntry) (F : List (List Nat × α)) (j : Nat), MRel f es F → midx k F = some j → MRel f (es.eraseIdx j) (mdel k F)
  | [], [], j, h, hj => by simp [midx] at hj
  | [], _ :: _, j, h, hj => h.elim
  | _ :: _, [], j, h, hj => h.elim
  | e :: es, (a, u) :: r, j, ⟨h1, h2, h3, h4⟩, hj => by
    unfold midx at hj
    unfold mdel
    by_cases e1 : a = k
    · rw [if_pos e1] at hj ⊢
      injection hj with hj
      subst hj
      exact h4
    · rw [if_neg e1] at hj ⊢
      cases hm : midx k r with
      | none => rw [hm] at hj; cases hj
      | some j' =>
        rw [hm] at hj
        injection hj with hj
        subst hj
        exact ⟨h1, h2, h3, MRel.erase es r j' h4 hm⟩
theorem mdel_none {k : List Nat} : ∀ F : List (List Nat × α), midx k F = none → mdel k F = F
  | [], h => rfl
  | (a, u) :: r, h => by
    unfold midx at h
    unfold mdel
    by_cases e1 : a = k
    · rw [if_pos e1] at h; cases h
    · rw [if_neg e1] at h ⊢
      cases hm : midx k r with
      | none => rw [mdel_none r hm]
      | some j' => rw [hm] at h; cases h
/-- When the entries came. -/
def StL (es : List MapEntry) (clk : Nat) : Prop := (∀ x ∈ es, x.born < clk) ∧ (es.map (·.born)).Nodup
theorem StL.nil : StL [] 0 := ⟨fun x hx => (by cases hx), List.nodup_nil⟩
theorem map_modify_born (g : MapEntry → MapEntry) (hg : ∀ e, (g e).born = e.born) : ∀ (es : List MapEntry) (j : Nat), (es.modify j g).map (·.born) = es.map (·.born)
  | [], j => by simp
  | e :: es, 0 => by simp [hg]
  | e :: es, j + 1 => by simp [map_modify_born g hg es j]
theorem StL.modify {es : List MapEntry} {clk : Nat} (h : StL es clk) (g : MapEntry → MapEntry) (hg : ∀ e, (g e).born = e.born) (j : Nat) : StL (es.modify j g) clk := by
  have e := map_modify_born g hg es j
  refine ⟨fun x hx => ?_, by rw [e]; exact h.2⟩
  have h1 : x.born ∈ (es.modify j g).map (·.born) := List.mem_map_of_mem hx
  rw [e] at h1
  obtain ⟨y, hy, h2⟩ := List.mem_map.1 h1
  rw [← h2]
  exact h.1 y hy
theorem StL.push {es : List MapEntry} {clk : Nat} (h : StL es clk) (K V : Value) : StL (es ++ [{ key := K, val := V, born := clk }]) (clk + 1) := by
  refine ⟨fun x hx => ?_, ?_⟩
  · rcases List.mem_append.1 hx with hx | hx
    · exact Nat.lt_succ_of_lt (h.1 x hx)
    · rw [List.mem_singleton.1 hx]; exact Nat.lt_succ_self _
  · rw [List.map_append, List.nodup_append]
    refine ⟨h.2, by simp, fun a ha b hb => ?_⟩
    obtain ⟨x, hx, rfl⟩ := List.mem_map.1 ha
    simp at hb
    subst hb
    have := h.1 x hx
    omega
theorem StL.erase {es : List MapEntry} {clk : Nat} (h : StL es clk) (j : Nat) : StL (es.eraseIdx j) clk :=
  ⟨fun x hx => h.1 x ((List.eraseIdx_sublist es j).mem hx), h.2.sublist ((List.eraseIdx_sublist es j).map _)⟩
theorem mput_keys {k : List Nat} {v : α} : ∀ F : List (List Nat × α), (mput k v F).map (·.1) = if k ∈ F.map (·.1) then F.map (·.1) else F.map (·.1) ++ [k]
  | [] => rfl
  | (a, u) :: r => by
    unfold mput
    by_cases e : a = k
    · subst e; simp
    · have ih := mput_keys (k := k) (v := v) r
      have e' : ¬ k = a := fun h => e h.symm
      rw [if_neg e, List.map_cons, ih]
      simp only [List.map_cons, List.mem_cons, e', false_or]
      split <;> simp
theorem mput_nodup {k : List Nat} {v : α} {F : List (List Nat × α)} (h : (F.map (·.1)).Nodup) : ((mput k v F).map (·.1)).Nodup := by
  rw [mput_keys]
  split
  · exact h
  · rename_i hk
    rw [List.nodup_append]
    exact ⟨h, by simp, fun a ha b hb e => by simp at hb; subst hb; subst e; exact hk ha⟩
theorem mdel_sub {k : List Nat} : ∀ F : List (List Nat × α), (mdel k F).Sublist F
  | [] => List.Sublist.slnil
  | (a, u) :: r => by
    unfold mdel
    split
    · exact List.sublist_cons_self _ _
    · exact (mdel_sub r).cons_cons _
theorem mdel_nodup {k : List Nat} {F : List (List Nat × α)} (h : (F.map (·.1)).Nodup) : ((mdel k F).map (·.1)).Nodup := h.sublist ((mdel_sub F).map _)
/-- These entries are that map, each key once. -/
def MRelS (f : α → Value) (es : List MapEntry) (clk : Nat) (F : List (List Nat × α)) : Prop := MRel f es F ∧ StL es clk ∧ (F.map (·.1)).Nodup
theorem MRelS.nil {f : α → Value} : MRelS f [] 0 [] := ⟨trivial, StL.nil, List.nodup_nil⟩
theorem alookup_str {P : Program} {st : St} {t et : TypeId} {B clk : Nat} {es : List MapEntry} {F : List (List Nat × α)} {f : α → Value} {k : List Nat} {z : Value} {ok : Bool} (hm : amkey P t = some (.string, et)) (hz : azv P et = some z) (hB : st.H B = some (.map es clk)) (hF : MRelS f es clk F) (hk : Bt k) :
    alookup P st t (.map (some B)) (.string (str k)) ok = some (match mget k F with | some v => awithOk ok (f v) true | none => awithOk ok z false) := by
  have h1 := findNow_str hk es F 0 hF.1
  have h2 := midx_get (k := k) F
  simp only [alookup, hm, hz, hB, h1]
  cases hi : midx k F <;> cases hg : mget k F <;> rw [hi, hg] at h2 <;> first | rfl | cases h2
theorem amapUpdate_str {P : Program} {st : St} {t et : TypeId} {B clk : Nat} {es : List MapEntry} {F : List (List Nat × α)} {f : α → Value} {k : List Nat} (v : α) (hm : amkey P t = some (.string, et)) (hB : st.H B = some (.map es clk)) (hF : MRelS f es clk F) (hk : Bt k) :
    ∃ es' clk', amapUpdate P st t (.map (some B)) (.string (str k)) (f v) = some (st.set B (some (.map es' clk'))) ∧ MRelS f es' clk' (mput k v F) := by
  have h1 := findNow_str hk es F 0 hF.1
  have h2 := midx_get (k := k) F
  simp only [amapUpdate, hm, hB, h1]
  cases hi : midx k F with
  | none => exact ⟨_, _, rfl, hF.1.push hk v clk es F hi, hF.2.1.push _ _, mput_nodup hF.2.2⟩
  | some j =>
    cases hg : mget k F with
    | none => rw [hi, hg] at h2; cases h2
    | some u =>
      simp only [Nat.zero_add]
      exact ⟨_, _, rfl, hF.1.modify hk v es F j hi, hF.2.1.modify (fun e => { e with key := .string (str k), val := f v }) (fun _ => rfl) _, mput_nodup hF.2.2⟩
theorem adelete_str {P : Program} {st : St} {t et : TypeId} {B clk : Nat} {es : List MapEntry} {F : List (List Nat × α)} {f : α → Value} {k : List Nat} (hm : amkey P t = some (.string, et)) (hB : st.H B = some (.map es clk)) (hF : MRelS f es clk F) (hk : Bt k) :
    ∃ es' clk', adelete P st t (.map (some B)) (.string (str k)) = some (st.set B (some (.map es' clk'))) ∧ MRelS f es' clk' (mdel k F) := by
  have h1 := findNow_str hk es F 0 hF.1
  have h2 := midx_get (k := k) F
  simp only [adelete, hm, hB, h1]
  cases hi : midx k F with
  | none => exact ⟨_, _, rfl, by rw [mdel_none F hi]; exact hF⟩
  | some j =>
    cases hg : mget k F with
    | none => rw [hi, hg] at h2; cases h2
    | some u =>
      simp only [Nat.zero_add]
      exact ⟨_, _, rfl, MRel.erase es F j hF.1 hi, hF.2.1.erase _, mdel_nodup hF.2.2⟩
end
end Go.Abs
