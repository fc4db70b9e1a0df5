/- Blocks that are held, and the rest that stays: lists of blocks with what they are. -/
import Derived.Test.YtigjbehgfjjlkaaGreatDoorAbsU
set_option linter.unusedVariables false
set_option linter.unusedSimpArgs false
namespace Go.Abs
open Go.RowKit
abbrev Hp := List (Nat × Ob)
def clash (e f : Nat × Ob) : Prop := e.2.own = true → f.2.own = true → e.1 ≠ f.1
def Own (st : St) (h : Hp) : Prop := (∀ e ∈ h, st.H e.1 = some e.2 ∧ e.1 < st.n) ∧ h.Pairwise clash
def Apt (a b : Hp) : Prop := ∀ e ∈ a, ∀ f ∈ b, clash e f
theorem clash.symm {e f : Nat × Ob} (h : clash e f) : clash f e := fun a b c => h b a c.symm
theorem Apt.symm {a b : Hp} (h : Apt a b) : Apt b a := fun e he f hf => (h f hf e he).symm
theorem iD {st : St} {a b : Hp} : Own st (a ++ b) ↔ Own st a ∧ Own st b ∧ Apt a b := by
  unfold Own Apt
  rw [List.pairwise_append]
  constructor
  · rintro ⟨h1, h2, h3, h4⟩
    exact ⟨⟨fun e he => h1 e (List.mem_append_left _ he), h2⟩, ⟨fun e he => h1 e (List.mem_append_right _ he), h3⟩, h4⟩
  · rintro ⟨⟨h1, h2⟩, ⟨h3, h4⟩, h5⟩
    exact ⟨fun e he => (List.mem_append.1 he).elim (h1 e) (h3 e), h2, h4, h5⟩
theorem Hg {st : St} {e : Nat × Ob} {r : Hp} : Own st (e :: r) ↔ Own st [e] ∧ Own st r ∧ Apt [e] r := iD (a := [e])
theorem Own.perm {st : St} {a b : Hp} (h : Own st a) (p : a.Perm b) : Own st b :=
  ⟨fun e he => h.1 e (p.mem_iff.2 he), (p.pairwise_iff (fun h => clash.symm h)).1 h.2⟩
theorem Own.get {st : St} {a : Hp} (h : Own st a) {b : Nat} {o : Ob} (hm : (b, o) ∈ a) : st.H b = some o := (h.1 _ hm).1
theorem Own.lt {st : St} {a : Hp} (h : Own st a) {b : Nat} {o : Ob} (hm : (b, o) ∈ a) : b < st.n := (h.1 _ hm).2
theorem Own.head {st : St} {a : Hp} {b : Nat} {o : Ob} (h : Own st ((b, o) :: a)) : st.H b = some o := h.get (List.mem_cons_self ..)
theorem Own.tail {st : St} {a : Hp} {e : Nat × Ob} (h : Own st (e :: a)) : Own st a := (Hg.1 h).2.1
theorem Own.left {st : St} {a b : Hp} (h : Own st (a ++ b)) : Own st a := (iD.1 h).1
theorem Own.right {st : St} {a b : Hp} (h : Own st (a ++ b)) : Own st b := (iD.1 h).2.1
theorem Own.at {st : St} {a : Hp} (h : Own st a) {i b : Nat} {o : Ob} (hm : a[i]? = some (b, o)) : st.H b = some o := h.get (List.mem_of_getElem? hm)
theorem Own.ne {st : St} {a : Hp} {b : Nat} {o : Ob} (h : Own st ((b, o) :: a)) (ho : o.own = true) {b' : Nat} {o' : Ob} (hm : (b', o') ∈ a) : b' ≠ b := by
  intro e
  subst e
  have h1 := h.tail.get hm
  rw [h.head] at h1
  injection h1 with h1
  subst h1
  exact ((List.pairwise_cons.1 h.2).1 _ hm) ho ho rfl
theorem Own.set {st : St} {a : Hp} {b : Nat} {o : Ob} (h : Own st ((b, o) :: a)) (ho : o.own = true) (o' : Ob) (hw : o'.own = true) : Own (st.set b (some o')) ((b, o') :: a) := by
  refine ⟨fun e he => ?_, List.pairwise_cons.2 ⟨fun f hf => ?_, (List.pairwise_cons.1 h.2).2⟩⟩
  · rcases List.mem_cons.1 he with rfl | he
    · exact ⟨by simp [St.set], h.lt (List.mem_cons_self ..)⟩
    · have hne := h.ne ho (b' := e.1) (o' := e.2) he
      exact ⟨by rw [Hf, if_neg hne]; exact h.tail.get he, h.tail.lt he⟩
  · exact fun _ h2 e => (h.ne ho (b' := f.1) (o' := f.2) hf) e.symm
theorem Own.kill {st : St} {a : Hp} {b : Nat} {o : Ob} (h : Own st ((b, o) :: a)) (ho : o.own = true) : Own (st.set b none) a := by
  refine ⟨fun e he => ?_, (List.pairwise_cons.1 h.2).2⟩
  have hne := h.ne ho (b' := e.1) (o' := e.2) he
  exact ⟨by rw [Hf, if_neg hne]; exact h.tail.get he, h.tail.lt he⟩
theorem Own.new {st : St} {a : Hp} (h : Own st a) (o : Ob) : Own (st.new o) ((st.n, o) :: a) := by
  refine ⟨fun e he => ?_, List.pairwise_cons.2 ⟨fun f hf => ?_, h.2⟩⟩
  · rcases List.mem_cons.1 he with rfl | he
    · exact ⟨CK _, Nat.lt_succ_self _⟩
    · have := h.lt (b := e.1) (o := e.2) he
      exact ⟨by rw [JF _ this]; exact h.get he, Nat.lt_succ_of_lt this⟩
  · exact fun _ _ e => by
      have := h.lt (b := f.1) (o := f.2) hf
      exact absurd e (by show st.n ≠ f.1; omega)
theorem Own.fresh {st : St} {a : Hp} (h : Own st a) {b : Nat} {o : Ob} (hm : (b, o) ∈ a) : ¬ b = st.n := fun e => by have := h.lt hm; omega
theorem Own.iE {st : St} {a : Hp} {b : Nat} {o : Ob} (h : Own st ((b, o) :: a)) : ¬ b = st.n := h.fresh (List.mem_cons_self ..)
def bl (l : List Int) : List Value := l.map (.int .u8)
theorem mU (l : List Int) : (bl l).length = l.length := List.length_map ..
def Bs (h : Hp) (v : Value) (l : List Int) : Prop := (l = [] ∧ (v = .slice none 0 0 ∨ ∃ x o sp c, v = .slice (some ⟨x, o, sp⟩) 0 c)) ∨
  ∃ x o sp c cs ty own, v = .slice (some ⟨x, o, sp⟩) l.length c ∧ (x, Ob.cells cs ty own) ∈ h ∧ cut cs o l.length = some (bl l)
theorem Bs.src {st : St} {h : Hp} (hO : Own st h) {v : Value} {l : List Int} (hb : Bs h v l) : asrc st 1 v = some (l.length, bl l) := by
  rcases hb with ⟨rfl, rfl | ⟨x, o, sp, c, rfl⟩⟩ | ⟨x, o, sp, c, cs, ty, own, rfl, hm, hc⟩
  · rfl
  · simp only [asrc, acut, Nat.zero_mul]
    split
    · rename_i l hl
      split at hl
      · unfold cut at hl
        split at hl
        · injection hl with hl; subst hl; rfl
        · cases hl
      · cases hl
    · rfl
  · simp only [asrc, acut, hO.get hm, Nat.mul_one, hc]
theorem Bs.sub {h h' : Hp} {v : Value} {l : List Int} (hb : Bs h v l) (hs : ∀ e ∈ h, e ∈ h') : Bs h' v l := by
  rcases hb with h1 | ⟨x, o, sp, c, cs, ty, own, h1, hm, hc⟩
  · exact .inl h1
  · exact .inr ⟨x, o, sp, c, cs, ty, own, h1, hs _ hm, hc⟩
theorem Bs.isSlice {h : Hp} {v : Value} {l : List Int} (hb : Bs h v l) : ∃ a c, v = .slice a l.length c ∧ (l ≠ [] → a.isNone = false) := by
  rcases hb with ⟨rfl, rfl | ⟨x, o, sp, c, rfl⟩⟩ | ⟨x, o, sp, c, cs, ty, own, rfl, hm, hc⟩
  · exact ⟨none, 0, rfl, fun h => absurd rfl h⟩
  · exact ⟨_, c, rfl, fun _ => rfl⟩
  · exact ⟨_, c, rfl, fun _ => rfl⟩
def Rws (h : Hp) (v : Value) (sz : Nat) (xs : List (List Value)) : Prop := (xs = [] ∧ (v = .slice none 0 0 ∨ ∃ x o sp c, v = .slice (some ⟨x, o, sp⟩) 0 c)) ∨
  ∃ x o sp c cs ty own, v = .slice (some ⟨x, o, sp⟩) xs.length c ∧ (x, Ob.cells cs ty own) ∈ h ∧ ∀ i l, xs[i]? = some l → cut cs (o + i * sz) sz = some l
theorem Rws.sub {h h' : Hp} {v : Value} {sz : Nat} {l : List (List Value)} (hb : Rws h v sz l) (hs : ∀ e ∈ h, e ∈ h') : Rws h' v sz l := by
  rcases hb with h1 | ⟨x, o, sp, c, cs, ty, own, h1, hm, hc⟩
  · exact .inl h1
  · exact .inr ⟨x, o, sp, c, cs, ty, own, h1, hs _ hm, hc⟩
theorem Rws.isSlice {h : Hp} {v : Value} {sz : Nat} {l : List (List Value)} (hb : Rws h v sz l) : ∃ a c, v = .slice a l.length c ∧ (l ≠ [] → a.isNone = false) := by
  rcases hb with ⟨rfl, rfl | ⟨x, o, sp, c, rfl⟩⟩ | ⟨x, o, sp, c, cs, ty, own, rfl, hm, hc⟩
  · exact ⟨none, 0, rfl, fun h => absurd rfl h⟩
  · exact ⟨_, c, rfl, fun _ => rfl⟩
  · exact ⟨_, c, rfl, fun _ => rfl⟩
theorem Rws.at {st : St} {h : Hp} (hO : Own st h) {v : Value} {sz : Nat} {xs : List (List Value)} (hb : Rws h v sz xs) {i : Nat} {l : List Value} (hi : xs[i]? = some l) :
    ∃ x o sp c cs ty own, v = .slice (some ⟨x, o, sp⟩) xs.length c ∧ st.H x = some (Ob.cells cs ty own) ∧ x < st.n ∧ cut cs (o + i * sz) sz = some l := by
  rcases hb with ⟨rfl, _⟩ | ⟨x, o, sp, c, cs, ty, own, h1, hm, hc⟩
  · simp at hi
  · exact ⟨x, o, sp, c, cs, ty, own, h1, hO.get hm, hO.lt hm, hc i l hi⟩
theorem Rws.mem {h : Hp} {v : Value} {sz : Nat} {xs : List (List Value)} (hb : Rws h v sz xs) {i : Nat} {l : List Value} (hi : xs[i]? = some l) :
    ∃ x o sp c cs ty own, v = .slice (some ⟨x, o, sp⟩) xs.length c ∧ (x, Ob.cells cs ty own) ∈ h ∧ cut cs (o + i * sz) sz = some l := by
  rcases hb with ⟨rfl, _⟩ | ⟨x, o, sp, c, cs, ty, own, h1, hm, hc⟩
  · simp at hi
  · exact ⟨x, o, sp, c, cs, ty, own, h1, hm, hc i l hi⟩
theorem eF {cs l : List Value} {o n : Nat} (h : cut cs o n = some l) {j : Nat} (hj : j < n) : cs[o + j]? = l[j]? := by
  unfold cut at h
  split at h
  · injection h with h
    subst h
    rw [List.getElem?_take, if_pos hj, List.getElem?_drop]
  · cases h
theorem iI (l : List Value) : cut l 0 l.length = some l := by simp [cut]
theorem Bs.whole {h : Hp} {b c : Nat} {sp : Option Nat} {l : List Int} {ty : TypeId} {own : Bool} (hm : (b, Ob.cells (bl l) ty own) ∈ h) : Bs h (.slice (some ⟨b, 0, sp⟩) l.length c) l :=
  .inr ⟨b, 0, sp, c, bl l, ty, own, rfl, hm, by have := iI (bl l); rwa [mU] at this⟩
theorem K3 (l : List Int) : (bl l).all one = true := by simp [bl, one]
theorem Hl (cs vs : List Value) (h : cs.length = vs.length) : setL cs 0 vs = vs := by
  rw [gN vs cs 0 (by omega)]
  simp [h]
theorem aJ {α : Type} (a : List α) (e : α) (c : List α) : (a ++ e :: c).Perm (e :: (a ++ c)) := List.perm_middle
theorem Own.apart {st : St} {a b : Hp} (h : Own st (a ++ b)) {i j : Nat} {o o' : Ob} (hi : (i, o) ∈ a) (hj : (j, o') ∈ b) (ho : o.own = true) (ho' : o'.own = true) : ¬ i = j :=
  (iD.1 h).2.2 _ hi _ hj ho ho'
theorem Own.sub {st : St} {a b : Hp} (h : Own st b) (hs : a.Sublist b) : Own st a := ⟨fun e he => h.1 e (hs.subset he), h.2.sublist hs⟩
theorem bR (env : List Hp) (a b : List Nat) (h : a.isPerm b = true) : ((a.map (env.getD · [])).flatten).Perm ((b.map (env.getD · [])).flatten) :=
  ((List.isPerm_iff.1 h).map _).flatten
end Go.Abs
