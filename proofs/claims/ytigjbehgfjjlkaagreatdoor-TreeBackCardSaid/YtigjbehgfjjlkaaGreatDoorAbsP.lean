/- Bytes as numbers: slices of bytes, slices of such slices; the bits of words. -/
import Derived.Test.YtigjbehgfjjlkaaGreatDoorAbsN
import Derived.Test.YtigjbehgfjjlkaaGreatDoorAbsM
set_option linter.unusedVariables false
set_option linter.unusedSimpArgs false
namespace Go.Abs
open Go.RowKit
def nl (l : List Nat) : List Value := bl (l.map fun n : Nat => (n : Int))
theorem wK (l : List Nat) : (nl l).length = l.length := by simp [nl, mU]
theorem K4 {l : List Nat} {i : Nat} (h : i < l.length) : (nl l)[i]? = some (.int .u8 (l.getD i 0 : Nat)) := by
  simp [nl, bl, List.getD_eq_getElem?_getD, h]
theorem wL (a b : List Nat) : nl (a ++ b) = nl a ++ nl b := by simp [nl, bl]
def Nb (h : Hp) (v : Value) (l : List Nat) : Prop := Bs h v (l.map fun n : Nat => (n : Int)) ∧ ∀ d ∈ l, d < 256
def Ps (h : Hp) (v : Value) (ps : List (Value × List Nat)) : Prop := Rws h v 1 (ps.map fun p => [p.1]) ∧ ∀ p ∈ ps, Nb h p.1 p.2
def flat (ps : List (Value × List Nat)) : List Nat := (ps.map (·.2)).flatten
theorem Nb.src {st : St} {h : Hp} (hO : Own st h) {v : Value} {l : List Nat} (hb : Nb h v l) : asrc st 1 v = some (l.length, nl l) := by
  have := hb.1.src hO
  rw [List.length_map] at this
  exact this
theorem Nb.sub {h h' : Hp} {v : Value} {l : List Nat} (hb : Nb h v l) (hs : ∀ e ∈ h, e ∈ h') : Nb h' v l := ⟨hb.1.sub hs, hb.2⟩
theorem Ps.sub {h h' : Hp} {v : Value} {ps : List (Value × List Nat)} (hb : Ps h v ps) (hs : ∀ e ∈ h, e ∈ h') : Ps h' v ps := ⟨hb.1.sub hs, fun p hp => (hb.2 p hp).sub hs⟩
theorem Nb.isSlice {h : Hp} {v : Value} {l : List Nat} (hb : Nb h v l) : ∃ a c, v = .slice a l.length c := by
  obtain ⟨a, c, h1, _⟩ := hb.1.isSlice
  rw [List.length_map] at h1
  exact ⟨a, c, h1⟩
theorem K5 (l : List Nat) : (nl l).all one = true := K3 _
theorem Ps.at {st : St} {h : Hp} (hO : Own st h) {v : Value} {ps : List (Value × List Nat)} (hb : Ps h v ps) (hne : ps ≠ []) :
    ∃ x o sp c cs ty own, v = .slice (some ⟨x, o, sp⟩) ps.length c ∧ (x, Ob.cells cs ty own) ∈ h ∧ ∀ (i : Nat) p, ps[i]? = some p → cs[o + i]? = some p.1 := by
  rcases hb.1 with ⟨h1, _⟩ | ⟨x, o, sp, c, cs, ty, own, h1, hm, hc⟩
  · exact absurd (List.map_eq_nil_iff.1 h1) hne
  · refine ⟨x, o, sp, c, cs, ty, own, by rw [List.length_map] at h1; exact h1, hm, fun i p hp => ?_⟩
    have := hc i [p.1] (by rw [List.getElem?_map, hp]; rfl)
    have := eF this (j := 0) (by decide)
    simpa using this
theorem CP : ∀ l : List Int, u8s (bl l) = some l
  | [] => rfl
  | a :: l => by
    show u8s (.int .u8 a :: bl l) = _
    simp [u8s, CP l]
theorem Hr {P : Program} {st : St} {v : Value} {l : List Nat} {t e s : TypeId} (ht : P.underlying t = some (.slice e)) (he : P.underlying e = some (.int .u8)) (hs' : P.underlying s = some .string) (hs : asrc st 1 v = some (l.length, nl l)) (hv : ∃ a n c, v = .slice a n c) : dL P st t s v = some (.string (strOf (l.map fun n : Nat => (n : Int))), st) := by
  obtain ⟨a, n, c, rfl⟩ := hv
  have h2 : u8s (nl l) = some (l.map fun n : Nat => (n : Int)) := CP _
  simp [dL, ht, he, hs', hs, h2]
theorem Nb.at {h : Hp} {v : Value} {l : List Nat} (hb : Nb h v l) (hne : l ≠ []) : ∃ x o sp c cs ty own, v = .slice (some ⟨x, o, sp⟩) l.length c ∧ (x, Ob.cells cs ty own) ∈ h ∧ ∀ i, i < l.length → cs[o + i]? = some (.int .u8 (l.getD i 0 : Nat)) := by
  rcases hb.1 with ⟨h1, _⟩ | ⟨x, o, sp, c, cs, ty, own, h1, hm, hc⟩
  · exact absurd (List.map_eq_nil_iff.1 h1) hne
  · rw [List.length_map] at h1 hc
    refine ⟨x, o, sp, c, cs, ty, own, h1, hm, fun i hi => ?_⟩
    have := eF hc (j := i) hi
    rw [this]
    exact K4 hi
theorem tY (st : St) (n x o c : Nat) (sp : Option Nat) : asrc st n (.slice (some ⟨x, o, sp⟩) 0 c) = some (0, []) := by
  unfold asrc
  simp only [Nat.zero_mul]
  cases hh : acut st x o 0 with
  | none => rfl
  | some l =>
    have : l = [] := by
      unfold acut at hh
      split at hh
      · have := (iK hh).2.2
        exact List.eq_nil_of_length_eq_zero this
      · cases hh
    rw [this]
theorem Ps.of {h : Hp} {b c : Nat} {sp : Option Nat} {D : List Value} {own : Bool} {ps : List (Value × List Nat)} {ty : TypeId} (hm : (b, Ob.cells D ty own) ∈ h) (hD : D.take ps.length = ps.map (·.1)) (hp : ∀ p ∈ ps, Nb h p.1 p.2) : Ps h (.slice (some ⟨b, 0, sp⟩) ps.length c) ps := by
  refine ⟨.inr ⟨b, 0, sp, c, D, ty, own, by rw [List.length_map], hm, fun i l hi => ?_⟩, hp⟩
  rw [List.getElem?_map] at hi
  cases hpi : ps[i]? with
  | none => rw [hpi] at hi; cases hi
  | some p =>
    rw [hpi] at hi
    injection hi with hi
    subst hi
    have hil : i < ps.length := (List.getElem?_eq_some_iff.1 hpi).1
    have h1 : (D.take ps.length)[i]? = some p.1 := by rw [hD, List.getElem?_map, hpi]; rfl
    rw [List.getElem?_take, if_pos hil] at h1
    have hDl := (List.getElem?_eq_some_iff.1 h1).1
    unfold cut
    rw [if_pos (by omega)]
    congr 1
    rw [Nat.zero_add, Nat.mul_one]
    apply List.ext_getElem?
    intro j
    cases j with
    | zero => simpa using h1
    | succ j => simp [List.getElem?_take]
theorem Ps.src {st : St} {h : Hp} (hO : Own st h) {v : Value} {ps : List (Value × List Nat)} (hb : Ps h v ps) : asrc st 1 v = some (ps.length, ps.map (·.1)) := by
  by_cases hne : ps = []
  · subst hne
    rcases hb.1 with ⟨_, rfl | ⟨x, o, sp, c, rfl⟩⟩ | ⟨x, o, sp, c, cs, ty, own, rfl, hm, hc⟩
    · rfl
    · exact tY _ _ _ _ _ _
    · exact tY _ _ _ _ _ _
  · obtain ⟨x, o, sp, c, cs, ty, own, rfl, hm, hget⟩ := hb.at hO hne
    have hpos : 0 < ps.length := List.length_pos_iff.2 hne
    have hlen : o + ps.length ≤ cs.length := by
      have := hget (ps.length - 1) ps[ps.length - 1] (by simp [hpos])
      have := (List.getElem?_eq_some_iff.1 this).1
      omega
    have : cut cs o (ps.length * 1) = some (ps.map (·.1)) := by
      unfold cut
      rw [Nat.mul_one, if_pos hlen]
      congr 1
      apply List.ext_getElem?
      intro i
      by_cases hi : i < ps.length
      · rw [List.getElem?_take, if_pos hi, List.getElem?_drop, hget i ps[i] (by simp [hi]), List.getElem?_map, List.getElem?_eq_getElem hi]; rfl
      · rw [List.getElem?_eq_none (by simp; omega), List.getElem?_eq_none (by simp; omega)]
    rw [Nat.mul_one] at this
    simp [asrc, acut, hO.get hm, this]
theorem Ps.one {h : Hp} {v : Value} {ps : List (Value × List Nat)} (hb : Ps h v ps) : (ps.map (·.1)).all one = true := by
  rw [List.all_map, List.all_eq_true]
  intro p hp
  obtain ⟨a, c, e⟩ := (hb.2 p hp).isSlice
  simp [e, Go.Abs.one]
end Go.Abs
namespace Go.Abs
open Go.RowKit
def GVy (v : Value) (cs : List Value) (n sz : Nat) (e : TypeId) (hg : Hp) : Prop := GVx v cs n sz e hg ∨ ∃ b, v = .slice (some ⟨b, 0, none⟩) n n ∧ hg = [(b, .cells cs e true)] ∧ cs.length = n * sz
theorem GVy.isSlice {v : Value} {cs : List Value} {n sz : Nat} {e : TypeId} {hg : Hp} (h : GVy v cs n sz e hg) : ∃ a c, v = .slice a n c := by
  rcases h with h | ⟨b, rfl, _⟩
  · exact h.isSlice
  · exact ⟨_, _, rfl⟩
theorem GVy.o8 {P : Program} {st : St} {t t' e : TypeId} {n sz b m : Nat} {z cs Cs : List Value} {x v : Value} {hg r : Hp} {f : Value → St → Prop}
    (hu : P.underlying t = some (.slice e)) (hi : bK (P.underlying t') = some false) (hn : asz P e = some (sz + 1)) (hz : azc P e = some z) (hb : bq P e = some (b + 1))
    (hG : GVy v cs n (sz + 1) e hg) (hO : Own st (hg ++ r)) (hs : asrc st (sz + 1) x = some (m, Cs)) (hm : m ≠ 0) (hl : Cs.length = m * (sz + 1)) (ho : Cs.all one = true) (hlim : (n + m) * (b + 1) ≤ 140737488355328)
    (k : ∀ v' hg' st', GV v' (cs ++ Cs) (n + m) (sz + 1) e hg' → Own st' (hg' ++ r) → f v' st') : alet (bM P st #[t, t'] v x) (stop f .mk) := by
  rcases hG with hG | ⟨B, rfl, rfl, hc⟩
  · exact hG.o8 hu hi hn hz hb hO hs hm hl ho hlim k
  · have hcut : cut cs 0 (n * (sz + 1)) = some cs := by rw [← hc]; exact iI cs
    rw [o7 (cs := cs) (old := cs) hu hi hn hz hb hs ho hO.head (by omega) hcut hlim]
    refine k _ [(st.n, .cells (cs ++ Cs) e true)] _ (.inr ⟨st.n, rfl, rfl, by rw [List.length_append, hc, hl, Nat.add_mul]⟩) ?_
    exact hO.tail.new (.cells (cs ++ Cs) e true)
theorem LU {l : List Nat} (h : ∀ d ∈ l, d < 256) (j : Nat) : l.getD j 0 < 256 := by
  by_cases hj : j < l.length
  · rw [List.getD_eq_getElem?_getD, List.getElem?_eq_getElem hj]; exact h _ (List.getElem_mem hj)
  · rw [List.getD_eq_getElem?_getD, List.getElem?_eq_none (by omega)]; decide
end Go.Abs
namespace Go.Abs
open Go.RowKit
def GVc (v : Value) (cs : List Value) (n sz : Nat) (e : TypeId) (hg : Hp) : Prop := (v = .slice none 0 0 ∧ n = 0 ∧ cs = [] ∧ hg = []) ∨
  (∃ b, v = .slice (some ⟨b, 0, none⟩) 0 0 ∧ n = 0 ∧ cs = [] ∧ hg = [(b, .cells [] e true)]) ∨
  ∃ b c D, v = .slice (some ⟨b, 0, some 0⟩) n c ∧ hg = [(b, .cells D e true)] ∧ cut D 0 (n * sz) = some cs ∧ n ≤ c
theorem GVc.x {v : Value} {cs : List Value} {n sz : Nat} {e : TypeId} {hg : Hp} (h : GVc v cs n sz e hg) : GVx v cs n sz e hg := by
  rcases h with h | h | ⟨b, c, D, h1, h2, h3, _⟩
  · exact .inl h
  · exact .inr (.inl h)
  · exact .inr (.inr ⟨b, c, D, h1, h2, h3⟩)
theorem GV.c {v : Value} {cs : List Value} {n sz : Nat} {e : TypeId} {hg : Hp} (h : GV v cs n sz e hg) : GVc v cs n sz e hg := by
  rcases h with h | ⟨b, h1, h2, h3⟩
  · exact .inl h
  · exact .inr (.inr ⟨b, n, cs, h1, h2, by rw [← h3]; exact iI cs, Nat.le_refl _⟩)
theorem GVc.nil {sz : Nat} {e : TypeId} : GVc (.slice none 0 0) [] 0 sz e [] := .inl ⟨rfl, rfl, rfl, rfl⟩
theorem GVc.isSlice {v : Value} {cs : List Value} {n sz : Nat} {e : TypeId} {hg : Hp} (h : GVc v cs n sz e hg) : ∃ a c, v = .slice a n c := h.x.isSlice
theorem GVc.append {P : Program} {st : St} {t t' e : TypeId} {n sz b m : Nat} {z cs Cs : List Value} {x v : Value} {hg r : Hp} {f : Value → St → Prop}
    (hu : P.underlying t = some (.slice e)) (hi : bK (P.underlying t') = some false) (hn : asz P e = some (sz + 1)) (hz : azc P e = some z) (hb : bq P e = some (b + 1))
    (hG : GVc v cs n (sz + 1) e hg) (hO : Own st (hg ++ r)) (hs : asrc st (sz + 1) x = some (m, Cs)) (hl : Cs.length = m * (sz + 1)) (ho : Cs.all one = true) (hlim : (n + m) * (b + 1) ≤ 140737488355328)
    (k : ∀ v' hg' st', GVc v' (cs ++ Cs) (n + m) (sz + 1) e hg' → Own st' (hg' ++ r) → f v' st') : alet (bM P st #[t, t'] v x) (stop f .mk) := by
  by_cases hm : m = 0
  · subst hm
    have hC : Cs = [] := List.eq_nil_of_length_eq_zero (by simpa using hl)
    subst hC
    rcases hG with ⟨rfl, rfl, rfl, rfl⟩ | ⟨B, rfl, rfl, rfl, rfl⟩ | ⟨B, c, D, rfl, rfl, hcl, hnc⟩
    · rw [kY hu hi hn hz hb hs ho]
      exact k _ [] _ .nil hO
    · rw [rJ (cs := []) hu hi hn hz hb hs ho hO.head (by omega) (by simp), setL, set_self hO.head]
      exact k _ _ _ (.inr (.inl ⟨B, rfl, rfl, rfl, rfl⟩)) hO
    · rw [gQ hu hi hn hz hb hs ho hO.head hcl hlim]
      have hlen := (iK hcl).2.2
      refine k _ [(st.n, .cells (cs ++ []) e true)] _ (GV.c (.inr ⟨st.n, rfl, rfl, by simpa using hlen⟩)) ?_
      exact (hO.kill rfl).new (.cells (cs ++ []) e true)
  · exact GVx.o8 hu hi hn hz hb hG.x hO hs hm hl ho hlim fun v' hg' st' h1 h2 => k v' hg' st' h1.c h2
def Sl (P : Program) (h : Hp) (v : Value) (sz : Nat) : Prop := v = .slice none 0 0 ∨ ∃ B o sp n c, v = .slice (some ⟨B, o, sp⟩) n c ∧ n ≤ c ∧
  (sp = none ∨ (sp = some 0 ∧ ∃ cs ty own, (B, Ob.cells cs ty own) ∈ h ∧ (own = true → asz P ty = some sz)))
theorem Sl.sub {P : Program} {h h' : Hp} {v : Value} {sz : Nat} (hb : Sl P h v sz) (hs : ∀ e ∈ h, e ∈ h') : Sl P h' v sz := by
  rcases hb with h1 | ⟨B, o, sp, n, c, h1, h2, h3 | ⟨h3, cs, ty, own, h4, h5⟩⟩
  · exact .inl h1
  · exact .inr ⟨B, o, sp, n, c, h1, h2, .inl h3⟩
  · exact .inr ⟨B, o, sp, n, c, h1, h2, .inr ⟨h3, cs, ty, own, hs _ h4, h5⟩⟩
theorem Sl.cut {P : Program} {st : St} {h : Hp} {v : Value} {sz : Nat} {t e : TypeId} {lo hi : Option Value} {l r : Nat} (hb : Sl P h v sz) (hO : Own st h) (hu : P.underlying t = some (.slice e)) (hn : asz P e = some sz)
    (hbd : ∀ a n c, v = .slice a n c → n ≤ c → cB n c lo hi none = some (l, r, c)) :
    (v = .slice none 0 0 ∧ aslice P st t v lo hi none = some (.slice none 0 0)) ∨
    ∃ B o sp n c sp', v = .slice (some ⟨B, o, sp⟩) n c ∧ n ≤ c ∧ aslice P st t v lo hi none = some (.slice (some ⟨B, o + l * sz, sp'⟩) (r - l) (c - l)) ∧ (r ≤ c → l ≤ r → Sl P h (.slice (some ⟨B, o + l * sz, sp'⟩) (r - l) (c - l)) sz) := by
  rcases hb with h1 | ⟨B, o, sp, n, c, h1, h2, h3 | ⟨h3, cs, ty, own, h4, h5⟩⟩
  · have := hbd _ _ _ h1 (Nat.le_refl _)
    subst h1
    exact .inl ⟨rfl, by simp [aslice, hu, this, hn]⟩
  · have := hbd _ _ _ h1 h2
    subst h1 h3
    exact .inr ⟨B, o, none, n, c, none, rfl, h2, yM hu hn this, fun h6 h7 => .inr ⟨B, _, none, _, _, rfl, by omega, .inl rfl⟩⟩
  · have := hbd _ _ _ h1 h2
    subst h1 h3
    have hok : kS P st B o c sz (some 0) = true := by
      cases own with
      | true => exact mg (hO.get h4) (h5 rfl)
      | false => exact CO (hO.get h4)
    exact .inr ⟨B, o, some 0, n, c, some 0, rfl, h2, qL hu hn hok this, fun h6 h7 => .inr ⟨B, _, some 0, _, _, rfl, by omega, .inr ⟨rfl, cs, ty, own, h4, h5⟩⟩⟩
theorem Nb.part {P : Program} {st : St} {h : Hp} {v : Value} {m : List Nat} {t e : TypeId} {lo hi : Option Value} {l r : Nat} (hv : Nb h v m) (hb : Sl P h v 1) (hO : Own st h) (hu : P.underlying t = some (.slice e)) (hn : asz P e = some 1)
    (hbd : ∀ c, m.length ≤ c → cB m.length c lo hi none = some (l, r, c)) (h1 : l ≤ r) (h2 : r ≤ m.length) :
    ∃ v', aslice P st t v lo hi none = some v' ∧ Nb h v' ((m.drop l).take (r - l)) ∧ Sl P h v' 1 := by
  obtain ⟨a0, c0, hvs⟩ := hv.isSlice
  rcases hb.cut (l := l) (r := r) hO hu hn (fun a n c e1 e2 => by
      rw [hvs] at e1
      injection e1 with _ e3 _
      subst e3
      exact hbd c e2) with ⟨rfl, hc⟩ | ⟨B, o, sp, n, c, sp', rfl, hnc, hc, hs⟩
  · injection hvs with _ e _
    have hm : m = [] := List.eq_nil_of_length_eq_zero e.symm
    subst hm
    exact ⟨_, hc, ⟨.inl ⟨by simp, .inl rfl⟩, fun d hd => by simp at hd⟩, .inl rfl⟩
  · injection hvs with _ e _
    subst e
    refine ⟨_, hc, ⟨?_, fun d hd => hv.2 d (List.mem_of_mem_drop (List.mem_of_mem_take hd))⟩, hs (by omega) h1⟩
    have hlen : ((m.drop l).take (r - l)).length = r - l := by rw [List.length_take, List.length_drop]; omega
    rcases hv.1 with ⟨hm, _⟩ | ⟨x, o', sp2, c', cs, ty, own, e1, hm, hcut⟩
    · have hm : m = [] := by simpa using hm
      subst hm
      have h0 : r - l = 0 := by simp at h2; omega
      rw [h0]
      exact .inl ⟨by simp, .inr ⟨B, _, sp', _, rfl⟩⟩
    · injection e1 with e2 e3 e4
      injection e2 with e2
      injection e2 with e5 e6 e7
      subst e5 e6
      rw [List.length_map] at hcut
      have hs2 := iK hcut
      refine .inr ⟨B, _, sp', _, cs, ty, own, by rw [List.length_map, hlen], hm, ?_⟩
      rw [List.length_map, hlen, Nat.mul_one, Go.Abs.cut, if_pos (by omega), List.map_take, List.map_drop]
      have : bl (List.take (r - l) (List.drop l (m.map fun n : Nat => (n : Int)))) = ((bl (m.map fun n : Nat => (n : Int))).drop l).take (r - l) := by simp [bl, List.map_take, List.map_drop]
      rw [this, hs2.2.1, List.drop_take, List.take_take, List.drop_drop, Nat.min_eq_left (by omega)]
theorem Ps.part {P : Program} {st : St} {h : Hp} {v : Value} {ps : List (Value × List Nat)} {t e : TypeId} {lo hi : Option Value} {l r : Nat} (hv : Ps h v ps) (hb : Sl P h v 1) (hO : Own st h) (hu : P.underlying t = some (.slice e)) (hn : asz P e = some 1)
    (hbd : ∀ c, ps.length ≤ c → cB ps.length c lo hi none = some (l, r, c)) (h1 : l ≤ r) (h2 : r ≤ ps.length) :
    ∃ v', aslice P st t v lo hi none = some v' ∧ Ps h v' ((ps.drop l).take (r - l)) ∧ Sl P h v' 1 := by
  obtain ⟨a0, c0, hvs⟩ : ∃ a c, v = .slice a ps.length c := by
    obtain ⟨a, c, h, _⟩ := hv.1.isSlice
    rw [List.length_map] at h
    exact ⟨a, c, h⟩
  have hmem : ∀ p ∈ (ps.drop l).take (r - l), Nb h p.1 p.2 := fun p hp => hv.2 p (List.mem_of_mem_drop (List.mem_of_mem_take hp))
  rcases hb.cut (l := l) (r := r) hO hu hn (fun a n c e1 e2 => by
      rw [hvs] at e1
      injection e1 with _ e3 _
      subst e3
      exact hbd c e2) with ⟨rfl, hc⟩ | ⟨B, o, sp, n, c, sp', rfl, hnc, hc, hs⟩
  · injection hvs with _ e _
    have hm : ps = [] := List.eq_nil_of_length_eq_zero e.symm
    subst hm
    exact ⟨_, hc, ⟨.inl ⟨by simp, .inl rfl⟩, fun d hd => by simp at hd⟩, .inl rfl⟩
  · injection hvs with _ e _
    subst e
    refine ⟨_, hc, ⟨?_, hmem⟩, hs (by omega) h1⟩
    have hlen : ((ps.drop l).take (r - l)).length = r - l := by rw [List.length_take, List.length_drop]; omega
    rcases hv.1 with ⟨hm, _⟩ | ⟨x, o', sp2, c', cs, ty, own, e1, hm, hcut⟩
    · have hm : ps = [] := by simpa using hm
      subst hm
      have h0 : r - l = 0 := by simp at h2; omega
      rw [h0]
      exact .inl ⟨by simp, .inr ⟨B, _, sp', _, rfl⟩⟩
    · injection e1 with e2 e3 e4
      injection e2 with e2
      injection e2 with e5 e6 e7
      subst e5 e6
      refine .inr ⟨B, _, sp', _, cs, ty, own, by rw [List.length_map, hlen], hm, fun i x hi => ?_⟩
      rw [List.map_take, List.map_drop, List.getElem?_take] at hi
      split at hi
      · rw [List.getElem?_drop] at hi
        have := hcut _ _ hi
        rw [← this]
        congr 1
        omega
      · cases hi
end Go.Abs
namespace Go.Abs
open Go.RowKit
end Go.Abs
namespace Go.Abs
open Go.RowKit
theorem GVc.fC {P : Program} {st : St} {t t' e : TypeId} {n sz b : Nat} {z cs c : List Value} {v : Value} {hg r : Hp} {f : Value → St → Prop}
    (hu : P.underlying t = some (.slice e)) (hi : bK (P.underlying t') = some false) (hn : asz P e = some (sz + 1)) (hz : azc P e = some z) (hb : bq P e = some (b + 1))
    (hG : GVc v cs n (sz + 1) e hg) (hO : Own st (hg ++ r)) (hl : c.length = sz + 1) (ho : c.all one = true) (hlim : (n + 1) * (b + 1) ≤ 140737488355328)
    (k : ∀ v' hg' st', GVc v' (cs ++ c) (n + 1) (sz + 1) e hg' → Own st' (hg' ++ r) → f v' st') :
    alet (bM P (st.new (.cells c e true)) #[t, t'] v (.slice (some ⟨st.n, 0, none⟩) 1 1)) (stop f .mk) :=
  GVx.fC hu hi hn hz hb hG.x hO hl ho hlim fun v' hg' st' h1 h2 => k v' hg' st' h1.c h2
theorem GVc.ps {P : Program} {v : Value} {qs : List (Value × List Nat)} {n : Nat} {ty : TypeId} {hg h : Hp} (hG : GVc v (qs.map (·.1)) n 1 ty hg) (hn : n = qs.length) (hsz : asz P ty = some 1) (hq : ∀ q ∈ qs, Nb h q.1 q.2) : Ps (hg ++ h) v qs ∧ Sl P (hg ++ h) v 1 := by
  subst hn
  have hq' : ∀ q ∈ qs, Nb (hg ++ h) q.1 q.2 := fun q h => (hq q h).sub fun e he => List.mem_append_right _ he
  rcases hG with ⟨rfl, h2, h3, rfl⟩ | ⟨b, rfl, h2, h3, rfl⟩ | ⟨b, c, D, rfl, rfl, hc, hnc⟩
  · have : qs = [] := List.map_eq_nil_iff.1 h3
    subst this
    exact ⟨⟨.inl ⟨rfl, .inl rfl⟩, hq'⟩, .inl rfl⟩
  · have : qs = [] := List.map_eq_nil_iff.1 h3
    subst this
    exact ⟨⟨.inl ⟨rfl, .inr ⟨b, 0, none, 0, rfl⟩⟩, hq'⟩, .inr ⟨b, 0, none, 0, 0, rfl, Nat.le_refl _, .inl rfl⟩⟩
  · have hs := iK hc
    refine ⟨Ps.of (D := D) (own := true) (ty := ty) (by simp) ?_ hq', .inr ⟨b, 0, some 0, _, c, rfl, hnc, .inr ⟨rfl, D, ty, true, by simp, fun _ => hsz⟩⟩⟩
    rw [hs.2.1, List.drop_zero, Nat.mul_one]
end Go.Abs
namespace Go.Abs
open Go.RowKit
end Go.Abs
