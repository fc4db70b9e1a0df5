/- slices.Sort, slices.Clone, slices.Compact at texts: as calls over the abstract heap. No conditions but on their arguments. -/
import Derived.Test.YtigjbehgfjjlkaaGreatDoorXmGB
import Derived.Test.YtigjbehgfjjlkaaGreatDoorShelf
import Derived.Test.YtigjbehgfjjlkaaGreatDoorXmGC
import Derived.Test.YtigjbehgfjjlkaaGreatDoorAbs0
set_option linter.unusedVariables false
set_option linter.unusedSimpArgs false
namespace Go.Proofs.YtigjbehgfjjlkaaGreatDoor
open Go Go.Abs Go.RowKit
variable {base : Nat} {w0 : World} {G : Nat}
def txsC (l : List Tx) : List Value := l.map fun s => .string (tx s)
theorem Ii {l : List Tx} {j : Nat} (h : j < l.length) : (txsC l)[j]? = some (.string (tx l[j])) := by simp [txsC, h]
theorem HR.ahead {cx : Cx} {φ : Emb} {st : St} {w : World} (h : HR cx φ st w) (n : Nat) : HR cx φ st (Sort.ahead w n) := h.of_below ⟨rfl, rfl, rfl, Nat.le_refl _, fun _ _ => rfl⟩
theorem holds_of {cx : Cx} {φ : Emb} {st : St} {w : World} (h : HR cx φ st w) {B : Nat} {l : List Tx} {ty : TypeId} {p : Pl} (hB : st.H B = some (.cells (txsC l) ty true)) (hp : φ B = some p) : Sort.Holds Go.Proofs.encStr w p.blk p.off l.toArray := by
  intro j hj
  have hj' : j < l.length := by simpa using hj
  obtain ⟨v, hv, hr⟩ := h.load hB hp (Ii hj')
  obtain rfl := hr.bS
  refine ⟨?_, h.sP hB hp (by simpa [txsC] using hj')⟩
  rw [hv]
  simp [hj', tx, Go.Proofs.encStr]
theorem HR.putRow {cx : Cx} {φ : Emb} {st : St} {w : World} (h : HR cx φ st w) {B : Nat} {l l' : List Tx} {ty : TypeId} {p : Pl} (hB : st.H B = some (.cells (txsC l) ty true)) (hp : φ B = some p) (hl : l'.length = l.length) :
    HR cx φ (st.set B (some (.cells (txsC l') ty true))) (Sort.putRow Go.Proofs.encStr w p.blk p.off l'.toArray) := by
  have key : ∀ i, i ≤ l.length → HR cx φ (st.set B (some (.cells (txsC (l'.take i ++ l.drop i)) ty true))) (Sort.putRow Go.Proofs.encStr w p.blk p.off (l'.take i ++ l.drop i).toArray) := by
    intro i
    induction i with
    | zero =>
      intro _
      rw [List.take_zero, List.nil_append, List.drop_zero, Sort.putRow_self _ _ _ _ _ (holds_of h hB hp)]
      have : st.set B (some (.cells (txsC l) ty true)) = st := by
        unfold St.set
        have : (fun b => if b = B then some (Ob.cells (txsC l) ty true) else st.H b) = st.H := by
          funext b
          by_cases e : b = B
          · subst e; rw [if_pos rfl, hB]
          · rw [if_neg e]
        rw [this]
      rw [this]
      exact h
    | succ i ih =>
      intro hi
      have h1 := ih (by omega)
      have hlen : (l'.take i ++ l.drop i).length = l.length := by rw [List.length_append, List.length_take, List.length_drop]; omega
      have hset : (l'.take i ++ l.drop i).set i (l'[i]'(by omega)) = l'.take (i + 1) ++ l.drop (i + 1) := by
        rw [List.set_append_right _ _ (by rw [List.length_take]; omega), List.length_take, Nat.min_eq_left (by omega), Nat.sub_self, List.drop_eq_getElem_cons (show i < l.length by omega), List.set_cons_zero, List.take_add_one, List.getElem?_eq_getElem (show i < l'.length by omega), Option.toList_some, List.append_assoc, List.singleton_append]
      have h2 := h1.store (B := B) (cs := txsC (l'.take i ++ l.drop i)) (ty := ty) (p := p) (by simp [St.set]) hp (i := i) (by unfold txsC; rw [List.length_map, hlen]; omega) (V := .string (tx (l'[i]'(by omega)))) (v := Go.Proofs.encStr (l'[i]'(by omega))) (.string _)
      rw [Sort.putRow_set _ _ _ _ _ _ _ (by simp; omega)] at h2
      have e1 : (txsC (l'.take i ++ l.drop i)).set i (.string (tx (l'[i]'(by omega)))) = txsC (l'.take (i + 1) ++ l.drop (i + 1)) := by
        rw [← hset]
        unfold txsC
        rw [List.map_set]
      have e2 : (l'.take i ++ l.drop i).toArray.setIfInBounds i (l'[i]'(by omega)) = (l'.take (i + 1) ++ l.drop (i + 1)).toArray := by
        rw [← hset]
        simp
      rw [e1, e2] at h2
      have e3 : ∀ (o o' : Option Ob), (st.set B o).set B o' = st.set B o' := fun o o' => by
        unfold St.set
        congr 1
        funext b
        by_cases e : b = B <;> simp [e]
      rw [e3] at h2
      exact h2
  have := key l.length (Nat.le_refl _)
  rw [List.drop_length, List.append_nil, ← hl, List.take_length] at this
  exact this
def sorted (l : List Tx) : List Tx := l.mergeSort fun x y => decide (x ≤ y)
theorem jI (l : List Tx) : (sorted l).length = l.length := (List.mergeSort_perm ..).length_eq
theorem FY {st : St} {v : Value} {l : List Tx} {hg r : Hp} (hG : GV v (txsC l) l.length 1 9 hg) (hl : l.length ≤ 1000000) (hO : Own st (hg ++ r)) (k q : Value → St → Prop)
    (hk : ∀ hg' st', GV v (txsC (sorted l)) l.length 1 9 hg' → Own st' (hg' ++ r) → k (.tuple #[]) st') : au (C base w0 G) 106 [v] st k q := by
  refine .inl ⟨⟨_, Tryz.func106, rfl, by kernel_rfl⟩, fun kd φ w vals h hv => ?_⟩
  obtain ⟨vals⟩ := vals
  obtain ⟨x, r', e1, hx, hr⟩ := hv.bO
  have : r' = [] := List.eq_nil_of_length_eq_zero (by have := hr.1; simpa using this.symm)
  subst this
  simp only at e1
  subst e1
  by_cases h0 : l = []
  · subst h0
    obtain ⟨a, hva⟩ := hG.isSlice
    have hx0 : ∃ p c, x = .slice p 0 c := by
      subst hva
      cases hx with
      | nilslc => exact ⟨_, _, rfl⟩
      | slcX _ _ _ => exact ⟨_, _, rfl⟩
      | slcO _ _ _ _ _ => exact ⟨_, _, rfl⟩
    obtain ⟨p, c, rfl⟩ := hx0
    refine (Tryz.slices_Sort_string_none p c w).mono fun e w' ⟨he, hw⟩ => ?_
    subst he hw
    exact ⟨φ, .tuple #[], st, Emb.le_refl _, .junk _, h, hk hg st (by rw [show sorted [] = [] by simp [sorted]]; exact hG) hO⟩
  · have hpos : 0 < l.length := List.length_pos_iff.2 h0
    obtain ⟨B, hvB, hgB⟩ : ∃ B, v = .slice (some ⟨B, 0, some 0⟩) l.length l.length ∧ hg = [(B, .cells (txsC l) 9 true)] := by
      rcases hG with ⟨_, e, _⟩ | ⟨B, e1, e2, _⟩
      · omega
      · exact ⟨B, e1, e2⟩
    subst hvB hgB
    obtain ⟨n, hn⟩ : ∃ n, l.length = n + 1 := ⟨l.length - 1, by omega⟩
    rw [hn] at hx
    obtain ⟨p, c', hp, rfl, _⟩ := hx.oP
    rw [← hn] at hx ⊢
    have hB := hO.head
    have hlt : p.blk < w.heap.size := by
      obtain ⟨p', hp', ho⟩ := h.live B _ hB
      rw [hp] at hp'; injection hp' with hp'; subst hp'
      exact ho.lt
    refine (Tryz.slices_Sort_string p.blk (p.off + 0) c' l w (by rw [Nat.add_zero]; exact holds_of h hB hp) hlt (by omega)).mono fun e w' ⟨he, m, os, hw⟩ => ?_
    subst he
    rw [Nat.add_zero] at hw
    have h1 := HR.putRow (HR.ahead h m) (l' := sorted l) hB hp (jI l)
    have h2 := h1.of_below (w' := w') (by
      rw [hw]
      refine ⟨rfl, rfl, rfl, by rw [Sort.size_grow]; exact Nat.le_add_right _ _, fun j hj => ?_⟩
      unfold Sort.grow
      exact Array.getElem?_append_left hj)
    refine ⟨φ, .tuple #[], _, Emb.le_refl _, .junk _, h2, hk [(B, .cells (txsC (sorted l)) 9 true)] _ (.inr ⟨B, rfl, rfl, ?_⟩) (hO.set rfl _ rfl)⟩
    unfold txsC
    rw [List.length_map, jI, Nat.mul_one]
theorem newRow {cx : Cx} {φ : Emb} {st : St} {w w' : World} (h : HR cx φ st w) {v' : Value} {l : List Tx} (hcells : cx.P.cellsOf 9 = 1) (hrow : w'.ownsRow w.heap.size 9 1 v' l.length (txsC l)) (hne : v' ≠ .slice none 0 0) (hb : Below w.heap.size w w') :
    ∃ φ', φ.le φ' ∧ VR φ' (.slice (some ⟨st.n, 0, some 0⟩) l.length l.length) v' ∧ HR cx φ' (st.new (.cells (txsC l) 9 true)) w' := by
  rcases hrow.2 with ⟨e, _⟩ | ⟨gb, cap, cur, rfl, hbase, hgb, r1, r2, r3, r4⟩
  · exact absurd e hne
  · have hO := h.grow hb (.cells (txsC l) 9 true) ⟨gb, 0, cap, 1⟩ hbase ⟨cur, (0, 0), hgb, by simp [txsC]; exact r1, by show 0 + cap ≤ cur.size; omega, fun i V hi => ?_, (fun e => by cases e), fun _ => ⟨Nat.le_trans h.size hbase, ⟨hcells, Nat.zero_mod _⟩, .inl rfl⟩⟩
    · exact ⟨_, h.fQ _, VR.slcO (p := ⟨gb, 0, cap, 1⟩) (by simp [Emb.ins]) (Nat.le_refl _) r1 (.inr (.inr (by show 0 + cap * 1 ≤ cap; omega))) (.inl rfl), hO⟩
    · rw [← r4, List.getElem?_take] at hi
      split at hi
      · refine ⟨V, by simpa using hi, ?_⟩
        have : V ∈ txsC l := by
          rw [← r4]
          exact List.mem_iff_getElem?.2 ⟨i, by rw [List.getElem?_take, if_pos (by assumption)]; exact hi⟩
        obtain ⟨a, _, rfl⟩ := List.mem_map.1 this
        exact .string _
      · cases hi
theorem Dm {st : St} {v : Value} {l : List Tx} {hg r : Hp} (hG : GV v (txsC l) l.length 1 9 hg) (hl : l.length ≤ 1000000) (hO : Own st (hg ++ r)) (k q : Value → St → Prop)
    (hk : ∀ v' h' st', GV v' (txsC l) l.length 1 9 h' → Own st' (h' ++ (hg ++ r)) → k v' st') : au (C base w0 G) 108 [v] st k q := by
  refine .inl ⟨⟨_, Tryz.func108, rfl, by kernel_rfl⟩, fun kd φ w vals h hv => ?_⟩
  obtain ⟨vals⟩ := vals
  obtain ⟨x, r', e1, hx, hr⟩ := hv.bO
  have : r' = [] := List.eq_nil_of_length_eq_zero (by have := hr.1; simpa using this.symm)
  subst this
  simp only at e1
  subst e1
  have hcell : ((C base w0 G).at kd).P.cellsOf 9 = 1 := cof9
  have done : ∀ v' w', w'.ownsRow w.heap.size 9 1 v' l.length (txsC l) → v' ≠ .slice none 0 0 → Below w.heap.size w w' → ∃ φ' V st', φ.le φ' ∧ VR φ' V v' ∧ HR ((C base w0 G).at kd) φ' st' w' ∧ k V st' := fun v' w' h1 h2 h3 => by
    obtain ⟨φ', g1, g2, g3⟩ := newRow h hcell h1 h2 h3
    refine ⟨φ', _, _, g1, g2, g3, hk _ [(st.n, .cells (txsC l) 9 true)] _ (.inr ⟨st.n, rfl, rfl, ?_⟩) (hO.new _)⟩
    unfold txsC
    rw [List.length_map, Nat.mul_one]
  by_cases h0 : l = []
  · subst h0
    obtain ⟨a, hva⟩ := hG.isSlice
    have hx0 : x = .slice none 0 0 ∧ v = .slice none 0 0 ∨ ∃ p c, x = .slice (some p) 0 c := by
      subst hva
      cases hx with
      | nilslc => exact .inl ⟨rfl, rfl⟩
      | slcX _ _ _ => exact .inr ⟨_, _, rfl⟩
      | slcO _ _ _ _ _ => exact .inr ⟨_, _, rfl⟩
    rcases hx0 with ⟨rfl, rfl⟩ | ⟨p, c, rfl⟩
    · refine (Tryz.slices_Clone_string_nil 0 0 w).mono fun e w' ⟨he, hw⟩ => ?_
      subst he hw
      exact ⟨φ, .slice none 0 0, st, Emb.le_refl _, .nilslc, h, hk _ [] st .nil hO⟩
    · refine (Tryz.slices_Clone_string_zero p c w).mono fun e w' ⟨v', he, h1, h2, h3⟩ => ?_
      subst he
      exact done v' w' h1 h2 h3
  · have hpos : 0 < l.length := List.length_pos_iff.2 h0
    obtain ⟨B, hvB, hgB⟩ : ∃ B, v = .slice (some ⟨B, 0, some 0⟩) l.length l.length ∧ hg = [(B, .cells (txsC l) 9 true)] := by
      rcases hG with ⟨_, e, _⟩ | ⟨B, e1, e2, _⟩
      · omega
      · exact ⟨B, e1, e2⟩
    subst hvB hgB
    obtain ⟨n, hn⟩ : ∃ n, l.length = n + 1 := ⟨l.length - 1, by omega⟩
    rw [hn] at hx
    obtain ⟨p, c', hp, rfl, _⟩ := hx.oP
    rw [← hn] at hx ⊢
    have hB := hO.head
    have hH := holds_of h hB hp
    refine (Tryz.slices_Clone_string p.blk (p.off + 0) l.length c' (l.map tx) w (by rw [List.length_map]; exact Nat.le_refl _) (by omega) fun j hj => ?_).mono fun e w' ⟨v', he, h1, h2, h3⟩ => ?_
    · rw [List.length_map] at hj
      have := (hH j (by simpa using hj)).1
      rw [Nat.add_zero, this]
      simp [hj, Go.Proofs.encStr, tx]
    · subst he
      refine done v' w' ?_ h2 h3
      rw [List.take_of_length_le (by rw [List.length_map]; exact Nat.le_refl _), List.map_map] at h1
      exact h1
theorem zi {st : St} {v : Value} {l : List Tx} {hg r : Hp} (hG : GV v (txsC l) l.length 1 9 hg) (hl : l.length ≤ 1000000) (hO : Own st (hg ++ r)) (k q : Value → St → Prop)
    (hk : ∀ a c st', Own st' r → k (.slice a (Lib.compact l).length c) st') : au (C base w0 G) 107 [v] st k q := by
  refine .inl ⟨⟨_, Tryz.func107, rfl, by kernel_rfl⟩, fun kd φ w vals h hv => ?_⟩
  obtain ⟨vals⟩ := vals
  obtain ⟨x, r', e1, hx, hr⟩ := hv.bO
  have : r' = [] := List.eq_nil_of_length_eq_zero (by have := hr.1; simpa using this.symm)
  subst this
  simp only at e1
  subst e1
  by_cases h0 : l = []
  · subst h0
    obtain ⟨a, hva⟩ := hG.isSlice
    have hx0 : ∃ p c, x = .slice p 0 c := by
      subst hva
      cases hx with
      | nilslc => exact ⟨_, _, rfl⟩
      | slcX _ _ _ => exact ⟨_, _, rfl⟩
      | slcO _ _ _ _ _ => exact ⟨_, _, rfl⟩
    obtain ⟨p, c, rfl⟩ := hx0
    refine (Tryz.slices_Compact_string_empty p c w).mono fun e w' ⟨he, hw⟩ => ?_
    subst he hw
    subst hva
    exact ⟨φ, _, st, Emb.le_refl _, hx, h, hk a 0 st hO.right⟩
  · have hpos : 0 < l.length := List.length_pos_iff.2 h0
    obtain ⟨B, hvB, hgB⟩ : ∃ B, v = .slice (some ⟨B, 0, some 0⟩) l.length l.length ∧ hg = [(B, .cells (txsC l) 9 true)] := by
      rcases hG with ⟨_, e, _⟩ | ⟨B, e1, e2, _⟩
      · omega
      · exact ⟨B, e1, e2⟩
    subst hvB hgB
    have hle := Lib.compact_length_le l
    obtain ⟨p, c', hp, hxe, hlc, hcc, hw0⟩ : ∃ p c', φ B = some p ∧ x = .slice (some ⟨p.blk, p.off + 0, none⟩) l.length c' ∧ l.length ≤ c' ∧ c' ≠ 0 ∧ (c' = 0 ∨ p.sz = 0 ∨ 0 + c' * p.sz ≤ p.ext) := by
      cases hx with
      | @slcO _ _ _ _ c' a p hp hl' hc hw ha =>
        rcases ha with rfl | ha
        · exact ⟨p, c', hp, rfl, hc, by omega, hw⟩
        · omega
    subst hxe
    have hB := hO.head
    refine (Tryz.slices_Compact_string p.blk (p.off + 0) c' l w (by rw [Nat.add_zero]; exact holds_of h hB hp) (by omega) hlc).mono fun e w' ⟨he, m, hw⟩ => ?_
    subst he
    rw [Nat.add_zero] at hw
    have h1 := HR.putRow (HR.ahead h m) (l' := Lib.compact l ++ List.replicate (l.length - (Lib.compact l).length) []) hB hp (by rw [List.length_append, List.length_replicate]; omega)
    rw [← hw] at h1
    refine ⟨φ, .slice (some ⟨B, 0, some 0⟩) (Lib.compact l).length l.length, _, Emb.le_refl _, VR.slcO hp hle hlc hw0 (.inl rfl), h1, hk _ _ _ ?_⟩
    exact (hO.set rfl _ rfl).tail
end Go.Proofs.YtigjbehgfjjlkaaGreatDoor
set_option linter.unusedVariables false
set_option linter.unusedSimpArgs false
namespace Go.Proofs.YtigjbehgfjjlkaaGreatDoor
open Go Go.Abs Go.RowKit Go.Xml
variable {base : Nat} {w0 : World} {G : Nat}
theorem Ba (l : List Tx) : (sorted l).Pairwise (fun x y => x ≤ y) := by
  have tr : ∀ a b c : Tx, decide (a ≤ b) = true → decide (b ≤ c) = true → decide (a ≤ c) = true := fun a b c h1 h2 => by simp only [decide_eq_true_eq] at *; exact List.le_trans h1 h2
  have tot : ∀ a b : Tx, (decide (a ≤ b) || decide (b ≤ a)) = true := fun a b => by simp only [Bool.or_eq_true, decide_eq_true_eq]; exact List.le_total a b
  exact (List.pairwise_mergeSort tr tot l).imp fun h => by simpa using h
theorem zk (l : List Tx) : decide ((Lib.compact (sorted l)).length = l.length) = once l := by
  have hp : (sorted l).Perm l := List.mergeSort_perm ..
  have hpw := Ba l
  have hlen := jI l
  unfold once
  rw [decide_eq_decide, ← hlen, ← hp.nodup_iff]
  generalize sorted l = z at *
  have hkeep : (Lib.compact z).length = z.length ↔ ∀ j, j < z.length → Lib.keeps z.toArray j = true := by
    constructor
    · intro h j hj
      unfold Lib.compact Lib.compactUpTo at h
      rw [List.length_map] at h
      have h2 : (List.range z.length).filter (Lib.keeps z.toArray) = List.range z.length := by
        refine List.Sublist.eq_of_length (List.filter_sublist ..) ?_
        rw [h, List.length_range]
      have := List.filter_eq_self.1 h2 j (List.mem_range.2 hj)
      exact this
    · intro h
      rw [Lib.compact_all z h]
  rw [hkeep]
  constructor
  · intro h
    rw [List.nodup_iff_pairwise_ne, List.pairwise_iff_getElem]
    intro i j hi hj hij e
    have h1 := h (i + 1) (by omega)
    unfold Lib.keeps at h1
    simp only [decide_eq_true_eq] at h1
    have h2 := h1.resolve_left (by omega)
    rw [Nat.add_sub_cancel] at h2
    have g1 : z.toArray[i + 1]! = z[i + 1] := by simp [show i + 1 < z.length by omega]
    have g2 : z.toArray[i]! = z[i] := by simp [hi]
    rw [g1, g2] at h2
    refine h2 (List.le_antisymm ?_ (List.pairwise_iff_getElem.1 hpw i (i + 1) hi (by omega) (by omega)))
    by_cases he : i + 1 = j
    · subst he; rw [e]; exact List.le_refl _
    · have := List.pairwise_iff_getElem.1 hpw (i + 1) j (by omega) hj (by omega)
      rw [← e] at this
      exact this
  · intro h j hj
    unfold Lib.keeps
    simp only [decide_eq_true_eq]
    by_cases h0 : j = 0
    · exact .inl h0
    · refine .inr fun e => ?_
      have g1 : z.toArray[j]! = z[j] := by simp [hj]
      have g2 : z.toArray[j - 1]! = z[j - 1] := by simp [show j - 1 < z.length by omega]
      rw [g1, g2] at e
      have := (List.nodup_iff_pairwise_ne.1 h)
      exact List.pairwise_iff_getElem.1 this (j - 1) j (by omega) hj (by omega) e.symm
theorem zl (r : RS) (s : Tx) (d : Bool) (ds : List Dcl) : ∀ (l acc : List Att), fO { r with s := s, done := d } ds acc l = fO r ds acc l
  | [], acc => rfl
  | a :: l, acc => by
    have hs : aM { r with s := s, done := d } a.pre ds = aM r a.pre ds := rfl
    unfold fO
    rw [hs, zl r s d ds l, zl r s d ds l]
theorem wX (r : RS) (s : Tx) (d : Bool) (n : Nd) : bH { r with s := s, done := d } n = bH r n := by
  unfold bH
  rw [zl r s d]
  rfl
theorem RI.less {r : RS} (h : RI r) {s : Tx} (d : Bool) (hs : s.length ≤ r.s.length) : RI { r with s := s, done := d } where
  many := h.many
  deep := h.deep
  left := Nat.le_trans hs h.left
  stk := h.stk
  kids := h.kids
  val := fun n hn => by have := h.val n hn; show n.val.length + 5 * s.length ≤ 5000000; omega
  dcl := h.dcl
theorem pY {r : RS} {n n' : Nd} (h : bH r n = .ok n') : n'.kids = n.kids ∧ n'.dcls = n.dcls := by
  unfold bH at h
  split at h
  · cases h
  split at h
  · split at h
    · injection h with h; rw [← h]; exact ⟨rfl, rfl⟩
    · cases h
  · cases h
theorem nu {n : Nd} {r r' : RS} {a : Nat} (h : addF n r = .ok (a, r')) : r'.stk = r.stk ∧ r'.done = r.done ∧ r'.s = r.s := by
  unfold addF at h
  split at h
  · cases h
  split at h <;>
  · injection h with h
    simp only [Prod.mk.injEq] at h
    obtain ⟨_, rfl⟩ := h
    exact ⟨rfl, rfl, rfl⟩
theorem FZ (l : List (Nat × Tx)) (x : Nat × Tx) : stkC (l ++ [x]) = stkC l ++ [.int .i64 (x.1 : Nat), .string (tx x.2)] := by simp [stkC]
theorem og : ∀ (f : Nat) {nms nms' : List Tx} {n n' : Nd} {s s' : Tx}, bC f nms n s = .ok (nms', n', s') → s'.length ≤ s.length
  | 0, nms, nms', n, n', s, s', h => by cases h
  | f + 1, nms, nms', n, n', s, s', h => by
    unfold bC at h
    have hk := gZ s
    split at h
    · split at h
      · cases h
      · rename_i nm s1 h1
        split at h
        · cases h
        · rename_i s2 h2
          split at h
          · cases h
          · rename_i v s3 h3
            have := og f h
            have g1 := (fG h1).2
            have g2 := pW h2
            have g3 := qX h3
            omega
    · injection h with h
      simp only [Prod.mk.injEq] at h
      obtain ⟨_, _, rfl⟩ := h
      exact hk
set_option maxRecDepth 10000 in
theorem Bb (st : St) (r0 h : Hp) (b : Nat) (r : RS) (hM : eG w0) (hT : dw w0) (hR : RdH b r h) (hI : RI r) (hO : Own st (h ++ r0)) (k q : Value → St → Prop)
    (hk : ∀ r' h' st', bI r = .ok r' → RdH b r' h' → Own st' (h' ++ r0) → k (.tuple #[]) st')
    (hq : ∀ e st', bI r = .error e → Own st' r0 → q (fV e) st') : ay (C base w0 3) 80 [.pointer (some ⟨b, 0, none⟩)] st k q := by
  refine ay.of (cx := C base w0 3) mixed Tryz.func80 rfl (by kernel_rfl) (by simp [Tryz.ntmps80]) ?_
  simp only [Tryz.results80]
  obtain ⟨nv, kv, cs, hn, hs, hxs, rfl, hG, hK, hNs⟩ := hR
  have e58 : (⟨#[58]⟩ : ByteArray) = tx [58] := rfl
  have e47 : (⟨#[47]⟩ : ByteArray) = tx [47] := rfl
  have e62 : (⟨#[62]⟩ : ByteArray) = tx [62] := rfl
  have e0 : (⟨#[]⟩ : ByteArray) = tx [] := rfl
  obtain ⟨ka, kc, hkv⟩ := hK.isSlice
  have hF : bI r = if r.stk = [] ∧ r.done = true then .error 10 else match dF r.s with
    | .error e => .error e
    | .ok (nm, s1) => match bC (s1.length + 1) [] (cZ nm) s1 with
      | .error e => .error e
      | .ok (nms, n, s2) =>
        if (hasF [62] (hasF [47] s2).2).1 = false then .error 10
        else if nms.length > 32 then .error 33
        else if once nms = false then .error 10
        else match bH r n with
          | .error e => .error e
          | .ok n' =>
            if r.stk.length = 32 then .error 32
            else match addF n' { r with s := (hasF [62] (hasF [47] s2).2).2 } with
              | .error e => .error e
              | .ok (a, r') => .ok { r' with done := true, stk := if (hasF [47] s2).1 then r'.stk else r'.stk ++ [(a, nm)] } := rfl
  have hc := hO.head
  unfold rdC at hc
  have hdone : (!decide (0 < r.stk.length)) = decide (r.stk = []) := by
    cases r.stk with
    | nil => rfl
    | cons x l => simp
  simp -implicitDefEqProofs only [go_sem, ↓aj, ↓ah, ak, Nat.reduceBEq, ↓reduceIte, reduceCtorEq, Nat.reduceEqDiff, Nat.reduceAdd, Nat.reduceLeDiff, Int.reduceEq, Int.reduceLT, Int.reduceLE, Int.reduceAdd, Int.reduceToNat, Int.reduceNeg, Nat.reduceMul, Nat.reduceSub, Int.reduceBNe, Int.reduceBEq]
  refine au.enter Tryz.func57 rfl (by kernel_rfl) (pK st _ b r.stk.length kc r.s nv ka r.done (by rw [← hkv]; exact hO) _ _ ?_)
  by_cases hsk : r.stk = []
  case' pos =>
    have hz : decide (0 < r.stk.length) = false := by rw [hsk]; rfl
    simp -implicitDefEqProofs only [go_sem, ↓aj, ↓ah, ak, Nat.reduceBEq, ↓reduceIte, reduceCtorEq, Nat.reduceEqDiff, Nat.reduceAdd, Nat.reduceLeDiff, Int.reduceEq, Int.reduceLT, Int.reduceLE, Int.reduceAdd, Int.reduceToNat, Int.reduceNeg, Nat.reduceMul, Nat.reduceSub, Int.reduceBNe, Int.reduceBEq, hz, hc, pG, asz4, Tryz.underlying4]
    refine au.enter Tryz.func61 rfl (by kernel_rfl) (aC _ _ _ _ (fun hd => ?_) (fun hd => ?_))
    rotate_left
    · rw [if_pos ⟨hsk, by simpa using hd⟩] at hF
      exact hq 10 _ hF hO.right
    have hcond : ¬ (r.stk = [] ∧ r.done = true) := fun h => by rw [h.2] at hd; cases hd
  case' neg =>
    have hz : decide (0 < r.stk.length) = true := decide_eq_true (List.length_pos_iff.2 hsk)
    simp -implicitDefEqProofs only [go_sem, ↓aj, ↓ah, ak, Nat.reduceBEq, ↓reduceIte, reduceCtorEq, Nat.reduceEqDiff, Nat.reduceAdd, Nat.reduceLeDiff, Int.reduceEq, Int.reduceLT, Int.reduceLE, Int.reduceAdd, Int.reduceToNat, Int.reduceNeg, Nat.reduceMul, Nat.reduceSub, Int.reduceBNe, Int.reduceBEq, hz]
    refine au.enter Tryz.func61 rfl (by kernel_rfl) (aC _ true _ _ (fun hd => ?_) (fun h => by cases h))
    have hcond : ¬ (r.stk = [] ∧ r.done = true) := fun h => hsk h.1
  all_goals
    rw [if_neg hcond] at hF
    clear hz hd hc
    have hl := hI.left
    have hOr : Own st ((b, .cells (rdC r.s nv kv r.done) 76 true) :: (hn ++ (hs ++ (hxs ++ r0)))) := nX hO (by simp [List.append_assoc])
    clear hO
    simp -implicitDefEqProofs only [go_sem, ↓aj, ↓ah, ak, Nat.reduceBEq, ↓reduceIte, reduceCtorEq, Nat.reduceEqDiff, Nat.reduceAdd, Nat.reduceLeDiff, Int.reduceEq, Int.reduceLT, Int.reduceLE, Int.reduceAdd, Int.reduceToNat, Int.reduceNeg, Nat.reduceMul, Nat.reduceSub, Int.reduceBNe, Int.reduceBEq]
    refine au.enter Tryz.func104 rfl (by kernel_rfl) (lC st _ b r.s nv kv r.done hM hT (by omega) hOr _ _ (fun nm s1 st1 he1 hs1 => ?_) (fun e st1 he1 hs1 => ?_))
    rotate_left
    · rw [he1] at hF
      exact hq e _ hF hs1.right.right.right
    rw [he1] at hF
    dsimp only at hF
    obtain ⟨l1, l2⟩ := fG he1
    have hO2 := (hs1.new (.cells (ndC nd0 (.slice none 0 0) (.slice none 0 0) (.slice none 0 0)) 55 true)).set rfl (.cells (ndC { nd0 with kind := 1, loc := nm } (.slice none 0 0) (.slice none 0 0) (.slice none 0 0)) 55 true) rfl
    simp -implicitDefEqProofs only [go_sem, ↓aj, ↓ah, ak, Nat.reduceBEq, ↓reduceIte, reduceCtorEq, Nat.reduceEqDiff, Nat.reduceAdd, Nat.reduceLeDiff, Int.reduceEq, Int.reduceLT, Int.reduceLE, Int.reduceAdd, Int.reduceToNat, Int.reduceNeg, Nat.reduceMul, Nat.reduceSub, Int.reduceBNe, Int.reduceBEq, bB, nH, Av, aU, Tryz.underlying55, List.length_cons, List.length_nil, List.set_cons_zero, List.set_cons_succ, List.getElem?_cons_zero, List.getElem?_cons_succ, Option.map_some, List.getElem?_toArray, e0, e58]
    refine pI nm [58] hM (by omega) _ _ ?_
    unfold cutV
    cases h2 : (Lib.cut nm [58]).2.2
    case' false =>
      have hhd : cZ nm = { nd0 with kind := 1, loc := nm } := by unfold cZ; rw [h2]; rfl
      simp -implicitDefEqProofs only [go_sem, ↓aj, ↓ah, ak, Nat.reduceBEq, ↓reduceIte, reduceCtorEq, Nat.reduceEqDiff, Nat.reduceAdd, Nat.reduceLeDiff, Int.reduceEq, Int.reduceLT, Int.reduceLE, Int.reduceAdd, Int.reduceToNat, Int.reduceNeg, Nat.reduceMul, Nat.reduceSub, Int.reduceBNe, Int.reduceBEq]
      have hO3 := hO2.perm (List.Perm.swap _ _ _)
    case' true =>
      have hhd : cZ nm = { nd0 with kind := 1, pre := (Lib.cut nm [58]).1, loc := (Lib.cut nm [58]).2.1 } := by unfold cZ; rw [h2]; rfl
      simp -implicitDefEqProofs only [go_sem, ↓aj, ↓ah, ak, Nat.reduceBEq, ↓reduceIte, reduceCtorEq, Nat.reduceEqDiff, Nat.reduceAdd, Nat.reduceLeDiff, Int.reduceEq, Int.reduceLT, Int.reduceLE, Int.reduceAdd, Int.reduceToNat, Int.reduceNeg, Nat.reduceMul, Nat.reduceSub, Int.reduceBNe, Int.reduceBEq, o9, pq, asz9, List.length_cons, List.length_nil, List.set_cons_zero, List.set_cons_succ]
      have hO3 := ((hO2.set rfl (.cells (ndC { nd0 with kind := 1, pre := (Lib.cut nm [58]).1, loc := nm } (.slice none 0 0) (.slice none 0 0) (.slice none 0 0)) 55 true) rfl).set rfl (.cells (ndC { nd0 with kind := 1, pre := (Lib.cut nm [58]).1, loc := (Lib.cut nm [58]).2.1 } (.slice none 0 0) (.slice none 0 0) (.slice none 0 0)) 55 true) rfl).perm (List.Perm.swap _ _ _)
    all_goals
      have hh1 : (cZ nm).atts = [] := by rw [hhd]; rfl
      have hh2 : (cZ nm).dcls = [] := by rw [hhd]; rfl
      have hh3 : (cZ nm).kids = [] := by rw [hhd]; rfl
      generalize st1.n = bx at *
      refine au.enter Tryz.func105 rfl (by kernel_rfl) (A9 _ _ b bx s1 (cZ nm) nv kv (.slice none 0 0) r.done hM hT (by omega) hh1 hh2 (nX hO3 (by rw [hhd])) _ _ (fun nms n s2 nmv av dv hm ha hd st4 he2 hkd hbd hb1 hb2 gm ga gd hs4 => ?_) (fun e st4 he2 hs4 => ?_))
      rotate_left
      · rw [he2] at hF
        exact hq e _ hF hs4.right.right.right
      rw [he2] at hF
      dsimp only at hF
      have l2b := og _ he2
      rw [hh3] at hkd
      simp -implicitDefEqProofs only [go_sem, ↓aj, ↓ah, ak, Nat.reduceBEq, ↓reduceIte, reduceCtorEq, Nat.reduceEqDiff, Nat.reduceAdd, Nat.reduceLeDiff, Int.reduceEq, Int.reduceLT, Int.reduceLE, Int.reduceAdd, Int.reduceToNat, Int.reduceNeg, Nat.reduceMul, Nat.reduceSub, Int.reduceBNe, Int.reduceBEq, e47]
      refine au.enter Tryz.func58 rfl (by kernel_rfl) (fF st4 _ b s2 [47] nv kv r.done hs4 _ _ fun st5 hs5 => ?_)
      simp -implicitDefEqProofs only [go_sem, ↓aj, ↓ah, ak, Nat.reduceBEq, ↓reduceIte, reduceCtorEq, Nat.reduceEqDiff, Nat.reduceAdd, Nat.reduceLeDiff, Int.reduceEq, Int.reduceLT, Int.reduceLE, Int.reduceAdd, Int.reduceToNat, Int.reduceNeg, Nat.reduceMul, Nat.reduceSub, Int.reduceBNe, Int.reduceBEq, e62]
      refine au.enter Tryz.func58 rfl (by kernel_rfl) (fF st5 _ b _ [62] nv kv r.done hs5 _ _ fun st6 hs6 => ?_)
      simp -implicitDefEqProofs only [go_sem, ↓aj, ↓ah, ak, Nat.reduceBEq, ↓reduceIte, reduceCtorEq, Nat.reduceEqDiff, Nat.reduceAdd, Nat.reduceLeDiff, Int.reduceEq, Int.reduceLT, Int.reduceLE, Int.reduceAdd, Int.reduceToNat, Int.reduceNeg, Nat.reduceMul, Nat.reduceSub, Int.reduceBNe, Int.reduceBEq]
      have out : ∀ {s : St} {e f : Nat × Ob} {x : Hp}, Own s (e :: f :: (hm ++ (ha ++ (hd ++ (hn ++ (hs ++ (hxs ++ r0))))))) → Own s r0 := fun h => h.tail.tail.right.right.right.right.right.right
      refine au.enter Tryz.func61 rfl (by kernel_rfl) (aC _ _ _ _ (fun hv => ?_) (fun hv => ?_))
      rotate_left
      · rw [if_pos hv] at hF
        exact hq 10 _ hF (out (x := []) hs6)
      rw [if_neg (by rw [hv]; decide)] at hF
      have l3 : (hasF [62] (hasF [47] s2).2).2.length ≤ s2.length := Nat.le_trans (bD _ _) (bD _ _)
      generalize (hasF [62] (hasF [47] s2).2).2 = s3 at *
      generalize (hasF [47] s2).1 = empty at *
      obtain ⟨am, ham⟩ := gm.isSlice
      by_cases c32 : nms.length > 32
      · rw [if_pos c32] at hF
        simp -implicitDefEqProofs only [go_sem, ↓aj, ↓ah, ak, Nat.reduceBEq, ↓reduceIte, reduceCtorEq, Nat.reduceEqDiff, Nat.reduceAdd, Nat.reduceLeDiff, Int.reduceEq, Int.reduceLT, Int.reduceLE, Int.reduceAdd, Int.reduceToNat, Int.reduceNeg, Nat.reduceMul, Nat.reduceSub, Int.reduceBNe, Int.reduceBEq, ham, Tryz.underlying126, show ((nms.length : Int) > 32) = True by simp; omega, decide_true]
        refine au.enter Tryz.func76 rfl (by kernel_rfl) (dX _ 33 _ _ ?_)
        exact hq 33 _ hF (out (x := []) hs6)
      rw [if_neg c32] at hF
      simp -implicitDefEqProofs only [go_sem, ↓aj, ↓ah, ak, Nat.reduceBEq, ↓reduceIte, reduceCtorEq, Nat.reduceEqDiff, Nat.reduceAdd, Nat.reduceLeDiff, Int.reduceEq, Int.reduceLT, Int.reduceLE, Int.reduceAdd, Int.reduceToNat, Int.reduceNeg, Nat.reduceMul, Nat.reduceSub, Int.reduceBNe, Int.reduceBEq, ham, Tryz.underlying126, show ((nms.length : Int) > 32) = False by simp; omega, decide_false]
      rw [← ham]
      refine FY gm (by omega) (qU hs6) _ _ fun hm7 st7 gm7 hs7 => ?_
      have gm7' : GV nmv (txsC (sorted nms)) (sorted nms).length 1 9 hm7 := by rw [jI]; exact gm7
      have hsl := jI nms
      simp -implicitDefEqProofs only [go_sem, ↓aj, ↓ah, ak, Nat.reduceBEq, ↓reduceIte, reduceCtorEq, Nat.reduceEqDiff, Nat.reduceAdd, Nat.reduceLeDiff, Int.reduceEq, Int.reduceLT, Int.reduceLE, Int.reduceAdd, Int.reduceToNat, Int.reduceNeg, Nat.reduceMul, Nat.reduceSub, Int.reduceBNe, Int.reduceBEq]
      refine Dm gm7' (by omega) hs7 _ _ fun cv hc8 st8 gc hs8 => ?_
      simp -implicitDefEqProofs only [go_sem, ↓aj, ↓ah, ak, Nat.reduceBEq, ↓reduceIte, reduceCtorEq, Nat.reduceEqDiff, Nat.reduceAdd, Nat.reduceLeDiff, Int.reduceEq, Int.reduceLT, Int.reduceLE, Int.reduceAdd, Int.reduceToNat, Int.reduceNeg, Nat.reduceMul, Nat.reduceSub, Int.reduceBNe, Int.reduceBEq]
      refine zi gc (by omega) hs8 _ _ fun a9 c9' st9 hs9 => ?_
      have hon : (((Lib.compact (sorted nms)).length : Int) == (nms.length : Int)) = once nms := by
        rw [← zk, Bool.eq_iff_iff, beq_iff_eq, decide_eq_true_eq]
        omega
      simp -implicitDefEqProofs only [go_sem, ↓aj, ↓ah, ak, Nat.reduceBEq, ↓reduceIte, reduceCtorEq, Nat.reduceEqDiff, Nat.reduceAdd, Nat.reduceLeDiff, Int.reduceEq, Int.reduceLT, Int.reduceLE, Int.reduceAdd, Int.reduceToNat, Int.reduceNeg, Nat.reduceMul, Nat.reduceSub, Int.reduceBNe, Int.reduceBEq, ham, Tryz.underlying126, hon]
      have hs9' := hs9.right
      clear hs9 hs8 hs7 hs6 hs5 hs4 gm7 gm7' gc
      refine au.enter Tryz.func61 rfl (by kernel_rfl) (aC _ _ _ _ (fun hv => ?_) (fun hv => ?_))
      rotate_left
      · rw [if_pos hv] at hF
        exact hq 10 _ hF hs9'.tail.tail.right.right.right.right.right
      rw [if_neg (by rw [hv]; decide)] at hF
      clear hv
      have hR1 : RdH b { r with s := s3, done := r.done } ((b, Ob.cells (rdC s3 nv kv r.done) 76 true) :: (hn ++ (hs ++ hxs))) := ⟨nv, kv, cs, hn, hs, hxs, rfl, hG, hK, hNs⟩
      have hI1 := hI.less (s := s3) r.done (by omega)
      have hsO : Own st9 ((bx, .cells (ndC n (.slice none 0 0) av dv) 55 true) :: (ha ++ (hd ++ (((b, Ob.cells (rdC s3 nv kv r.done) 76 true) :: (hn ++ (hs ++ hxs))) ++ ([] ++ r0))))) :=
        hs9'.perm (by simpa using bR [[_], [_], ha, hd, hn, hs, hxs, r0] [0, 1, 2, 3, 4, 5, 6, 7] [1, 2, 3, 0, 4, 5, 6, 7] rfl)
      simp -implicitDefEqProofs only [go_sem, ↓aj, ↓ah, ak, Nat.reduceBEq, ↓reduceIte, reduceCtorEq, Nat.reduceEqDiff, Nat.reduceAdd, Nat.reduceLeDiff, Int.reduceEq, Int.reduceLT, Int.reduceLE, Int.reduceAdd, Int.reduceToNat, Int.reduceNeg, Nat.reduceMul, Nat.reduceSub, Int.reduceBNe, Int.reduceBEq]
      refine au.enter Tryz.func109 rfl (by kernel_rfl) (ze st9 r0 _ [] ha hd b bx _ n (.slice none 0 0) av dv hR1 hI1 (by rw [hkd]; exact .nil) ga gd (by omega) (by omega) hsO _ _ (fun n' ha' st10 he3 ga' hs10 => ?_) (fun e st10 he3 hs10 => ?_))
      rotate_left
      · rw [wX] at he3
        rw [he3] at hF
        exact hq e _ hF hs10
      rw [wX] at he3
      rw [he3] at hF
      dsimp only at hF
      obtain ⟨k1, k2⟩ := pY he3
      have hcb := hs10.get (b := b) (o := .cells (rdC s3 nv kv r.done) 76 true) (by simp)
      unfold rdC at hcb
      have hs11 : Own st10 (((b, Ob.cells (rdC s3 nv kv r.done) 76 true) :: (hn ++ (hs ++ hxs))) ++ (([] ++ (ha' ++ hd)) ++ r0)) :=
        (hs10.perm (show List.Perm _ ((bx, .cells (ndC n' (.slice none 0 0) av dv) 55 true) :: (((b, Ob.cells (rdC s3 nv kv r.done) 76 true) :: (hn ++ (hs ++ hxs))) ++ (([] ++ (ha' ++ hd)) ++ r0))) from by
          simpa using bR [[(bx, Ob.cells (ndC n' (.slice none 0 0) av dv) 55 true)], ha', hd, [(b, Ob.cells (rdC s3 nv kv r.done) 76 true)], hn, hs, hxs, r0] [0, 1, 2, 3, 4, 5, 6, 7] [0, 3, 4, 5, 6, 1, 2, 7] rfl)).tail
      by_cases c5 : r.stk.length = 32
      · rw [if_pos c5] at hF
        simp -implicitDefEqProofs only [go_sem, ↓aj, ↓ah, ak, Nat.reduceBEq, ↓reduceIte, reduceCtorEq, Nat.reduceEqDiff, Nat.reduceAdd, Nat.reduceLeDiff, Int.reduceEq, Int.reduceLT, Int.reduceLE, Int.reduceAdd, Int.reduceToNat, Int.reduceNeg, Nat.reduceMul, Nat.reduceSub, Int.reduceBNe, Int.reduceBEq, hcb, hkv, dD, je, Tryz.underlying74, c5]
        refine au.enter Tryz.func76 rfl (by kernel_rfl) (dX _ 32 _ _ ?_)
        exact hq 32 _ hF hs11.right.right
      rw [if_neg c5] at hF
      have hcx := hs10.head
      have hcut9 : cut (ndC n' (.slice none 0 0) av dv) 0 9 = some (ndC n' (.slice none 0 0) av dv) := iI _
      have hNd : NdH n' (ndC n' (.slice none 0 0) av dv) ([] ++ (ha' ++ hd)) := ⟨_, _, _, [], ha', hd, rfl, rfl, by rw [k1, hkd]; exact .nil, ga', by rw [k2]; exact gd⟩
      simp -implicitDefEqProofs only [go_sem, ↓aj, ↓ah, ak, Nat.reduceBEq, ↓reduceIte, reduceCtorEq, Nat.reduceEqDiff, Nat.reduceAdd, Nat.reduceLeDiff, Int.reduceEq, Int.reduceLT, Int.reduceLE, Int.reduceAdd, Int.reduceToNat, Int.reduceNeg, Nat.reduceMul, Nat.reduceSub, Int.reduceBNe, Int.reduceBEq, hcb, hkv, dD, je, aU, Tryz.underlying55, Tryz.underlying74, show ((r.stk.length : Int) == 32) = false by simp; omega, hcx, hcut9, Option.map_some]
      refine au.enter Tryz.func81 rfl (by kernel_rfl) (qV st10 r0 _ ([] ++ (ha' ++ hd)) b { r with s := s3, done := r.done } n' _ hR1 hI1 hNd hs11 _ _ (fun a r' h' st12 he4 hR' hs12 => ?_) (fun e st12 he4 hs12 => ?_))
      rotate_left
      · rw [show addF n' { r with s := s3 } = addF n' { r with s := s3, done := r.done } from rfl, he4] at hF
        exact hq e _ hF hs12
      rw [show addF n' { r with s := s3 } = addF n' { r with s := s3, done := r.done } from rfl, he4] at hF
      dsimp only at hF
      obtain ⟨q1, q2, q3⟩ := nu he4
      obtain ⟨nv', kv', cs', hn', hs', hxs', rfl, hG', hK', hNs'⟩ := hR'
      have hc12 := hs12.head
      unfold rdC at hc12
      have hs13 := hs12.set rfl (.cells (rdC r'.s nv' kv' true) 76 true) rfl
      have hdp := hI.deep
      have q4 : r'.stk.length = r.stk.length := by rw [q1]
      have gO : Own _ (((b, Ob.cells (rdC r'.s nv' kv' true) 76 true) :: (hn' ++ (hs' ++ hxs'))) ++ r0) := hs13
      cases empty with
      | true =>
        simp -implicitDefEqProofs only [go_sem, ↓aj, ↓ah, ak, Nat.reduceBEq, ↓reduceIte, reduceCtorEq, Nat.reduceEqDiff, Nat.reduceAdd, Nat.reduceLeDiff, Int.reduceEq, Int.reduceLT, Int.reduceLE, Int.reduceAdd, Int.reduceToNat, Int.reduceNeg, Nat.reduceMul, Nat.reduceSub, Int.reduceBNe, Int.reduceBEq, hc12, pG, asz4, Tryz.underlying4, List.length_cons, List.length_nil, List.set_cons_zero, List.set_cons_succ, Bool.not_true]
        exact hk _ _ _ hF ⟨nv', kv', cs', hn', hs', hxs', rfl, hG', hK', hNs'⟩ gO
      | false =>
        have gO2 : Own _ (hs' ++ ((b, Ob.cells (rdC r'.s nv' kv' true) 76 true) :: (hn' ++ (hxs' ++ r0)))) := gO.perm (by simpa using bR [[(b, Ob.cells (rdC r'.s nv' kv' true) 76 true)], hn', hs', hxs', r0] [0, 1, 2, 3, 4] [2, 0, 1, 3, 4] rfl)
        simp -implicitDefEqProofs only [go_sem, ↓aj, ↓ah, ak, Nat.reduceBEq, ↓reduceIte, reduceCtorEq, Nat.reduceEqDiff, Nat.reduceAdd, Nat.reduceLeDiff, Int.reduceEq, Int.reduceLT, Int.reduceLE, Int.reduceAdd, Int.reduceToNat, Int.reduceNeg, Nat.reduceMul, Nat.reduceSub, Int.reduceBNe, Int.reduceBEq, hc12, dD, pG, asz4, Tryz.underlying4, List.length_cons, List.length_nil, List.set_cons_zero, List.set_cons_succ, Bool.not_false, je, Tryz.underlying74, CX, K7, j3, Tryz.underlying109, List.getElem?_cons_zero, List.getElem?_cons_succ, Option.map_some, List.getElem?_toArray, aI (v := .agg #[.int .i64 (a : Nat), .string (tx nm)]) Tryz.underlying74 j3 CX rfl rfl rfl (by decide)]
        refine GVc.fC (st := st12.set b (some (Ob.cells [.string (tx r'.s), nv', kv', .bool true] 76 true))) (t := 74) (t' := 74) (c := [.int .i64 (a : Nat), .string (tx nm)]) Tryz.underlying74 (by rw [Tryz.underlying74]; rfl) j3 CX K6 hK' gO2 rfl rfl (by omega) fun kv2 hs2' st14 hK2 hs14 => ?_
        have hs15 : Own st14 ((b, Ob.cells (rdC r'.s nv' kv' true) 76 true) :: (hn' ++ (hs2' ++ (hxs' ++ r0)))) := hs14.perm (by simpa using bR [[(b, Ob.cells (rdC r'.s nv' kv' true) 76 true)], hn', hs2', hxs', r0] [2, 0, 1, 3, 4] [0, 1, 2, 3, 4] rfl)
        have hc15 := hs15.head
        have hs16 := hs15.set rfl (.cells (rdC r'.s nv' kv2 true) 76 true) rfl
        obtain ⟨ak2, ck2, rfl⟩ := hK2.isSlice
        unfold rdC at hc15
        simp -implicitDefEqProofs only [go_sem, ↓aj, ↓ah, ak, Nat.reduceBEq, ↓reduceIte, reduceCtorEq, Nat.reduceEqDiff, Nat.reduceAdd, Nat.reduceLeDiff, Int.reduceEq, Int.reduceLT, Int.reduceLE, Int.reduceAdd, Int.reduceToNat, Int.reduceNeg, Nat.reduceMul, Nat.reduceSub, Int.reduceBNe, Int.reduceBEq, hc15, dD, je, Tryz.underlying74, List.length_cons, List.length_nil, List.set_cons_zero, List.set_cons_succ]
        refine hk _ _ _ hF ⟨nv', .slice ak2 (r'.stk.length + 1) ck2, cs', hn', hs2', hxs', rfl, hG', ?_, hNs'⟩ (nX hs16 (by simp [List.append_assoc]))
        show GVc _ (stkC (r'.stk ++ [(a, nm)])) (r'.stk ++ [(a, nm)]).length 2 109 hs2'
        rw [FZ, List.length_append]
        exact hK2
end Go.Proofs.YtigjbehgfjjlkaaGreatDoor
set_option linter.unusedVariables false
set_option linter.unusedSimpArgs false
namespace Go.Proofs.YtigjbehgfjjlkaaGreatDoor
open Go Go.Abs Go.RowKit Go.Xml
variable {base : Nat} {w0 : World} {G : Nat}
theorem RdH.open {b : Nat} {r : RS} {h : Hp} (hR : RdH b r h) : ∃ nv kv R, h = (b, Ob.cells (rdC r.s nv kv r.done) 76 true) :: R ∧ (∃ ka kc, kv = .slice ka r.stk.length kc) ∧ ∀ s', RdH b { r with s := s' } ((b, Ob.cells (rdC s' nv kv r.done) 76 true) :: R) := by
  obtain ⟨nv, kv, cs, hn, hs, hxs, rfl, hG, hK, hNs⟩ := hR
  exact ⟨nv, kv, _, rfl, hK.isSlice, fun s' => ⟨nv, kv, cs, hn, hs, hxs, rfl, hG, hK, hNs⟩⟩
theorem JO {t s : Tx} (h : (hasF t s).1 = false) : (hasF t s).2 = s := by rw [uJ]; rw [uI] at h; rw [h]; rfl
theorem RS.same (r : RS) : { r with s := r.s } = r := rfl
theorem p8 (st : St) (r0 h : Hp) (b : Nat) (r : RS) (t : Tx) (hR : RdH b r h) (hO : Own st (h ++ r0)) (k q : Value → St → Prop)
    (h1 : (hasF t r.s).1 = true → ∀ h' st', RdH b { r with s := (hasF t r.s).2 } h' → Own st' (h' ++ r0) → k (.bool true) st')
    (h2 : (hasF t r.s).1 = false → ∀ h' st', RdH b r h' → Own st' (h' ++ r0) → k (.bool false) st') : au (C base w0 G) 58 [.pointer (some ⟨b, 0, none⟩), .string (tx t)] st k q := by
  obtain ⟨nv, kv, R, rfl, _, hop⟩ := hR.open
  refine au.enter Tryz.func58 rfl (by kernel_rfl) (fF st (R ++ r0) b r.s t nv kv r.done hO _ _ fun st' hs => ?_)
  cases hb : (hasF t r.s).1 with
  | true => exact h1 hb _ st' (hop _) hs
  | false =>
    rw [JO hb] at hs
    exact h2 hb _ st' (hop r.s) hs
theorem Lh (st : St) (r0 h : Hp) (b : Nat) (r : RS) (hR : RdH b r h) (hO : Own st (h ++ r0)) (k q : Value → St → Prop)
    (h1 : ∀ h' st', RdH b { r with s := (aD r.s).2 } h' → Own st' (h' ++ r0) → k (.bool (aD r.s).1) st') : au (C base w0 G) 74 [.pointer (some ⟨b, 0, none⟩)] st k q := by
  obtain ⟨nv, kv, R, rfl, _, hop⟩ := hR.open
  exact au.enter Tryz.func74 rfl (by kernel_rfl) (gy st (R ++ r0) b r.s nv kv r.done hO _ _ fun st' hs => h1 _ st' (hop _) hs)
theorem zm (st : St) (r0 h : Hp) (b : Nat) (r : RS) (t : Tx) (hM : eG w0) (hl : r.s.length ≤ 1000000) (hR : RdH b r h) (hO : Own st (h ++ r0)) (k q : Value → St → Prop)
    (h1 : ∀ v s' h' st', aZ t r.s = .ok (v, s') → RdH b { r with s := s' } h' → Own st' (h' ++ r0) → k (.string (tx v)) st')
    (h2 : ∀ e st', aZ t r.s = .error e → Own st' r0 → q (fV e) st') : au (C base w0 3) 77 [.pointer (some ⟨b, 0, none⟩), .string (tx t)] st k q := by
  obtain ⟨nv, kv, R, rfl, _, hop⟩ := hR.open
  exact au.enter Tryz.func77 rfl (by kernel_rfl) (rO st (R ++ r0) b r.s t nv kv r.done hM (by omega) hO _ _ (fun v s' st' he hs => h1 v s' _ st' he (hop _) hs) fun e st' he hs => h2 e st' he hs.right)
theorem Li (st : St) (r0 h : Hp) (b : Nat) (r : RS) (hM : eG w0) (hT : dw w0) (hl : r.s.length ≤ 1000000) (hR : RdH b r h) (hO : Own st (h ++ r0)) (k q : Value → St → Prop)
    (h1 : ∀ v s' h' st', dF r.s = .ok (v, s') → RdH b { r with s := s' } h' → Own st' (h' ++ r0) → k (.string (tx v)) st')
    (h2 : ∀ e st', dF r.s = .error e → Own st' r0 → q (fV e) st') : au (C base w0 3) 104 [.pointer (some ⟨b, 0, none⟩)] st k q := by
  obtain ⟨nv, kv, R, rfl, _, hop⟩ := hR.open
  exact au.enter Tryz.func104 rfl (by kernel_rfl) (lC st (R ++ r0) b r.s nv kv r.done hM hT hl hO _ _ (fun v s' st' he hs => h1 v s' _ st' he (hop _) hs) fun e st' he hs => h2 e st' he hs.right)
theorem Bc (st : St) (r0 h : Hp) (b : Nat) (r : RS) (hT : dw w0) (hl : r.s.length ≤ 1000000) (hR : RdH b r h) (hO : Own st (h ++ r0)) (k q : Value → St → Prop)
    (h1 : ∀ v s' h' st', refF r.s = .ok (v, s') → RdH b { r with s := s' } h' → Own st' (h' ++ r0) → k (.string (tx v)) st')
    (h2 : ∀ e st', refF r.s = .error e → Own st' r0 → q (fV e) st') : au (C base w0 3) 60 [.pointer (some ⟨b, 0, none⟩)] st k q := by
  obtain ⟨nv, kv, R, rfl, _, hop⟩ := hR.open
  exact au.enter Tryz.func60 rfl (by kernel_rfl) (lY st (R ++ r0) b r.s nv kv r.done hT hl hO _ _ (fun v s' st' he hs => h1 v s' _ st' he (hop _) hs) fun e st' he hs => h2 e st' he hs.right)
theorem JQ (st : St) (r0 h : Hp) (b : Nat) (r : RS) (hM : eG w0) (hl : r.s.length ≤ 1000000) (hR : RdH b r h) (hO : Own st (h ++ r0)) (k q : Value → St → Prop)
    (h1 : ∀ s' h' st', fJ r.s = .ok s' → RdH b { r with s := s' } h' → Own st' (h' ++ r0) → k (.tuple #[]) st')
    (h2 : ∀ e st', fJ r.s = .error e → Own st' r0 → q (fV e) st') : au (C base w0 3) 55 [.pointer (some ⟨b, 0, none⟩)] st k q := by
  obtain ⟨nv, kv, R, rfl, _, hop⟩ := hR.open
  exact au.enter Tryz.func55 rfl (by kernel_rfl) (A8 st (R ++ r0) b r.s nv kv r.done hM hl hO _ _ (fun s' st' he hs => h1 s' _ st' he (hop _) hs) fun e st' he hs => h2 e st' he hs.right)
theorem eY (st : St) (r0 h : Hp) (b : Nat) (r : RS) (hR : RdH b r h) (hO : Own st (h ++ r0)) (k q : Value → St → Prop)
    (h1 : r.stk ≠ [] → k (.bool true) st) (h2 : r.stk = [] → k (.bool false) st) : au (C base w0 G) 57 [.pointer (some ⟨b, 0, none⟩)] st k q := by
  obtain ⟨nv, kv, R, rfl, ⟨ka, kc, rfl⟩, hop⟩ := hR.open
  refine au.enter Tryz.func57 rfl (by kernel_rfl) (pK st (R ++ r0) b r.stk.length kc r.s nv ka r.done hO _ _ ?_)
  by_cases hs : r.stk = []
  · rw [hs]; exact h2 hs
  · rw [decide_eq_true (List.length_pos_iff.2 hs)]; exact h1 hs
theorem eZ (st : St) (b : Bool) (k q : Value → St → Prop) (hk : b = true → k (.tuple #[]) st) (hq : b = false → q (fV 10) st) : au (C base w0 G) 61 [.bool b] st k q :=
  au.enter Tryz.func61 rfl (by kernel_rfl) (aC st b k q hk hq)
theorem Kw (st : St) (r0 h : Hp) (b : Nat) (r : RS) (n : Nd) (hR : RdH b r h) (hI : RI r) (h3 : n.kids = []) (h4 : n.atts = []) (h5 : n.dcls = []) (hO : Own st (h ++ r0)) (k q : Value → St → Prop)
    (h1 : ∀ i r' h' st', addF n r = .ok (i, r') → RdH b r' h' → Own st' (h' ++ r0) → k (.int .i64 (i : Nat)) st')
    (h2 : ∀ e st', addF n r = .error e → Own st' r0 → q (fV e) st') : au (C base w0 G) 81 [.pointer (some ⟨b, 0, none⟩), .agg #[.int .i64 n.kind, .int .i64 n.par, .slice none 0 0, .string (tx n.pre), .string (tx n.loc), .string (tx n.spc), .slice none 0 0, .slice none 0 0, .string (tx n.val)]] st k q :=
  au.enter Tryz.func81 rfl (by kernel_rfl) (qV st r0 h [] b r n (ndC n (.slice none 0 0) (.slice none 0 0) (.slice none 0 0)) hR hI ⟨_, _, _, [], [], [], rfl, rfl, by rw [h3]; exact .nil, by rw [h4]; exact .nil, by rw [h5]; exact .nil⟩ hO _ _ h1 h2)
set_option maxRecDepth 10000 in
theorem wu (st : St) (r0 h : Hp) (b : Nat) (r : RS) (hM : eG w0) (hR : RdH b r h) (hI : RI r) (hO : Own st (h ++ r0)) (k q : Value → St → Prop)
    (hk : ∀ r' h' st', aS r = .ok r' → RdH b r' h' → Own st' (h' ++ r0) → k (.tuple #[]) st')
    (hq : ∀ e st', aS r = .error e → Own st' r0 → q (fV e) st') : ay (C base w0 3) 75 [.pointer (some ⟨b, 0, none⟩)] st k q := by
  refine ay.of (cx := C base w0 3) mixed Tryz.func75 rfl (by kernel_rfl) (by simp [Tryz.ntmps75]) ?_
  simp only [Tryz.results75]
  have e45 : (⟨#[45, 45]⟩ : ByteArray) = tx [45, 45] := rfl
  have e62 : (⟨#[62]⟩ : ByteArray) = tx [62] := rfl
  have e0 : (⟨#[]⟩ : ByteArray) = tx [] := rfl
  have hl := hI.left
  simp -implicitDefEqProofs only [go_sem, ↓aj, ↓ah, ak, Nat.reduceBEq, ↓reduceIte, reduceCtorEq, Nat.reduceEqDiff, Nat.reduceAdd, Nat.reduceLeDiff, Int.reduceEq, Int.reduceLT, Int.reduceLE, Int.reduceAdd, Int.reduceToNat, Int.reduceNeg, Nat.reduceMul, Nat.reduceSub, Int.reduceBNe, Int.reduceBEq, e45]
  refine zm st r0 h b r [45, 45] hM hl hR hO _ _ (fun v s1 h1 st1 he1 hR1 hO1 => ?_) (fun e st1 he1 hO1 => hq e _ (by unfold aS; rw [he1]) hO1)
  have hul := (lG he1).2
  have hF : aS r = if (hasF [62] s1).1 then
      (if r.stk = [] then .ok { r with s := (hasF [62] s1).2 } else match addF { nd0 with kind := 3, val := v } { r with s := (hasF [62] s1).2 } with
        | .error e => .error e
        | .ok (_, r') => .ok r')
    else .error 10 := by unfold aS; rw [he1]; rfl
  simp -implicitDefEqProofs only [go_sem, ↓aj, ↓ah, ak, Nat.reduceBEq, ↓reduceIte, reduceCtorEq, Nat.reduceEqDiff, Nat.reduceAdd, Nat.reduceLeDiff, Int.reduceEq, Int.reduceLT, Int.reduceLE, Int.reduceAdd, Int.reduceToNat, Int.reduceNeg, Nat.reduceMul, Nat.reduceSub, Int.reduceBNe, Int.reduceBEq, e62]
  refine p8 st1 r0 h1 b { r with s := s1 } [62] hR1 hO1 _ _ (fun hb h2 st2 hR2 hO2 => ?_) (fun hb h2 st2 hR2 hO2 => ?_)
  rotate_left
  · rw [if_neg (by rw [show (hasF [62] s1).1 = false from hb]; decide)] at hF
    simp -implicitDefEqProofs only [go_sem, ↓aj, ↓ah, ak, Nat.reduceBEq, ↓reduceIte, reduceCtorEq, Nat.reduceEqDiff, Nat.reduceAdd, Nat.reduceLeDiff, Int.reduceEq, Int.reduceLT, Int.reduceLE, Int.reduceAdd, Int.reduceToNat, Int.reduceNeg, Nat.reduceMul, Nat.reduceSub, Int.reduceBNe, Int.reduceBEq]
    exact eZ st2 false _ _ (fun h => by cases h) (fun _ => hq 10 _ hF hO2.right)
  rw [if_pos hb] at hF
  simp -implicitDefEqProofs only [go_sem, ↓aj, ↓ah, ak, Nat.reduceBEq, ↓reduceIte, reduceCtorEq, Nat.reduceEqDiff, Nat.reduceAdd, Nat.reduceLeDiff, Int.reduceEq, Int.reduceLT, Int.reduceLE, Int.reduceAdd, Int.reduceToNat, Int.reduceNeg, Nat.reduceMul, Nat.reduceSub, Int.reduceBNe, Int.reduceBEq]
  refine eZ st2 true _ _ (fun _ => ?_) (fun h => by cases h)
  have hle := bD [62] s1
  simp -implicitDefEqProofs only [go_sem, ↓aj, ↓ah, ak, Nat.reduceBEq, ↓reduceIte, reduceCtorEq, Nat.reduceEqDiff, Nat.reduceAdd, Nat.reduceLeDiff, Int.reduceEq, Int.reduceLT, Int.reduceLE, Int.reduceAdd, Int.reduceToNat, Int.reduceNeg, Nat.reduceMul, Nat.reduceSub, Int.reduceBNe, Int.reduceBEq]
  refine eY st2 r0 h2 b _ hR2 hO2 _ _ (fun hs => ?_) (fun hs => ?_)
  · rw [if_neg hs] at hF
    simp -implicitDefEqProofs only [go_sem, ↓aj, ↓ah, ak, Nat.reduceBEq, ↓reduceIte, reduceCtorEq, Nat.reduceEqDiff, Nat.reduceAdd, Nat.reduceLeDiff, Int.reduceEq, Int.reduceLT, Int.reduceLE, Int.reduceAdd, Int.reduceToNat, Int.reduceNeg, Nat.reduceMul, Nat.reduceSub, Int.reduceBNe, Int.reduceBEq, nH, Av, aU, Tryz.underlying55, List.length_cons, List.length_nil, List.set_cons_zero, List.set_cons_succ, List.getElem?_cons_zero, List.getElem?_cons_succ, Option.map_some, List.getElem?_toArray]
    refine Kw st2 r0 h2 b _ { nd0 with kind := 3, val := v } hR2 (hI.less r.done (by show (hasF [62] s1).2.length ≤ _; omega)) rfl rfl rfl hO2 _ _ (fun i r' h' st3 ha hR3 hO3 => ?_) (fun e st3 ha hO3 => ?_)
    · rw [show addF { nd0 with kind := 3, val := v } { r with s := (hasF [62] s1).2 } = _ from ha] at hF
      simp -implicitDefEqProofs only [go_sem, ↓aj, ↓ah, ak, Nat.reduceBEq, ↓reduceIte, reduceCtorEq, Nat.reduceEqDiff, Nat.reduceAdd, Nat.reduceLeDiff, Int.reduceEq, Int.reduceLT, Int.reduceLE, Int.reduceAdd, Int.reduceToNat, Int.reduceNeg, Nat.reduceMul, Nat.reduceSub, Int.reduceBNe, Int.reduceBEq]
      exact hk r' h' _ hF hR3 hO3
    · rw [show addF { nd0 with kind := 3, val := v } { r with s := (hasF [62] s1).2 } = _ from ha] at hF
      exact hq e _ hF hO3
  · rw [if_pos hs] at hF
    simp -implicitDefEqProofs only [go_sem, ↓aj, ↓ah, ak, Nat.reduceBEq, ↓reduceIte, reduceCtorEq, Nat.reduceEqDiff, Nat.reduceAdd, Nat.reduceLeDiff, Int.reduceEq, Int.reduceLT, Int.reduceLE, Int.reduceAdd, Int.reduceToNat, Int.reduceNeg, Nat.reduceMul, Nat.reduceSub, Int.reduceBNe, Int.reduceBEq]
    exact hk _ h2 _ hF hR2 hO2
end Go.Proofs.YtigjbehgfjjlkaaGreatDoor
set_option linter.unusedVariables false
set_option linter.unusedSimpArgs false
namespace Go.Proofs.YtigjbehgfjjlkaaGreatDoor
open Go Go.Abs Go.RowKit Go.Xml
variable {base : Nat} {w0 : World} {G : Nat}
set_option maxRecDepth 10000 in
theorem Dn (st : St) (r0 h : Hp) (b : Nat) (r : RS) (hM : eG w0) (hT : dw w0) (hR : RdH b r h) (hI : RI r) (hO : Own st (h ++ r0)) (k q : Value → St → Prop)
    (hk : ∀ r' h' st', dS r = .ok r' → RdH b r' h' → Own st' (h' ++ r0) → k (.tuple #[]) st')
    (hq : ∀ e st', dS r = .error e → Own st' r0 → q (fV e) st') : ay (C base w0 3) 78 [.pointer (some ⟨b, 0, none⟩)] st k q := by
  refine ay.of (cx := C base w0 3) mixed Tryz.func78 rfl (by kernel_rfl) (by simp [Tryz.ntmps78]) ?_
  simp only [Tryz.results78]
  have ex : (⟨#[120, 109, 108]⟩ : ByteArray) = tx [120, 109, 108] := rfl
  have e58 : (⟨#[58]⟩ : ByteArray) = tx [58] := rfl
  have e63 : (⟨#[63, 62]⟩ : ByteArray) = tx [63, 62] := rfl
  have e0 : (⟨#[]⟩ : ByteArray) = tx [] := rfl
  have hl := hI.left
  simp -implicitDefEqProofs only [go_sem, ↓aj, ↓ah, ak, Nat.reduceBEq, ↓reduceIte, reduceCtorEq, Nat.reduceEqDiff, Nat.reduceAdd, Nat.reduceLeDiff, Int.reduceEq, Int.reduceLT, Int.reduceLE, Int.reduceAdd, Int.reduceToNat, Int.reduceNeg, Nat.reduceMul, Nat.reduceSub, Int.reduceBNe, Int.reduceBEq]
  refine Li st r0 h b r hM hT hl hR hO _ _ (fun nm s1 h1 st1 he1 hR1 hO1 => ?_) (fun e st1 he1 hO1 => hq e _ (by unfold dS; rw [he1]) hO1)
  obtain ⟨l1, l2⟩ := fG he1
  have hF : dS r = if lower nm = [120, 109, 108] ∨ Lib.contains nm [58] = true then .error 10
    else
      if (hasF [63, 62] s1).1 then (if r.stk = [] then .ok { r with s := (hasF [63, 62] s1).2 } else match addF { nd0 with kind := 4, loc := nm, val := [] } { r with s := (hasF [63, 62] s1).2 } with
        | .error e => .error e
        | .ok (_, r') => .ok r')
      else if (aD s1).1 then match aZ [63, 62] (aD s1).2 with
        | .error e => .error e
        | .ok (v, s2) => (if r.stk = [] then .ok { r with s := s2 } else match addF { nd0 with kind := 4, loc := nm, val := v } { r with s := s2 } with
          | .error e => .error e
          | .ok (_, r') => .ok r')
      else .error 10 := by unfold dS; rw [he1]; rfl
  simp -implicitDefEqProofs only [go_sem, ↓aj, ↓ah, ak, Nat.reduceBEq, ↓reduceIte, reduceCtorEq, Nat.reduceEqDiff, Nat.reduceAdd, Nat.reduceLeDiff, Int.reduceEq, Int.reduceLT, Int.reduceLE, Int.reduceAdd, Int.reduceToNat, Int.reduceNeg, Nat.reduceMul, Nat.reduceSub, Int.reduceBNe, Int.reduceBEq]
  refine au.enter Tryz.func101 rfl (by kernel_rfl) (jQ st1 (h1 ++ r0) nm (by omega) hO1 _ _ fun st2 hO2 => ?_)
  by_cases c1 : lower nm = [120, 109, 108]
  · rw [if_pos (.inl c1)] at hF
    simp -implicitDefEqProofs only [go_sem, ↓aj, ↓ah, ak, Nat.reduceBEq, ↓reduceIte, reduceCtorEq, Nat.reduceEqDiff, Nat.reduceAdd, Nat.reduceLeDiff, Int.reduceEq, Int.reduceLT, Int.reduceLE, Int.reduceAdd, Int.reduceToNat, Int.reduceNeg, Nat.reduceMul, Nat.reduceSub, Int.reduceBNe, Int.reduceBEq, ex, dx, decide_eq_true c1, Bool.not_true]
    exact eZ _ false _ _ (fun h => by cases h) (fun _ => hq 10 _ hF hO2.right)
  simp -implicitDefEqProofs only [go_sem, ↓aj, ↓ah, ak, Nat.reduceBEq, ↓reduceIte, reduceCtorEq, Nat.reduceEqDiff, Nat.reduceAdd, Nat.reduceLeDiff, Int.reduceEq, Int.reduceLT, Int.reduceLE, Int.reduceAdd, Int.reduceToNat, Int.reduceNeg, Nat.reduceMul, Nat.reduceSub, Int.reduceBNe, Int.reduceBEq, ex, e58, dx, decide_eq_false c1, Bool.not_false]
  refine nJ nm [58] hM (by omega) _ _ ?_
  cases c2 : Lib.contains nm [58] with
  | true =>
    rw [if_pos (.inr c2)] at hF
    simp -implicitDefEqProofs only [go_sem, ↓aj, ↓ah, ak, Nat.reduceBEq, ↓reduceIte, reduceCtorEq, Nat.reduceEqDiff, Nat.reduceAdd, Nat.reduceLeDiff, Int.reduceEq, Int.reduceLT, Int.reduceLE, Int.reduceAdd, Int.reduceToNat, Int.reduceNeg, Nat.reduceMul, Nat.reduceSub, Int.reduceBNe, Int.reduceBEq, Bool.not_true]
    exact eZ _ false _ _ (fun h => by cases h) (fun _ => hq 10 _ hF hO2.right)
  | false =>
  rw [if_neg (fun h => by rcases h with h | h; exact c1 h; rw [c2] at h; cases h)] at hF
  simp -implicitDefEqProofs only [go_sem, ↓aj, ↓ah, ak, Nat.reduceBEq, ↓reduceIte, reduceCtorEq, Nat.reduceEqDiff, Nat.reduceAdd, Nat.reduceLeDiff, Int.reduceEq, Int.reduceLT, Int.reduceLE, Int.reduceAdd, Int.reduceToNat, Int.reduceNeg, Nat.reduceMul, Nat.reduceSub, Int.reduceBNe, Int.reduceBEq, Bool.not_false]
  refine eZ _ true _ _ (fun _ => ?_) (fun h => by cases h)
  simp -implicitDefEqProofs only [go_sem, ↓aj, ↓ah, ak, Nat.reduceBEq, ↓reduceIte, reduceCtorEq, Nat.reduceEqDiff, Nat.reduceAdd, Nat.reduceLeDiff, Int.reduceEq, Int.reduceLT, Int.reduceLE, Int.reduceAdd, Int.reduceToNat, Int.reduceNeg, Nat.reduceMul, Nat.reduceSub, Int.reduceBNe, Int.reduceBEq, e63, e0]
  refine p8 st2 r0 h1 b { r with s := s1 } [63, 62] hR1 hO2 _ _ (fun hb h2 st3 hR2 hO3 => ?_) (fun hb h2 st3 hR2 hO3 => ?_)
  case' refine_1 =>
    rw [if_pos hb] at hF
    have hle := bD [63, 62] s1
    simp -implicitDefEqProofs only [go_sem, ↓aj, ↓ah, ak, Nat.reduceBEq, ↓reduceIte, reduceCtorEq, Nat.reduceEqDiff, Nat.reduceAdd, Nat.reduceLeDiff, Int.reduceEq, Int.reduceLT, Int.reduceLE, Int.reduceAdd, Int.reduceToNat, Int.reduceNeg, Nat.reduceMul, Nat.reduceSub, Int.reduceBNe, Int.reduceBEq, Bool.not_true]
    have hR5 : RdH b { r with s := (hasF [63, 62] s1).2 } h2 := hR2
    have hO5 := hO3
    clear hR2 hO3
    have hle3 : (hasF [63, 62] s1).2.length ≤ r.s.length := by omega
    generalize (hasF [63, 62] s1).2 = s2 at *
  case' refine_2 =>
    rw [if_neg (by rw [show (hasF [63, 62] s1).1 = false from hb]; decide)] at hF
    have hle := gZ s1
    simp -implicitDefEqProofs only [go_sem, ↓aj, ↓ah, ak, Nat.reduceBEq, ↓reduceIte, reduceCtorEq, Nat.reduceEqDiff, Nat.reduceAdd, Nat.reduceLeDiff, Int.reduceEq, Int.reduceLT, Int.reduceLE, Int.reduceAdd, Int.reduceToNat, Int.reduceNeg, Nat.reduceMul, Nat.reduceSub, Int.reduceBNe, Int.reduceBEq, Bool.not_false]
    refine Lh st3 r0 h2 b _ hR2 hO3 _ _ (fun h3 st4 hR3 hO4 => ?_)
    simp -implicitDefEqProofs only [go_sem, ↓aj, ↓ah, ak, Nat.reduceBEq, ↓reduceIte, reduceCtorEq, Nat.reduceEqDiff, Nat.reduceAdd, Nat.reduceLeDiff, Int.reduceEq, Int.reduceLT, Int.reduceLE, Int.reduceAdd, Int.reduceToNat, Int.reduceNeg, Nat.reduceMul, Nat.reduceSub, Int.reduceBNe, Int.reduceBEq]
    refine eZ _ _ _ _ (fun hv => ?_) (fun hv => ?_)
    rotate_left
    · rw [if_neg (by rw [show (aD s1).1 = false from hv]; decide)] at hF
      exact hq 10 _ hF hO4.right
    rw [if_pos hv] at hF
    simp -implicitDefEqProofs only [go_sem, ↓aj, ↓ah, ak, Nat.reduceBEq, ↓reduceIte, reduceCtorEq, Nat.reduceEqDiff, Nat.reduceAdd, Nat.reduceLeDiff, Int.reduceEq, Int.reduceLT, Int.reduceLE, Int.reduceAdd, Int.reduceToNat, Int.reduceNeg, Nat.reduceMul, Nat.reduceSub, Int.reduceBNe, Int.reduceBEq]
    refine zm st4 r0 h3 b _ [63, 62] hM (by show (aD s1).2.length ≤ _; omega) hR3 hO4 _ _ (fun v s2 h4 st5 he5 hR5 hO5 => ?_) (fun e st5 he5 hO5 => ?_)
    rotate_left
    · rw [show aZ [63, 62] (aD s1).2 = _ from he5] at hF
      exact hq e _ hF hO5
    rw [show aZ [63, 62] (aD s1).2 = _ from he5] at hF
    dsimp only at hF
    have hul := (lG he5).2
    simp -implicitDefEqProofs only [go_sem, ↓aj, ↓ah, ak, Nat.reduceBEq, ↓reduceIte, reduceCtorEq, Nat.reduceEqDiff, Nat.reduceAdd, Nat.reduceLeDiff, Int.reduceEq, Int.reduceLT, Int.reduceLE, Int.reduceAdd, Int.reduceToNat, Int.reduceNeg, Nat.reduceMul, Nat.reduceSub, Int.reduceBNe, Int.reduceBEq]
    have hle3 : s2.length ≤ r.s.length := by
      have : s2.length ≤ (aD s1).2.length := hul
      omega
  all_goals
    refine eY _ r0 _ b { r with s := s2 } hR5 hO5 _ _ (fun hs => ?_) (fun hs => ?_)
    · rw [if_neg hs] at hF
      simp -implicitDefEqProofs only [go_sem, ↓aj, ↓ah, ak, Nat.reduceBEq, ↓reduceIte, reduceCtorEq, Nat.reduceEqDiff, Nat.reduceAdd, Nat.reduceLeDiff, Int.reduceEq, Int.reduceLT, Int.reduceLE, Int.reduceAdd, Int.reduceToNat, Int.reduceNeg, Nat.reduceMul, Nat.reduceSub, Int.reduceBNe, Int.reduceBEq, nH, Av, aU, Tryz.underlying55, List.length_cons, List.length_nil, List.set_cons_zero, List.set_cons_succ, List.getElem?_cons_zero, List.getElem?_cons_succ, Option.map_some, List.getElem?_toArray]
      refine Kw _ r0 _ b { r with s := s2 } { nd0 with kind := 4, loc := nm, val := _ } hR5 (hI.less r.done hle3) rfl rfl rfl hO5 _ _ (fun i r' h' st6 ha hR6 hO6 => ?_) (fun e st6 ha hO6 => ?_)
      · rw [ha] at hF
        simp -implicitDefEqProofs only [go_sem, ↓aj, ↓ah, ak, Nat.reduceBEq, ↓reduceIte, reduceCtorEq, Nat.reduceEqDiff, Nat.reduceAdd, Nat.reduceLeDiff, Int.reduceEq, Int.reduceLT, Int.reduceLE, Int.reduceAdd, Int.reduceToNat, Int.reduceNeg, Nat.reduceMul, Nat.reduceSub, Int.reduceBNe, Int.reduceBEq]
        exact hk r' h' _ hF hR6 hO6
      · rw [ha] at hF
        exact hq e _ hF hO6
    · rw [if_pos hs] at hF
      simp -implicitDefEqProofs only [go_sem, ↓aj, ↓ah, ak, Nat.reduceBEq, ↓reduceIte, reduceCtorEq, Nat.reduceEqDiff, Nat.reduceAdd, Nat.reduceLeDiff, Int.reduceEq, Int.reduceLT, Int.reduceLE, Int.reduceAdd, Int.reduceToNat, Int.reduceNeg, Nat.reduceMul, Nat.reduceSub, Int.reduceBNe, Int.reduceBEq]
      exact hk _ _ _ hF hR5 hO5
set_option maxRecDepth 10000 in
theorem F3 (st : St) (r0 h : Hp) (b : Nat) (r : RS) (hM : eG w0) (hT : dw w0) (hR : RdH b r h) (hI : RI r) (hO : Own st (h ++ r0)) (k q : Value → St → Prop)
    (hk : ∀ r' h' st', endF r = .ok r' → RdH b r' h' → Own st' (h' ++ r0) → k (.tuple #[]) st')
    (hq : ∀ e st', endF r = .error e → Own st' r0 → q (fV e) st') : ay (C base w0 3) 79 [.pointer (some ⟨b, 0, none⟩)] st k q := by
  refine ay.of (cx := C base w0 3) mixed Tryz.func79 rfl (by kernel_rfl) (by simp [Tryz.ntmps79]) ?_
  simp only [Tryz.results79]
  have e62 : (⟨#[62]⟩ : ByteArray) = tx [62] := rfl
  have hl := hI.left
  simp -implicitDefEqProofs only [go_sem, ↓aj, ↓ah, ak, Nat.reduceBEq, ↓reduceIte, reduceCtorEq, Nat.reduceEqDiff, Nat.reduceAdd, Nat.reduceLeDiff, Int.reduceEq, Int.reduceLT, Int.reduceLE, Int.reduceAdd, Int.reduceToNat, Int.reduceNeg, Nat.reduceMul, Nat.reduceSub, Int.reduceBNe, Int.reduceBEq]
  refine eY st r0 h b r hR hO _ _ (fun hs => ?_) (fun hs => ?_)
  rotate_left
  · have hF : endF r = .error 10 := by unfold endF; rw [hs]; rfl
    simp -implicitDefEqProofs only [go_sem, ↓aj, ↓ah, ak, Nat.reduceBEq, ↓reduceIte, reduceCtorEq, Nat.reduceEqDiff, Nat.reduceAdd, Nat.reduceLeDiff, Int.reduceEq, Int.reduceLT, Int.reduceLE, Int.reduceAdd, Int.reduceToNat, Int.reduceNeg, Nat.reduceMul, Nat.reduceSub, Int.reduceBNe, Int.reduceBEq]
    exact eZ _ false _ _ (fun h => by cases h) (fun _ => hq 10 _ hF hO.right)
  simp -implicitDefEqProofs only [go_sem, ↓aj, ↓ah, ak, Nat.reduceBEq, ↓reduceIte, reduceCtorEq, Nat.reduceEqDiff, Nat.reduceAdd, Nat.reduceLeDiff, Int.reduceEq, Int.reduceLT, Int.reduceLE, Int.reduceAdd, Int.reduceToNat, Int.reduceNeg, Nat.reduceMul, Nat.reduceSub, Int.reduceBNe, Int.reduceBEq]
  refine eZ _ true _ _ (fun _ => ?_) (fun h => by cases h)
  obtain ⟨nv, kv, cs, hn, hs', hxs, rfl, hG, hK, hNs⟩ := hR
  obtain ⟨B, ck, D, rfl, hlc, rfl, hcut, hget⟩ := sK hK hs
  have hpos : 0 < r.stk.length := List.length_pos_iff.2 hs
  obtain ⟨⟨p, nm⟩, hlast⟩ : ∃ x, r.stk.getLast? = some x := ⟨r.stk.getLast hs, List.getLast?_eq_some_getLast hs⟩
  have hgl : r.stk[r.stk.length - 1]? = some (p, nm) := by rw [← List.getLast?_eq_getElem?]; exact hlast
  obtain ⟨g1, g2⟩ := hget _ _ hgl
  have hcb := hO.head
  have hcB : st.H B = some (.cells D 109 true) := hO.get (by simp)
  unfold rdC at hcb
  have wk := wk1 hpos (by have := hI.deep; omega)
  have hF : endF r = match dF r.s with
    | .error e => .error e
    | .ok (x, s1) => if x = nm ∧ (hasF [62] (aD s1).2).1 = true then .ok { r with s := (hasF [62] (aD s1).2).2, stk := r.stk.dropLast } else .error 10 := by unfold endF; rw [hlast]; rfl
  simp -implicitDefEqProofs only [go_sem, ↓aj, ↓ah, ak, Nat.reduceBEq, ↓reduceIte, reduceCtorEq, Nat.reduceEqDiff, Nat.reduceAdd, Nat.reduceLeDiff, Int.reduceEq, Int.reduceLT, Int.reduceLE, Int.reduceAdd, Int.reduceToNat, Int.reduceNeg, Nat.reduceMul, Nat.reduceSub, Int.reduceBNe, Int.reduceBEq, hcb, dD, je, Tryz.underlying74, wk]
  refine bG.of [(0, false, []), (2, false, []), (3, false, []), (4, false, []), (5, true, []), (6, false, []), (7, false, []), (8, false, []), (9, true, []), (1, false, [5, 9]), (10, false, []), (11, false, [])] [5, 9] [(5, 1), (9, 1)] (by kernel_rfl) ?_
  simp -implicitDefEqProofs only [go_sem, ↓aj, ↓ah, ak, Nat.reduceBEq, ↓reduceIte, reduceCtorEq, Nat.reduceEqDiff, Nat.reduceAdd, Nat.reduceLeDiff, Int.reduceEq, Int.reduceLT, Int.reduceLE, Int.reduceAdd, Int.reduceToNat, Int.reduceNeg, Nat.reduceMul, Nat.reduceSub, Int.reduceBNe, Int.reduceBEq, hcb, hcB, dD, Aw, asz9, j3, je, Tryz.underlying9, Tryz.underlying74, show (0 ≤ ((r.stk.length - 1 : Nat) : Int)) = True by simp, show (((r.stk.length - 1 : Nat) : Int) < (r.stk.length : Int)) = True by simp; omega, and_self, Int.toNat_natCast, g2]
  have hOr : Own st ((b, .cells (rdC r.s nv (.slice (some ⟨B, 0, some 0⟩) r.stk.length ck) r.done) 76 true) :: (hn ++ ([(B, .cells D 109 true)] ++ (hxs ++ r0)))) := nX hO (by simp [List.append_assoc])
  have out : ∀ {s : St} {e : Nat × Ob}, Own s (e :: (hn ++ ([(B, .cells D 109 true)] ++ (hxs ++ r0)))) → Own s r0 := fun h => h.tail.right.right.right
  refine au.enter Tryz.func104 rfl (by kernel_rfl) (lC st _ b r.s nv _ r.done hM hT (by omega) hOr _ _ (fun x s1 st1 he1 hs1 => ?_) (fun e st1 he1 hs1 => ?_))
  rotate_left
  · rw [he1] at hF
    exact hq e _ hF hs1.right.right.right
  rw [he1] at hF
  dsimp only at hF
  have l2 := (fG he1).2
  have hcb1 := hs1.head
  have hcB1 : st1.H B = some (.cells D 109 true) := hs1.get (by simp)
  unfold rdC at hcb1
  simp -implicitDefEqProofs only [go_sem, ↓aj, ↓ah, ak, Nat.reduceBEq, ↓reduceIte, reduceCtorEq, Nat.reduceEqDiff, Nat.reduceAdd, Nat.reduceLeDiff, Int.reduceEq, Int.reduceLT, Int.reduceLE, Int.reduceAdd, Int.reduceToNat, Int.reduceNeg, Nat.reduceMul, Nat.reduceSub, Int.reduceBNe, Int.reduceBEq, hcb1, hcB1, dD, Aw, asz9, j3, je, Tryz.underlying9, Tryz.underlying74, g2, aA]
  refine eZ _ _ _ _ (fun hv => ?_) (fun hv => ?_)
  rotate_left
  · have hne : ¬ x = nm := by simpa using hv
    rw [if_neg (fun h => hne h.1)] at hF
    exact hq 10 _ hF (out hs1)
  have hxe : x = nm := by simpa using hv
  simp -implicitDefEqProofs only [go_sem, ↓aj, ↓ah, ak, Nat.reduceBEq, ↓reduceIte, reduceCtorEq, Nat.reduceEqDiff, Nat.reduceAdd, Nat.reduceLeDiff, Int.reduceEq, Int.reduceLT, Int.reduceLE, Int.reduceAdd, Int.reduceToNat, Int.reduceNeg, Nat.reduceMul, Nat.reduceSub, Int.reduceBNe, Int.reduceBEq]
  refine au.enter Tryz.func74 rfl (by kernel_rfl) (gy st1 _ b s1 nv _ r.done hs1 _ _ fun st2 hs2 => ?_)
  simp -implicitDefEqProofs only [go_sem, ↓aj, ↓ah, ak, Nat.reduceBEq, ↓reduceIte, reduceCtorEq, Nat.reduceEqDiff, Nat.reduceAdd, Nat.reduceLeDiff, Int.reduceEq, Int.reduceLT, Int.reduceLE, Int.reduceAdd, Int.reduceToNat, Int.reduceNeg, Nat.reduceMul, Nat.reduceSub, Int.reduceBNe, Int.reduceBEq, e62]
  refine au.enter Tryz.func58 rfl (by kernel_rfl) (fF st2 _ b _ [62] nv _ r.done hs2 _ _ fun st3 hs3 => ?_)
  simp -implicitDefEqProofs only [go_sem, ↓aj, ↓ah, ak, Nat.reduceBEq, ↓reduceIte, reduceCtorEq, Nat.reduceEqDiff, Nat.reduceAdd, Nat.reduceLeDiff, Int.reduceEq, Int.reduceLT, Int.reduceLE, Int.reduceAdd, Int.reduceToNat, Int.reduceNeg, Nat.reduceMul, Nat.reduceSub, Int.reduceBNe, Int.reduceBEq]
  refine eZ _ _ _ _ (fun hv => ?_) (fun hv => ?_)
  rotate_left
  · rw [if_neg (fun h => by rw [h.2] at hv; cases hv)] at hF
    exact hq 10 _ hF (out hs3)
  rw [if_pos ⟨hxe, hv⟩] at hF
  have hcb3 := hs3.head
  have hcB3 : st3.H B = some (.cells D 109 true) := hs3.get (by simp)
  unfold rdC at hcb3
  have hsl : aslice Tryz.prog st3 74 (.slice (some ⟨B, 0, some 0⟩) r.stk.length ck) none (some (.int .i64 ((r.stk.length - 1 : Nat) : Int))) none = some (.slice (some ⟨B, 0, some 0⟩) (r.stk.length - 1) ck) := by
    have := qL (P := Tryz.prog) (st := st3) (off := 0) Tryz.underlying74 j3 (mg hcB3 j3) (nS (len := r.stk.length) (cap := ck) (hi := r.stk.length - 1) (by omega))
    rw [Nat.zero_mul] at this
    exact this
  have hs4 := hs3.set rfl (.cells (rdC (hasF [62] (aD s1).2).2 nv (.slice (some ⟨B, 0, some 0⟩) (r.stk.length - 1) ck) r.done) 76 true) rfl
  simp -implicitDefEqProofs only [go_sem, ↓aj, ↓ah, ak, Nat.reduceBEq, ↓reduceIte, reduceCtorEq, Nat.reduceEqDiff, Nat.reduceAdd, Nat.reduceLeDiff, Int.reduceEq, Int.reduceLT, Int.reduceLE, Int.reduceAdd, Int.reduceToNat, Int.reduceNeg, Nat.reduceMul, Nat.reduceSub, Int.reduceBNe, Int.reduceBEq, hcb3, dD, je, Tryz.underlying74, hsl, List.length_cons, List.length_nil, List.set_cons_zero, List.set_cons_succ]
  exact hk _ _ _ hF ⟨nv, .slice (some ⟨B, 0, some 0⟩) (r.stk.length - 1) ck, cs, hn, [(B, .cells D 109 true)], hxs, rfl, hG, JK hcut hlc, hNs⟩ (nX hs4 (by simp [List.append_assoc]))
end Go.Proofs.YtigjbehgfjjlkaaGreatDoor
set_option linter.unusedVariables false
set_option linter.unusedSimpArgs false
namespace Go.Proofs.YtigjbehgfjjlkaaGreatDoor
open Go Go.Abs Go.RowKit Go.Xml
theorem wY {ns : List Nd} {p c : Nat} {n : Nd} (h : n ∈ aB ns p c) : n ∈ ns ∨ ∃ m ∈ ns, n = { m with kids := m.kids ++ [c] } := by
  unfold aB at h
  by_cases hp : p < ns.length
  · rw [nY _ (List.getElem?_eq_getElem hp)] at h
    rcases List.mem_or_eq_of_mem_set h with h | h
    · exact .inl h
    · exact .inr ⟨ns[p], List.getElem_mem hp, h⟩
  · have : ns.modify p (fun n => { n with kids := n.kids ++ [c] }) = ns := by
      apply List.ext_getElem?
      intro i
      rw [List.getElem?_modify]
      by_cases e : p = i
      · subst e; rw [List.getElem?_eq_none (by omega)]; rfl
      · simp [e]
    rw [this] at h
    exact .inl h
theorem aQ (ns : List Nd) (p c : Nat) : (aB ns p c).length = ns.length := by unfold aB; exact List.length_modify ..
theorem zo {r r' : RS} {n : Nd} {i : Nat} (h : RI r) (hn : n.kids = []) (hd : n.dcls.length ≤ 1000000) (hv : n.val.length + 5 * r.s.length ≤ 5000000) (ha : addF n r = .ok (i, r')) : RI r' ∧ i = r.ns.length ∧ r'.ns.length = r.ns.length + 1 := by
  have h0 := h.many
  have key : ∀ (ns' : List Nd) (x : Int), ns'.length = r.ns.length → (∀ m ∈ ns', m ∈ r.ns ∨ ∃ m' ∈ r.ns, m = { m' with kids := m'.kids ++ [r.ns.length] }) → r.ns.length ≠ 4096 →
      RI { r with ns := ns' ++ [{ n with par := x }] } := fun ns' x hl hm h4 => by
    have hlen : (ns' ++ [{ n with par := x }]).length = r.ns.length + 1 := by rw [List.length_append, hl]; rfl
    refine ⟨by show (ns' ++ [{ n with par := x }]).length ≤ _; omega, h.deep, h.left, fun y hy => ?_, fun m hm' => ?_, fun m hm' => ?_, fun m hm' => ?_⟩
    · have := h.stk y hy
      show y.1 < (ns' ++ [{ n with par := x }]).length ∧ _
      exact ⟨by omega, this.2⟩
    · show m.kids.length ≤ (ns' ++ [{ n with par := x }]).length ∧ ∀ c ∈ m.kids, c < (ns' ++ [{ n with par := x }]).length
      rw [hlen]
      rcases List.mem_append.1 hm' with hm' | hm'
      · rcases hm m hm' with g | ⟨m', g, rfl⟩
        · have := h.kids m g
          exact ⟨by omega, fun c hc => by have := this.2 c hc; omega⟩
        · have := h.kids m' g
          refine ⟨by show (m'.kids ++ [_]).length ≤ _; rw [List.length_append, List.length_singleton]; omega, fun c hc => ?_⟩
          rcases List.mem_append.1 hc with hc | hc
          · have := this.2 c hc; omega
          · simp at hc; omega
      · rw [List.mem_singleton.1 hm']
        show n.kids.length ≤ _ ∧ ∀ c ∈ n.kids, _
        rw [hn]
        exact ⟨Nat.zero_le _, fun c hc => by cases hc⟩
    · rcases List.mem_append.1 hm' with hm' | hm'
      · rcases hm m hm' with g | ⟨m', g, rfl⟩
        · exact h.val m g
        · exact h.val m' g
      · rw [List.mem_singleton.1 hm']; exact hv
    · rcases List.mem_append.1 hm' with hm' | hm'
      · rcases hm m hm' with g | ⟨m', g, rfl⟩
        · exact h.dcl m g
        · exact h.dcl m' g
      · rw [List.mem_singleton.1 hm']; exact hd
  unfold addF at ha
  split at ha
  · cases ha
  rename_i h4
  split at ha
  · injection ha with ha
    simp only [Prod.mk.injEq] at ha
    obtain ⟨rfl, rfl⟩ := ha
    exact ⟨key r.ns (-1) rfl (fun m hm => .inl hm) h4, rfl, by simp⟩
  · rename_i p nm hl
    injection ha with ha
    simp only [Prod.mk.injEq] at ha
    obtain ⟨rfl, rfl⟩ := ha
    exact ⟨key (aB r.ns p r.ns.length) p (aQ ..) (fun m hm => wY hm) h4, rfl, by simp [aQ]⟩
theorem Ij {r r' : RS} {t : Tx} (h : RI r) (hv : ∀ n ∈ r.ns, n.val.length + t.length + 5 * r.s.length ≤ 5000000) (ht : t.length + 5 * r.s.length ≤ 5000000) (ha : aW t r = .ok r') : RI r' ∧ r'.s = r.s := by
  unfold aW at ha
  split at ha
  · injection ha with ha; subst ha; exact ⟨h, rfl⟩
  split at ha
  · cases ha
  rename_i p nm hl
  split at ha
  · rename_i c hc
    injection ha with ha
    subst ha
    refine ⟨?_, rfl⟩
    by_cases hcl : c < r.ns.length
    · have e : r.ns.modify c (fun n => { n with val := n.val ++ t }) = r.ns.set c { r.ns[c] with val := r.ns[c].val ++ t } := nY _ (List.getElem?_eq_getElem hcl)
      have hlen : (r.ns.modify c (fun n => { n with val := n.val ++ t })).length = r.ns.length := List.length_modify ..
      have hm : ∀ m ∈ r.ns.modify c (fun n => { n with val := n.val ++ t }), m ∈ r.ns ∨ ∃ m' ∈ r.ns, m = { m' with val := m'.val ++ t } := fun m hm => by
        rw [e] at hm
        rcases List.mem_or_eq_of_mem_set hm with g | g
        · exact .inl g
        · exact .inr ⟨_, List.getElem_mem hcl, g⟩
      refine ⟨by show List.length _ ≤ _; rw [hlen]; exact h.many, h.deep, h.left, fun y hy => ?_, fun m hm' => ?_, fun m hm' => ?_, fun m hm' => ?_⟩
      · show y.1 < List.length _ ∧ _
        rw [hlen]; exact h.stk y hy
      · show m.kids.length ≤ List.length _ ∧ ∀ c ∈ m.kids, c < List.length _
        rw [hlen]
        rcases hm m hm' with g | ⟨m', g, rfl⟩
        · exact h.kids m g
        · exact h.kids m' g
      · rcases hm m hm' with g | ⟨m', g, rfl⟩
        · exact h.val m g
        · have := hv m' g
          show (m'.val ++ t).length + _ ≤ _
          rw [List.length_append]; exact this
      · rcases hm m hm' with g | ⟨m', g, rfl⟩
        · exact h.dcl m g
        · exact h.dcl m' g
    · have e : r.ns.modify c (fun n => { n with val := n.val ++ t }) = r.ns := by
        apply List.ext_getElem?
        intro i
        rw [List.getElem?_modify]
        by_cases e : c = i
        · subst e; rw [List.getElem?_eq_none (by omega)]; rfl
        · simp [e]
      show RI { r with ns := r.ns.modify c (fun n => { n with val := n.val ++ t }) }
      rw [e]
      exact h
  · split at ha
    · rename_i i r2 hadd
      injection ha with ha
      subst ha
      exact ⟨(zo h rfl (Nat.zero_le _) ht hadd).1, (nu hadd).2.2⟩
    · cases ha
theorem lH {t s : Tx} (h : (hasF t s).1 = true) (ht : t ≠ []) : (hasF t s).2.length + t.length = s.length := by
  rw [uI] at h
  rw [uJ, h, if_pos rfl, List.length_drop]
  have := (List.isPrefixOf_iff_prefix.1 h).length_le
  omega
theorem Dp (nm v : Tx) (n : Nd) : (bE nm v n).val = n.val := by
  unfold bE
  split
  · rfl
  split
  · split <;> rfl
  · rfl
theorem uS : ∀ (f : Nat) {nms nms' : List Tx} {n n' : Nd} {s s' : Tx}, bC f nms n s = .ok (nms', n', s') → n'.kids = n.kids ∧ n'.val = n.val ∧ n'.dcls.length + s'.length ≤ n.dcls.length + s.length
  | 0, nms, nms', n, n', s, s', h => by cases h
  | f + 1, nms, nms', n, n', s, s', h => by
    unfold bC at h
    have hk := gZ s
    split at h
    · rename_i hcond
      split at h
      · cases h
      · rename_i nm s1 h1
        split at h
        · cases h
        · rename_i s2 h2
          split at h
          · cases h
          · rename_i v s3 h3
            obtain ⟨i1, i2, i3⟩ := uS f h
            have g1 := (fG h1).2
            have g2 := pW h2
            have g3 := qX h3
            obtain ⟨p1, _, p3⟩ := rT nm v n
            have hlt : (aD s).2.length < s.length := by
              simp only [Bool.and_eq_true] at hcond
              have := hcond.1.1
              unfold aD at this ⊢
              simpa using this
            exact ⟨i1.trans p1, i2.trans (Dp nm v n), by omega⟩
    · injection h with h
      simp only [Prod.mk.injEq] at h
      obtain ⟨_, rfl, rfl⟩ := h
      exact ⟨rfl, rfl, by omega⟩
theorem rU {r : RS} {n n' : Nd} (h : bH r n = .ok n') : n'.val = n.val := by
  unfold bH at h
  split at h
  · cases h
  split at h
  · split at h
    · injection h with h; rw [← h]
    · cases h
  · cases h
theorem wZ (nm : Tx) : (cZ nm).kids = [] ∧ (cZ nm).val = [] ∧ (cZ nm).dcls = [] := by
  unfold cZ
  split <;> exact ⟨rfl, rfl, rfl⟩
theorem F4 {r r' : RS} (h : RI r) (ha : bI r = .ok r') : RI r' ∧ r'.s.length ≤ r.s.length := by
  unfold bI at ha
  split at ha
  · cases ha
  split at ha
  · cases ha
  rename_i nm s1 h1
  split at ha
  · cases ha
  rename_i nms n s2 h2
  split at ha
  · cases ha
  split at ha
  · cases ha
  split at ha
  · cases ha
  split at ha
  · cases ha
  rename_i n' h3
  split at ha
  · cases ha
  rename_i h32
  split at ha
  · cases ha
  rename_i a r1 h4
  injection ha with ha
  subst ha
  obtain ⟨l1, l2⟩ := fG h1
  have l3 := og _ h2
  obtain ⟨b1, b2, b3⟩ := uS _ h2
  obtain ⟨c1, c2, c3⟩ := wZ nm
  obtain ⟨d1, d2⟩ := pY h3
  have d3 := rU h3
  have l4 : (hasF [62] (hasF [47] s2).2).2.length ≤ s2.length := Nat.le_trans (bD _ _) (bD _ _)
  have hl := h.left
  have hdp := h.deep
  rw [c3] at b3
  have hI := zo (h.less (s := (hasF [62] (hasF [47] s2).2).2) r.done (by omega)) (by rw [d1, b1, c1]) (by rw [d2]; simp at b3; omega) (by rw [d3, b2, c2]; show 0 + 5 * (hasF [62] (hasF [47] s2).2).2.length ≤ _; omega) h4
  obtain ⟨hI1, hI2, hI3⟩ := hI
  obtain ⟨q1, q2, q3⟩ := nu h4
  have q3' : r1.s.length = (hasF [62] (hasF [47] s2).2).2.length := congrArg List.length q3
  refine ⟨⟨hI1.many, ?_, hI1.left, ?_, hI1.kids, hI1.val, hI1.dcl⟩, by show r1.s.length ≤ _; omega⟩
  · show (if (hasF [47] s2).1 then r1.stk else r1.stk ++ [(a, nm)]).length ≤ 32
    split
    · exact hI1.deep
    · rw [List.length_append, q1]; show r.stk.length + 1 ≤ 32; omega
  · intro x hx
    have hx' : x ∈ r1.stk ∨ x = (a, nm) := by
      change x ∈ (if (hasF [47] s2).1 then r1.stk else r1.stk ++ [(a, nm)]) at hx
      split at hx
      · exact .inl hx
      · rcases List.mem_append.1 hx with hx | hx
        · exact .inl hx
        · exact .inr (List.mem_singleton.1 hx)
    rcases hx' with hx | rfl
    · exact hI1.stk x hx
    · exact ⟨by show a < r1.ns.length; rw [hI2, hI3]; exact Nat.lt_succ_self _, by show nm.length ≤ _; omega⟩
theorem JR {r r' : RS} (h : RI r) (ha : endF r = .ok r') : RI r' ∧ r'.s.length ≤ r.s.length := by
  unfold endF at ha
  split at ha
  · cases ha
  split at ha
  · cases ha
  rename_i x s1 h1
  split at ha
  · injection ha with ha
    subst ha
    have l1 := (fG h1).2
    have l2 := gZ s1
    have l3 := bD [62] (aD s1).2
    have hI := h.less (s := (hasF [62] (aD s1).2).2) r.done (by omega)
    refine ⟨⟨h.many, ?_, hI.left, ?_, h.kids, hI.val, h.dcl⟩, by show (hasF [62] (aD s1).2).2.length ≤ _; omega⟩
    · have := h.deep
      show r.stk.dropLast.length ≤ 32
      rw [List.length_dropLast]; omega
    · intro y hy
      exact h.stk y (List.dropLast_subset _ hy)
  · cases ha
theorem zq {r r' : RS} {n : Nd} {s : Tx} (h : RI r) (hs : s.length ≤ r.s.length) (hn : n.kids = []) (hd : n.dcls = []) (hv : n.val.length + 5 * s.length ≤ 5000000)
    (ha : (if r.stk = [] then (Except.ok { r with s := s } : Ex RS) else match addF n { r with s := s } with
          | .error e => .error e
          | .ok (_, r') => .ok r') = .ok r') : RI r' ∧ r'.s.length ≤ r.s.length := by
  split at ha
  · injection ha with ha; subst ha; exact ⟨h.less r.done hs, hs⟩
  · split at ha
    · cases ha
    · rename_i i r1 h1
      injection ha with ha; subst ha
      have := zo (h.less (s := s) r.done hs) hn (by rw [hd]; exact Nat.zero_le _) hv h1
      have q3 := (nu h1).2.2
      have q3' : r1.s.length = s.length := congrArg List.length q3
      exact ⟨this.1, by omega⟩
theorem lI {t s v s' : Tx} (h : aZ t s = .ok (v, s')) : v.length + s'.length ≤ s.length := by
  unfold aZ at h
  split at h
  · rename_i hc
    injection h with h
    simp only [Prod.mk.injEq] at h
    obtain ⟨rfl, rfl⟩ := h
    unfold Lib.cut at hc ⊢
    split
    · rename_i hi
      show (s.take _).length + (s.drop _).length ≤ _
      rw [List.length_take, List.length_drop]
      omega
    · rename_i hi
      rw [if_neg hi] at hc
      cases hc
  · cases h
theorem Bd {r r' : RS} (h : RI r) (ha : aS r = .ok r') : RI r' ∧ r'.s.length ≤ r.s.length := by
  unfold aS at ha
  split at ha
  · cases ha
  rename_i v s1 h1
  have l1 := lI h1
  have l2 := bD [62] s1
  have hl := h.left
  split at ha
  · exact zq (n := { nd0 with kind := 3, val := v }) h (by omega) rfl rfl (by show v.length + _ ≤ _; omega) ha
  · cases ha
theorem Ik {r r' : RS} (h : RI r) (ha : dS r = .ok r') : RI r' ∧ r'.s.length ≤ r.s.length := by
  unfold dS at ha
  split at ha
  · cases ha
  rename_i nm s1 h1
  have l1 := (fG h1).2
  have hl := h.left
  split at ha
  · cases ha
  dsimp only at ha
  split at ha
  · have l2 := bD [63, 62] s1
    exact zq (n := { nd0 with kind := 4, loc := nm, val := [] }) h (by omega) rfl rfl (by show 0 + _ ≤ _; omega) ha
  · split at ha
    · split at ha
      · cases ha
      · rename_i v s2 h2
        have l3 := lI h2
        have l4 := gZ s1
        exact zq (n := { nd0 with kind := 4, loc := nm, val := v }) h (by omega) rfl rfl (by show v.length + _ ≤ _; omega) ha
    · cases ha
theorem uT {r r' : RS} {t s : Tx} (h : RI r) (hs : t.length + 5 * s.length ≤ 5 * r.s.length) (ha : aW t { r with s := s } = .ok r') : RI r' ∧ r'.s = s := by
  have hl := h.left
  exact Ij (h.less (s := s) r.done (by omega)) (fun n hn => by have := h.val n hn; show n.val.length + t.length + 5 * s.length ≤ _; omega) (by show t.length + 5 * s.length ≤ _; omega) ha
theorem Lj {r r' : RS} {n : Nd} {i : Nat} (x : Tx) (h : addF n r = .ok (i, r')) : addF n { r with s := x } = .ok (i, { r' with s := x }) := by
  unfold addF at h ⊢
  split at h
  · cases h
  · rename_i h4
    rw [if_neg h4]
    dsimp only
    split at h
    · injection h with h
      simp only [Prod.mk.injEq] at h
      obtain ⟨rfl, rfl⟩ := h
      rfl
    · injection h with h
      simp only [Prod.mk.injEq] at h
      obtain ⟨rfl, rfl⟩ := h
      rfl
theorem zu {r r' : RS} {t : Tx} (x : Tx) (h : aW t r = .ok r') : aW t { r with s := x } = .ok { r' with s := x } := by
  unfold aW at h ⊢
  split at h
  · rename_i ht
    rw [if_pos ht]
    injection h with h; subst h; rfl
  · rename_i ht
    rw [if_neg ht]
    dsimp only
    split at h
    · cases h
    · rename_i p nm hl
      split at h
      · rename_i c hc
        injection h with h; subst h; rfl
      · split at h
        · rename_i i r2 ha
          injection h with h; subst h
          rw [Lj x ha]
        · cases h
theorem Bf {s sg : Tx} {c : UInt8} (hs : s.head? = some c) (hc : sg.contains c = false) : 0 < upTo s sg := by
  cases s with
  | nil => cases hs
  | cons a l =>
    simp at hs; subst hs
    unfold upTo
    rw [List.takeWhile_cons_of_pos (by rw [hc]; rfl)]
    simp
theorem Il {r r' : RS} (h : RI r) (hh : r.s.head? = some 60) (ha : iy r = .ok r') : RI r' ∧ r'.s.length < r.s.length := by
  have hl := h.left
  unfold iy at ha
  split at ha
  · rename_i hb
    have := lH hb (by decide)
    have e : ([60, 33, 45, 45] : Tx).length = 4 := rfl
    obtain ⟨g1, g2⟩ := Bd (h.less (s := (hasF [60, 33, 45, 45] r.s).2) r.done (by omega)) ha
    exact ⟨g1, by have : r'.s.length ≤ (hasF [60, 33, 45, 45] r.s).2.length := g2; omega⟩
  split at ha
  · cases ha
  split at ha
  · rename_i hc
    split at ha
    · cases ha
    · rename_i t s1 h1
      have g0 := lH hc.2 (by decide)
      have e : iR.length = 9 := rfl
      have g1 := lI h1
      obtain ⟨i1, i2⟩ := uT h (by omega) ha
      exact ⟨i1, by rw [i2]; omega⟩
  split at ha
  · rename_i hb
    have := lH hb (by decide)
    have e : ([60, 63] : Tx).length = 2 := rfl
    obtain ⟨g1, g2⟩ := Ik (h.less (s := (hasF [60, 63] r.s).2) r.done (by omega)) ha
    exact ⟨g1, by have : r'.s.length ≤ (hasF [60, 63] r.s).2.length := g2; omega⟩
  split at ha
  · rename_i hb
    have := lH hb (by decide)
    have e : ([60, 47] : Tx).length = 2 := rfl
    obtain ⟨g1, g2⟩ := JR (h.less (s := (hasF [60, 47] r.s).2) r.done (by omega)) ha
    exact ⟨g1, by have : r'.s.length ≤ (hasF [60, 47] r.s).2.length := g2; omega⟩
  split at ha
  · rename_i hb
    have := lH hb (by decide)
    have e : ([60] : Tx).length = 1 := rfl
    obtain ⟨g1, g2⟩ := F4 (h.less (s := (hasF [60] r.s).2) r.done (by omega)) ha
    exact ⟨g1, by have : r'.s.length ≤ (hasF [60] r.s).2.length := g2; omega⟩
  · rename_i hb
    exfalso
    apply hb
    rw [uI]
    cases hr : r.s with
    | nil => rw [hr] at hh; cases hh
    | cons c l => rw [hr] at hh; simp at hh; subst hh; rfl
theorem F5 {r r' : RS} {c : UInt8} (h : RI r) (hh : r.s.head? = some c) (hc : ([60, 38] : Tx).contains c = false) (ha : gu r = .ok r') : RI r' ∧ r'.s.length < r.s.length := by
  have hp := Bf hh hc
  have hle := y7 r.s [60, 38]
  unfold gu at ha
  generalize upTo r.s [60, 38] = n at *
  have hd : (r.s.drop n).length = r.s.length - n := List.length_drop ..
  split at ha
  · split at ha
    · injection ha with ha; subst ha
      exact ⟨h.less r.done (by omega), by show (r.s.drop n).length < _; omega⟩
    · cases ha
  · split at ha
    · cases ha
    · split at ha
      · cases ha
      · rename_i r1 h1
        injection ha with ha; subst ha
        have h2 := zu (r.s.drop n) h1
        obtain ⟨i1, i2⟩ := uT h (by rw [List.length_take]; omega) h2
        exact ⟨i1, by show (r.s.drop n).length < _; omega⟩
theorem Bg {r r' : RS} (h : RI r) (hne : r.s ≠ []) (ha : aX r = .ok r') : RI r' ∧ r'.s.length < r.s.length := by
  obtain ⟨c, hc⟩ : ∃ c, r.s.head? = some c := by
    cases hr : r.s with
    | nil => exact absurd hr hne
    | cons c l => exact ⟨c, rfl⟩
  unfold aX at ha
  split at ha
  · rename_i h1; exact Il h h1 ha
  · rename_i h1
    split at ha
    · rename_i h2
      split at ha
      · cases ha
      · rename_i t s1 h3
        have g0 := lH h2.2 (by decide)
        have e : ([38] : Tx).length = 1 := rfl
        obtain ⟨g1, g2⟩ := mD h3
        obtain ⟨i1, i2⟩ := uT h (by omega) ha
        exact ⟨i1, by rw [i2]; omega⟩
    · split at ha
      · cases ha
      · rename_i h2 h3
        refine F5 h hc ?_ ha
        have n1 : c ≠ 60 := fun e => h1 (by rw [hc, e])
        have n2 : c ≠ 38 := fun e => h3 (by rw [hc, e])
        simp [n1, n2]
theorem uU {s s' : Tx} (h : fJ s = .ok s') : s'.length ≤ s.length := by
  obtain ⟨cnd, hc⟩ : ∃ cnd : Bool, fJ s = if cnd then
      match dh [118, 101, 114, 115, 105, 111, 110] false [[49, 46, 48]] (hasF wXml s).2 with
      | .error e => .error e
      | .ok (false, _) => .error 10
      | .ok (true, s1) =>
        match dh [101, 110, 99, 111, 100, 105, 110, 103] true [[85, 84, 70, 45, 56]] s1 with
        | .error e => .error e
        | .ok (_, s2) =>
          match dh [115, 116, 97, 110, 100, 97, 108, 111, 110, 101] false [[121, 101, 115], [110, 111]] s2 with
          | .error e => .error e
          | .ok (_, s3) => if (hasF [63, 62] (aD s3).2).1 then .ok (hasF [63, 62] (aD s3).2).2 else .error 10
    else .ok s := ⟨_, rfl⟩
  rw [hc] at h
  cases cnd with
  | false =>
    rw [if_neg (by decide)] at h
    injection h with h
    rw [← h]
    exact Nat.le_refl _
  | true =>
    rw [if_pos rfl] at h
    split at h
    · cases h
    · cases h
    · rename_i s1 h1
      split at h
      · cases h
      · rename_i v2 s2 h2
        split at h
        · cases h
        · rename_i v3 s3 h3
          split at h
          · injection h with h
            rw [← h]
            have a0 := bD wXml s
            have a1 := jG h1
            have a2 := jG h2
            have a3 := jG h3
            have a4 := gZ s3
            have a5 := bD [63, 62] (aD s3).2
            omega
          · cases h
end Go.Proofs.YtigjbehgfjjlkaaGreatDoor
set_option linter.unusedVariables false
set_option linter.unusedSimpArgs false
namespace Go.Proofs.YtigjbehgfjjlkaaGreatDoor
open Go Go.Abs Go.RowKit Go.Xml
variable {base : Nat} {w0 : World} {G : Nat}
set_option maxRecDepth 10000 in
theorem Dq (st : St) (r0 h : Hp) (b : Nat) (r : RS) (hM : eG w0) (hT : dw w0) (hR : RdH b r h) (hI : RI r) (hO : Own st (h ++ r0)) (k q : Value → St → Prop)
    (hk : ∀ r' h' st', iy r = .ok r' → RdH b r' h' → Own st' (h' ++ r0) → k (.tuple #[]) st')
    (hq : ∀ e st', iy r = .error e → Own st' r0 → q (fV e) st') : ay (C base w0 3) 56 [.pointer (some ⟨b, 0, none⟩)] st k q := by
  refine ay.of (cx := C base w0 3) mixed Tryz.func56 rfl (by kernel_rfl) (by simp [Tryz.ntmps56]) ?_
  simp only [Tryz.results56]
  have e1 : (⟨#[60, 33, 45, 45]⟩ : ByteArray) = tx [60, 33, 45, 45] := rfl
  have e2 : (⟨#[60, 33, 68, 79, 67, 84, 89, 80, 69]⟩ : ByteArray) = tx wDoc := rfl
  have e3 : (⟨#[60, 33, 91, 67, 68, 65, 84, 65, 91]⟩ : ByteArray) = tx iR := rfl
  have e4 : (⟨#[93, 93, 62]⟩ : ByteArray) = tx [93, 93, 62] := rfl
  have e5 : (⟨#[60, 63]⟩ : ByteArray) = tx [60, 63] := rfl
  have e6 : (⟨#[60, 47]⟩ : ByteArray) = tx [60, 47] := rfl
  have e7 : (⟨#[60]⟩ : ByteArray) = tx [60] := rfl
  have hl := hI.left
  have hF : iy r = if (hasF [60, 33, 45, 45] r.s).1 then aS { r with s := (hasF [60, 33, 45, 45] r.s).2 }
    else if r.stk = [] ∧ (hasF wDoc r.s).1 = true then .error 30
    else if r.stk ≠ [] ∧ (hasF iR r.s).1 = true then
      match aZ [93, 93, 62] (hasF iR r.s).2 with
      | .error e => .error e
      | .ok (t, s1) => aW t { r with s := s1 }
    else if (hasF [60, 63] r.s).1 then dS { r with s := (hasF [60, 63] r.s).2 }
    else if (hasF [60, 47] r.s).1 then endF { r with s := (hasF [60, 47] r.s).2 }
    else if (hasF [60] r.s).1 then bI { r with s := (hasF [60] r.s).2 }
    else .ok r := rfl
  simp -implicitDefEqProofs only [go_sem, ↓aj, ↓ah, ak, Nat.reduceBEq, ↓reduceIte, reduceCtorEq, Nat.reduceEqDiff, Nat.reduceAdd, Nat.reduceLeDiff, Int.reduceEq, Int.reduceLT, Int.reduceLE, Int.reduceAdd, Int.reduceToNat, Int.reduceNeg, Nat.reduceMul, Nat.reduceSub, Int.reduceBNe, Int.reduceBEq, e1]
  refine p8 st r0 h b r [60, 33, 45, 45] hR hO _ _ (fun hb h1 st1 hR1 hO1 => ?_) (fun hb h1 st1 hR1 hO1 => ?_)
  · rw [if_pos hb] at hF
    simp -implicitDefEqProofs only [go_sem, ↓aj, ↓ah, ak, Nat.reduceBEq, ↓reduceIte, reduceCtorEq, Nat.reduceEqDiff, Nat.reduceAdd, Nat.reduceLeDiff, Int.reduceEq, Int.reduceLT, Int.reduceLE, Int.reduceAdd, Int.reduceToNat, Int.reduceNeg, Nat.reduceMul, Nat.reduceSub, Int.reduceBNe, Int.reduceBEq]
    refine au.enter Tryz.func75 rfl (by kernel_rfl) (wu st1 r0 h1 b _ hM hR1 (hI.less r.done (bD _ _)) hO1 _ _ (fun r' h' st' he hR' hO' => ?_) (fun e st' he hO' => hq e _ (hF.trans he) hO'))
    simp -implicitDefEqProofs only [go_sem, ↓aj, ↓ah, ak, Nat.reduceBEq, ↓reduceIte, reduceCtorEq, Nat.reduceEqDiff, Nat.reduceAdd, Nat.reduceLeDiff, Int.reduceEq, Int.reduceLT, Int.reduceLE, Int.reduceAdd, Int.reduceToNat, Int.reduceNeg, Nat.reduceMul, Nat.reduceSub, Int.reduceBNe, Int.reduceBEq]
    exact hk r' h' _ (hF.trans he) hR' hO'
  rw [if_neg (by rw [hb]; decide)] at hF
  simp -implicitDefEqProofs only [go_sem, ↓aj, ↓ah, ak, Nat.reduceBEq, ↓reduceIte, reduceCtorEq, Nat.reduceEqDiff, Nat.reduceAdd, Nat.reduceLeDiff, Int.reduceEq, Int.reduceLT, Int.reduceLE, Int.reduceAdd, Int.reduceToNat, Int.reduceNeg, Nat.reduceMul, Nat.reduceSub, Int.reduceBNe, Int.reduceBEq]
  have rest : r.stk = [] ∧ (hasF wDoc r.s).1 = true → iy r = .error 30 := fun g => by rw [hF, if_pos g]
  by_cases hs : r.stk = []
  case' pos =>
    refine eY st1 r0 h1 b r hR1 hO1 _ _ (fun g => absurd hs g) (fun _ => ?_)
    simp -implicitDefEqProofs only [go_sem, ↓aj, ↓ah, ak, Nat.reduceBEq, ↓reduceIte, reduceCtorEq, Nat.reduceEqDiff, Nat.reduceAdd, Nat.reduceLeDiff, Int.reduceEq, Int.reduceLT, Int.reduceLE, Int.reduceAdd, Int.reduceToNat, Int.reduceNeg, Nat.reduceMul, Nat.reduceSub, Int.reduceBNe, Int.reduceBEq, Bool.not_false, e2]
    refine p8 st1 r0 h1 b r wDoc hR1 hO1 _ _ (fun hd h2 st2 hR2 hO2 => ?_) (fun hd h2 st2 hR2 hO2 => ?_)
    · simp -implicitDefEqProofs only [go_sem, ↓aj, ↓ah, ak, Nat.reduceBEq, ↓reduceIte, reduceCtorEq, Nat.reduceEqDiff, Nat.reduceAdd, Nat.reduceLeDiff, Int.reduceEq, Int.reduceLT, Int.reduceLE, Int.reduceAdd, Int.reduceToNat, Int.reduceNeg, Nat.reduceMul, Nat.reduceSub, Int.reduceBNe, Int.reduceBEq]
      refine au.enter Tryz.func76 rfl (by kernel_rfl) (dX _ 30 _ _ ?_)
      exact hq 30 _ (rest ⟨hs, hd⟩) hO2.right
    rw [if_neg (fun g => by rw [hd] at g; cases g.2), if_neg (fun g => g.1 hs)] at hF
    simp -implicitDefEqProofs only [go_sem, ↓aj, ↓ah, ak, Nat.reduceBEq, ↓reduceIte, reduceCtorEq, Nat.reduceEqDiff, Nat.reduceAdd, Nat.reduceLeDiff, Int.reduceEq, Int.reduceLT, Int.reduceLE, Int.reduceAdd, Int.reduceToNat, Int.reduceNeg, Nat.reduceMul, Nat.reduceSub, Int.reduceBNe, Int.reduceBEq]
    refine eY st2 r0 h2 b r hR2 hO2 _ _ (fun g => absurd hs g) (fun _ => ?_)
    simp -implicitDefEqProofs only [go_sem, ↓aj, ↓ah, ak, Nat.reduceBEq, ↓reduceIte, reduceCtorEq, Nat.reduceEqDiff, Nat.reduceAdd, Nat.reduceLeDiff, Int.reduceEq, Int.reduceLT, Int.reduceLE, Int.reduceAdd, Int.reduceToNat, Int.reduceNeg, Nat.reduceMul, Nat.reduceSub, Int.reduceBNe, Int.reduceBEq, e5]
    have hR3 := hR2
    have hO3 := hO2
  case' neg =>
    rw [if_neg (fun g => hs g.1)] at hF
    refine eY st1 r0 h1 b r hR1 hO1 _ _ (fun _ => ?_) (fun g => absurd g hs)
    simp -implicitDefEqProofs only [go_sem, ↓aj, ↓ah, ak, Nat.reduceBEq, ↓reduceIte, reduceCtorEq, Nat.reduceEqDiff, Nat.reduceAdd, Nat.reduceLeDiff, Int.reduceEq, Int.reduceLT, Int.reduceLE, Int.reduceAdd, Int.reduceToNat, Int.reduceNeg, Nat.reduceMul, Nat.reduceSub, Int.reduceBNe, Int.reduceBEq, Bool.not_true]
    refine eY st1 r0 h1 b r hR1 hO1 _ _ (fun _ => ?_) (fun g => absurd g hs)
    simp -implicitDefEqProofs only [go_sem, ↓aj, ↓ah, ak, Nat.reduceBEq, ↓reduceIte, reduceCtorEq, Nat.reduceEqDiff, Nat.reduceAdd, Nat.reduceLeDiff, Int.reduceEq, Int.reduceLT, Int.reduceLE, Int.reduceAdd, Int.reduceToNat, Int.reduceNeg, Nat.reduceMul, Nat.reduceSub, Int.reduceBNe, Int.reduceBEq, e3]
    refine p8 st1 r0 h1 b r iR hR1 hO1 _ _ (fun hd h2 st2 hR2 hO2 => ?_) (fun hd h2 st2 hR2 hO2 => ?_)
    · rw [if_pos ⟨hs, hd⟩] at hF
      have hle := bD iR r.s
      simp -implicitDefEqProofs only [go_sem, ↓aj, ↓ah, ak, Nat.reduceBEq, ↓reduceIte, reduceCtorEq, Nat.reduceEqDiff, Nat.reduceAdd, Nat.reduceLeDiff, Int.reduceEq, Int.reduceLT, Int.reduceLE, Int.reduceAdd, Int.reduceToNat, Int.reduceNeg, Nat.reduceMul, Nat.reduceSub, Int.reduceBNe, Int.reduceBEq, e4]
      refine zm st2 r0 h2 b _ [93, 93, 62] hM (by show (hasF iR r.s).2.length ≤ _; omega) hR2 hO2 _ _ (fun t s1 h3 st3 he3 hR3 hO3 => ?_) (fun e st3 he3 hO3 => ?_)
      rotate_left
      · rw [show aZ [93, 93, 62] (hasF iR r.s).2 = _ from he3] at hF
        exact hq e _ hF hO3
      rw [show aZ [93, 93, 62] (hasF iR r.s).2 = _ from he3] at hF
      dsimp only at hF
      have hsum : t.length + s1.length ≤ (hasF iR r.s).2.length := lI he3
      simp -implicitDefEqProofs only [go_sem, ↓aj, ↓ah, ak, Nat.reduceBEq, ↓reduceIte, reduceCtorEq, Nat.reduceEqDiff, Nat.reduceAdd, Nat.reduceLeDiff, Int.reduceEq, Int.reduceLT, Int.reduceLE, Int.reduceAdd, Int.reduceToNat, Int.reduceNeg, Nat.reduceMul, Nat.reduceSub, Int.reduceBNe, Int.reduceBEq]
      refine au.enter Tryz.func59 rfl (by kernel_rfl) (nZ st3 r0 h3 b { r with s := s1 } t hR3 (hI.less r.done (by omega)) hs (by omega) hO3 _ _ (fun r' h' st' he hR' hO' => ?_) (fun e st' he hO' => hq e _ (hF.trans he) hO'))
      simp -implicitDefEqProofs only [go_sem, ↓aj, ↓ah, ak, Nat.reduceBEq, ↓reduceIte, reduceCtorEq, Nat.reduceEqDiff, Nat.reduceAdd, Nat.reduceLeDiff, Int.reduceEq, Int.reduceLT, Int.reduceLE, Int.reduceAdd, Int.reduceToNat, Int.reduceNeg, Nat.reduceMul, Nat.reduceSub, Int.reduceBNe, Int.reduceBEq]
      exact hk r' h' _ (hF.trans he) hR' hO'
    rw [if_neg (fun g => by rw [hd] at g; cases g.2)] at hF
    simp -implicitDefEqProofs only [go_sem, ↓aj, ↓ah, ak, Nat.reduceBEq, ↓reduceIte, reduceCtorEq, Nat.reduceEqDiff, Nat.reduceAdd, Nat.reduceLeDiff, Int.reduceEq, Int.reduceLT, Int.reduceLE, Int.reduceAdd, Int.reduceToNat, Int.reduceNeg, Nat.reduceMul, Nat.reduceSub, Int.reduceBNe, Int.reduceBEq, e5]
    have hR3 := hR2
    have hO3 := hO2
  all_goals
    refine p8 st2 r0 h2 b r [60, 63] hR3 hO3 _ _ (fun hp h4 st4 hR4 hO4 => ?_) (fun hp h4 st4 hR4 hO4 => ?_)
    · rw [if_pos hp] at hF
      simp -implicitDefEqProofs only [go_sem, ↓aj, ↓ah, ak, Nat.reduceBEq, ↓reduceIte, reduceCtorEq, Nat.reduceEqDiff, Nat.reduceAdd, Nat.reduceLeDiff, Int.reduceEq, Int.reduceLT, Int.reduceLE, Int.reduceAdd, Int.reduceToNat, Int.reduceNeg, Nat.reduceMul, Nat.reduceSub, Int.reduceBNe, Int.reduceBEq]
      refine au.enter Tryz.func78 rfl (by kernel_rfl) (Dn st4 r0 h4 b _ hM hT hR4 (hI.less r.done (bD _ _)) hO4 _ _ (fun r' h' st' he hR' hO' => ?_) (fun e st' he hO' => hq e _ (hF.trans he) hO'))
      simp -implicitDefEqProofs only [go_sem, ↓aj, ↓ah, ak, Nat.reduceBEq, ↓reduceIte, reduceCtorEq, Nat.reduceEqDiff, Nat.reduceAdd, Nat.reduceLeDiff, Int.reduceEq, Int.reduceLT, Int.reduceLE, Int.reduceAdd, Int.reduceToNat, Int.reduceNeg, Nat.reduceMul, Nat.reduceSub, Int.reduceBNe, Int.reduceBEq]
      exact hk r' h' _ (hF.trans he) hR' hO'
    rw [if_neg (by rw [hp]; decide)] at hF
    simp -implicitDefEqProofs only [go_sem, ↓aj, ↓ah, ak, Nat.reduceBEq, ↓reduceIte, reduceCtorEq, Nat.reduceEqDiff, Nat.reduceAdd, Nat.reduceLeDiff, Int.reduceEq, Int.reduceLT, Int.reduceLE, Int.reduceAdd, Int.reduceToNat, Int.reduceNeg, Nat.reduceMul, Nat.reduceSub, Int.reduceBNe, Int.reduceBEq, e6]
    refine p8 st4 r0 h4 b r [60, 47] hR4 hO4 _ _ (fun hp h5 st5 hR5 hO5 => ?_) (fun hp h5 st5 hR5 hO5 => ?_)
    · rw [if_pos hp] at hF
      simp -implicitDefEqProofs only [go_sem, ↓aj, ↓ah, ak, Nat.reduceBEq, ↓reduceIte, reduceCtorEq, Nat.reduceEqDiff, Nat.reduceAdd, Nat.reduceLeDiff, Int.reduceEq, Int.reduceLT, Int.reduceLE, Int.reduceAdd, Int.reduceToNat, Int.reduceNeg, Nat.reduceMul, Nat.reduceSub, Int.reduceBNe, Int.reduceBEq]
      refine au.enter Tryz.func79 rfl (by kernel_rfl) (F3 st5 r0 h5 b _ hM hT hR5 (hI.less r.done (bD _ _)) hO5 _ _ (fun r' h' st' he hR' hO' => ?_) (fun e st' he hO' => hq e _ (hF.trans he) hO'))
      simp -implicitDefEqProofs only [go_sem, ↓aj, ↓ah, ak, Nat.reduceBEq, ↓reduceIte, reduceCtorEq, Nat.reduceEqDiff, Nat.reduceAdd, Nat.reduceLeDiff, Int.reduceEq, Int.reduceLT, Int.reduceLE, Int.reduceAdd, Int.reduceToNat, Int.reduceNeg, Nat.reduceMul, Nat.reduceSub, Int.reduceBNe, Int.reduceBEq]
      exact hk r' h' _ (hF.trans he) hR' hO'
    rw [if_neg (by rw [hp]; decide)] at hF
    simp -implicitDefEqProofs only [go_sem, ↓aj, ↓ah, ak, Nat.reduceBEq, ↓reduceIte, reduceCtorEq, Nat.reduceEqDiff, Nat.reduceAdd, Nat.reduceLeDiff, Int.reduceEq, Int.reduceLT, Int.reduceLE, Int.reduceAdd, Int.reduceToNat, Int.reduceNeg, Nat.reduceMul, Nat.reduceSub, Int.reduceBNe, Int.reduceBEq, e7]
    refine p8 st5 r0 h5 b r [60] hR5 hO5 _ _ (fun hp h6 st6 hR6 hO6 => ?_) (fun hp h6 st6 hR6 hO6 => ?_)
    · rw [if_pos hp] at hF
      simp -implicitDefEqProofs only [go_sem, ↓aj, ↓ah, ak, Nat.reduceBEq, ↓reduceIte, reduceCtorEq, Nat.reduceEqDiff, Nat.reduceAdd, Nat.reduceLeDiff, Int.reduceEq, Int.reduceLT, Int.reduceLE, Int.reduceAdd, Int.reduceToNat, Int.reduceNeg, Nat.reduceMul, Nat.reduceSub, Int.reduceBNe, Int.reduceBEq]
      refine au.enter Tryz.func80 rfl (by kernel_rfl) (Bb st6 r0 h6 b _ hM hT hR6 (hI.less r.done (bD _ _)) hO6 _ _ (fun r' h' st' he hR' hO' => ?_) (fun e st' he hO' => hq e _ (hF.trans he) hO'))
      simp -implicitDefEqProofs only [go_sem, ↓aj, ↓ah, ak, Nat.reduceBEq, ↓reduceIte, reduceCtorEq, Nat.reduceEqDiff, Nat.reduceAdd, Nat.reduceLeDiff, Int.reduceEq, Int.reduceLT, Int.reduceLE, Int.reduceAdd, Int.reduceToNat, Int.reduceNeg, Nat.reduceMul, Nat.reduceSub, Int.reduceBNe, Int.reduceBEq]
      exact hk r' h' _ (hF.trans he) hR' hO'
    rw [if_neg (by rw [hp]; decide)] at hF
    simp -implicitDefEqProofs only [go_sem, ↓aj, ↓ah, ak, Nat.reduceBEq, ↓reduceIte, reduceCtorEq, Nat.reduceEqDiff, Nat.reduceAdd, Nat.reduceLeDiff, Int.reduceEq, Int.reduceLT, Int.reduceLE, Int.reduceAdd, Int.reduceToNat, Int.reduceNeg, Nat.reduceMul, Nat.reduceSub, Int.reduceBNe, Int.reduceBEq]
    exact hk r h6 _ hF hR6 hO6
end Go.Proofs.YtigjbehgfjjlkaaGreatDoor
set_option linter.unusedVariables false
set_option linter.unusedSimpArgs false
namespace Go.Proofs.YtigjbehgfjjlkaaGreatDoor
open Go Go.Abs Go.RowKit Go.Xml
variable {base : Nat} {w0 : World} {G : Nat}
set_option maxRecDepth 10000 in
theorem Bh (st : St) (r0 h : Hp) (b : Nat) (r : RS) (hM : eG w0) (hR : RdH b r h) (hI : RI r) (hO : Own st (h ++ r0)) (k q : Value → St → Prop)
    (hk : ∀ r' h' st', gu r = .ok r' → RdH b r' h' → Own st' (h' ++ r0) → k (.tuple #[]) st')
    (hq : ∀ e st', gu r = .error e → Own st' r0 → q (fV e) st') : ay (C base w0 3) 62 [.pointer (some ⟨b, 0, none⟩)] st k q := by
  refine ay.of (cx := C base w0 3) mixed Tryz.func62 rfl (by kernel_rfl) (by simp [Tryz.ntmps62]) ?_
  simp only [Tryz.results62]
  have e1 : (⟨#[60, 38]⟩ : ByteArray) = tx [60, 38] := rfl
  have e2 : (⟨#[32, 9, 10]⟩ : ByteArray) = tx blanks := rfl
  have e3 : (⟨#[93, 93, 62]⟩ : ByteArray) = tx [93, 93, 62] := rfl
  have e0 : (⟨#[]⟩ : ByteArray) = tx [] := rfl
  have hl := hI.left
  have hF : gu r = if r.stk = [] then
      (if Lib.trimS (r.s.take (upTo r.s [60, 38])) blanks = [] then .ok { r with s := r.s.drop (upTo r.s [60, 38]) } else .error 10)
    else if Lib.contains (r.s.take (upTo r.s [60, 38])) [93, 93, 62] then .error 10
    else match aW (r.s.take (upTo r.s [60, 38])) r with
      | .error e => .error e
      | .ok r' => .ok { r' with s := r.s.drop (upTo r.s [60, 38]) } := rfl
  have hle := y7 r.s [60, 38]
  obtain ⟨nv, kv, R, hh, _, hop⟩ := hR.open
  have hO' := hO
  rw [hh] at hO'
  have hc := hO'.head
  unfold rdC at hc
  simp -implicitDefEqProofs only [go_sem, ↓aj, ↓ah, ak, Nat.reduceBEq, ↓reduceIte, reduceCtorEq, Nat.reduceEqDiff, Nat.reduceAdd, Nat.reduceLeDiff, Int.reduceEq, Int.reduceLT, Int.reduceLE, Int.reduceAdd, Int.reduceToNat, Int.reduceNeg, Nat.reduceMul, Nat.reduceSub, Int.reduceBNe, Int.reduceBEq, hc, aK, asz9, Tryz.underlying9, e1]
  refine au.enter Tryz.func83 rfl (by kernel_rfl) (nW st r.s [60, 38] (by omega) _ _ ?_)
  generalize upTo r.s [60, 38] = n at *
  have htk : (r.s.take n).length ≤ 1000000 := by rw [List.length_take]; omega
  simp -implicitDefEqProofs only [go_sem, ↓aj, ↓ah, ak, Nat.reduceBEq, ↓reduceIte, reduceCtorEq, Nat.reduceEqDiff, Nat.reduceAdd, Nat.reduceLeDiff, Int.reduceEq, Int.reduceLT, Int.reduceLE, Int.reduceAdd, Int.reduceToNat, Int.reduceNeg, Nat.reduceMul, Nat.reduceSub, Int.reduceBNe, Int.reduceBEq, hc, aK, asz9, Tryz.underlying9, gD Tryz.underlying9 hle]
  refine eY st r0 h b r hR hO _ _ (fun hs => ?_) (fun hs => ?_)
  · rw [if_neg hs] at hF
    simp -implicitDefEqProofs only [go_sem, ↓aj, ↓ah, ak, Nat.reduceBEq, ↓reduceIte, reduceCtorEq, Nat.reduceEqDiff, Nat.reduceAdd, Nat.reduceLeDiff, Int.reduceEq, Int.reduceLT, Int.reduceLE, Int.reduceAdd, Int.reduceToNat, Int.reduceNeg, Nat.reduceMul, Nat.reduceSub, Int.reduceBNe, Int.reduceBEq, Bool.not_true, e3]
    refine nJ _ _ hM (by omega) _ _ ?_
    simp -implicitDefEqProofs only [go_sem, ↓aj, ↓ah, ak, Nat.reduceBEq, ↓reduceIte, reduceCtorEq, Nat.reduceEqDiff, Nat.reduceAdd, Nat.reduceLeDiff, Int.reduceEq, Int.reduceLT, Int.reduceLE, Int.reduceAdd, Int.reduceToNat, Int.reduceNeg, Nat.reduceMul, Nat.reduceSub, Int.reduceBNe, Int.reduceBEq]
    refine eZ _ _ _ _ (fun hv => ?_) (fun hv => ?_)
    rotate_left
    · rw [if_pos (by simpa using hv)] at hF
      exact hq 10 _ hF hO.right
    rw [if_neg (by rw [Bool.not_eq_true]; simpa using hv)] at hF
    simp -implicitDefEqProofs only [go_sem, ↓aj, ↓ah, ak, Nat.reduceBEq, ↓reduceIte, reduceCtorEq, Nat.reduceEqDiff, Nat.reduceAdd, Nat.reduceLeDiff, Int.reduceEq, Int.reduceLT, Int.reduceLE, Int.reduceAdd, Int.reduceToNat, Int.reduceNeg, Nat.reduceMul, Nat.reduceSub, Int.reduceBNe, Int.reduceBEq]
    refine au.enter Tryz.func59 rfl (by kernel_rfl) (nZ st r0 h b r (r.s.take n) hR hI hs (by omega) hO _ _ (fun r1 h1 st1 he hR1 hO1 => ?_) (fun e st1 he hO1 => ?_))
    rotate_left
    · rw [he] at hF
      exact hq e _ hF hO1
    rw [he] at hF
    dsimp only at hF
    have hs1 : r1.s = r.s := by
      have g := zu r.s he
      rw [show aW (r.s.take n) { r with s := r.s } = aW (r.s.take n) r from rfl, he] at g
      injection g with g
      rw [g]
    obtain ⟨nv1, kv1, R1, rfl, _, hop1⟩ := hR1.open
    have hc1 := hO1.head
    rw [hs1] at hc1
    unfold rdC at hc1
    have hO2 : Own _ ((b, Ob.cells (rdC (r.s.drop n) nv1 kv1 r1.done) 76 true) :: (R1 ++ r0)) := Own.set (a := R1 ++ r0) hO1 rfl (.cells (rdC (r.s.drop n) nv1 kv1 r1.done) 76 true) rfl
    simp -implicitDefEqProofs only [go_sem, ↓aj, ↓ah, ak, Nat.reduceBEq, ↓reduceIte, reduceCtorEq, Nat.reduceEqDiff, Nat.reduceAdd, Nat.reduceLeDiff, Int.reduceEq, Int.reduceLT, Int.reduceLE, Int.reduceAdd, Int.reduceToNat, Int.reduceNeg, Nat.reduceMul, Nat.reduceSub, Int.reduceBNe, Int.reduceBEq, hc1, aK, asz9, Tryz.underlying9, bU Tryz.underlying9 hle, List.length_cons, List.length_nil, List.set_cons_zero]
    exact hk _ _ _ hF (hop1 _) hO2
  · rw [if_pos hs] at hF
    simp -implicitDefEqProofs only [go_sem, ↓aj, ↓ah, ak, Nat.reduceBEq, ↓reduceIte, reduceCtorEq, Nat.reduceEqDiff, Nat.reduceAdd, Nat.reduceLeDiff, Int.reduceEq, Int.reduceLT, Int.reduceLE, Int.reduceAdd, Int.reduceToNat, Int.reduceNeg, Nat.reduceMul, Nat.reduceSub, Int.reduceBNe, Int.reduceBEq, Bool.not_false, e2, e0]
    refine FP _ (by omega) _ _ ?_
    simp -implicitDefEqProofs only [go_sem, ↓aj, ↓ah, ak, Nat.reduceBEq, ↓reduceIte, reduceCtorEq, Nat.reduceEqDiff, Nat.reduceAdd, Nat.reduceLeDiff, Int.reduceEq, Int.reduceLT, Int.reduceLE, Int.reduceAdd, Int.reduceToNat, Int.reduceNeg, Nat.reduceMul, Nat.reduceSub, Int.reduceBNe, Int.reduceBEq, e0, aA]
    refine eZ _ _ _ _ (fun hv => ?_) (fun hv => ?_)
    rotate_left
    · rw [if_neg (by simpa using hv)] at hF
      exact hq 10 _ hF hO.right
    rw [if_pos (by simpa using hv)] at hF
    have hO2 := hO'.set rfl (.cells (rdC (r.s.drop n) nv kv r.done) 76 true) rfl
    simp -implicitDefEqProofs only [go_sem, ↓aj, ↓ah, ak, Nat.reduceBEq, ↓reduceIte, reduceCtorEq, Nat.reduceEqDiff, Nat.reduceAdd, Nat.reduceLeDiff, Int.reduceEq, Int.reduceLT, Int.reduceLE, Int.reduceAdd, Int.reduceToNat, Int.reduceNeg, Nat.reduceMul, Nat.reduceSub, Int.reduceBNe, Int.reduceBEq, hc, aK, asz9, Tryz.underlying9, bU Tryz.underlying9 hle, List.length_cons, List.length_nil, List.set_cons_zero]
    exact hk _ _ _ hF (hop _) hO2
theorem RI.start (s : Tx) (hl : s.length ≤ 1000000) : RI ⟨s, [], [], false⟩ :=
  ⟨Nat.zero_le _, Nat.zero_le _, hl, fun x hx => (by cases hx), fun x hx => (by cases hx), fun x hx => (by cases hx), fun x hx => (by cases hx)⟩
set_option maxRecDepth 10000 in
theorem F6 (st : St) (r0 h : Hp) (b : Nat) (s : Tx) (hM : eG w0) (hT : dw w0) (hl : s.length ≤ 1000000) (hR : RdH b ⟨s, [], [], false⟩ h) (hO : Own st (h ++ r0)) (k q : Value → St → Prop)
    (hk : ∀ (r' : RS) h' st', allF s = .ok r'.ns → RI r' → RdH b r' h' → Own st' (h' ++ r0) → k (.tuple #[]) st')
    (hq : ∀ e st', allF s = .error e → Own st' r0 → q (fV e) st') : ay (C base w0 3) 37 [.pointer (some ⟨b, 0, none⟩)] st k q := by
  refine ay.of (cx := C base w0 3) mixed Tryz.func37 rfl (by kernel_rfl) (by simp [Tryz.ntmps37]) ?_
  simp only [Tryz.results37]
  have e0 : (⟨#[]⟩ : ByteArray) = tx [] := rfl
  have e38 : (⟨#[38]⟩ : ByteArray) = tx [38] := rfl
  simp -implicitDefEqProofs only [go_sem, ↓aj, ↓ah, ak, Nat.reduceBEq, ↓reduceIte, reduceCtorEq, Nat.reduceEqDiff, Nat.reduceAdd, Nat.reduceLeDiff, Int.reduceEq, Int.reduceLT, Int.reduceLE, Int.reduceAdd, Int.reduceToNat, Int.reduceNeg, Nat.reduceMul, Nat.reduceSub, Int.reduceBNe, Int.reduceBEq]
  refine JQ st r0 h b ⟨s, [], [], false⟩ hM hl hR hO _ _ (fun s1 h1 st1 he1 hR1 hO1 => ?_) (fun e st1 he1 hO1 => hq e _ (by unfold allF; rw [show fJ s = _ from he1]) hO1)
  have hle : s1.length ≤ s.length := uU he1
  have hF : allF s = match allR s1.length ⟨s1, [], [], false⟩ with
    | .error e => .error e
    | .ok r => if r.done = true ∧ r.stk = [] then .ok r.ns else .error 10 := by unfold allF; rw [show fJ s = _ from he1]; rfl
  simp -implicitDefEqProofs only [go_sem, ↓aj, ↓ah, ak, Nat.reduceBEq, ↓reduceIte, reduceCtorEq, Nat.reduceEqDiff, Nat.reduceAdd, Nat.reduceLeDiff, Int.reduceEq, Int.reduceLT, Int.reduceLE, Int.reduceAdd, Int.reduceToNat, Int.reduceNeg, Nat.reduceMul, Nat.reduceSub, Int.reduceBNe, Int.reduceBEq]
  refine ⟨fun m ρ s' => ∃ (f : Nat) (r : RS) (h : Hp), m = r.s.length ∧ r.s.length ≤ f ∧ allR s1.length ⟨s1, [], [], false⟩ = allR f r ∧ RI r ∧ RdH b r h ∧ ρ 0 = .pointer (some ⟨b, 0, none⟩) ∧ Own s' (h ++ r0), ⟨_, s1.length, ⟨s1, [], [], false⟩, h1, rfl, Nat.le_refl _, rfl, RI.start s1 (by omega), hR1, rfl, hO1⟩, ?_⟩
  rintro _ ρ s' ⟨f, r, h, rfl, hf, hA, hI, hR, h0, hO⟩
  obtain ⟨nv, kv, R, hh, ⟨ka, kc, hkv⟩, hop⟩ := hR.open
  have hO' := hO
  rw [hh] at hO'
  have hc := hO'.head
  unfold rdC at hc
  have hlr := hI.left
  by_cases hz : r.s = []
  · have hA2 : allR f r = .ok r := by
      cases f with
      | zero => unfold allR; rw [if_pos hz]
      | succ f => unfold allR; rw [if_pos hz]
    rw [hA, hA2] at hF
    dsimp only at hF
    simp -implicitDefEqProofs only [go_sem, ↓aj, ↓ah, ak, Nat.reduceBEq, ↓reduceIte, reduceCtorEq, Nat.reduceEqDiff, Nat.reduceAdd, Nat.reduceLeDiff, Int.reduceEq, Int.reduceLT, Int.reduceLE, Int.reduceAdd, Int.reduceToNat, Int.reduceNeg, Nat.reduceMul, Nat.reduceSub, Int.reduceBNe, Int.reduceBEq, h0, hc, aK, asz9, Tryz.underlying9, e0, dx, decide_eq_true hz, Bool.not_true]
    cases hd : r.done with
    | false =>
      rw [if_neg (fun g => by rw [hd] at g; cases g.1)] at hF
      rw [hd] at hc
      simp -implicitDefEqProofs only [go_sem, ↓aj, ↓ah, ak, Nat.reduceBEq, ↓reduceIte, reduceCtorEq, Nat.reduceEqDiff, Nat.reduceAdd, Nat.reduceLeDiff, Int.reduceEq, Int.reduceLT, Int.reduceLE, Int.reduceAdd, Int.reduceToNat, Int.reduceNeg, Nat.reduceMul, Nat.reduceSub, Int.reduceBNe, Int.reduceBEq, h0, hc, pG, asz4, Tryz.underlying4]
      exact eZ _ false _ _ (fun h => by cases h) (fun _ => hq 10 _ hF hO.right)
    | true =>
      rw [hd] at hc
      simp -implicitDefEqProofs only [go_sem, ↓aj, ↓ah, ak, Nat.reduceBEq, ↓reduceIte, reduceCtorEq, Nat.reduceEqDiff, Nat.reduceAdd, Nat.reduceLeDiff, Int.reduceEq, Int.reduceLT, Int.reduceLE, Int.reduceAdd, Int.reduceToNat, Int.reduceNeg, Nat.reduceMul, Nat.reduceSub, Int.reduceBNe, Int.reduceBEq, h0, hc, pG, asz4, Tryz.underlying4]
      refine eY s' r0 h b r hR hO _ _ (fun hs => ?_) (fun hs => ?_)
      · rw [if_neg (fun g => hs g.2)] at hF
        simp -implicitDefEqProofs only [go_sem, ↓aj, ↓ah, ak, Nat.reduceBEq, ↓reduceIte, reduceCtorEq, Nat.reduceEqDiff, Nat.reduceAdd, Nat.reduceLeDiff, Int.reduceEq, Int.reduceLT, Int.reduceLE, Int.reduceAdd, Int.reduceToNat, Int.reduceNeg, Nat.reduceMul, Nat.reduceSub, Int.reduceBNe, Int.reduceBEq, Bool.not_true]
        exact eZ _ false _ _ (fun h => by cases h) (fun _ => hq 10 _ hF hO.right)
      · rw [if_pos ⟨hd, hs⟩] at hF
        simp -implicitDefEqProofs only [go_sem, ↓aj, ↓ah, ak, Nat.reduceBEq, ↓reduceIte, reduceCtorEq, Nat.reduceEqDiff, Nat.reduceAdd, Nat.reduceLeDiff, Int.reduceEq, Int.reduceLT, Int.reduceLE, Int.reduceAdd, Int.reduceToNat, Int.reduceNeg, Nat.reduceMul, Nat.reduceSub, Int.reduceBNe, Int.reduceBEq, Bool.not_false]
        refine eZ _ true _ _ (fun _ => ?_) (fun h => by cases h)
        simp -implicitDefEqProofs only [go_sem, ↓aj, ↓ah, ak, Nat.reduceBEq, ↓reduceIte, reduceCtorEq, Nat.reduceEqDiff, Nat.reduceAdd, Nat.reduceLeDiff, Int.reduceEq, Int.reduceLT, Int.reduceLE, Int.reduceAdd, Int.reduceToNat, Int.reduceNeg, Nat.reduceMul, Nat.reduceSub, Int.reduceBNe, Int.reduceBEq]
        exact hk r h _ hF hI hR hO
  · obtain ⟨f', rfl⟩ : ∃ f', f = f' + 1 := ⟨f - 1, by have := List.length_pos_iff.2 hz; omega⟩
    have hA2 : allR (f' + 1) r = match aX r with
      | .error e => .error e
      | .ok r' => allR f' r' := by
      show (if r.s = [] then (Except.ok r : Ex RS) else _) = _
      rw [if_neg hz]
      rfl
    have bad : ∀ e, aX r = .error e → ∀ s2, Own s2 r0 → q (fV e) s2 := fun e he s2 h2 => hq e s2 (by rw [hF, hA, hA2, he]) h2
    have good : ∀ r', aX r = .ok r' → RI r' ∧ r'.s.length < r.s.length ∧ r'.s.length ≤ f' ∧ allR s1.length ⟨s1, [], [], false⟩ = allR f' r' := fun r' he => by
      obtain ⟨g1, g2⟩ := Bg hI hz he
      exact ⟨g1, g2, by omega, by rw [hA, hA2, he]⟩
    obtain ⟨c, l, hcl⟩ : ∃ c l, r.s = c :: l := by
      cases hr : r.s with
      | nil => exact absurd hr hz
      | cons c l => exact ⟨c, l, rfl⟩
    have hat : jr Tryz.prog 9 (.string (tx r.s)) (.int .i64 0) = some (.int .u8 (c.toNat : Nat)) := by
      have := mV (P := Tryz.prog) (k := .i64) (l := r.s) (i := 0) Tryz.underlying9 (by rw [hcl]; simp)
      rw [hcl] at this ⊢
      exact this
    have u60 := ED c 60 (by decide)
    have u38 := ED c 38 (by decide)
    change c = 60 ↔ _ at u60
    change c = 38 ↔ _ at u38
    have hhd : r.s.head? = some c := by rw [hcl]; rfl
    have hSt : aX r = if r.s.head? = some 60 then iy r
      else if r.stk ≠ [] ∧ (hasF [38] r.s).1 = true then
        match refF (hasF [38] r.s).2 with
        | .error e => .error e
        | .ok (t, s1) => aW t { r with s := s1 }
      else if r.s.head? = some 38 then .error 10
      else gu r := rfl
    by_cases c60 : c = 60
    · rw [if_pos (by rw [hhd, c60])] at hSt
      simp -implicitDefEqProofs only [go_sem, ↓aj, ↓ah, ak, Nat.reduceBEq, ↓reduceIte, reduceCtorEq, Nat.reduceEqDiff, Nat.reduceAdd, Nat.reduceLeDiff, Int.reduceEq, Int.reduceLT, Int.reduceLE, Int.reduceAdd, Int.reduceToNat, Int.reduceNeg, Nat.reduceMul, Nat.reduceSub, Int.reduceBNe, Int.reduceBEq, h0, hc, aK, asz9, Tryz.underlying9, e0, dx, decide_eq_false hz, Bool.not_false, hat, show ((c.toNat : Int) == 60) = true by rw [u60.1 c60]; rfl]
      refine au.enter Tryz.func56 rfl (by kernel_rfl) (Dq s' r0 h b r hM hT hR hI hO _ _ (fun r' h' st' he hR' hO' => ?_) (fun e st' he hO' => bad e (hSt.trans he) _ hO'))
      obtain ⟨g1, g2, g3, g4⟩ := good r' (hSt.trans he)
      simp -implicitDefEqProofs only [go_sem, ↓aj, ↓ah, ak, Nat.reduceBEq, ↓reduceIte, reduceCtorEq, Nat.reduceEqDiff, Nat.reduceAdd, Nat.reduceLeDiff, Int.reduceEq, Int.reduceLT, Int.reduceLE, Int.reduceAdd, Int.reduceToNat, Int.reduceNeg, Nat.reduceMul, Nat.reduceSub, Int.reduceBNe, Int.reduceBEq, h0]
      exact ⟨r'.s.length, g2, f', r', h', rfl, g3, g4, g1, hR', hO'⟩
    have k60 : c.toNat ≠ 60 := fun h => c60 (u60.2 h)
    rw [if_neg (by rw [hhd]; simpa using c60)] at hSt
    have fin : ∀ (r' : RS) (h' : Hp) (st' : St), aX r = .ok r' → RdH b r' h' → Own st' (h' ++ r0) → ∃ m, m < r.s.length ∧ ∃ (f : Nat) (r2 : RS) (h : Hp), m = r2.s.length ∧ r2.s.length ≤ f ∧ allR s1.length ⟨s1, [], [], false⟩ = allR f r2 ∧ RI r2 ∧ RdH b r2 h ∧ Own st' (h ++ r0) := fun r' h' st' he hR' hO' => by
      obtain ⟨g1, g2, g3, g4⟩ := good r' he
      exact ⟨r'.s.length, g2, f', r', h', rfl, g3, g4, g1, hR', hO'⟩
    simp -implicitDefEqProofs only [go_sem, ↓aj, ↓ah, ak, Nat.reduceBEq, ↓reduceIte, reduceCtorEq, Nat.reduceEqDiff, Nat.reduceAdd, Nat.reduceLeDiff, Int.reduceEq, Int.reduceLT, Int.reduceLE, Int.reduceAdd, Int.reduceToNat, Int.reduceNeg, Nat.reduceMul, Nat.reduceSub, Int.reduceBNe, Int.reduceBEq, h0, hc, aK, asz9, Tryz.underlying9, e0, dx, decide_eq_false hz, Bool.not_false, hat, show ((c.toNat : Int) == 60) = false by rw [beq_eq_false_iff_ne]; omega]
    by_cases hs : r.stk = []
    case' pos =>
      rw [if_neg (fun g => g.1 hs)] at hSt
      refine eY s' r0 h b r hR hO _ _ (fun g => absurd hs g) (fun _ => ?_)
      simp -implicitDefEqProofs only [go_sem, ↓aj, ↓ah, ak, Nat.reduceBEq, ↓reduceIte, reduceCtorEq, Nat.reduceEqDiff, Nat.reduceAdd, Nat.reduceLeDiff, Int.reduceEq, Int.reduceLT, Int.reduceLE, Int.reduceAdd, Int.reduceToNat, Int.reduceNeg, Nat.reduceMul, Nat.reduceSub, Int.reduceBNe, Int.reduceBEq, h0]
      have hR2 := hR
      have hO2 := hO
    case' neg =>
      refine eY s' r0 h b r hR hO _ _ (fun _ => ?_) (fun g => absurd g hs)
      simp -implicitDefEqProofs only [go_sem, ↓aj, ↓ah, ak, Nat.reduceBEq, ↓reduceIte, reduceCtorEq, Nat.reduceEqDiff, Nat.reduceAdd, Nat.reduceLeDiff, Int.reduceEq, Int.reduceLT, Int.reduceLE, Int.reduceAdd, Int.reduceToNat, Int.reduceNeg, Nat.reduceMul, Nat.reduceSub, Int.reduceBNe, Int.reduceBEq, h0, e38]
      refine p8 s' r0 h b r [38] hR hO _ _ (fun hb h2 st2 hR2 hO2 => ?_) (fun hb h2 st2 hR2 hO2 => ?_)
      · rw [if_pos ⟨hs, hb⟩] at hSt
        have g0 := lH hb (by decide)
        have e1 : ([38] : Tx).length = 1 := rfl
        simp -implicitDefEqProofs only [go_sem, ↓aj, ↓ah, ak, Nat.reduceBEq, ↓reduceIte, reduceCtorEq, Nat.reduceEqDiff, Nat.reduceAdd, Nat.reduceLeDiff, Int.reduceEq, Int.reduceLT, Int.reduceLE, Int.reduceAdd, Int.reduceToNat, Int.reduceNeg, Nat.reduceMul, Nat.reduceSub, Int.reduceBNe, Int.reduceBEq, h0]
        refine Bc st2 r0 h2 b _ hT (by show (hasF [38] r.s).2.length ≤ _; omega) hR2 hO2 _ _ (fun t s2 h3 st3 he3 hR3 hO3 => ?_) (fun e st3 he3 hO3 => ?_)
        rotate_left
        · rw [show refF (hasF [38] r.s).2 = _ from he3] at hSt
          exact bad e hSt _ hO3
        rw [show refF (hasF [38] r.s).2 = _ from he3] at hSt
        dsimp only at hSt
        obtain ⟨g1, g2⟩ := mD he3
        have g3 : s2.length ≤ (hasF [38] r.s).2.length := g2
        simp -implicitDefEqProofs only [go_sem, ↓aj, ↓ah, ak, Nat.reduceBEq, ↓reduceIte, reduceCtorEq, Nat.reduceEqDiff, Nat.reduceAdd, Nat.reduceLeDiff, Int.reduceEq, Int.reduceLT, Int.reduceLE, Int.reduceAdd, Int.reduceToNat, Int.reduceNeg, Nat.reduceMul, Nat.reduceSub, Int.reduceBNe, Int.reduceBEq, h0]
        refine au.enter Tryz.func59 rfl (by kernel_rfl) (nZ st3 r0 h3 b { r with s := s2 } t hR3 (hI.less r.done (by omega)) hs (by omega) hO3 _ _ (fun r' h' st' he hR' hO' => ?_) (fun e st' he hO' => bad e (hSt.trans he) _ hO'))
        simp -implicitDefEqProofs only [go_sem, ↓aj, ↓ah, ak, Nat.reduceBEq, ↓reduceIte, reduceCtorEq, Nat.reduceEqDiff, Nat.reduceAdd, Nat.reduceLeDiff, Int.reduceEq, Int.reduceLT, Int.reduceLE, Int.reduceAdd, Int.reduceToNat, Int.reduceNeg, Nat.reduceMul, Nat.reduceSub, Int.reduceBNe, Int.reduceBEq, h0]
        exact fin r' h' st' (hSt.trans he) hR' hO'
      rw [if_neg (fun g => by rw [hb] at g; cases g.2)] at hSt
      simp -implicitDefEqProofs only [go_sem, ↓aj, ↓ah, ak, Nat.reduceBEq, ↓reduceIte, reduceCtorEq, Nat.reduceEqDiff, Nat.reduceAdd, Nat.reduceLeDiff, Int.reduceEq, Int.reduceLT, Int.reduceLE, Int.reduceAdd, Int.reduceToNat, Int.reduceNeg, Nat.reduceMul, Nat.reduceSub, Int.reduceBNe, Int.reduceBEq, h0]
      clear hR hO hO' hc
    all_goals
      obtain ⟨nv2, kv2, R2, hh2, _, hop2⟩ := hR2.open
      have hO2' := hO2
      rw [hh2] at hO2'
      have hc2 := hO2'.head
      unfold rdC at hc2
      by_cases c38 : c = 38
      · rw [if_pos (by rw [hhd, c38])] at hSt
        simp -implicitDefEqProofs only [go_sem, ↓aj, ↓ah, ak, Nat.reduceBEq, ↓reduceIte, reduceCtorEq, Nat.reduceEqDiff, Nat.reduceAdd, Nat.reduceLeDiff, Int.reduceEq, Int.reduceLT, Int.reduceLE, Int.reduceAdd, Int.reduceToNat, Int.reduceNeg, Nat.reduceMul, Nat.reduceSub, Int.reduceBNe, Int.reduceBEq, h0, hc2, aK, asz9, Tryz.underlying9, hat, show ((c.toNat : Int) != 38) = false by rw [u38.1 c38]; rfl]
        exact eZ _ false _ _ (fun h => by cases h) (fun _ => bad 10 hSt _ hO2.right)
      · rw [if_neg (by rw [hhd]; simpa using c38)] at hSt
        have k38 : c.toNat ≠ 38 := fun h => c38 (u38.2 h)
        simp -implicitDefEqProofs only [go_sem, ↓aj, ↓ah, ak, Nat.reduceBEq, ↓reduceIte, reduceCtorEq, Nat.reduceEqDiff, Nat.reduceAdd, Nat.reduceLeDiff, Int.reduceEq, Int.reduceLT, Int.reduceLE, Int.reduceAdd, Int.reduceToNat, Int.reduceNeg, Nat.reduceMul, Nat.reduceSub, Int.reduceBNe, Int.reduceBEq, h0, hc2, aK, asz9, Tryz.underlying9, hat, show ((c.toNat : Int) != 38) = true by rw [bne_iff_ne]; omega]
        refine eZ _ true _ _ (fun _ => ?_) (fun h => by cases h)
        simp -implicitDefEqProofs only [go_sem, ↓aj, ↓ah, ak, Nat.reduceBEq, ↓reduceIte, reduceCtorEq, Nat.reduceEqDiff, Nat.reduceAdd, Nat.reduceLeDiff, Int.reduceEq, Int.reduceLT, Int.reduceLE, Int.reduceAdd, Int.reduceToNat, Int.reduceNeg, Nat.reduceMul, Nat.reduceSub, Int.reduceBNe, Int.reduceBEq, h0]
        refine au.enter Tryz.func62 rfl (by kernel_rfl) (Bh _ r0 _ b r hM hR2 hI hO2 _ _ (fun r' h' st' he hR' hO' => ?_) (fun e st' he hO' => bad e (hSt.trans he) _ hO'))
        simp -implicitDefEqProofs only [go_sem, ↓aj, ↓ah, ak, Nat.reduceBEq, ↓reduceIte, reduceCtorEq, Nat.reduceEqDiff, Nat.reduceAdd, Nat.reduceLeDiff, Int.reduceEq, Int.reduceLT, Int.reduceLE, Int.reduceAdd, Int.reduceToNat, Int.reduceNeg, Nat.reduceMul, Nat.reduceSub, Int.reduceBNe, Int.reduceBEq, h0]
        exact fin r' h' st' (hSt.trans he) hR' hO'
end Go.Proofs.YtigjbehgfjjlkaaGreatDoor
set_option linter.unusedVariables false
set_option linter.unusedSimpArgs false
namespace Go.Proofs.YtigjbehgfjjlkaaGreatDoor
open Go Go.Abs Go.RowKit Go.Xml
variable {base : Nat} {w0 : World} {G : Nat}
theorem Dr (st : St) (bd be : Nat) (k : St → Prop) (hk : k st) : ADcl (C base w0 G) 35 [.pointer (some ⟨bd, 0, none⟩), .pointer (some ⟨be, 0, none⟩)] st none k := by
  refine ADcl.of mixed Tryz.func35 rfl (by kernel_rfl) (by simp [Tryz.ntmps35]) (by simp [Tryz.ntmps35]) (by simp [Tryz.ntmps35]) Tryz.results35 ?_
  simp -implicitDefEqProofs only [go_sem, ↓aj, ↓ah, ak, Nat.reduceBEq, ↓reduceIte, reduceCtorEq, Nat.reduceEqDiff, Nat.reduceAdd, Nat.reduceLeDiff, Int.reduceEq, Int.reduceLT, Int.reduceLE, Int.reduceAdd, Int.reduceToNat, Int.reduceNeg, Nat.reduceMul, Nat.reduceSub, Int.reduceBNe, Int.reduceBEq, Option.getD_none, Tryz.underlying20, Option.map_some]
  exact hk
theorem Dt (st : St) (r : Hp) (bd be : Nat) (y e : Int) (k : St → Prop) (X : Value) (hO : Own st ((bd, .cells [X] 24 true) :: (be, .cells [.int .i64 y] 27 true) :: r))
    (hk : ∀ st', Own st' ((bd, .cells [.slice none 0 0] 24 true) :: (be, .cells [.int .i64 e] 27 true) :: r) → k st') : ADcl (C base w0 3) 35 [.pointer (some ⟨bd, 0, none⟩), .pointer (some ⟨be, 0, none⟩)] st (some (fV e)) k := by
  refine ADcl.of mixed Tryz.func35 rfl (by kernel_rfl) (by simp [Tryz.ntmps35]) (by simp [Tryz.ntmps35]) (by simp [Tryz.ntmps35]) Tryz.results35 ?_
  simp -implicitDefEqProofs only [go_sem, ↓aj, ↓ah, ak, Nat.reduceBEq, ↓reduceIte, reduceCtorEq, Nat.reduceEqDiff, Nat.reduceAdd, Nat.reduceLeDiff, Int.reduceEq, Int.reduceLT, Int.reduceLE, Int.reduceAdd, Int.reduceToNat, Int.reduceNeg, Nat.reduceMul, Nat.reduceSub, Int.reduceBNe, Int.reduceBEq, Option.getD_some, Tryz.underlying20, Option.map_some, fV]
  refine bG.ofT (.step 0 false [] (.step 1 false [] (.two 2 [] (.lin [(3, false, []), (4, false, [])]) 3 [] (.lin [(2, false, []), (4, false, [])])))) [] [] (by kernel_rfl) ?_
  have h1 := hO.head
  have h2 := hO.tail.head
  have hne : ¬ be = bd := fun h => by rw [h, h1] at h2; cases h2
  simp -implicitDefEqProofs only [go_sem, ↓aj, ↓ah, ak, Nat.reduceBEq, ↓reduceIte, reduceCtorEq, Nat.reduceEqDiff, Nat.reduceAdd, Nat.reduceLeDiff, Int.reduceEq, Int.reduceLT, Int.reduceLE, Int.reduceAdd, Int.reduceToNat, Int.reduceNeg, Nat.reduceMul, Nat.reduceSub, Int.reduceBNe, Int.reduceBEq, jE, iT, jF, vZ, sI, Tryz.underlying71, mh, wP, Tryz.underlying24, gT, tZ, h1, h2, hne, Option.map_some, List.length_cons, List.length_nil, List.set_cons_zero]
  have g := ((hO.set rfl (.cells [.slice none 0 0] 24 true) rfl).perm (List.Perm.swap ..)).set rfl (.cells [.int .i64 e] 27 true) rfl
  exact hk _ (g.perm (List.Perm.swap ..))
def DocH (v : Value) (ns : List Nd) (h : Hp) : Prop := ∃ cs hn hx, h = hn ++ hx ∧ GV v cs.flatten ns.length 9 55 hn ∧ NdsH ns cs hx
theorem Bj (l : Tx) : (0 ≤ badV l) ↔ (bad l).isSome = true := by
  unfold badV
  cases bad l with
  | none => simp
  | some n => simp
theorem cut1 (v : Value) : cut [v] 0 1 = some [v] := rfl
theorem w9 {st : St} {r : Hp} {ρ : Env} {bd be : Nat} {v : Value} {e : Int} {k : Value → St → Prop} (hO : Own st ((bd, .cells [v] 24 true) :: (be, .cells [.int .i64 e] 27 true) :: r)) (h2 : ρ 2 = .pointer (some ⟨bd, 0, none⟩)) (h3 : ρ 3 = .pointer (some ⟨be, 0, none⟩))
    (hk : k (.tuple #[.agg #[v], .int .i64 e]) st) : resQ Tryz.prog #[ResultVar.cell 2 24, ResultVar.cell 3 27] ρ k st := by
  have h4 := hO.head
  have h5 := hO.tail.head
  unfold resQ
  simp -implicitDefEqProofs only [go_sem, ↓aj, ↓ah, ak, Nat.reduceBEq, ↓reduceIte, reduceCtorEq, Nat.reduceEqDiff, Nat.reduceAdd, Nat.reduceLeDiff, Int.reduceEq, Int.reduceLT, Int.reduceLE, Int.reduceAdd, Int.reduceToNat, Int.reduceNeg, Nat.reduceMul, Nat.reduceSub, Int.reduceBNe, Int.reduceBEq, h2, h3, h4, h5, gT, tZ, Tryz.underlying24, Tryz.underlying27, cut1, Option.map_some, List.getElem?_cons_zero]
  exact hk
set_option maxRecDepth 10000 in
theorem mH (st : St) (r : Hp) (X : Value) (l : Tx) (hM : eG w0) (hT : dw w0) (hX : Nb r X (nb8 l)) (hS : Sl Tryz.prog r X 1) (hl : l.length ≤ 1000000) (hO : Own st r) (k q : Value → St → Prop)
    (hk : ∀ ns v h st', gW l = .ok ns → DocH v ns h → Own st' (h ++ r) → k (.tuple #[.agg #[v], .int .i64 0]) st')
    (he : ∀ e st', gW l = .error e → Own st' r → k (.tuple #[.agg #[.slice none 0 0], .int .i64 e]) st') : ay (C base w0 3) 12 [X] st k q := by
  have hF : gW l = if l.length > 65536 then .error 12 else if (bad l).isSome then .error 13 else allF (lines l) := rfl
  obtain ⟨xa, xc, hxs⟩ := hX.isSlice
  rw [aF] at hxs
  refine ay.JN (cx := C base w0 3) mixed [2, 3] Tryz.func12 rfl (by kernel_rfl) (by kernel_rfl) (by simp [Tryz.ntmps12]) (by simp [Tryz.ntmps12]) rfl (by kernel_rfl) Tryz.func35 rfl rfl ?_
  simp only [Tryz.results12]
  have ho1 := (hO.new (.cells [.slice none 0 0] 24 true)).new (.cells [.int .i64 0] 27 true)
  have ho2 : Own _ ((st.n, _) :: (st.n + 1, _) :: r) := ho1.perm (List.Perm.swap ..)
  have hne : ¬ st.n + 1 = st.n := by omega
  have hne' : ¬ st.n = st.n + 1 := by omega
  rw [hxs]
  have hargs : ∀ (ρ : Env) (bd be : Nat), ρ 2 = .pointer (some ⟨bd, 0, none⟩) → ρ 3 = .pointer (some ⟨be, 0, none⟩) → (Array.map (ev 3 ρ) #[Operand.tmp 2, Operand.tmp 3]).toList = [.pointer (some ⟨bd, 0, none⟩), .pointer (some ⟨be, 0, none⟩)] := fun ρ bd be g2 g3 => by simp [ev, g2, g3]
  by_cases h64 : l.length > 65536
  · rw [if_pos h64] at hF
    simp -implicitDefEqProofs only [go_sem, ↓aj, ↓ah, ak, Nat.reduceBEq, ↓reduceIte, reduceCtorEq, Nat.reduceEqDiff, Nat.reduceAdd, Nat.reduceLeDiff, Int.reduceEq, Int.reduceLT, Int.reduceLE, Int.reduceAdd, Int.reduceToNat, Int.reduceNeg, Nat.reduceMul, Nat.reduceSub, Int.reduceBNe, Int.reduceBEq, bB, mh, Km, wP, gT, tZ, Tryz.underlying24, Tryz.underlying27, Tryz.underlying31, Option.map_some, show ((l.length : Int) > 65536) = True by simp; omega, decide_true, List.length_cons, List.length_nil, List.set_cons_zero, hne, hne', cut1, List.getElem?_cons_zero]
    have ho3 := ((ho2.set rfl (.cells [.slice none 0 0] 24 true) rfl).perm (List.Perm.swap ..)).set rfl (.cells [.int .i64 12] 27 true) rfl
    exact he 12 _ hF ho3.tail.tail
  · rw [if_neg h64] at hF
    simp -implicitDefEqProofs only [go_sem, ↓aj, ↓ah, ak, Nat.reduceBEq, ↓reduceIte, reduceCtorEq, Nat.reduceEqDiff, Nat.reduceAdd, Nat.reduceLeDiff, Int.reduceEq, Int.reduceLT, Int.reduceLE, Int.reduceAdd, Int.reduceToNat, Int.reduceNeg, Nat.reduceMul, Nat.reduceSub, Int.reduceBNe, Int.reduceBEq, bB, mh, Km, wP, gT, tZ, Tryz.underlying24, Tryz.underlying27, Tryz.underlying31, Option.map_some, show ((l.length : Int) > 65536) = False by simp; omega, decide_false, List.length_cons, List.length_nil, List.set_cons_zero, hne, hne', cut1, List.getElem?_cons_zero]
    generalize (st.new (Ob.cells [Value.slice none 0 0] 24 true)).new (Ob.cells [Value.int IntKind.i64 0] 27 true) = s1 at *
    generalize st.n = bd at *
    generalize bd + 1 = be at *
    have sub : ∀ x ∈ r, x ∈ (bd, Ob.cells [Value.slice none 0 0] 24 true) :: (be, Ob.cells [Value.int .i64 0] 27 true) :: r := fun x hx => List.mem_cons_of_mem _ (List.mem_cons_of_mem _ hx)
    have hX2 := hX.sub sub
    have hS2 := hS.sub sub
    rw [hxs] at hX2 hS2
    refine au.enter Tryz.func34 rfl (by kernel_rfl) (qQ s1 _ _ l hT hX2 hS2 hl ho2 _ _ fun s2 ho3 => ?_)
    clear ho1 ho2
    have h1 := ho3.head
    have h2 := ho3.tail.head
    by_cases hb : (bad l).isSome = true
    · rw [if_pos hb] at hF
      have hbv := (Bj l).2 hb
      generalize badV l = bv at *
      simp -implicitDefEqProofs only [go_sem, ↓aj, ↓ah, ak, Nat.reduceBEq, ↓reduceIte, reduceCtorEq, Nat.reduceEqDiff, Nat.reduceAdd, Nat.reduceLeDiff, Int.reduceEq, Int.reduceLT, Int.reduceLE, Int.reduceAdd, Int.reduceToNat, Int.reduceNeg, Nat.reduceMul, Nat.reduceSub, Int.reduceBNe, Int.reduceBEq, mh, wP, gT, tZ, Tryz.underlying24, Tryz.underlying27, Tryz.underlying31, Option.map_some, show (bv ≥ 0) = True by simp; omega, decide_true, List.length_cons, List.length_nil, List.set_cons_zero, h1, h2, hne, hne', cut1, List.getElem?_cons_zero]
      have ho3 := ((ho3.set rfl (.cells [.slice none 0 0] 24 true) rfl).perm (List.Perm.swap ..)).set rfl (.cells [.int .i64 13] 27 true) rfl
      exact he 13 _ hF ho3.tail.tail
    · rw [if_neg hb] at hF
      have hbv := mt (Bj l).1 hb
      generalize badV l = bv at *
      simp -implicitDefEqProofs only [go_sem, ↓aj, ↓ah, ak, Nat.reduceBEq, ↓reduceIte, reduceCtorEq, Nat.reduceEqDiff, Nat.reduceAdd, Nat.reduceLeDiff, Int.reduceEq, Int.reduceLT, Int.reduceLE, Int.reduceAdd, Int.reduceToNat, Int.reduceNeg, Nat.reduceMul, Nat.reduceSub, Int.reduceBNe, Int.reduceBEq, mh, wP, gT, tZ, Tryz.underlying24, Tryz.underlying27, Tryz.underlying31, Option.map_some, show (bv ≥ 0) = False by simp; omega, decide_false, List.length_cons, List.length_nil, List.set_cons_zero, h1, h2, hne, hne', cut1, List.getElem?_cons_zero]
      have hsrc := hX2.src ho3
      rw [aF] at hsrc
      simp -implicitDefEqProofs only [go_sem, ↓aj, ↓ah, ak, Nat.reduceBEq, ↓reduceIte, reduceCtorEq, Nat.reduceEqDiff, Nat.reduceAdd, Nat.reduceLeDiff, Int.reduceEq, Int.reduceLT, Int.reduceLE, Int.reduceAdd, Int.reduceToNat, Int.reduceNeg, Nat.reduceMul, Nat.reduceSub, Int.reduceBNe, Int.reduceBEq, nV (st := s2) (l := l) Tryz.underlying31 Tryz.underlying5 Tryz.underlying9 hsrc ⟨_, _, _, rfl⟩]
      have hll := FR l
      refine au.enter Tryz.func36 rfl (by kernel_rfl) (AA s2 _ l hM hl ho3 _ _ ?_)
      have e0 : (⟨#[]⟩ : ByteArray) = tx [] := rfl
      simp -implicitDefEqProofs only [go_sem, ↓aj, ↓ah, ak, Nat.reduceBEq, ↓reduceIte, reduceCtorEq, Nat.reduceEqDiff, Nat.reduceAdd, Nat.reduceLeDiff, Int.reduceEq, Int.reduceLT, Int.reduceLE, Int.reduceAdd, Int.reduceToNat, Int.reduceNeg, Nat.reduceMul, Nat.reduceSub, Int.reduceBNe, Int.reduceBEq, abox, L8, L9, Tryz.underlying76, bB, L6, e0, List.length_cons, List.length_nil, List.set_cons_zero, h1, h2, List.getElem?_cons_zero]
      have ho4 := ho3.new (.cells (rdC (lines l) (.slice none 0 0) (.slice none 0 0) false) 76 true)
      have hR : RdH s2.n ⟨lines l, [], [], false⟩ [(s2.n, .cells (rdC (lines l) (.slice none 0 0) (.slice none 0 0) false) 76 true)] :=
        ⟨_, _, [], [], [], [], rfl, GV.nil, .inl ⟨rfl, rfl, rfl, rfl⟩, rfl, rfl⟩
      unfold rdC at ho4
      refine au.enter Tryz.func37 rfl (by kernel_rfl) (F6 _ _ _ s2.n (lines l) hM hT (by omega) hR ho4 _ _ (fun r' h' st' hok hI hR' hO' => ?_) (fun e st' hbad hO' => ?_))
      · obtain ⟨nv, kv, cs, hn, hs, hx, rfl, hgv, hgk, hnds⟩ := hR'
        have hO5 : Own st' ((s2.n, .cells (rdC r'.s nv kv r'.done) 76 true) :: ((bd, .cells [.slice none 0 0] 24 true) :: (be, .cells [.int .i64 0] 27 true) :: (hn ++ (hs ++ (hx ++ r))))) := hO'.perm (by simpa using bR [[(s2.n, Ob.cells (rdC r'.s nv kv r'.done) 76 true)], hn, hs, hx, [(bd, Ob.cells [.slice none 0 0] 24 true)], [(be, Ob.cells [.int .i64 0] 27 true)], r] [0, 1, 2, 3, 4, 5, 6] [0, 4, 5, 1, 2, 3, 6] rfl)
        obtain ⟨na, hna⟩ := hgv.isSlice
        rw [hna] at hO5
        have hc := hO5.head
        unfold rdC at hc
        have g1 := hO5.tail.head
        have g2 := hO5.tail.tail.head
        simp -implicitDefEqProofs only [go_sem, ↓aj, ↓ah, ak, Nat.reduceBEq, ↓reduceIte, reduceCtorEq, Nat.reduceEqDiff, Nat.reduceAdd, Nat.reduceLeDiff, Int.reduceEq, Int.reduceLT, Int.reduceLE, Int.reduceAdd, Int.reduceToNat, Int.reduceNeg, Nat.reduceMul, Nat.reduceSub, Int.reduceBNe, Int.reduceBEq, hc, g1, g2, hne, hne', mh, wP, gT, tZ, Tryz.underlying24, Tryz.underlying27, fP, eT, Tryz.underlying22, List.getElem?_cons_succ, List.getElem?_cons_zero, Option.map_some, List.length_cons, List.length_nil, List.set_cons_zero]
        rw [hargs _ bd be rfl rfl]
        have hO6 := ((hO5.tail.set rfl (.cells [.slice na r'.ns.length r'.ns.length] 24 true) rfl).perm (List.Perm.swap ..)).set rfl (.cells [.int .i64 0] 27 true) rfl
        refine Dr _ bd be _ ?_
        refine w9 (hO6.perm (List.Perm.swap ..)) rfl rfl (hk r'.ns _ (hn ++ hx) _ (by rw [hF]; exact hok) ⟨cs, hn, hx, rfl, by rw [← hna]; exact hgv, hnds⟩ ?_)
        have hO7 := hO6.tail.tail
        exact hO7.sub (by rw [List.append_assoc]; exact (List.Sublist.refl hn).append (List.sublist_append_right hs _))
      · simp -implicitDefEqProofs only [go_sem, ↓aj, ↓ah, ak, Nat.reduceBEq, ↓reduceIte, reduceCtorEq, Nat.reduceEqDiff, Nat.reduceAdd, Nat.reduceLeDiff, Int.reduceEq, Int.reduceLT, Int.reduceLE, Int.reduceAdd, Int.reduceToNat, Int.reduceNeg, Nat.reduceMul, Nat.reduceSub, Int.reduceBNe, Int.reduceBEq]
        rw [hargs _ bd be rfl rfl]
        refine Dt _ _ bd be 0 e _ _ hO' fun st'' h'' => ?_
        exact w9 h'' rfl rfl (he e _ (by rw [hF]; exact hbad) h''.tail.tail)
end Go.Proofs.YtigjbehgfjjlkaaGreatDoor
