/- What open elements have written, and what shut ones (plain). -/
import Derived.Test.YtigjbehgfjjlkaaGreatDoorTrHA
import Derived.Test.YtigjbehgfjjlkaaGreatDoorXmGD
set_option linter.unusedVariables false
set_option linter.unusedSimpArgs false
namespace Go.Proofs.YtigjbehgfjjlkaaGreatDoor
open Go Go.Abs Go.Xml
def Shut (ns : List Nd) (A : Nat → Prop) : Nat → Nat → Tx → Prop
  | 0, _, _ => False
  | f + 1, k, w => ¬ A k ∧ ∃ n, ns[k]? = some n ∧ (((n.kind = 2 ∨ n.kind = 3 ∨ n.kind = 4) ∧ w = dZ n.up) ∨
      (n.kind = 1 ∧ ∃ l : List (Nat × Tx), n.kids = l.map (·.1) ∧ (∀ x ∈ l, Shut ns A f x.1 x.2) ∧ w = dP n.up ++ ((l.map (·.2)).flatten ++ endE n.up)))
theorem Shut.more {ns : List Nd} {A : Nat → Prop} : ∀ (f : Nat) {k : Nat} {w : Tx}, Shut ns A f k w → Shut ns A (f + 1) k w
  | 0, k, w, h => h.elim
  | f + 1, k, w, h => by
    obtain ⟨ha, n, hn, h⟩ := h
    refine ⟨ha, n, hn, h.imp id ?_⟩
    rintro ⟨h1, l, h2, h3, h4⟩
    exact ⟨h1, l, h2, fun x hx => (h3 x hx).more f, h4⟩
theorem Shut.up {ns : List Nd} {A : Nat → Prop} {f : Nat} {k : Nat} {w : Tx} (h : Shut ns A f k w) : ∀ d, Shut ns A (f + d) k w
  | 0 => h
  | d + 1 => (h.up d).more _
theorem Shut.agree {ns ns' : List Nd} {A A' : Nat → Prop} (h1 : ∀ (j : Nat) (n : Nd), ¬ A j → ns[j]? = some n → ns'[j]? = some n) (h2 : ∀ j, j < ns.length → A' j → A j) : ∀ (f : Nat) {k : Nat} {w : Tx}, Shut ns A f k w → Shut ns' A' f k w
  | 0, k, w, h => h.elim
  | f + 1, k, w, h => by
    obtain ⟨ha, n, hn, h⟩ := h
    refine ⟨fun h => ha (h2 k (List.getElem?_eq_some_iff.1 hn).1 h), n, h1 k n ha hn, h.imp id ?_⟩
    rintro ⟨g1, l, g2, g3, g4⟩
    exact ⟨g1, l, g2, fun x hx => (g3 x hx).agree h1 h2 f, g4⟩
theorem vJ {g : Int → Tx} : ∀ {l : List (Nat × Tx)}, (∀ x ∈ l, g (x.1 : Int) = x.2) → ((l.map (·.1)).map fun k : Nat => (k : Int)).flatMap g = (l.map (·.2)).flatten
  | [], _ => rfl
  | x :: l, h => by
    rw [List.map_cons, List.map_cons, List.flatMap_cons, List.map_cons, List.flatten_cons, h x (List.mem_cons_self ..), vJ fun y hy => h y (List.mem_cons_of_mem _ hy)]
theorem Shut.write {ns : List Nd} {A : Nat → Prop} : ∀ (f : Nat) {k : Nat} {w : Tx}, Shut ns A f k w → ∀ d, bg (ns.map Nd.up) (f + d) (k : Int) = w
  | 0, k, w, h, d => h.elim
  | f + 1, k, w, h, d => by
    obtain ⟨ha, n, hn, h⟩ := h
    rw [show f + 1 + d = (f + d) + 1 by omega, fu, iG, List.getElem?_map, hn, Option.map_some]
    dsimp only
    rcases h with ⟨hk, rfl⟩ | ⟨hk, l, g2, g3, rfl⟩
    · exact if_pos (show n.up.kind = 2 ∨ n.up.kind = 3 ∨ n.up.kind = 4 from hk)
    · have hkk : n.up.kind = 1 := hk
      rw [if_neg (by omega)]
      have e : n.up.kids = (l.map (·.1)).map fun k : Nat => (k : Int) := by rw [← g2]; rfl
      rw [e, vJ fun x hx => (g3 x hx).write f d]
def OW (ns : List Nd) (A : Nat → Prop) : Option Nat → List (Nat × Tx) → Tx → Prop
  | u, [], W => W = [] ∧ u = some 0
  | u, (p, nm) :: rest, W => ∃ (n : Nd) (l : List (Nat × Tx)) (W0 : Tx), ns[p]? = some n ∧ n.kind = 1 ∧ nm = bV n.pre n.loc ∧ NmOk nm ∧ n.kids = l.map (·.1) ++ u.toList ∧ (∀ x ∈ l, ∃ f, Shut ns A f x.1 x.2) ∧
      (∀ x ∈ rest, x.1 < p) ∧ OW ns A (some p) rest W0 ∧ W = W0 ++ (dP n.up ++ (l.map (·.2)).flatten)
theorem OW.agree {ns ns' : List Nd} {A A' : Nat → Prop} (h1 : ∀ (j : Nat) (n : Nd), ¬ A j → ns[j]? = some n → ns'[j]? = some n) (h2 : ∀ j, j < ns.length → A' j → A j) : ∀ (L : List (Nat × Tx)) {u : Option Nat} {W : Tx}, (∀ x ∈ L, ∀ n, ns[x.1]? = some n → ns'[x.1]? = some n) → OW ns A u L W → OW ns' A' u L W
  | [], u, W, _, h => h
  | (p, nm) :: rest, u, W, hL, h => by
    obtain ⟨n, l, W0, g1, g2, g3, g4, g5, g6, g7, g8, g9⟩ := h
    exact ⟨n, l, W0, hL _ (List.mem_cons_self ..) n g1, g2, g3, g4, g5, fun x hx => by obtain ⟨f, hf⟩ := g6 x hx; exact ⟨f, hf.agree h1 h2 f⟩, g7, OW.agree h1 h2 rest (fun x hx => hL x (List.mem_cons_of_mem _ hx)) g8, g9⟩
theorem Shut.one {ns : List Nd} {A : Nat → Prop} : ∀ {l : List (Nat × Tx)}, (∀ x ∈ l, ∃ f, Shut ns A f x.1 x.2) → ∃ f, ∀ x ∈ l, Shut ns A f x.1 x.2
  | [], _ => ⟨0, fun x hx => by cases hx⟩
  | x :: l, h => by
    obtain ⟨f, hf⟩ := h x (List.mem_cons_self ..)
    obtain ⟨g, hg⟩ := Shut.one fun y hy => h y (List.mem_cons_of_mem _ hy)
    refine ⟨f + g, fun y hy => ?_⟩
    rcases List.mem_cons.1 hy with rfl | hy
    · exact hf.up g
    · rw [Nat.add_comm]; exact (hg y hy).up f
theorem OW.kid {ns : List Nd} {A A' : Nat → Prop} {p : Nat} {nm : Tx} {rest : List (Nat × Tx)} {W : Tx} (h : OW ns A none ((p, nm) :: rest) W) (hA : A p) (h2 : ∀ j, j < ns.length → A' j → A j) (m : Nd) : OW (aB ns p ns.length ++ [m]) A' (some ns.length) ((p, nm) :: rest) W := by
  obtain ⟨n, l, W0, g1, g2, g3, g4, g5, g6, g7, g8, g9⟩ := h
  have hkl : (aB ns p ns.length).length = ns.length := aQ _ _ _
  have hoth : ∀ (j : Nat) (x : Nd), j ≠ p → ns[j]? = some x → (aB ns p ns.length ++ [m])[j]? = some x := fun j x hj hx => by
    rw [List.getElem?_append_left (by rw [hkl]; exact (List.getElem?_eq_some_iff.1 hx).1), gG, hx, Option.map_some, if_neg (Ne.symm hj)]
  have hag : ∀ (j : Nat) (x : Nd), ¬ A j → ns[j]? = some x → (aB ns p ns.length ++ [m])[j]? = some x := fun j x hj hx => hoth j x (fun e => hj (by rw [e]; exact hA)) hx
  refine ⟨{ n with kids := n.kids ++ [ns.length] }, l, W0, ?_, g2, g3, g4, ?_, fun x hx => by obtain ⟨f, hf⟩ := g6 x hx; exact ⟨f, hf.agree hag h2 f⟩, g7, OW.agree hag h2 rest (fun x hx n hn => hoth x.1 n (fun e => by have := g7 x hx; omega) hn) g8, g9⟩
  · rw [List.getElem?_append_left (by rw [hkl]; exact (List.getElem?_eq_some_iff.1 g1).1), gG, g1, Option.map_some, if_pos rfl]
  · show n.kids ++ [ns.length] = _
    rw [g5]
    simp
theorem OW.close {ns : List Nd} {A : Nat → Prop} {p c f : Nat} {nm w : Tx} {rest : List (Nat × Tx)} {W : Tx} (h : OW ns A (some c) ((p, nm) :: rest) W) (hc : Shut ns A f c w) : OW ns A none ((p, nm) :: rest) (W ++ w) := by
  obtain ⟨n, l, W0, g1, g2, g3, g4, g5, g6, g7, g8, g9⟩ := h
  refine ⟨n, l ++ [(c, w)], W0, g1, g2, g3, g4, ?_, fun x hx => ?_, g7, g8, ?_⟩
  · rw [g5]; simp
  · rcases List.mem_append.1 hx with hx | hx
    · exact g6 x hx
    · rw [List.mem_singleton.1 hx]; exact ⟨f, hc⟩
  · rw [g9]; simp
theorem OW.shut {ns : List Nd} {A A' : Nat → Prop} {p : Nat} {nm : Tx} {rest : List (Nat × Tx)} {W : Tx} (h : OW ns A none ((p, nm) :: rest) W) (hA' : ¬ A' p) (h2 : ∀ j, A' j → A j) :
    ∃ (n : Nd) (w W0 : Tx) (f : Nat), ns[p]? = some n ∧ n.kind = 1 ∧ nm = bV n.pre n.loc ∧ NmOk nm ∧ Shut ns A' f p w ∧ OW ns A' (some p) rest W0 ∧ W ++ endE n.up = W0 ++ w ∧ endE n.up = 60 :: 47 :: (nm ++ [62]) := by
  obtain ⟨n, l, W0, g1, g2, g3, g4, g5, g6, g7, g8, g9⟩ := h
  obtain ⟨f, hf⟩ := Shut.one g6
  have h2' : ∀ j, j < ns.length → A' j → A j := fun j _ => h2 j
  refine ⟨n, dP n.up ++ ((l.map (·.2)).flatten ++ endE n.up), W0, f + 1, g1, g2, g3, g4, ⟨hA', n, g1, .inr ⟨g2, l, by rw [g5]; simp, fun x hx => (hf x hx).agree (fun j n _ h => h) h2' f, rfl⟩⟩, OW.agree (fun j n _ h => h) h2' rest (fun x _ n h => h) g8, by rw [g9]; simp, by rw [g3]; rfl⟩
theorem OW.top {ns : List Nd} {A : Nat → Prop} {u : Option Nat} {p : Nat} {nm : Tx} {rest : List (Nat × Tx)} {W : Tx} (h : OW ns A u ((p, nm) :: rest) W) : ∃ n, ns[p]? = some n ∧ n.kind = 1 ∧ NmOk nm ∧ (∀ c, u = some c → n.kids.getLast? = some c) ∧ ∀ x ∈ rest, x.1 < p := by
  obtain ⟨n, l, W0, g1, g2, g3, g4, g5, g6, g7, g8, g9⟩ := h
  refine ⟨n, g1, g2, g4, fun c hc => ?_, g7⟩
  rw [g5, hc]
  simp
theorem qo {ns : List Nd} {p c : Nat} {n m : Nd} (h1 : ns[p]? = some n) (h2 : n.kids.getLast? = some c) (h3 : ns[c]? = some m) (h4 : m.kind ≠ 2) : aR ns p = none := by
  unfold aR
  rw [h1, Option.bind_some, h2]
  dsimp only
  rw [h3, Option.map_some, if_neg]
  intro h
  injection h with h
  exact h4 h
theorem qw {ns : List Nd} {p : Nat} {n : Nd} (h1 : ns[p]? = some n) (h2 : n.kids = []) : aR ns p = none := by
  unfold aR
  rw [h1, Option.bind_some, h2]
  rfl
structure KR (ns : List Nd) : Prop where
  kid : ∀ (i : Nat) (n : Nd), ns[i]? = some n → (n.kids.map fun k : Nat => (k : Int)) = bF (ns.map Nd.up) ns.length (i : Int)
  par : ∀ (i : Nat) (n : Nd), ns[i]? = some n → n.par < ns.length
theorem mQ {l l' : List Nd} {p : Int} : ∀ (m : Nat), (∀ j, j < m → (l[j]?).map (·.par) = (l'[j]?).map (·.par)) → bF (l.map Nd.up) m p = bF (l'.map Nd.up) m p
  | 0, _ => rfl
  | m + 1, h => by
    have ih := mQ (p := p) m fun j hj => h j (by omega)
    have hm := h m (by omega)
    rw [dG, dG, List.getElem?_map, List.getElem?_map, ih]
    cases h1 : l[m]? with
    | none =>
      rw [h1] at hm
      cases h2 : l'[m]? with
      | none => rfl
      | some b => rw [h2] at hm; cases hm
    | some a =>
      rw [h1] at hm
      cases h2 : l'[m]? with
      | none => rw [h2] at hm; cases hm
      | some b =>
        rw [h2] at hm
        have hp : a.up.par = b.up.par := by injection hm
        rw [Option.map_some, Option.map_some]
        dsimp only
        rw [hp]
theorem KR.nil : KR [] := ⟨fun i n h => by simp at h, fun i n h => by simp at h⟩
theorem KR.root (n : Nd) (hn : n.kids = []) : KR ([] ++ [{ n with par := -1 }]) := by
  refine ⟨fun i m h => ?_, fun i m h => ?_⟩
  · cases i with
    | zero =>
      simp at h
      subst h
      show (n.kids.map _) = _
      rw [hn]
      rfl
    | succ i => simp at h
  · cases i with
    | zero => simp at h; subst h; show (-1 : Int) < _; simp
    | succ i => simp at h
theorem KR.with {ns : List Nd} {p : Nat} (h : KR ns) (hp : p < ns.length) (n : Nd) (hn : n.kids = []) : KR (aB ns p ns.length ++ [{ n with par := (p : Int) }]) := by
  have hkl : (aB ns p ns.length).length = ns.length := aQ _ _ _
  have hlen : (aB ns p ns.length ++ [{ n with par := (p : Int) }]).length = ns.length + 1 := by rw [List.length_append, hkl]; rfl
  have hlast : (aB ns p ns.length ++ [{ n with par := (p : Int) }])[ns.length]? = some { n with par := (p : Int) } := by
    rw [List.getElem?_append_right (by rw [hkl]; exact Nat.le_refl _), hkl, Nat.sub_self]; rfl
  have hold : ∀ j, j < ns.length → (aB ns p ns.length ++ [{ n with par := (p : Int) }])[j]? = (ns[j]?).map fun n => if p = j then { n with kids := n.kids ++ [ns.length] } else n := fun j hj => by
    rw [List.getElem?_append_left (by rw [hkl]; exact hj), gG]
  have hpars : ∀ q : Int, bF ((aB ns p ns.length ++ [{ n with par := (p : Int) }]).map Nd.up) ns.length q = bF (ns.map Nd.up) ns.length q := fun q => mQ _ fun j hj => by
    rw [hold j hj]
    cases ns[j]? with
    | none => rfl
    | some m => simp only [Option.map_some]; split <;> rfl
  have hstep : ∀ q : Int, bF ((aB ns p ns.length ++ [{ n with par := (p : Int) }]).map Nd.up) (ns.length + 1) q = if (p : Int) = q then bF (ns.map Nd.up) ns.length q ++ [(ns.length : Int)] else bF (ns.map Nd.up) ns.length q := fun q => by
    rw [dG, List.getElem?_map, hlast, Option.map_some, hpars]
    dsimp only
    by_cases hq : (p : Int) = q
    · rw [if_pos hq, if_pos ⟨by omega, hq⟩]
    · rw [if_neg hq, if_neg fun h => hq h.2]
  refine ⟨fun i m hm => ?_, fun i m hm => ?_⟩
  · rw [hlen, hstep]
    have hil := (List.getElem?_eq_some_iff.1 hm).1
    rw [hlen] at hil
    by_cases hi : i < ns.length
    · rw [hold i hi] at hm
      cases hx : ns[i]? with
      | none => rw [hx] at hm; cases hm
      | some x =>
        rw [hx, Option.map_some] at hm
        injection hm with hm
        have hk := h.kid i x hx
        by_cases hpi : p = i
        · rw [if_pos hpi] at hm
          rw [if_pos (by rw [hpi]), ← hm, ← hk]
          simp
        · rw [if_neg hpi] at hm
          rw [if_neg (by omega), ← hm, hk]
    · obtain rfl : i = ns.length := by omega
      rw [hlast] at hm
      injection hm with hm
      rw [← hm, if_neg (by omega)]
      show (n.kids.map _) = _
      rw [hn]
      symm
      apply List.eq_nil_iff_forall_not_mem.2
      intro k hk
      obtain ⟨j, y, _, _, h2, h3, h4⟩ := lM.1 hk
      rw [List.getElem?_map] at h3
      cases hy : ns[j]? with
      | none => rw [hy] at h3; cases h3
      | some z =>
        rw [hy, Option.map_some] at h3
        injection h3 with h3
        have := h.par j z hy
        have h5 : z.par = ns.length := by rw [← h3] at h4; exact h4
        omega
  · rw [hlen]
    have hil := (List.getElem?_eq_some_iff.1 hm).1
    rw [hlen] at hil
    by_cases hi : i < ns.length
    · rw [hold i hi] at hm
      cases hx : ns[i]? with
      | none => rw [hx] at hm; cases hm
      | some x =>
        rw [hx, Option.map_some] at hm
        injection hm with hm
        have hk := h.par i x hx
        have : m.par = x.par := by rw [← hm]; split <;> rfl
        rw [this]
        omega
    · obtain rfl : i = ns.length := by omega
      rw [hlast] at hm
      injection hm with hm
      rw [← hm]
      show (p : Int) < _
      omega
theorem KR.same {ns ns' : List Nd} (h : KR ns) (hl : ns'.length = ns.length) (hs : ∀ j : Nat, (ns'[j]?).map (fun n : Nd => (n.par, n.kids)) = (ns[j]?).map (fun n : Nd => (n.par, n.kids))) : KR ns' := by
  have hget : ∀ (i : Nat) (n : Nd), ns'[i]? = some n → ∃ m, ns[i]? = some m ∧ m.par = n.par ∧ m.kids = n.kids := fun i n hn => by
    have := hs i
    rw [hn, Option.map_some] at this
    cases hm : ns[i]? with
    | none => rw [hm] at this; cases this
    | some m =>
      rw [hm, Option.map_some] at this
      injection this with this
      injection this with h1 h2
      exact ⟨m, rfl, h1.symm, h2.symm⟩
  refine ⟨fun i n hn => ?_, fun i n hn => ?_⟩
  · obtain ⟨m, h1, h2, h3⟩ := hget i n hn
    rw [hl, ← h3, h.kid i m h1]
    refine mQ _ fun j hj => ?_
    have := congrArg (Option.map Prod.fst) (hs j)
    rw [Option.map_map, Option.map_map] at this
    exact this.symm
  · obtain ⟨m, h1, h2, h3⟩ := hget i n hn
    rw [hl, ← h2]
    exact h.par i m h1
end Go.Proofs.YtigjbehgfjjlkaaGreatDoor
set_option linter.unusedVariables false
set_option linter.unusedSimpArgs false
namespace Go.Proofs.YtigjbehgfjjlkaaGreatDoor
open Go Go.Abs Go.Xml
def Op (stk : List (Nat × Tx)) (j : Nat) : Prop := ∃ x ∈ stk, x.1 = j
def Out (ns : List Nd) (stk : List (Nat × Tx)) (d : Bool) (W : Tx) : Prop :=
  (stk = [] ∧ d = false ∧ ns = [] ∧ W = []) ∨ (stk = [] ∧ d = true ∧ (∃ f, Shut ns (fun _ => False) f 0 W) ∧ ∃ n, ns[0]? = some n ∧ n.kind = 1 ∧ NmOk (bV n.pre n.loc)) ∨ (stk ≠ [] ∧ d = true ∧ OW ns (Op stk) none stk.reverse W)
structure Beside (r : RS) (ns : List Nd) (W : Tx) : Prop where
  run : ∀ t, Steps ⟨W ++ t, [], [], false⟩ ⟨t, ns, r.stk, r.done⟩
  out : Out ns r.stk r.done W
  good : Good W
  no13 : ∀ x ∈ W, x ≠ 13
  last : ∀ p nm, r.stk.getLast? = some (p, nm) → aR ns p = none ∧ p < ns.length
def sO (n : Nd) : Nat := (bV n.pre n.loc).length
def SzO (n : Nd) : Prop := SzX n.up ∧ ownE n.up ≤ 3000000
theorem SzO.kids {n : Nd} (h : SzO n) (l : List Nat) : SzO { n with kids := l } := ⟨⟨h.1.pre, h.1.loc, h.1.val, h.1.atts, h.1.dcls, h.1.att, h.1.dcl⟩, h.2⟩
theorem SzO.par {n : Nd} (h : SzO n) (p : Int) : SzO { n with par := p } := ⟨⟨h.1.pre, h.1.loc, h.1.val, h.1.atts, h.1.dcls, h.1.att, h.1.dcl⟩, h.2⟩
theorem SzO.add {ns : List Nd} {p : Nat} {m : Nd} (h : ∀ n ∈ ns, SzO n) (hm : SzO m) : ∀ n ∈ aB ns p ns.length ++ [m], SzO n := fun n hn => by
  rcases List.mem_append.1 hn with hn | hn
  · rcases wY hn with hn | ⟨m', hm', rfl⟩
    · exact h n hn
    · exact (h m' hm').kids _
  · rw [List.mem_singleton.1 hn]; exact hm
theorem D6 {α : Type} {f : α → Tx} : ∀ {l : List α} {a : α}, a ∈ l → (f a).length ≤ (l.flatMap f).length
  | b :: l, a, h => by
    rw [List.flatMap_cons, List.length_append]
    rcases List.mem_cons.1 h with rfl | h
    · omega
    · have := D6 (f := f) h; omega
theorem BL (p l : Tx) : p.length ≤ (bV p l).length ∧ l.length ≤ (bV p l).length := by
  unfold bV
  split
  · rename_i h; subst h; simp
  · simp; omega
theorem SzO.start {n : Nd} (hk : n.kind = 1) (hv : n.val = []) (h : (stT n).length + sO n ≤ 1000000) : SzO n := by
  have e : (stT n).length = (bV n.pre n.loc).length + ((n.dcls.flatMap dclE).length + ((n.atts.flatMap atE).length + 1)) := by unfold stT; simp
  have g1 := jM (f := dclE) (fun d => by unfold dclE; simp) n.dcls
  have g2 := jM (f := atE) (fun d => by unfold atE; simp) n.atts
  have g3 := BL n.pre n.loc
  unfold sO at h
  refine ⟨⟨(show n.pre.length ≤ _ by omega), (show n.loc.length ≤ _ by omega), (show n.val.length ≤ _ by rw [hv]; exact Nat.zero_le _), (show n.atts.length ≤ _ by omega), (show n.dcls.length ≤ _ by omega), fun a ha => ?_, fun d hd => ?_⟩, ?_⟩
  · have m1 := D6 (f := atE) (show a ∈ n.atts from ha)
    have m2 := BL a.pre a.loc
    have m3 := ql (f := attE) a.val
    have m4 : (atE a).length = (bV a.pre a.loc).length + (aN attE a.val).length + 4 := by unfold atE; simp; omega
    omega
  · have m1 := D6 (f := dclE) (show d ∈ n.dcls from hd)
    have m3 := ql (f := attE) d.uri
    have m4 : d.pre.length + (aN attE d.uri).length ≤ (dclE d).length := by
      unfold dclE
      split
      · rename_i h; rw [h]; simp; omega
      · simp; omega
    omega
  · unfold ownE
    have hk' : n.up.kind = 1 := hk
    rw [if_neg (by omega)]
    have e1 : (dP n.up).length = (stT n).length + 1 := by rw [jo]; rfl
    have e2 : (endE n.up).length = (bV n.pre n.loc).length + 3 := by unfold endE; simp; rfl
    omega
structure Inv (r : RS) : Prop where
  gs : Good r.s
  ns13 : ∀ x ∈ r.s, x ≠ 13
  kr : KR r.ns
  beside : ∃ ns W p v, Beside r ns W ∧ r.ns = PT ns p v ∧ Good v ∧ (v ≠ [] → PTok ns r.stk p) ∧ (∀ n ∈ ns, SzO n) ∧ W.length + 6 * v.length + 40 * r.s.length ≤ 1000000
theorem zI (ns : List Nd) (p : Nat) : PT ns p [] = ns := rfl
theorem Out.top {ns : List Nd} {stk : List (Nat × Tx)} {d : Bool} {W : Tx} (h : Out ns stk d W) {p : Nat} {nm : Tx} (hl : stk.getLast? = some (p, nm)) : d = true ∧ ∃ rest, stk.reverse = (p, nm) :: rest ∧ rest = stk.dropLast.reverse ∧ OW ns (Op stk) none ((p, nm) :: rest) W := by
  have hne : stk ≠ [] := fun e => by rw [e] at hl; cases hl
  rcases h with h | h | h
  · exact absurd h.1 hne
  · exact absurd h.1 hne
  · have hr := iU hl
    exact ⟨h.2.1, stk.dropLast.reverse, hr, rfl, by rw [← hr]; exact h.2.2⟩
theorem Op.top {stk : List (Nat × Tx)} {p : Nat} {nm : Tx} (hl : stk.getLast? = some (p, nm)) : Op stk p := ⟨(p, nm), List.mem_of_getLast? hl, rfl⟩
theorem Op.push {stk : List (Nat × Tx)} {a : Nat} {nm : Tx} : ∀ j, j < a → Op (stk ++ [(a, nm)]) j → Op stk j := fun j hj ⟨x, hx, e⟩ => by
  rcases List.mem_append.1 hx with hx | hx
  · exact ⟨x, hx, e⟩
  · rw [List.mem_singleton.1 hx] at e; omega
theorem Inv.flush {r : RS} (h : Inv r) : ∃ W, (∀ t, t.head? = some 60 → Steps ⟨W ++ t, [], [], false⟩ ⟨t, r.ns, r.stk, r.done⟩) ∧ Out r.ns r.stk r.done W ∧ Good W ∧ (∀ x ∈ W, x ≠ 13) ∧ (∀ n ∈ r.ns, SzO n) ∧ W.length + 40 * r.s.length ≤ 1000000 := by
  obtain ⟨ns, W, p, v, hB, hns, hgv, hok, hsz, hlen⟩ := h.beside
  by_cases hv : v = []
  · rw [hv, zI] at hns
    rw [hns]
    exact ⟨W, fun t _ => hB.run t, hB.out, hB.good, hB.no13, hsz, by omega⟩
  have hP := hok hv
  obtain ⟨nm, hl⟩ := hP.last
  obtain ⟨hd, rest, hr1, hr2, hO⟩ := hB.out.top hl
  refine ⟨W ++ aN texE v, fun t ht => ?_, ?_, hB.good.append (ow (.inr rfl) hgv), fun x hx => ?_, ?_, ?_⟩
  · rw [List.append_assoc, hns]
    refine (hB.run _).trans ?_
    have := lS hP (d := r.done) v [] [] t (fun x hx => by cases hx) ht
    rw [zI, List.nil_append, List.nil_append, List.nil_append] at this
    exact this
  · have hne : r.stk ≠ [] := fun e => by rw [e] at hl; cases hl
    refine .inr (.inr ⟨hne, hd, ?_⟩)
    have hk := OW.kid (A' := Op r.stk) hO (Op.top hl) (fun j _ h => h) { nd0 with kind := 2, val := v, par := (p : Int) }
    have hpt : r.ns = aB ns p ns.length ++ [{ nd0 with kind := 2, val := v, par := (p : Int) }] := by rw [hns]; unfold PT; rw [if_neg hv]
    rw [← hpt] at hk
    have hlt : ¬ Op r.stk ns.length := fun ⟨x, hx, e⟩ => by
      have hx' : x ∈ r.stk.reverse := List.mem_reverse.2 hx
      rw [hr1] at hx'
      obtain ⟨n, g1, _, _, _, g5⟩ := hO.top
      have hpl := (List.getElem?_eq_some_iff.1 g1).1
      rcases List.mem_cons.1 hx' with rfl | hx'
      · have : p = ns.length := e
        omega
      · have := g5 x hx'; omega
    have hs : Shut r.ns (Op r.stk) 1 ns.length (aN texE v) := ⟨hlt, { nd0 with kind := 2, val := v, par := (p : Int) }, by
      rw [hpt, List.getElem?_append_right (by rw [aQ]; exact Nat.le_refl _), aQ, Nat.sub_self]; rfl, .inl ⟨.inl rfl, rfl⟩⟩
    rw [hr1]
    exact hk.close hs
  · rcases List.mem_append.1 hx with hx | hx
    · exact hB.no13 x hx
    · exact oz (.inr rfl) _ x hx
  · have htl := dQ qc v
    rw [hns]
    unfold PT
    rw [if_neg hv]
    refine SzO.add hsz ⟨⟨Nat.zero_le _, Nat.zero_le _, (show v.length ≤ _ by omega), Nat.zero_le _, Nat.zero_le _, fun a ha => (by cases ha), fun a ha => (by cases ha)⟩, ?_⟩
    show (aN texE v).length ≤ _
    omega
  · have htl := dQ qc v
    rw [List.length_append]
    omega
theorem Inv.text {r r' : RS} {t s1 : Tx} (h : Inv r) (ht : aW t { r with s := s1 } = .ok r') (hg : Good t) (hs : Good s1) (h13 : ∀ x ∈ s1, x ≠ 13) (hms : 6 * t.length + 40 * s1.length ≤ 40 * r.s.length) : Inv r' := by
  obtain ⟨ns, W, p, v, hB, hns, hgv, hok, hsz, hlen⟩ := h.beside
  by_cases ht0 : t = []
  · unfold aW at ht
    rw [if_pos ht0] at ht
    injection ht with ht
    rw [← ht]
    exact ⟨hs, h13, h.kr, ns, W, p, v, ⟨hB.run, hB.out, hB.good, hB.no13, hB.last⟩, hns, hgv, hok, hsz, (show W.length + 6 * v.length + 40 * s1.length ≤ _ by omega)⟩
  cases hl : r.stk.getLast? with
  | none =>
    unfold aW at ht
    rw [if_neg ht0] at ht
    dsimp only at ht
    rw [hl] at ht
    cases ht
  | some x =>
    obtain ⟨q, nm⟩ := x
    have hb := hB.last q nm hl
    have hP : ∃ p, PTok ns r.stk p ∧ r.ns = PT ns p v := by
      by_cases hv : v = []
      · refine ⟨q, ⟨⟨nm, hl⟩, hb.2, hb.1, fun hlen => ?_⟩, by rw [hns, hv]; rfl⟩
        unfold aW at ht
        rw [if_neg ht0] at ht
        dsimp only at ht
        rw [hv, zI] at hns
        rw [hl, hns] at ht
        dsimp only at ht
        rw [hb.1] at ht
        dsimp only at ht
        unfold addF at ht
        rw [if_pos hlen] at ht
        cases ht
      · exact ⟨p, hok hv, hns⟩
    obtain ⟨p', hP, hns'⟩ := hP
    have := PT.text hP v t s1 r.done ht0
    rw [← hns'] at this
    have e : ({ r with s := s1 } : RS) = ⟨s1, r.ns, r.stk, r.done⟩ := rfl
    rw [e, this] at ht
    injection ht with ht
    rw [← ht]
    have hkr : KR (PT ns p' (v ++ t)) := by
      have hk := h.kr
      have hvt : v ++ t ≠ [] := fun e => ht0 (List.append_eq_nil_iff.1 e).2
      rw [hns'] at hk
      unfold PT at hk ⊢
      rw [if_neg hvt]
      by_cases hv : v = []
      · rw [if_pos hv] at hk
        exact hk.with hP.lt { nd0 with kind := 2, val := v ++ t } rfl
      · rw [if_neg hv] at hk
        refine hk.same (by rw [List.length_append, List.length_append]; rfl) fun j => ?_
        by_cases hj : j < (aB ns p' ns.length).length
        · rw [List.getElem?_append_left hj, List.getElem?_append_left hj]
        · rw [List.getElem?_append_right (by omega), List.getElem?_append_right (by omega)]
          cases j - (aB ns p' ns.length).length with
          | zero => rfl
          | succ k => rfl
    exact ⟨hs, h13, hkr, ns, W, p', v ++ t, ⟨hB.run, hB.out, hB.good, hB.no13, hB.last⟩, rfl, hgv.append hg, fun _ => hP, hsz, (show W.length + 6 * (v ++ t).length + 40 * s1.length ≤ _ by rw [List.length_append]; omega)⟩
theorem lT {ns : List Nd} {stk : List (Nat × Tx)} {n : Nd} {p : Nat} {nm : Tx} (hl : stk.getLast? = some (p, nm)) : qm ns stk n = aB ns p ns.length ++ [{ n with par := (p : Int) }] := by
  unfold qm; rw [hl]
theorem qx (ns : List Nd) (p : Nat) (m : Nd) : (aB ns p ns.length ++ [m])[ns.length]? = some m := by
  rw [List.getElem?_append_right (by rw [aQ]; exact Nat.le_refl _), aQ, Nat.sub_self]; rfl
theorem J5 {ns : List Nd} {p : Nat} {n m : Nd} (h : ns[p]? = some n) : (aB ns p ns.length ++ [m])[p]? = some { n with kids := n.kids ++ [ns.length] } := by
  rw [List.getElem?_append_left (by rw [aQ]; exact (List.getElem?_eq_some_iff.1 h).1), gG, h, Option.map_some, if_pos rfl]
theorem Inv.of {r : RS} {W : Tx} (hg : Good r.s) (h13 : ∀ x ∈ r.s, x ≠ 13) (hk : KR r.ns) (h : Beside r r.ns W) (hsz : ∀ n ∈ r.ns, SzO n) (hl : W.length + 40 * r.s.length ≤ 1000000) : Inv r := ⟨hg, h13, hk, r.ns, W, 0, [], h, rfl, .nil, fun h => absurd rfl h, hsz, by simpa using hl⟩
end Go.Proofs.YtigjbehgfjjlkaaGreatDoor
set_option linter.unusedVariables false
set_option linter.unusedSimpArgs false
namespace Go.Proofs.YtigjbehgfjjlkaaGreatDoor
open Go Go.Abs Go.Xml
structure jk (ns : List Nd) (stk : List (Nat × Tx)) (d : Bool) (W : Tx) : Prop where
  run : ∀ t, t.head? = some 60 → Steps ⟨W ++ t, [], [], false⟩ ⟨t, ns, stk, d⟩
  out : Out ns stk d W
  good : Good W
  no13 : ∀ x ∈ W, x ≠ 13
theorem Beside.cast {r r' : RS} {ns : List Nd} {W : Tx} (h : Beside r ns W) (hs : r'.stk = r.stk) (hd : r'.done = r.done) : Beside r' ns W :=
  ⟨by rw [hs, hd]; exact h.run, by rw [hs, hd]; exact h.out, h.good, h.no13, by rw [hs]; exact h.last⟩
theorem IW {ns : List Nd} {A : Nat → Prop} {u : Option Nat} {stk : List (Nat × Tx)} {p : Nat} {nm : Tx} {W : Tx} (hr : stk.reverse = (p, nm) :: stk.dropLast.reverse) (hO : OW ns A u ((p, nm) :: stk.dropLast.reverse) W) : ∀ x ∈ stk, x.1 < ns.length := fun x hx => by
  have hx' : x ∈ stk.reverse := List.mem_reverse.2 hx
  rw [hr] at hx'
  obtain ⟨n, g1, _, _, _, g5⟩ := hO.top
  have hpl := (List.getElem?_eq_some_iff.1 g1).1
  rcases List.mem_cons.1 hx' with rfl | hx'
  · exact hpl
  · have := g5 x hx'; omega
theorem Gn {n : Nd} (h : n.kind = 3 ∨ n.kind = 4) (t : Tx) : (dZ n.up ++ t).head? = some 60 ∧ dZ n.up ++ t ≠ [] := by
  have h2 : ¬ n.up.kind = 2 := by show ¬ n.kind = 2; omega
  unfold dZ
  rw [if_neg h2]
  split
  · exact ⟨rfl, by simp⟩
  · exact ⟨rfl, by simp⟩
theorem jk.leaf {r r' : RS} {n : Nd} {W : Tx} (h : jk r.ns r.stk r.done W) (hl : vI r r' n) (hst : r.stk ≠ []) : Beside r' r'.ns (W ++ dZ n.up) := by
  obtain ⟨p, nm, hp⟩ := dY hst
  obtain ⟨h1, h2⟩ := (hl.ns.resolve_left fun h => hst h.1).2
  obtain ⟨hd, rest, hr1, hr2, hO⟩ := h.out.top hp
  subst hr2
  have hns : r'.ns = aB r.ns p r.ns.length ++ [{ n with par := (p : Int) }] := by rw [h1, lT hp]
  obtain ⟨np, g1, g2, _, _, _⟩ := hO.top
  have hpl := (List.getElem?_eq_some_iff.1 g1).1
  have hlt : ¬ Op r.stk r.ns.length := fun ⟨x, hx, e⟩ => by have := IW hr1 hO x hx; omega
  refine ⟨fun t => ?_, ?_, h.good.append hl.goodT, fun x hx => ?_, fun q nm' hq => ?_⟩
  · rw [List.append_assoc, hl.stk, hl.done]
    have hh := Gn hl.kind t
    exact (h.run _ hh.1).trans (.step hh.2 (h2 t) (.refl _))
  · rw [hl.stk, hl.done]
    refine .inr (.inr ⟨hst, hd, ?_⟩)
    rw [hr1, hns]
    have hk := OW.kid (A' := Op r.stk) hO (Op.top hp) (fun j _ h => h) { n with par := (p : Int) }
    refine hk.close (f := 1) ⟨hlt, { n with par := (p : Int) }, qx _ _ _, .inl ⟨?_, rfl⟩⟩
    exact hl.kind.elim (fun h => .inr (.inl h)) (fun h => .inr (.inr h))
  · rcases List.mem_append.1 hx with hx | hx
    · exact h.no13 x hx
    · exact hl.no13 x hx
  · rw [hl.stk, hp] at hq
    injection hq with hq
    injection hq with hq _
    subst hq
    rw [hns]
    refine ⟨qo (J5 g1) (by simp) (qx _ _ _) ?_, by rw [List.length_append, aQ]; omega⟩
    show n.kind ≠ 2
    have := hl.kind
    omega
theorem jk.pop {r : RS} {W : Tx} {p : Nat} {nm : Tx} (h : jk r.ns r.stk r.done W) (hl : r.stk.getLast? = some (p, nm)) : ∃ W', W'.length = W.length + nm.length + 3 ∧ ∀ r' : RS, r'.stk = r.stk.dropLast → r'.done = r.done → Beside r' r.ns W' := by
  obtain ⟨hd, rest, hr1, hr2, hO⟩ := h.out.top hl
  subst hr2
  have hlt := hO.top
  obtain ⟨_, _, _, hnm0, _, hrest⟩ := hlt
  have hA' : ¬ Op r.stk.dropLast p := fun ⟨x, hx, e⟩ => by
    have := hrest x (List.mem_reverse.2 hx)
    omega
  have h2 : ∀ j, Op r.stk.dropLast j → Op r.stk j := fun j ⟨x, hx, e⟩ => ⟨x, List.dropLast_subset _ hx, e⟩
  obtain ⟨n, w, W0, f, s1, s2, s3, s4, s5, s6, s7, s8⟩ := OW.shut hO hA' h2
  refine ⟨W ++ endE n.up, by rw [s8]; simp; omega, fun r' e1 e2 => ⟨fun t => ?_, ?_, ?_, fun x hx => ?_, fun q nm' hq => ?_⟩⟩
  · rw [e1, e2, List.append_assoc, s8]
    have e : 60 :: 47 :: (nm ++ [62]) ++ t = 60 :: 47 :: (nm ++ 62 :: t) := by simp
    rw [e]
    refine (h.run _ rfl).trans (.step (by simp) ?_ (.refl _))
    rw [step_end]
    exact J3 s4 hl _ _
  · rw [e1, e2, s7]
    cases hdl : r.stk.dropLast.getLast? with
    | none =>
      have hnil : r.stk.dropLast = [] := List.getLast?_eq_none_iff.1 hdl
      rw [hnil] at s6 s5 ⊢
      obtain ⟨w1, w2⟩ := s6
      injection w2 with w2
      subst w2
      rw [w1, List.nil_append]
      exact .inr (.inl ⟨rfl, hd, ⟨f, s5.agree (fun j n _ h => h) (fun j _ h => h.elim) f⟩, n, s1, s2, by rw [← s3]; exact s4⟩)
    | some x =>
      obtain ⟨q, nmq⟩ := x
      have hne : r.stk.dropLast ≠ [] := fun e => by rw [e] at hdl; cases hdl
      have hrev := iU hdl
      refine .inr (.inr ⟨hne, hd, ?_⟩)
      rw [hrev] at s6 ⊢
      exact s6.close s5
  · rw [s8]
    exact h.good.append ((Good.ascii (a := [60, 47]) (by decide)).append (s4.good.append (Good.ascii (by decide))))
  · rcases List.mem_append.1 hx with hx | hx
    · exact h.no13 x hx
    · rw [s8] at hx
      simp only [List.mem_cons, List.mem_append, List.not_mem_nil, or_false] at hx
      rcases hx with rfl | rfl | hx | rfl
      · decide
      · decide
      · exact s4.no13 x hx
      · decide
  · rw [e1] at hq
    have hrev := iU hq
    rw [hrev] at s6
    obtain ⟨nq, q1, q2, q3, q4, _⟩ := s6.top
    exact ⟨qo q1 (q4 p rfl) s1 (by omega), (List.getElem?_eq_some_iff.1 q1).1⟩
theorem jk.start {r r' : RS} {nm : Tx} {n : Nd} {sc : Bool} {W : Tx} (h : jk r.ns r.stk r.done W) (hs : zG r r' nm n sc) : Beside ⟨[], r'.ns, r.stk ++ [(r.ns.length, nm)], true⟩ r'.ns (W ++ dP n.up) := by
  have hhead : ∀ t, dP n.up ++ t = 60 :: (stT n ++ t) := fun t => by rw [jo]; rfl
  have hrun : ∀ t, Steps ⟨W ++ dP n.up ++ t, [], [], false⟩ ⟨t, r'.ns, r.stk ++ [(r.ns.length, nm)], true⟩ := fun t => by
    rw [List.append_assoc, hhead]
    refine (h.run _ rfl).trans (.step (by simp) ?_ (.refl _))
    have e : stT n ++ t = nm ++ (n.dcls.flatMap dclE ++ (n.atts.flatMap atE ++ [62]) ++ t) := by unfold stT; rw [← hs.name, List.append_assoc]
    rw [e, DZ hs.nmok, ← e]
    exact hs.again t
  have hgood : Good (W ++ dP n.up) := h.good.append (by rw [jo]; exact (Good.ascii (a := [60]) (by decide)).append hs.goodT)
  have h13 : ∀ x ∈ W ++ dP n.up, x ≠ 13 := fun x hx => by
    rcases List.mem_append.1 hx with hx | hx
    · exact h.no13 x hx
    · rw [jo] at hx
      rcases List.mem_cons.1 hx with rfl | hx
      · decide
      · exact hs.no13 x hx
  cases hl : r.stk.getLast? with
  | none =>
    have hnil : r.stk = [] := List.getLast?_eq_none_iff.1 hl
    have hf := hs.fresh
    have hO := h.out
    rw [hnil] at hO hf
    rcases hO with hO | hO | hO
    · obtain ⟨_, o2, o3, o4⟩ := hO
      have hns : r'.ns = [{ n with par := -1 }] := by rw [hs.ns, hnil, o3]; rfl
      refine ⟨hrun, .inr (.inr ⟨by simp, rfl, ?_⟩), hgood, h13, fun q nm' hq => ?_⟩
      · rw [hnil, o3, o4, hns]
        show OW _ _ none [(0, nm)] _
        exact ⟨{ n with par := -1 }, [], [], rfl, hs.kind, hs.name, hs.nmok, hs.kids, fun x hx => (by cases hx), fun x hx => (by cases hx), ⟨rfl, rfl⟩, by simp; rfl⟩
      · have : (r.stk ++ [(r.ns.length, nm)]).getLast? = some (r.ns.length, nm) := by simp
        rw [this] at hq
        injection hq with hq
        injection hq with hq _
        subst hq
        rw [o3, hns]
        exact ⟨qw (n := { n with par := -1 }) rfl hs.kids, by simp⟩
    · exact absurd ⟨rfl, hO.2.1⟩ hf
    · exact absurd rfl hO.1
  | some x =>
    obtain ⟨p, nmp⟩ := x
    obtain ⟨hd, rest, hr1, hr2, hO⟩ := h.out.top hl
    subst hr2
    have hns : r'.ns = aB r.ns p r.ns.length ++ [{ n with par := (p : Int) }] := by rw [hs.ns, lT hl]
    have hstk : (r.stk ++ [(r.ns.length, nm)]).reverse = (r.ns.length, nm) :: (p, nmp) :: r.stk.dropLast.reverse := by rw [List.reverse_append, hr1]; rfl
    have hk := OW.kid (A' := Op (r.stk ++ [(r.ns.length, nm)])) hO (Op.top hl) Op.push { n with par := (p : Int) }
    refine ⟨hrun, .inr (.inr ⟨by simp, rfl, ?_⟩), hgood, h13, fun q nm' hq => ?_⟩
    · show OW _ _ none (r.stk ++ [(r.ns.length, nm)]).reverse _
      rw [hstk, hns]
      refine ⟨{ n with par := (p : Int) }, [], W, qx _ _ _, hs.kind, hs.name, hs.nmok, hs.kids, fun x hx => (by cases hx), fun x hx => ?_, hk, by simp; rfl⟩
      have : x ∈ r.stk.reverse := by rw [hr1]; exact hx
      exact IW hr1 hO x (List.mem_reverse.1 this)
    · have : (r.stk ++ [(r.ns.length, nm)]).getLast? = some (r.ns.length, nm) := by simp
      rw [this] at hq
      injection hq with hq
      injection hq with hq _
      subst hq
      rw [hns]
      exact ⟨qw (qx _ _ _) hs.kids, by rw [List.length_append, aQ]; simp⟩
theorem Beside.flushed {r : RS} {ns : List Nd} {W : Tx} (h : Beside r ns W) : jk ns r.stk r.done W := ⟨fun t _ => h.run t, h.out, h.good, h.no13⟩
theorem Inv.flushed {r : RS} (h : Inv r) : ∃ W, jk r.ns r.stk r.done W ∧ (∀ n ∈ r.ns, SzO n) ∧ W.length + 40 * r.s.length ≤ 1000000 := by
  obtain ⟨W, a, b, c, d, e, f⟩ := h.flush
  exact ⟨W, ⟨a, b, c, d⟩, e, f⟩
theorem J6 {n : Nd} (h : n.kind = 3 ∨ n.kind = 4) : 4 ≤ (dZ n.up).length := by
  have h2 : ¬ n.up.kind = 2 := by show ¬ n.kind = 2; omega
  unfold dZ
  rw [if_neg h2]
  split
  · simp only [List.length_append, List.length_cons, List.length_nil]; omega
  · simp only [List.length_append, List.length_cons, List.length_nil]; omega
theorem Inv.leaf {r r0 r' : RS} {n : Nd} (h : Inv r) (h0 : r0 = { r with s := r0.s }) (hl : vI r0 r' n) (h13 : ∀ x ∈ r0.s, x ≠ 13) (hm : r0.s.length + 2 ≤ r.s.length) : Inv r' := by
  have hge := J6 hl.kind
  have hll := hl.len
  have e1 : r0.ns = r.ns := by rw [h0]
  have e2 : r0.stk = r.stk := by rw [h0]
  have e3 : r0.done = r.done := by rw [h0]
  have h13' : ∀ x ∈ r'.s, x ≠ 13 := fun x hx => h13 x (hl.sub x hx)
  by_cases hst : r0.stk = []
  · rcases hl.ns with hn | hn
    · obtain ⟨ns, W, p, v, hB, hns, hgv, hok, hsz, hlen⟩ := h.beside
      exact ⟨hl.good, h13', by rw [hn.2, e1]; exact h.kr, ns, W, p, v, hB.cast (hl.stk.trans e2) (hl.done.trans e3), by rw [hn.2, e1, hns], hgv, fun hv => by rw [hl.stk, e2]; exact hok hv, hsz, by omega⟩
    · exact absurd hst hn.1
  · obtain ⟨W, hF, hsz, hlen⟩ := h.flushed
    rw [← e1, ← e2, ← e3] at hF
    rw [← e1] at hsz
    obtain ⟨p, nm, hp⟩ := dY hst
    obtain ⟨_, _, _, _, hO⟩ := hF.out.top hp
    obtain ⟨_, g1, _⟩ := hO.top
    have hns : r'.ns = aB r0.ns p r0.ns.length ++ [{ n with par := (p : Int) }] := by rw [(hl.ns.resolve_left fun h => hst h.1).2.1, lT hp]
    exact .of hl.good h13' (by rw [hns]; exact KR.with (by rw [e1]; exact h.kr) (List.getElem?_eq_some_iff.1 g1).1 n hl.kids) (hF.leaf hl hst) (by
      rw [hns]
      refine SzO.add hsz (SzO.par ⟨hl.sz, ?_⟩ _)
      unfold ownE
      rw [if_pos (by have := hl.kind; show n.kind = 2 ∨ n.kind = 3 ∨ n.kind = 4; omega)]
      omega) (by rw [List.length_append]; omega)
theorem Inv.endT {r r0 r' : RS} (h : Inv r) (h0 : r0 = { r with s := r0.s }) (hl : KE r0 r') (h13 : ∀ x ∈ r0.s, x ≠ 13) (hm : r0.s.length ≤ r.s.length) : Inv r' := by
  have e1 : r0.ns = r.ns := by rw [h0]
  have e2 : r0.stk = r.stk := by rw [h0]
  have e3 : r0.done = r.done := by rw [h0]
  obtain ⟨W, hF, hsz, hlen⟩ := h.flushed
  rw [← e1, ← e2, ← e3] at hF
  rw [← e1] at hsz
  obtain ⟨p, nm, hp⟩ := hl.last
  obtain ⟨W', hwl, hW⟩ := hF.pop hp
  have hel := hl.len p nm hp
  refine .of (W := W') hl.good (fun x hx => h13 x (hl.sub x hx)) (by rw [hl.ns, e1]; exact h.kr) ?_ ?_ ?_
  · rw [hl.ns]
    exact hW r' hl.stk hl.done
  · rw [hl.ns]; exact hsz
  · omega
theorem Inv.start {r r0 r' : RS} {nm : Tx} {n : Nd} {sc : Bool} (h : Inv r) (h0 : r0 = { r with s := r0.s }) (hl : zG r0 r' nm n sc) (h13 : ∀ x ∈ r0.s, x ≠ 13) (hm : r0.s.length ≤ r.s.length) : Inv r' := by
  have hll := hl.len
  have hnl : sO n = nm.length := by unfold sO; rw [← hl.name]
  have e1 : r0.ns = r.ns := by rw [h0]
  have e2 : r0.stk = r.stk := by rw [h0]
  have e3 : r0.done = r.done := by rw [h0]
  obtain ⟨W, hF, hsz, hlen⟩ := h.flushed
  rw [← e1, ← e2, ← e3] at hF
  rw [← e1] at hsz
  have hB := hF.start hl
  have h13' : ∀ x ∈ r'.s, x ≠ 13 := fun x hx => h13 x (hl.sub x hx)
  have hkr : KR r'.ns := by
    rw [hl.ns]
    cases hp : r0.stk.getLast? with
    | none =>
      have hnil : r0.stk = [] := List.getLast?_eq_none_iff.1 hp
      have hO := hF.out
      have hf := hl.fresh
      rw [hnil] at hO hf
      rcases hO with hO | hO | hO
      · rw [hnil, hO.2.2.1]
        exact KR.root n hl.kids
      · exact absurd ⟨rfl, hO.2.1⟩ hf
      · exact absurd rfl hO.1
    | some x =>
      obtain ⟨p, nm'⟩ := x
      obtain ⟨_, _, _, _, hO⟩ := hF.out.top hp
      obtain ⟨_, g1, _⟩ := hO.top
      rw [lT hp]
      exact KR.with (by rw [e1]; exact h.kr) (List.getElem?_eq_some_iff.1 g1).1 n hl.kids
  have hszn : SzO n := SzO.start hl.kind hl.val0 (by rw [hnl]; omega)
  have hsz' : ∀ m ∈ r'.ns, SzO m := by
    rw [hl.ns]
    unfold qm
    split
    · intro m hm
      rcases List.mem_append.1 hm with hm | hm
      · exact hsz m hm
      · rw [List.mem_singleton.1 hm]; exact hszn.par _
    · exact SzO.add hsz (hszn.par _)
  have hse : (dP n.up).length = (stT n).length + 1 := by rw [jo]; rfl
  cases sc with
  | false => exact .of hl.good h13' hkr (hB.cast (by rw [hl.stk]; rfl) hl.done) hsz' (by rw [List.length_append]; omega)
  | true =>
    have hF2 := hB.flushed
    obtain ⟨W', hwl, hW⟩ := jk.pop (r := ⟨[], r'.ns, r0.stk ++ [(r0.ns.length, nm)], true⟩) hF2 (p := r0.ns.length) (nm := nm) (by simp)
    exact .of hl.good h13' hkr (hW r' (by rw [hl.stk]; simp) hl.done) hsz' (by rw [List.length_append] at hwl; omega)
end Go.Proofs.YtigjbehgfjjlkaaGreatDoor
set_option linter.unusedVariables false
set_option linter.unusedSimpArgs false
namespace Go.Proofs.YtigjbehgfjjlkaaGreatDoor
open Go Go.Abs Go.Xml
theorem Inv.short {r : RS} (h : Inv r) : r.s.length ≤ 25000 := by
  obtain ⟨ns, W, p, v, hB, hns, hgv, hok, hsz, hlen⟩ := h.beside
  omega
theorem jq {w s : Tx} (h : (hasF w s).1 = true) : (hasF w s).2.length + w.length = s.length := by
  have := congrArg List.length (ji h)
  rw [List.length_append] at this
  omega
theorem Inv.mark {r r' : RS} (h : Inv r) (hs : iy r = .ok r') : Inv r' := by
  have h25 := h.short
  have hpre : ∀ w : Tx, (∀ x ∈ w, x.toNat < 128) → Good (hasF w r.s).2 ∧ ∀ x ∈ (hasF w r.s).2, x ≠ 13 := fun w hw =>
    ⟨h.gs.sfx (bZ hw), fun x hx => h.ns13 x ((bZ hw).sub x hx)⟩
  unfold iy at hs
  split at hs
  · rename_i hc
    have hl := jq hc
    obtain ⟨g1, g2⟩ := hpre [60, 33, 45, 45] (by decide)
    simp only [List.length_cons, List.length_nil] at hl
    obtain ⟨n, hn⟩ := D5 (r := { r with s := (hasF [60, 33, 45, 45] r.s).2 }) (show (hasF [60, 33, 45, 45] r.s).2.length ≤ 1000000 by omega) g1 g2 hs
    exact h.leaf rfl hn g2 (show (hasF [60, 33, 45, 45] r.s).2.length + 2 ≤ r.s.length by omega)
  split at hs
  · cases hs
  split at hs
  · rename_i hc
    have hl := jq hc.2
    obtain ⟨g1, g2⟩ := hpre iR (by decide)
    split at hs
    · cases hs
    · rename_i t s1 hu
      obtain ⟨e1, hj⟩ := jW (by decide) hu
      rw [e1] at g1 g2
      have hp := g1.two (by decide) (by decide)
      have e2 := congrArg List.length e1
      simp only [List.length_append, List.length_cons, List.length_nil] at e2
      exact h.text hs hp.1 hp.2 (fun x hx => g2 x (List.mem_append_right _ (List.mem_append_right _ hx))) (by omega)
  split at hs
  · rename_i hc
    have hl := jq hc
    obtain ⟨g1, g2⟩ := hpre [60, 63] (by decide)
    simp only [List.length_cons, List.length_nil] at hl
    obtain ⟨n, hn⟩ := J4 (r := { r with s := (hasF [60, 63] r.s).2 }) (show (hasF [60, 63] r.s).2.length ≤ 1000000 by omega) g1 g2 hs
    exact h.leaf rfl hn g2 (show (hasF [60, 63] r.s).2.length + 2 ≤ r.s.length by omega)
  split at hs
  · rename_i hc
    have hl := jq hc
    obtain ⟨g1, g2⟩ := hpre [60, 47] (by decide)
    exact h.endT rfl (Ls (r := { r with s := (hasF [60, 47] r.s).2 }) g1 g2 hs) g2 (show (hasF [60, 47] r.s).2.length ≤ r.s.length by omega)
  split at hs
  · rename_i hc
    have hl := jq hc
    obtain ⟨g1, g2⟩ := hpre [60] (by decide)
    obtain ⟨nm, n, sc, hn⟩ := IV (r := { r with s := (hasF [60] r.s).2 }) g1 g2 hs
    exact h.start rfl hn g2 (show (hasF [60] r.s).2.length ≤ r.s.length by omega)
  · injection hs with hs
    rw [← hs]; exact h
theorem Inv.step {r r' : RS} (h : Inv r) (hs : aX r = .ok r') : Inv r' := by
  have h25 := h.short
  unfold aX at hs
  split at hs
  · exact h.mark hs
  split at hs
  · rename_i hc
    have hl := jq hc.2
    have g1 : Good (hasF [38] r.s).2 := h.gs.sfx (bZ (by decide))
    split at hs
    · cases hs
    · rename_i t s1 hu
      obtain ⟨a1, a2, a3, a4, a5⟩ := xG g1 hu
      simp only [List.length_cons, List.length_nil] at hl
      exact h.text hs a1 a2 (fun x hx => h.ns13 x ((bZ (by decide)).sub x (a3 x hx))) (by omega)
  split at hs
  · cases hs
  unfold gu at hs
  obtain ⟨u1, u2, u3⟩ := vC r.s [60, 38]
  have hpc := Good.piece (a := r.s.take (upTo r.s [60, 38])) (b := r.s.drop (upTo r.s [60, 38])) (by rw [← u1]; exact h.gs) (by
    rcases u3 with u3 | ⟨x, t, u3, hx⟩
    · exact .inl u3
    · refine .inr ⟨x, t, u3, ?_⟩
      have : x = 60 ∨ x = 38 := by simpa using hx
      rcases this with rfl | rfl <;> decide)
  have h13 : ∀ x ∈ r.s.drop (upTo r.s [60, 38]), x ≠ 13 := fun x hx => h.ns13 x (List.mem_of_mem_drop hx)
  have hlen := congrArg List.length u1
  rw [List.length_append] at hlen
  split at hs
  · split at hs
    · injection hs with hs
      obtain ⟨ns, W, p, v, hB, hns, hgv, hok, hsz, hl⟩ := h.beside
      rw [← hs]
      exact ⟨hpc.2, h13, h.kr, ns, W, p, v, hB.cast rfl rfl, hns, hgv, hok, hsz, (show W.length + 6 * v.length + 40 * (r.s.drop (upTo r.s [60, 38])).length ≤ _ by omega)⟩
    · cases hs
  split at hs
  · cases hs
  split at hs
  · cases hs
  · rename_i r1 ht
    injection hs with hs
    have ht2 := zu (r.s.drop (upTo r.s [60, 38])) ht
    rw [← hs]
    exact h.text ht2 hpc.1 hpc.2 h13 (by omega)
theorem Inv.steps {r r' : RS} (hs : Steps r r') : Inv r → Inv r' := by
  induction hs with
  | refl => exact id
  | step _ h _ ih => exact fun hi => ih (hi.step h)
theorem oF {w : Tx} {f : Bool} {vs : List Tx} {s s' : Tx} {x : Bool} (hw : ∀ y ∈ w, y.toNat < 128) (hg : Good s) (h : dh w f vs s = .ok (x, s')) : Good s' ∧ ∀ y ∈ s', y ∈ s := by
  unfold dh at h
  split at h
  · split at h
    · cases h
    rename_i s1 h1
    split at h
    · rename_i hq
      split at h
      · cases h
      rename_i v s2 h2
      split at h
      · injection h with h
        injection h with _ h
        have hs1 : Sfx s s1 := (eD s).trans ((bZ hw).trans (EN h1))
        obtain ⟨q, hq1, hq8⟩ : ∃ q : UInt8, s1.take 1 = [q] ∧ q.toNat < 128 := by
          rcases hq with hq | hq
          · exact ⟨34, hq, by decide⟩
          · exact ⟨39, hq, by decide⟩
        rw [hq1] at h2
        have e : s1 = q :: s1.drop 1 := by
          conv => lhs; rw [← List.take_append_drop 1 s1, hq1]
          rfl
        have hg1 := hg.sfx hs1
        rw [e] at hg1
        have hg2 := hg1.KC hq8
        obtain ⟨u1, _⟩ := jW (by simp) h2
        rw [u1] at hg2
        have hp := hg2.two (by simp) (fun y hy => by rw [List.mem_singleton.1 hy]; exact hq8)
        rw [← h]
        refine ⟨hp.2, fun y hy => hs1.sub y ?_⟩
        have : y ∈ s1.drop 1 := by rw [u1]; exact List.mem_append_right _ (List.mem_append_right _ hy)
        exact List.mem_of_mem_drop this
      · cases h
    · cases h
  · injection h with h
    injection h with _ h
    rw [← h]
    exact ⟨hg, fun y hy => hy⟩
theorem D7 {s s' : Tx} (hg : Good s) (h : fJ s = .ok s') : Good s' ∧ ∀ y ∈ s', y ∈ s := by
  obtain ⟨cnd, hc⟩ : ∃ cnd : Bool, fJ s = if cnd then
      match dh [118, 101, 114, 115, 105, 111, 110] false [[49, 46, 48]] (hasF wXml s).2 with
      | .error e => .error e
      | .ok (false, _) => .error 10
      | .ok (true, s1) =>
        match dh [101, 110, 99, 111, 100, 105, 110, 103] true [[85, 84, 70, 45, 56]] s1 with
        | .error e => .error e
        | .ok (_, s2) =>
          match dh [115, 116, 97, 110, 100, 97, 108, 111, 110, 101] false [[121, 101, 115], [110, 111]] s2 with
          | .error e => .error e
          | .ok (_, s3) => if (hasF [63, 62] (aD s3).2).1 then .ok (hasF [63, 62] (aD s3).2).2 else .error 10
    else .ok s := ⟨_, rfl⟩
  rw [hc] at h
  cases cnd with
  | false =>
    rw [if_neg (by decide)] at h
    injection h with h
    rw [← h]
    exact ⟨hg, fun y hy => hy⟩
  | true =>
    rw [if_pos rfl] at h
    have w0 : Sfx s (hasF wXml s).2 := bZ (by decide)
    split at h
    · cases h
    · cases h
    rename_i s1 h1
    obtain ⟨a1, a2⟩ := oF (by decide) (hg.sfx w0) h1
    split at h
    · cases h
    rename_i y2 s2 h2
    obtain ⟨b1, b2⟩ := oF (by decide) a1 h2
    split at h
    · cases h
    rename_i y3 s3 h3
    obtain ⟨c1, c2⟩ := oF (by decide) b1 h3
    split at h
    · injection h with h
      have w3 : Sfx s3 (hasF [63, 62] (aD s3).2).2 := (eD s3).trans (bZ (by decide))
      rw [← h]
      exact ⟨c1.sfx w3, fun y hy => w0.sub y (a2 y (b2 y (c2 y (w3.sub y hy))))⟩
    · cases h
theorem rV : ∀ l : Tx, ∀ x ∈ dK l, x ≠ 13
  | [], x, h => by cases h
  | c :: l, x, h => by
    have ih := rV l
    by_cases hc : c = 13
    · subst hc
      rw [kK] at h
      split at h
      · exact ih x h
      · rcases List.mem_cons.1 h with rfl | h
        · decide
        · exact ih x h
    · rw [gH hc] at h
      rcases List.mem_cons.1 h with rfl | h
      · exact hc
      · exact ih x h
theorem Good.dK {l : Tx} (h : Good l) : Good (Go.Proofs.YtigjbehgfjjlkaaGreatDoor.dK l) := by
  induction h with
  | nil => exact .nil
  | @cons c l hc hl ih =>
    by_cases h8 : c < 128
    · rw [nA h8, List.cons_append, List.nil_append]
      have hn : (UInt8.ofNat c).toNat = c := by rw [UInt8.toNat_ofNat']; omega
      by_cases h13 : UInt8.ofNat c = 13
      · rw [h13, kK]
        split
        · exact ih
        · exact (Good.ascii (a := [10]) (by decide)).append ih
      · rw [gH h13]
        refine Good.append (a := [UInt8.ofNat c]) (Good.ascii fun x hx => ?_) ih
        rw [List.mem_singleton.1 hx, hn]
        exact ⟨h8, hc⟩
    · have hh := sM (Nat.le_of_not_lt h8) hc
      rw [oo (fun x hx e => by have := hh x hx; rw [e] at this; exact absurd this (by decide))]
      exact .cons hc ih
end Go.Proofs.YtigjbehgfjjlkaaGreatDoor
set_option linter.unusedVariables false
set_option linter.unusedSimpArgs false
namespace Go.Proofs.YtigjbehgfjjlkaaGreatDoor
open Go Go.Abs Go.Xml
theorem xK : ∀ l : Tx, (dK l).length ≤ l.length
  | [] => Nat.le_refl _
  | c :: l => by
    have ih := xK l
    by_cases hc : c = 13
    · subst hc
      rw [kK]
      split
      · rw [List.length_cons]; omega
      · rw [List.length_cons, List.length_cons]; omega
    · rw [gH hc, List.length_cons, List.length_cons]; omega
theorem IY {ns : List Nd} (hN : ∀ (i : Nat) (n : Nd), ns[i]? = some n → uV ns i n) (hK : KR ns) {n0 : Nd} (h0 : ns[0]? = some n0) (hk0 : n0.kind = 1) : bP (ns.map Nd.up) = true := by
  have hup : ∀ (i : Nat) (x : Nx), (ns.map Nd.up)[i]? = some x → ∃ n, ns[i]? = some n ∧ x = n.up := fun i x hx => by
    rw [List.getElem?_map] at hx
    cases hn : ns[i]? with
    | none => rw [hn] at hx; cases hx
    | some n => rw [hn] at hx; injection hx with hx; exact ⟨n, rfl, hx.symm⟩
  have hlen : 0 < ns.length := (List.getElem?_eq_some_iff.1 h0).1
  have h0' : (ns.map Nd.up)[0]? = some n0.up := by rw [List.getElem?_map, h0]; rfl
  unfold bP
  rw [Bool.and_eq_true, Bool.and_eq_true, Bool.and_eq_true]
  refine ⟨⟨?_, ?_⟩, eB.2 fun i x hi hx => ?_, eB.2 fun i x hi hx => ?_⟩
  · unfold gI
    rw [show (0 : Int).toNat = 0 from rfl, h0']
    have : n0.up.kind = 1 := hk0
    simp [this]
  · rw [h0']
    have hp := (hN 0 n0 h0).par
    have : n0.par = -1 := by rcases hp with hp | hp; exact hp.2; omega
    have : n0.up.par = -1 := this
    simp [this]
  · obtain ⟨n, hn, rfl⟩ := hup i x hx
    have hno := hN i n hn
    unfold ig
    rw [Bool.and_eq_true, Bool.and_eq_true, Bool.and_eq_true, Bool.or_eq_true, Bool.or_eq_true]
    refine ⟨⟨?_, decide_eq_true hno.kind.1, decide_eq_true hno.kind.2⟩, ?_⟩
    · rcases hno.par with hp | ⟨hi0, p, hp, hpi⟩
      · exact .inl (decide_eq_true hp.1)
      · refine .inr ?_
        rw [Bool.and_eq_true]
        have hpar : n.up.par = p := hp
        refine ⟨decide_eq_true (by rw [hpar]; omega), ?_⟩
        have hil := (List.getElem?_eq_some_iff.1 hn).1
        obtain ⟨m, hm⟩ : ∃ m, ns[p]? = some m := ⟨ns[p]'(by omega), List.getElem?_eq_getElem (by omega)⟩
        have hmk := hK.kid p m hm
        have hin : (i : Int) ∈ bF (ns.map Nd.up) ns.length (p : Int) := lM.2 ⟨i, n.up, rfl, hi0, hil, hx, hpar⟩
        rw [← hmk] at hin
        have hk1 : m.kind = 1 := by
          by_cases hk : m.kind = 1
          · exact hk
          · rw [((hN p m hm).leaf hk).1] at hin
            cases hin
        unfold gI
        rw [hpar, Int.toNat_natCast, List.getElem?_map, hm, Option.map_some]
        have : m.up.kind = 1 := hk1
        simp [this]
    · by_cases hk : n.kind = 1
      · exact .inl (decide_eq_true hk)
      · refine .inr (decide_eq_true ?_)
        have := hno.leaf hk
        show n.atts.length + n.dcls.length = 0
        rw [this.2.1, this.2.2]
        rfl
  · obtain ⟨n, hn, rfl⟩ := hup i x hx
    refine decide_eq_true ?_
    show (n.kids.map _) = bF _ (ns.map Nd.up).length _
    rw [List.length_map]
    exact hK.kid i n hn
structure Back (ns : List Nd) : Prop where
  right : bP (ns.map Nd.up) = true
  sz : ∀ n ∈ ns, SzO n
  many : ns.length ≤ 4096
  kids : ∀ n ∈ ns, n.kids.length ≤ 4096
  len : (bg (ns.map Nd.up) (ns.map Nd.up).length 0).length ≤ 1000000
  again : gW (bg (ns.map Nd.up) (ns.map Nd.up).length 0) = .ok ns ∨ gW (bg (ns.map Nd.up) (ns.map Nd.up).length 0) = .error 12
theorem back {b : Tx} {ns : List Nd} (hb : b.length ≤ 5000) (h : gW b = .ok ns) : Back ns := by
  have htree := (Bn h).1
  unfold gW at h
  split at h
  · cases h
  split at h
  · cases h
  rename_i hbad
  have hgb : Good b := (u6 b).1 (by simpa using hbad)
  rw [Bv] at h
  have hgl := Good.dK hgb
  have h13 := rV b
  have hll := xK b
  generalize dK b = l at *
  unfold allF at h
  split at h
  · cases h
  rename_i s1 hf
  split at h
  · cases h
  rename_i r hr
  split at h
  · rename_i hend
    injection h with h
    obtain ⟨f1, f2⟩ := D7 hgl hf
    have f3 := uU hf
    obtain ⟨hs0, hS⟩ := uY _ hr
    have hI0 : Inv ⟨s1, [], [], false⟩ := ⟨f1, fun x hx => h13 x (f2 x hx), KR.nil, [], [], 0, [], ⟨fun t => .refl _, .inl ⟨rfl, rfl, rfl, rfl⟩, .nil, fun x hx => (by cases hx), fun p nm hl => (by cases hl)⟩, rfl, .nil, fun h => absurd rfl h, fun n hn => (by cases hn), by
      show 0 + 6 * 0 + 40 * s1.length ≤ 1000000
      omega⟩
    have hI := Inv.steps hS hI0
    obtain ⟨_, _, _, hRI⟩ := hS.run s1.length (RI.start s1 (by omega)) (Nat.le_refl _)
    obtain ⟨ns0, W, p, v, hB, hns, hgv, hok, hsz, hlen⟩ := hI.beside
    have hv : v = [] := by
      by_cases hv : v = []
      · exact hv
      · obtain ⟨nm, hl⟩ := (hok hv).last
        rw [hend.2] at hl
        cases hl
    rw [hv, zI] at hns
    subst hns
    rw [← h]
    rw [← h] at htree
    have hout := hB.out
    rw [hend.1, hend.2] at hout
    have ho := (hout.resolve_left fun ho => (by cases ho.2.1)).resolve_right fun ho => ho.1 rfl
    obtain ⟨_, _, ⟨f, hsh⟩, n0, h0, hk0, hnm0⟩ := ho
    have hright := IY htree hI.kr h0 hk0
    have hRt := RtX.of hright
    have hw : bg (r.ns.map Nd.up) (r.ns.map Nd.up).length 0 = W := by
      have h1 := jU hRt (r.ns.map Nd.up).length (f + (r.ns.map Nd.up).length) 0 (by omega) (by omega)
      have h2 := hsh.write f (r.ns.map Nd.up).length
      rw [show ((0 : Nat) : Int) = 0 from rfl] at h1 h2
      rw [h1, h2]
    have hrun := hB.run []
    rw [List.append_nil, hend.1, hend.2] at hrun
    have hfront : fJ W = .ok W := by
      obtain ⟨g, rfl⟩ : ∃ g, f = g + 1 := by
        cases f with
        | zero => exact hsh.elim
        | succ g => exact ⟨g, rfl⟩
      obtain ⟨_, n, hn, hor⟩ := hsh
      rw [h0] at hn
      injection hn with hn
      subst hn
      rcases hor with ⟨hk, _⟩ | ⟨_, lk, _, _, hW⟩
      · omega
      obtain ⟨c, l', hc⟩ := List.exists_cons_of_ne_nil hnm0.ne
      have hst := hnm0.stop c (by rw [hc]; exact List.mem_cons_self ..)
      have h63 : c ≠ 63 := fun e => by rw [e] at hst; revert hst; decide
      have hW2 : ∃ t, W = 60 :: c :: t := by
        rw [hW, jo]
        unfold stT
        rw [hc]
        exact ⟨_, rfl⟩
      obtain ⟨t, hW2⟩ := hW2
      have hx : (hasF wXml W).1 = false := by
        rw [hW2]
        unfold hasF wXml
        rw [if_neg]
        simp [List.isPrefixOf, Ne.symm h63]
      unfold fJ
      rw [hx]
      rfl
    refine ⟨hright, hsz, hRI.many, fun n hn => Nat.le_trans (hRI.kids n hn).1 hRI.many, by rw [hw]; omega, ?_⟩
    rw [hw]
    by_cases hl6 : W.length > 65536
    · exact .inr (by unfold gW; rw [if_pos hl6])
    · refine .inl ?_
      have hL : lines W = W := by
        have := oo hB.no13 []
        rw [List.append_nil] at this
        rw [Bv, this]
        exact List.append_nil _
      unfold gW
      rw [if_neg hl6, (u6 _).2 hB.good, if_neg (by decide), hL]
      unfold allF
      rw [hfront]
      dsimp only
      rw [hrun.end (RI.start _ (by omega)) rfl (Nat.le_refl _)]
      dsimp only
      rw [if_pos ⟨rfl, rfl⟩]
  · cases h
end Go.Proofs.YtigjbehgfjjlkaaGreatDoor
