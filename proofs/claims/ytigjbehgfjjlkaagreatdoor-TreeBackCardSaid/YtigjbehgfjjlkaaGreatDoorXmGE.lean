/- The document's example. No conditions but on the library's tables. -/
import Derived.Test.YtigjbehgfjjlkaaGreatDoorXmGD
set_option linter.unusedVariables false
set_option linter.unusedSimpArgs false
namespace Go.Proofs.YtigjbehgfjjlkaaGreatDoor
open Go Go.Abs Go.RowKit Go.Xml
variable {base : Nat} {w0 : World} {G : Nat}
theorem Du {st : St} {B o n c : Nat} {sp : Option Nat} {cs : List Value} (h : st.H B = some (.cells cs 5 true)) (hc : 0 < c) : dL Tryz.prog st 31 31 (.slice (some ⟨B, o, sp⟩) n c) = some (.slice (some ⟨B, o, sp⟩) n c, st) := by
  simp [dL, Tryz.underlying31, Tryz.underlying5, h, isU8, hc]
end Go.Proofs.YtigjbehgfjjlkaaGreatDoor
set_option linter.unusedVariables false
set_option linter.unusedSimpArgs false
namespace Go.Proofs.YtigjbehgfjjlkaaGreatDoor
open Go Go.Abs Go.RowKit Go.Xml
inductive Up (ns : List Nd) (p : Tx) : Int → Option Tx → Prop
  | out {i : Int} : i < 0 → Up ns p i none
  | hit {i : Nat} {n : Nd} {u : Tx} : ns[i]? = some n → findD p n.dcls = some u → Up ns p i (some u)
  | up {i : Nat} {n : Nd} {o : Option Tx} : ns[i]? = some n → findD p n.dcls = none → Up ns p n.par o → Up ns p i o
def Im (p : Tx) (o : Option Tx) : Tx × Bool := if p = [120, 109, 108] then (gV, true) else match o with
  | some u => (u, true)
  | none => ([], decide (p = []))
def Ext (ns ns' : List Nd) : Prop := ∀ (i : Nat) (n : Nd), ns[i]? = some n → ∃ n' : Nd, ns'[i]? = some n' ∧ n'.kind = n.kind ∧ n'.par = n.par ∧ n'.dcls = n.dcls
theorem Up.mono {ns ns' : List Nd} (h : Ext ns ns') {p : Tx} {i : Int} {o : Option Tx} (hu : Up ns p i o) : Up ns' p i o := by
  induction hu with
  | out h0 => exact .out h0
  | hit h1 h2 =>
    obtain ⟨n', g1, _, _, g4⟩ := h _ _ h1
    exact .hit g1 (by rw [g4]; exact h2)
  | up h1 h2 _ ih =>
    obtain ⟨n', g1, _, g3, g4⟩ := h _ _ h1
    exact .up g1 (by rw [g4]; exact h2) (by rw [g3]; exact ih)
structure uV (ns : List Nd) (i : Nat) (n : Nd) : Prop where
  par : (i = 0 ∧ n.par = -1) ∨ (0 < i ∧ ∃ p : Nat, n.par = p ∧ p < i)
  kind : 1 ≤ n.kind ∧ n.kind ≤ 4
  leaf : n.kind ≠ 1 → n.kids = [] ∧ n.atts = [] ∧ n.dcls = []
  text : n.kind = 2 → n.val ≠ []
  elem : n.kind = 1 → bL n.loc = true ∧ ∃ o, Up ns n.pre i o ∧ Im n.pre o = (n.spc, true)
  kid : ∀ (k c : Nat), n.kids[k]? = some c → i < c ∧ ∃ m : Nd, ns[c]? = some m ∧ m.par = i
  next : ∀ (k c d : Nat), n.kids[k]? = some c → n.kids[k + 1]? = some d → c < d ∧ ∀ m m' : Nd, ns[c]? = some m → ns[d]? = some m' → ¬ (m.kind = 2 ∧ m'.kind = 2)
def bX : List Nd → Nat
  | [] => 0
  | n :: ns => n.kids.length + bX ns
theorem nM : ∀ (a b : List Nd), bX (a ++ b) = bX a + bX b
  | [], b => by simp [bX]
  | n :: a, b => by rw [List.cons_append, bX, bX, nM a b, Nat.add_assoc]
theorem p9 : ∀ (ns : List Nd) (p c : Nat), p < ns.length → bX (aB ns p c) = bX ns + 1
  | [], p, c, h => by simp at h
  | n :: ns, 0, c, h => by simp [aB, bX]; omega
  | n :: ns, p + 1, c, h => by
    have ih := p9 ns p c (by simpa using h)
    unfold aB at ih ⊢
    rw [List.modify_succ_cons, bX, bX, ih, Nat.add_assoc]
def chain (ns : List Nd) : List (Nat × Tx) → Int → Prop
  | [], i => i = -1
  | (a, _) :: t, i => i = (a : Int) ∧ ∃ n : Nd, ns[a]? = some n ∧ n.kind = 1 ∧ chain ns t n.par
theorem chain.mono {ns ns' : List Nd} (h : Ext ns ns') : ∀ {l : List (Nat × Tx)} {i : Int}, chain ns l i → chain ns' l i
  | [], i, hc => hc
  | (a, _) :: t, i, ⟨h1, n, h2, h3, h4⟩ => by
    obtain ⟨n', g1, g2, g3, _⟩ := h _ _ h2
    exact ⟨h1, n', g1, g2.trans h3, by rw [g3]; exact h4.mono h⟩
theorem chain.up {ns : List Nd} {p : Tx} : ∀ {l : List (Nat × Tx)} {i : Int}, chain ns l i → Up ns p i (outer ns p l)
  | [], i, hc => .out (by rw [show i = -1 from hc]; decide)
  | (a, x) :: t, i, ⟨h1, n, h2, h3, h4⟩ => by
    subst h1
    unfold outer
    rw [h2]
    show Up ns p a (match findD p n.dcls with
      | some u => some u
      | none => outer ns p t)
    cases hf : findD p n.dcls with
    | some u => exact .hit h2 hf
    | none => exact .up h2 hf h4.up
structure TI (r : RS) : Prop where
  node : ∀ (i : Nat) (n : Nd), r.ns[i]? = some n → uV r.ns i n
  sum : r.ns ≠ [] → bX r.ns + 1 = r.ns.length
  stk : ∃ i, chain r.ns r.stk.reverse i
  done : r.done = true → r.ns ≠ []
  none : r.done = false → r.ns = [] ∧ r.stk = []
theorem TI.less {r : RS} (h : TI r) (s : Tx) : TI { r with s := s } := ⟨h.node, h.sum, h.stk, h.done, h.none⟩
theorem TI.start (s : Tx) : TI ⟨s, [], [], false⟩ := ⟨fun i n h => (by simp at h), fun h => absurd rfl h, ⟨-1, rfl⟩, fun h => (by cases h), fun _ => ⟨rfl, rfl⟩⟩
theorem iU {l : List (Nat × Tx)} {x : Nat × Tx} (h : l.getLast? = some x) : l.reverse = x :: l.dropLast.reverse := by
  obtain ⟨t, rfl⟩ : ∃ t, l = t ++ [x] := List.getLast?_eq_some_iff.1 h
  simp
theorem TI.top {r : RS} (h : TI r) {p : Nat} {nm : Tx} (hl : r.stk.getLast? = some (p, nm)) : ∃ n, r.ns[p]? = some n ∧ n.kind = 1 ∧ chain r.ns r.stk.reverse p := by
  obtain ⟨i, hc⟩ := h.stk
  have hr := iU hl
  rw [hr] at hc ⊢
  obtain ⟨h1, n, h2, h3, h4⟩ := hc
  exact ⟨n, h2, h3, rfl, n, h2, h3, h4⟩
theorem gG {ns : List Nd} {p c i : Nat} : (aB ns p c)[i]? = (ns[i]?).map fun n => if p = i then { n with kids := n.kids ++ [c] } else n := by
  unfold aB
  rw [List.getElem?_modify]
  cases ns[i]? <;> rfl
theorem Ext.aB (ns : List Nd) (p c : Nat) (m : Nd) : Ext ns (aB ns p c ++ [m]) := fun i n hn => by
  have hi := (List.getElem?_eq_some_iff.1 hn).1
  rw [List.getElem?_append_left (by rw [aQ]; exact hi), gG, hn]
  refine ⟨_, rfl, ?_⟩
  dsimp only
  by_cases e : p = i
  · rw [if_pos e]; exact ⟨rfl, rfl, rfl⟩
  · rw [if_neg e]; exact ⟨rfl, rfl, rfl⟩
structure Io (r : RS) (n : Nd) : Prop where
  kids : n.kids = []
  kind : 1 ≤ n.kind ∧ n.kind ≤ 4
  leaf : n.kind ≠ 1 → n.atts = [] ∧ n.dcls = []
  text : n.kind = 2 → n.val ≠ [] ∧ ∀ p nm, r.stk.getLast? = some (p, nm) → aR r.ns p = none
  elem : n.kind = 1 → bL n.loc = true ∧ aM r n.pre n.dcls = (n.spc, true)
theorem uW (r : RS) (p : Tx) (ds : List Dcl) : aM r p ds = Im p (match findD p ds with
    | some u => some u
    | none => outer r.ns p r.stk.reverse) := by
  unfold aM Im
  by_cases h : p = [120, 109, 108]
  · rw [if_pos h, if_pos h]
  · rw [if_neg h, if_neg h]
    cases findD p ds with
    | some u => rfl
    | none => cases outer r.ns p r.stk.reverse <;> rfl
theorem TI.Ip {r : RS} {n : Nd} {p : Nat} {nm : Tx} (h : TI r) (hn : Io r n) (hl : r.stk.getLast? = some (p, nm)) : TI { r with ns := aB r.ns p r.ns.length ++ [{ n with par := p }] } := by
  obtain ⟨np, hp1, hp2, hp3⟩ := h.top hl
  have hpl := (List.getElem?_eq_some_iff.1 hp1).1
  have hext := Ext.aB r.ns p r.ns.length { n with par := p }
  have hnew : (aB r.ns p r.ns.length ++ [{ n with par := p }])[r.ns.length]? = some { n with par := p } := by
    rw [List.getElem?_append_right (by rw [aQ]; exact Nat.le_refl _), aQ, Nat.sub_self]; rfl
  have hdone : r.done = true := by
    cases hd : r.done with
    | true => rfl
    | false => have := (h.none hd).2; rw [this] at hl; cases hl
  have hold : ∀ j m, j < r.ns.length → (aB r.ns p r.ns.length ++ [{ n with par := p }])[j]? = some m → ∃ m0, r.ns[j]? = some m0 ∧ m.kind = m0.kind ∧ m = if p = j then { m0 with kids := m0.kids ++ [r.ns.length] } else m0 := fun j m hj hm => by
    rw [List.getElem?_append_left (by rw [aQ]; exact hj), gG] at hm
    obtain ⟨m0, g1, g2⟩ := Option.map_eq_some_iff.1 hm
    refine ⟨m0, g1, ?_, g2.symm⟩
    rw [← g2]
    split <;> rfl
  refine ⟨fun i m hm => ?_, fun _ => ?_, ⟨p, ?_⟩, fun _ => by simp, fun hd => by rw [show r.done = false from hd] at hdone; cases hdone⟩
  · change (aB r.ns p r.ns.length ++ [{ n with par := p }])[i]? = some m at hm
    have hi := (List.getElem?_eq_some_iff.1 hm).1
    rw [List.length_append, aQ, List.length_singleton] at hi
    show uV (aB r.ns p r.ns.length ++ [{ n with par := p }]) i m
    by_cases hil : i < r.ns.length
    · obtain ⟨m0, g1, gk, g2⟩ := hold i m hil hm
      have hN := h.node i m0 g1
      have kidOld : ∀ k c, m0.kids[k]? = some c → i < c ∧ ∃ m', (aB r.ns p r.ns.length ++ [{ n with par := p }])[c]? = some m' ∧ m'.par = (i : Int) := fun k c hc => by
        obtain ⟨q1, m1, q2, q3⟩ := hN.kid k c hc
        obtain ⟨m', t1, _, t3, _⟩ := hext _ _ q2
        exact ⟨q1, m', t1, t3.trans q3⟩
      have nextOld : ∀ k c d, m0.kids[k]? = some c → m0.kids[k + 1]? = some d → c < d ∧ ∀ a b, (aB r.ns p r.ns.length ++ [{ n with par := p }])[c]? = some a → (aB r.ns p r.ns.length ++ [{ n with par := p }])[d]? = some b → ¬ (a.kind = 2 ∧ b.kind = 2) := fun k c d hc hd => by
        obtain ⟨q1, q2⟩ := hN.next k c d hc hd
        refine ⟨q1, fun a b ha hb => ?_⟩
        obtain ⟨_, m1, s1, _⟩ := hN.kid k c hc
        obtain ⟨_, m2, s2, _⟩ := hN.kid (k + 1) d hd
        obtain ⟨a0, t1, t2, _⟩ := hold c a (List.getElem?_eq_some_iff.1 s1).1 ha
        obtain ⟨b0, u1, u2, _⟩ := hold d b (List.getElem?_eq_some_iff.1 s2).1 hb
        rw [t2, u2]
        exact q2 a0 b0 t1 u1
      by_cases hpi : p = i
      · rw [if_pos hpi] at g2
        subst g2
        have hm0 : m0 = np := by rw [hpi] at hp1; rw [hp1] at g1; injection g1 with g1; exact g1.symm
        have hk1 : m0.kind = 1 := by rw [hm0]; exact hp2
        refine ⟨hN.par, hN.kind, fun hk => absurd hk1 hk, hN.text, fun hk => ?_, fun k c hc => ?_, fun k c d hc hd => ?_⟩
        · obtain ⟨e1, o, e2, e3⟩ := hN.elem hk
          exact ⟨e1, o, e2.mono hext, e3⟩
        · change (m0.kids ++ [r.ns.length])[k]? = some c at hc
          by_cases hkl : k < m0.kids.length
          · rw [List.getElem?_append_left hkl] at hc
            exact kidOld k c hc
          · rw [List.getElem?_append_right (by omega)] at hc
            have hce : c = r.ns.length := by
              cases hkk : k - m0.kids.length with
              | zero => rw [hkk] at hc; simpa using hc.symm
              | succ x => rw [hkk] at hc; simp at hc
            subst hce
            exact ⟨hil, _, hnew, by show (p : Int) = i; rw [hpi]⟩
        · change (m0.kids ++ [r.ns.length])[k]? = some c at hc
          change (m0.kids ++ [r.ns.length])[k + 1]? = some d at hd
          by_cases hkl : k + 1 < m0.kids.length
          · rw [List.getElem?_append_left hkl] at hd
            rw [List.getElem?_append_left (by omega)] at hc
            exact nextOld k c d hc hd
          · have hk2 : k + 1 = m0.kids.length := by
              have := (List.getElem?_eq_some_iff.1 hd).1
              rw [List.length_append, List.length_singleton] at this
              omega
            rw [List.getElem?_append_left (by omega)] at hc
            rw [List.getElem?_append_right (by omega), show k + 1 - m0.kids.length = 0 by omega] at hd
            have hde : d = r.ns.length := by simpa using hd.symm
            subst hde
            obtain ⟨_, mc, s1, _⟩ := hN.kid k c hc
            have hcl := (List.getElem?_eq_some_iff.1 s1).1
            refine ⟨hcl, fun a b ha hb => ?_⟩
            obtain ⟨a0, t1, t2, _⟩ := hold c a hcl ha
            rw [hnew] at hb
            injection hb with hb
            intro hkk
            have hb2 : n.kind = 2 := by rw [← hb] at hkk; exact hkk.2
            have hlt := (hn.text hb2).2 p nm hl
            unfold aR at hlt
            have hgl : m0.kids.getLast? = some c := by rw [List.getLast?_eq_getElem?, show m0.kids.length - 1 = k by omega]; exact hc
            rw [hp1, ← hm0] at hlt
            simp only [Option.bind_some, hgl, t1, Option.map_some] at hlt
            rw [if_pos (by rw [← t2, hkk.1])] at hlt
            cases hlt
      · rw [if_neg hpi] at g2
        subst g2
        refine ⟨hN.par, hN.kind, hN.leaf, hN.text, fun hk => ?_, kidOld, nextOld⟩
        obtain ⟨e1, o, e2, e3⟩ := hN.elem hk
        exact ⟨e1, o, e2.mono hext, e3⟩
    · have hie : i = r.ns.length := by omega
      subst hie
      rw [hnew] at hm
      injection hm with hm
      subst hm
      refine ⟨.inr ⟨by omega, p, rfl, hpl⟩, hn.kind, fun hk => ⟨hn.kids, hn.leaf hk⟩, fun hk => (hn.text hk).1, fun hk => ?_, fun k c hc => ?_, fun k c d hc _ => ?_⟩
      · obtain ⟨e1, e2⟩ := hn.elem hk
        refine ⟨e1, _, ?_, (uW r n.pre n.dcls).symm.trans e2⟩
        cases hf : findD n.pre n.dcls with
        | some u => exact .hit hnew hf
        | none => exact .up hnew hf ((hp3.up (p := n.pre)).mono hext)
      · change n.kids[k]? = some c at hc
        rw [hn.kids] at hc
        simp at hc
      · change n.kids[k]? = some c at hc
        rw [hn.kids] at hc
        simp at hc
  · show bX (aB r.ns p r.ns.length ++ [{ n with par := p }]) + 1 = (aB r.ns p r.ns.length ++ [{ n with par := p }]).length
    have hs := h.sum (fun e => by rw [e] at hpl; simp at hpl)
    rw [nM, p9 _ _ _ hpl, List.length_append, aQ]
    show bX r.ns + 1 + (n.kids.length + 0) + 1 = r.ns.length + 1
    rw [hn.kids]
    simp only [List.length_nil]
    omega
  · exact hp3.mono hext
theorem TI.first {r : RS} {n : Nd} (h : TI r) (hn : Io r n) (hk : n.kind = 1) (hns : r.ns = []) (hst : r.stk = []) : TI { r with ns := [{ n with par := -1 }], done := true } := by
  refine ⟨fun i m hm => ?_, fun _ => ?_, ⟨-1, by show chain _ r.stk.reverse (-1); rw [hst]; rfl⟩, fun _ => List.cons_ne_nil _ _, fun hd => by cases hd⟩
  · change ([{ n with par := -1 }] : List Nd)[i]? = some m at hm
    show uV [{ n with par := -1 }] i m
    cases i with
    | succ i => simp at hm
    | zero =>
      simp at hm
      subst hm
      refine ⟨.inl ⟨rfl, rfl⟩, hn.kind, fun hk => ⟨hn.kids, hn.leaf hk⟩, fun hk => (hn.text hk).1, fun hk => ?_, fun k c hc => ?_, fun k c d hc _ => ?_⟩
      · obtain ⟨e1, e2⟩ := hn.elem hk
        refine ⟨e1, _, ?_, (uW r n.pre n.dcls).symm.trans e2⟩
        rw [hst]
        cases hf : findD n.pre n.dcls with
        | some u => exact .hit rfl hf
        | none => exact .up rfl hf (.out (show (-1 : Int) < 0 by decide))
      · change n.kids[k]? = some c at hc
        rw [hn.kids] at hc
        simp at hc
      · change n.kids[k]? = some c at hc
        rw [hn.kids] at hc
        simp at hc
  · show n.kids.length + 0 + 1 = 1
    rw [hn.kids]
    rfl
end Go.Proofs.YtigjbehgfjjlkaaGreatDoor
set_option linter.unusedVariables false
set_option linter.unusedSimpArgs false
namespace Go.Proofs.YtigjbehgfjjlkaaGreatDoor
open Go Go.Abs Go.RowKit Go.Xml
theorem ny {n : Nd} {r r' : RS} {i p : Nat} {nm : Tx} (hl : r.stk.getLast? = some (p, nm)) (h : addF n r = .ok (i, r')) : r' = { r with ns := aB r.ns p r.ns.length ++ [{ n with par := p }] } ∧ i = r.ns.length := by
  unfold addF at h
  split at h
  · cases h
  · rw [hl] at h
    dsimp only at h
    injection h with h
    simp only [Prod.mk.injEq] at h
    exact ⟨h.2.symm, h.1.symm⟩
theorem xg {n : Nd} {r r' : RS} {i : Nat} (hl : r.stk = []) (h : addF n r = .ok (i, r')) : r' = { r with ns := r.ns ++ [{ n with par := -1 }] } ∧ i = r.ns.length := by
  unfold addF at h
  split at h
  · cases h
  · have hl2 : r.stk.getLast? = none := by rw [hl]; rfl
    rw [hl2] at h
    dsimp only at h
    injection h with h
    simp only [Prod.mk.injEq] at h
    exact ⟨h.2.symm, h.1.symm⟩
theorem dY {l : List (Nat × Tx)} (h : l ≠ []) : ∃ p nm, l.getLast? = some (p, nm) := by
  cases e : l.getLast? with
  | none => exact absurd (List.getLast?_eq_none_iff.1 e) h
  | some x => exact ⟨x.1, x.2, rfl⟩
theorem nN : ∀ (ns : List Nd) (c : Nat) (f : Nd → Nd), (∀ n, (f n).kids = n.kids) → bX (ns.modify c f) = bX ns
  | [], c, f, _ => by simp [bX]
  | n :: ns, 0, f, hf => by simp [bX, hf]
  | n :: ns, c + 1, f, hf => by rw [List.modify_succ_cons, bX, bX, nN ns c f hf]
theorem TI.more {r : RS} (h : TI r) (c : Nat) (t : Tx) : TI { r with ns := r.ns.modify c fun n => { n with val := n.val ++ t } } := by
  have hget : ∀ i : Nat, (r.ns.modify c fun n => { n with val := n.val ++ t })[i]? = (r.ns[i]?).map fun n => if c = i then { n with val := n.val ++ t } else n := fun i => by
    rw [List.getElem?_modify]
    cases r.ns[i]? <;> rfl
  have hext : Ext r.ns (r.ns.modify c fun n => { n with val := n.val ++ t }) := fun i n hn => by
    rw [hget, hn]
    refine ⟨_, rfl, ?_⟩
    dsimp only
    by_cases e : c = i
    · rw [if_pos e]; exact ⟨rfl, rfl, rfl⟩
    · rw [if_neg e]; exact ⟨rfl, rfl, rfl⟩
  have hback : ∀ (i : Nat) (m : Nd), (r.ns.modify c fun n => { n with val := n.val ++ t })[i]? = some m → ∃ m0, r.ns[i]? = some m0 ∧ m.kind = m0.kind ∧ m.par = m0.par ∧ m.kids = m0.kids ∧ m.atts = m0.atts ∧ m.dcls = m0.dcls ∧ m.pre = m0.pre ∧ m.loc = m0.loc ∧ m.spc = m0.spc ∧ (m0.val ≠ [] → m.val ≠ []) := fun i m hm => by
    rw [hget] at hm
    obtain ⟨m0, g1, g2⟩ := Option.map_eq_some_iff.1 hm
    refine ⟨m0, g1, ?_⟩
    rw [← g2]
    by_cases e : c = i
    · rw [if_pos e]
      exact ⟨rfl, rfl, rfl, rfl, rfl, rfl, rfl, rfl, fun hv => by show m0.val ++ t ≠ []; intro hh; exact hv (List.append_eq_nil_iff.1 hh).1⟩
    · rw [if_neg e]
      exact ⟨rfl, rfl, rfl, rfl, rfl, rfl, rfl, rfl, fun hv => hv⟩
  refine ⟨fun i m hm => ?_, fun hne => ?_, ?_, fun hd => ?_, fun hd => ?_⟩
  · obtain ⟨m0, g1, g2, g3, g4, g5, g6, g7, g8, g9, g10⟩ := hback i m hm
    have hN := h.node i m0 g1
    refine ⟨by rw [g3]; exact hN.par, by rw [g2]; exact hN.kind, fun hk => by rw [g4, g5, g6]; exact hN.leaf (by rwa [← g2]), fun hk => g10 (hN.text (by rwa [← g2])), fun hk => ?_, fun k d hd => ?_, fun k c d hc hd => ?_⟩
    · obtain ⟨e1, o, e2, e3⟩ := hN.elem (by rwa [← g2])
      exact ⟨by rw [g8]; exact e1, o, by rw [g7]; exact e2.mono hext, by rw [g7, g9]; exact e3⟩
    · rw [g4] at hd
      obtain ⟨q1, m1, q2, q3⟩ := hN.kid k d hd
      obtain ⟨m', t1, _, t3, _⟩ := hext _ _ q2
      exact ⟨q1, m', t1, t3.trans q3⟩
    · rw [g4] at hc hd
      obtain ⟨q1, q2⟩ := hN.next k c d hc hd
      refine ⟨q1, fun a b ha hb => ?_⟩
      obtain ⟨a0, t1, t2, _⟩ := hback c a ha
      obtain ⟨b0, u1, u2, _⟩ := hback d b hb
      rw [t2, u2]
      exact q2 a0 b0 t1 u1
  · show bX (r.ns.modify c fun n => { n with val := n.val ++ t }) + 1 = (r.ns.modify c fun n => { n with val := n.val ++ t }).length
    rw [nN r.ns c (fun n => { n with val := n.val ++ t }) (fun n => rfl), List.length_modify]
    exact h.sum (fun e => hne (by show r.ns.modify c _ = []; rw [e]; simp))
  · obtain ⟨i, hc⟩ := h.stk
    exact ⟨i, hc.mono hext⟩
  · have := h.done hd
    show r.ns.modify c _ ≠ []
    intro e
    have := congrArg List.length e
    rw [List.length_modify] at this
    exact h.done hd (List.eq_nil_of_length_eq_zero this)
  · obtain ⟨e1, e2⟩ := h.none hd
    exact ⟨by show r.ns.modify c _ = []; rw [e1]; simp, e2⟩
theorem uX {r r' : RS} {t : Tx} (h : TI r) (ha : aW t r = .ok r') : TI r' := by
  unfold aW at ha
  split at ha
  · injection ha with ha; subst ha; exact h
  rename_i ht
  split at ha
  · cases ha
  rename_i p nm hl
  split at ha
  · rename_i c hc
    injection ha with ha
    subst ha
    exact h.more c t
  · rename_i hlt
    split at ha
    · rename_i i r2 hadd
      injection ha with ha
      subst ha
      obtain ⟨rfl, _⟩ := ny hl hadd
      exact h.Ip ⟨rfl, by show (1 : Int) ≤ 2 ∧ (2 : Int) ≤ 4; decide, fun _ => ⟨rfl, rfl⟩, fun _ => ⟨ht, fun p' nm' hl' => by rw [hl] at hl'; injection hl' with hl'; injection hl' with e1 _; rw [← e1]; exact hlt⟩, fun hk => by cases hk⟩ hl
    · cases ha
theorem TI.push {r : RS} {a : Nat} {m : Nd} (h : TI r) (nm : Tx) (hm : r.ns[a]? = some m) (hk : m.kind = 1) (hc : chain r.ns r.stk.reverse m.par) : TI { r with stk := r.stk ++ [(a, nm)], done := true } := by
  have hne : r.ns ≠ [] := fun e => by rw [e] at hm; simp at hm
  refine ⟨h.node, h.sum, ⟨a, ?_⟩, fun _ => hne, fun hd => by cases hd⟩
  show chain r.ns (r.stk ++ [(a, nm)]).reverse a
  rw [List.reverse_append]
  exact ⟨rfl, m, hm, hk, hc⟩
theorem TI.yes {r : RS} (h : TI r) (hne : r.ns ≠ []) : TI { r with done := true } := ⟨h.node, h.sum, h.stk, fun _ => hne, fun hd => by cases hd⟩
theorem TI.pop {r : RS} (h : TI r) : TI { r with stk := r.stk.dropLast } := by
  refine ⟨h.node, h.sum, ?_, h.done, fun hd => ⟨(h.none hd).1, by show r.stk.dropLast = []; rw [(h.none hd).2]; rfl⟩⟩
  by_cases hs : r.stk = []
  · obtain ⟨i, hc⟩ := h.stk
    rw [hs] at hc
    exact ⟨i, by show chain r.ns r.stk.dropLast.reverse i; rw [hs]; exact hc⟩
  · obtain ⟨p, nm, hl⟩ := dY hs
    obtain ⟨n, _, _, hc⟩ := h.top hl
    rw [iU hl] at hc
    obtain ⟨_, n', _, _, h4⟩ := hc
    exact ⟨_, h4⟩
theorem Dv (nm v : Tx) (n : Nd) : (bE nm v n).kind = n.kind ∧ (bE nm v n).pre = n.pre ∧ (bE nm v n).loc = n.loc ∧ (bE nm v n).kids = n.kids := by
  unfold bE
  split
  · exact ⟨rfl, rfl, rfl, rfl⟩
  split
  · split <;> exact ⟨rfl, rfl, rfl, rfl⟩
  · exact ⟨rfl, rfl, rfl, rfl⟩
theorem jS : ∀ (f : Nat) {nms nms' : List Tx} {n n' : Nd} {s s' : Tx}, bC f nms n s = .ok (nms', n', s') → n'.kind = n.kind ∧ n'.pre = n.pre ∧ n'.loc = n.loc ∧ n'.kids = n.kids
  | 0, nms, nms', n, n', s, s', h => by cases h
  | f + 1, nms, nms', n, n', s, s', h => by
    unfold bC at h
    split at h
    · split at h
      · cases h
      · rename_i nm s1 h1
        split at h
        · cases h
        · rename_i s2 h2
          split at h
          · cases h
          · rename_i v s3 h3
            obtain ⟨i1, i2, i3, i4⟩ := jS f h
            obtain ⟨p1, p2, p3, p4⟩ := Dv nm v n
            exact ⟨i1.trans p1, i2.trans p2, i3.trans p3, i4.trans p4⟩
    · injection h with h
      simp only [Prod.mk.injEq] at h
      obtain ⟨_, rfl, _⟩ := h
      exact ⟨rfl, rfl, rfl, rfl⟩
theorem mI {nm s s' : Tx} (h : dF s = .ok (nm, s')) : (cZ nm).kind = 1 ∧ bL (cZ nm).loc = true ∧ (cZ nm).kids = [] := by
  unfold dF at h
  split at h
  · rename_i hh
    injection h with h
    simp only [Prod.mk.injEq] at h
    obtain ⟨rfl, _⟩ := h
    generalize s.take (upTo s aH) = x at *
    unfold eU at hh
    unfold cZ
    cases hc : (Lib.cut x [58]).2.2 with
    | true =>
      rw [hc] at hh
      simp only [Bool.and_eq_true, Bool.not_true, Bool.false_or] at hh
      rw [if_pos rfl]
      exact ⟨rfl, hh.2, rfl⟩
    | false =>
      rw [if_neg (by decide)]
      refine ⟨rfl, ?_, rfl⟩
      simp only [Bool.and_eq_true] at hh
      have h1 := hh.1
      have : (Lib.cut x [58]).1 = x := by
        unfold Lib.cut at hc ⊢
        split
        · rename_i hi; rw [if_pos hi] at hc; cases hc
        · rfl
      rw [this] at h1
      exact h1
  · cases h
theorem lJ {r : RS} {n n' : Nd} (h : bH r n = .ok n') : aM r n.pre n.dcls = (n'.spc, true) ∧ n'.kind = n.kind ∧ n'.pre = n.pre ∧ n'.loc = n.loc ∧ n'.kids = n.kids ∧ n'.dcls = n.dcls := by
  unfold bH at h
  split at h
  · cases h
  split at h
  · rename_i hs
    split at h
    · injection h with h
      subst h
      exact ⟨by rw [← hs], rfl, rfl, rfl, rfl, rfl⟩
    · cases h
  · cases h
theorem F7 {r r' : RS} (h : TI r) (ha : bI r = .ok r') : TI r' := by
  unfold bI at ha
  split at ha
  · cases ha
  rename_i hsd
  split at ha
  · cases ha
  rename_i nm s1 h1
  split at ha
  · cases ha
  rename_i nms n s2 h2
  split at ha
  · cases ha
  split at ha
  · cases ha
  split at ha
  · cases ha
  split at ha
  · cases ha
  rename_i n' h3
  split at ha
  · cases ha
  split at ha
  · cases ha
  rename_i a r1 h4
  injection ha with ha
  subst ha
  obtain ⟨c1, c2, c3⟩ := mI h1
  obtain ⟨b1, b2, b3, b4⟩ := jS _ h2
  obtain ⟨d1, d2, d3, d4, d5, d6⟩ := lJ h3
  have hk1 : n'.kind = 1 := d2.trans (b1.trans c1)
  have hnew : Io { r with s := (hasF [62] (hasF [47] s2).2).2 } n' := ⟨d5.trans (b4.trans c3), by rw [hk1]; decide, fun hk => absurd hk1 hk, fun hk => (by rw [hk1] at hk; cases hk), fun _ => ⟨by rw [d4, b3]; exact c2, by rw [d3, d6]; exact d1⟩⟩
  have hT := h.less (hasF [62] (hasF [47] s2).2).2
  by_cases hs : r.stk = []
  · have hd : r.done = false := by
      cases hd : r.done with
      | false => rfl
      | true => exact absurd ⟨hs, hd⟩ hsd
    have hns := (h.none hd).1
    obtain ⟨rfl, rfl⟩ := xg (show ({ r with s := (hasF [62] (hasF [47] s2).2).2 } : RS).stk = [] from hs) h4
    have hT1 := hT.first hnew hk1 hns hs
    have e : ({ r with s := (hasF [62] (hasF [47] s2).2).2, ns := r.ns ++ [{ n' with par := -1 }], done := true } : RS) = { r with s := (hasF [62] (hasF [47] s2).2).2, ns := [{ n' with par := -1 }], done := true } := by rw [hns]; rfl
    cases hb : (hasF [47] s2).1 with
    | true =>
      rw [if_pos rfl]
      show TI { r with s := (hasF [62] (hasF [47] s2).2).2, ns := r.ns ++ [{ n' with par := -1 }], done := true }
      rw [e]
      exact hT1
    | false =>
      rw [if_neg (by decide)]
      have := TI.push (a := 0) (m := { n' with par := -1 }) hT1 nm rfl hk1 (by show chain _ r.stk.reverse (-1); rw [hs]; rfl)
      show TI { r with s := (hasF [62] (hasF [47] s2).2).2, ns := r.ns ++ [{ n' with par := -1 }], done := true, stk := r.stk ++ [(r.ns.length, nm)] }
      have e2 : ({ r with s := (hasF [62] (hasF [47] s2).2).2, ns := r.ns ++ [{ n' with par := -1 }], done := true, stk := r.stk ++ [(r.ns.length, nm)] } : RS) = { r with s := (hasF [62] (hasF [47] s2).2).2, ns := [{ n' with par := -1 }], done := true, stk := r.stk ++ [(0, nm)] } := by rw [hns]; rfl
      rw [e2]
      exact this
  · obtain ⟨p, nm0, hl⟩ := dY hs
    obtain ⟨rfl, rfl⟩ := ny (show ({ r with s := (hasF [62] (hasF [47] s2).2).2 } : RS).stk.getLast? = some (p, nm0) from hl) h4
    have hT1 := hT.Ip hnew hl
    have hm : (aB r.ns p r.ns.length ++ [{ n' with par := (p : Int) }])[r.ns.length]? = some { n' with par := (p : Int) } := by
      rw [List.getElem?_append_right (by rw [aQ]; exact Nat.le_refl _), aQ, Nat.sub_self]; rfl
    cases hb : (hasF [47] s2).1 with
    | true =>
      rw [if_pos rfl]
      exact hT1.yes (by show aB r.ns p r.ns.length ++ [_] ≠ []; simp)
    | false =>
      rw [if_neg (by decide)]
      obtain ⟨_, _, _, hc⟩ := hT1.top (p := p) (nm := nm0) hl
      exact TI.push hT1 nm hm hk1 hc
theorem JU {r r' : RS} (h : TI r) (ha : endF r = .ok r') : TI r' := by
  unfold endF at ha
  split at ha
  · cases ha
  split at ha
  · cases ha
  rename_i x s1 h1
  split at ha
  · injection ha with ha
    subst ha
    exact (h.less _).pop
  · cases ha
theorem zw {r r' : RS} {n : Nd} {s : Tx} (h : TI r) (hn : n.kids = []) (hd : n.dcls = []) (hat : n.atts = []) (hk : n.kind = 3 ∨ n.kind = 4)
    (ha : (if r.stk = [] then (Except.ok { r with s := s } : Ex RS) else match addF n { r with s := s } with
          | .error e => .error e
          | .ok (_, r') => .ok r') = .ok r') : TI r' := by
  split at ha
  · injection ha with ha; subst ha; exact h.less s
  · rename_i hs
    split at ha
    · cases ha
    · rename_i i r1 h1
      injection ha with ha; subst ha
      obtain ⟨p, nm, hl⟩ := dY hs
      obtain ⟨rfl, _⟩ := ny (show ({ r with s := s } : RS).stk.getLast? = some (p, nm) from hl) h1
      exact (h.less s).Ip ⟨hn, by rcases hk with hk | hk <;> rw [hk] <;> decide, fun _ => ⟨hat, hd⟩, fun h2 => (by omega), fun h2 => (by omega)⟩ hl
theorem Bl {r r' : RS} (h : TI r) (ha : aS r = .ok r') : TI r' := by
  unfold aS at ha
  split at ha
  · cases ha
  rename_i v s1 h1
  split at ha
  · exact zw (n := { nd0 with kind := 3, val := v }) h rfl rfl rfl (.inl rfl) ha
  · cases ha
theorem Iq {r r' : RS} (h : TI r) (ha : dS r = .ok r') : TI r' := by
  unfold dS at ha
  split at ha
  · cases ha
  rename_i nm s1 h1
  split at ha
  · cases ha
  dsimp only at ha
  split at ha
  · exact zw (n := { nd0 with kind := 4, loc := nm, val := [] }) h rfl rfl rfl (.inr rfl) ha
  · split at ha
    · split at ha
      · cases ha
      · rename_i v s2 h2
        exact zw (n := { nd0 with kind := 4, loc := nm, val := v }) h rfl rfl rfl (.inr rfl) ha
    · cases ha
theorem Ir {r r' : RS} (h : TI r) (ha : iy r = .ok r') : TI r' := by
  unfold iy at ha
  split at ha
  · exact Bl (h.less _) ha
  split at ha
  · cases ha
  split at ha
  · split at ha
    · cases ha
    · exact uX (h.less _) ha
  split at ha
  · exact Iq (h.less _) ha
  split at ha
  · exact JU (h.less _) ha
  split at ha
  · exact F7 (h.less _) ha
  · injection ha with ha; subst ha; exact h
theorem F8 {r r' : RS} (h : TI r) (ha : gu r = .ok r') : TI r' := by
  unfold gu at ha
  split at ha
  · split at ha
    · injection ha with ha; subst ha; exact h.less _
    · cases ha
  · split at ha
    · cases ha
    · split at ha
      · cases ha
      · rename_i r1 h1
        injection ha with ha; subst ha
        exact (uX h h1).less _
theorem Iu {r r' : RS} (h : TI r) (ha : aX r = .ok r') : TI r' := by
  unfold aX at ha
  split at ha
  · exact Ir h ha
  · split at ha
    · split at ha
      · cases ha
      · exact uX (h.less _) ha
    · split at ha
      · cases ha
      · exact F8 h ha
theorem EG : ∀ (f : Nat) {r r' : RS}, TI r → allR f r = .ok r' → TI r'
  | 0, r, r', h, ha => by
    unfold allR at ha
    split at ha
    · injection ha with ha; subst ha; exact h
    · cases ha
  | f + 1, r, r', h, ha => by
    unfold allR at ha
    split at ha
    · injection ha with ha; subst ha; exact h
    · split at ha
      · cases ha
      · rename_i r1 h1
        exact EG f (Iu h h1) ha
theorem Bn {b : Tx} {ns : List Nd} (h : gW b = .ok ns) : (∀ (i : Nat) (n : Nd), ns[i]? = some n → uV ns i n) ∧ bX ns + 1 = ns.length := by
  unfold gW at h
  split at h
  · cases h
  split at h
  · cases h
  unfold allF at h
  split at h
  · cases h
  rename_i s1 h1
  split at h
  · cases h
  rename_i r h2
  split at h
  · rename_i h3
    injection h with h
    subst h
    have hT := EG _ (TI.start s1) h2
    exact ⟨hT.node, hT.sum (hT.done h3.1)⟩
  · cases h
end Go.Proofs.YtigjbehgfjjlkaaGreatDoor
set_option linter.unusedVariables false
set_option linter.unusedSimpArgs false
namespace Go.Proofs.YtigjbehgfjjlkaaGreatDoor
open Go Go.Abs Go.RowKit Go.Xml
variable {base : Nat} {w0 : World} {G : Nat}
theorem Up.neg {ns : List Nd} {p : Tx} {i : Int} {o : Option Tx} (h : Up ns p i o) (hi : i < 0) : o = none := by
  cases h with
  | out _ => rfl
  | hit h1 h2 => omega
  | up h1 h2 h3 => omega
theorem Up.at {ns : List Nd} {p : Tx} {i : Nat} {o : Option Tx} {n : Nd} (h : Up ns p i o) (hn : ns[i]? = some n) : (∃ u, findD p n.dcls = some u ∧ o = some u) ∨ (findD p n.dcls = none ∧ Up ns p n.par o) := by
  generalize hj : (i : Int) = j at h
  cases h with
  | out h0 => omega
  | hit h1 h2 =>
    obtain rfl : i = _ := by exact_mod_cast hj
    rw [hn] at h1; injection h1 with h1; subst h1
    exact .inl ⟨_, h2, rfl⟩
  | up h1 h2 h3 =>
    obtain rfl : i = _ := by exact_mod_cast hj
    rw [hn] at h1; injection h1 with h1; subst h1
    exact .inr ⟨h2, h3⟩
structure Bo (v : Value) (ns : List Nd) (cs : List (List Value)) (h : Hp) : Prop where
  rows : ∃ hn hx, h = hn ++ hx ∧ GV v cs.flatten ns.length 9 55 hn ∧ NdsH ns cs hx
theorem Bo.node {v : Value} {ns : List Nd} {cs : List (List Value)} {h : Hp} (hT : Bo v ns cs h) {i : Nat} {n : Nd} (hi : ns[i]? = some n) :
    ∃ B kv av dv, v = .slice (some ⟨B, 0, some 0⟩) ns.length ns.length ∧ (B, Ob.cells cs.flatten 55 true) ∈ h ∧ cs[i]? = some (ndC n kv av dv) ∧ (∀ j, j < 9 → cs.flatten[i * 9 + j]? = (ndC n kv av dv)[j]?) ∧ cut cs.flatten (i * 9) 9 = some (ndC n kv av dv) ∧
      (∀ r, Rws (h ++ r) kv 1 (n.kids.map fun c => [Value.int .i64 (c : Nat)])) ∧ (∀ r, Rws (h ++ r) dv 2 (n.dcls.map dclC)) ∧ (∃ a c, av = .slice a n.atts.length c) := by
  obtain ⟨hn, hx, rfl, hG, hN⟩ := hT.rows
  obtain ⟨cl, c9⟩ := hN.len
  have hil := (List.getElem?_eq_some_iff.1 hi).1
  obtain ⟨B, hv, hB⟩ := GV.blk hG (by omega)
  obtain ⟨c, h1, h2, h3, a1, a2, ⟨kv, av, dv, hk, ha, hd, rfl, rfl, gk, ga, gd⟩, _⟩ := hN.at hi
  refine ⟨B, kv, av, dv, hv, by rw [hB]; simp, a1, fun j hj => flat_get c9 a1 hj, kJ c9 a1, fun r => ?_, fun r => ?_, ?_⟩
  · have := GV.rows (r := []) (cs := n.kids.map fun c => [Value.int .i64 (c : Nat)]) (n := n.kids.length) (sz := 1) (e := 3) (hg := hk) (v := kv) (by
      have e : (n.kids.map fun c => [Value.int .i64 (c : Nat)]).flatten = mF n.kids := by
        unfold mF
        induction n.kids with
        | nil => rfl
        | cons a l ih => simp only [List.map_cons, List.flatten_cons, ih]; rfl
      rw [e]; exact gk) (fun c hc => by obtain ⟨d, _, rfl⟩ := List.mem_map.1 hc; rfl) (List.length_map _)
    exact this.sub fun e he => by rw [a2]; simp at he ⊢; simp [he]
  · exact (ng (r := []) gd).sub fun e he => by rw [a2]; simp at he ⊢; simp [he]
  · obtain ⟨a, e⟩ := ga.isSlice
    exact ⟨a, _, e⟩
end Go.Proofs.YtigjbehgfjjlkaaGreatDoor
set_option linter.unusedVariables false
set_option linter.unusedSimpArgs false
namespace Go.Proofs.YtigjbehgfjjlkaaGreatDoor
open Go Go.Abs Go.RowKit Go.Xml
variable {base : Nat} {w0 : World} {G : Nat}
theorem JV : aqT Tryz.prog 59 = some [(0, 9), (1, 9), (2, 9), (3, 9)] := by kernel_rfl
theorem JW : aqT Tryz.prog 61 = some [(0, 9), (1, 9)] := by kernel_rfl
theorem JX (x : Att) : aqF Tryz.prog (attC x) (attC x) [(0, 9), (1, 9), (2, 9), (3, 9)] = some true := by
  simp [aqF, alf2, Tryz.underlying9, attC]
theorem JY (x : Dcl) : aqF Tryz.prog (dclC x) (dclC x) [(0, 9), (1, 9)] = some true := by
  simp [aqF, alf2, Tryz.underlying9, dclC]
set_option maxRecDepth 10000 in
theorem Dw (st : St) (r : Hp) (va vb : Value) (xs : List Nat) (hn : xs.length ≤ 1000000) (ha : Rws r va 1 (xs.map fun c => [Value.int .i64 (c : Nat)])) (hb : Rws r vb 1 (xs.map fun c => [Value.int .i64 (c : Nat)])) (hO : Own st r) (k q : Value → St → Prop) (hk : k (.bool true) st) : ay (C base w0 G) 29 [va, vb] st k q := by
  obtain ⟨aa, ca, hva, _⟩ := ha.isSlice
  obtain ⟨ab, cb, hvb, _⟩ := hb.isSlice
  rw [List.length_map] at hva hvb
  refine ay.of (cx := C base w0 G) mixed Tryz.func29 rfl (by kernel_rfl) (by simp [Tryz.ntmps29]) ?_
  simp only [Tryz.results29]
  simp -implicitDefEqProofs only [go_sem, ↓aj, ↓ah, ak, Nat.reduceBEq, ↓reduceIte, reduceCtorEq, Nat.reduceEqDiff, Nat.reduceAdd, Nat.reduceLeDiff, Int.reduceEq, Int.reduceLT, Int.reduceLE, Int.reduceAdd, Int.reduceToNat, Int.reduceNeg, Nat.reduceMul, Nat.reduceSub, Int.reduceBNe, Int.reduceBEq, hva, hvb, Tryz.underlying47, show ((xs.length : Int) != (xs.length : Int)) = false by simp]
  refine ⟨fun m ρ s => ∃ i : Nat, m = xs.length - i ∧ i ≤ xs.length ∧ ρ 0 = va ∧ ρ 1 = vb ∧ ρ 5 = .int .i64 i ∧ s = st, ⟨_, 0, rfl, Nat.zero_le _, hva.symm, hvb.symm, rfl, rfl⟩, ?_⟩
  rintro _ ρ s ⟨i, rfl, hi, h0, h1, h5, rfl⟩
  by_cases him : i < xs.length
  · obtain ⟨x, o, sp, c', ccs, ty, own, hvx, hmem, hcut⟩ := ha.mem (i := i) (l := [.int .i64 (xs[i] : Nat)]) (by simp [him])
    obtain ⟨x2, o2, sp2, c2', ccs2, ty2, own2, hvx2, hmem2, hcut2⟩ := hb.mem (i := i) (l := [.int .i64 (xs[i] : Nat)]) (by simp [him])
    rw [List.length_map] at hvx hvx2
    have hcx := hO.get hmem
    have hcx2 := hO.get hmem2
    have w1 : IntKind.i64.wrap ((i : Int) + 1) = ((i + 1 : Nat) : Int) := by rw [cO (by omega)]; rfl
    have g1 := eF hcut (j := 0) (by decide)
    have g2 := eF hcut2 (j := 0) (by decide)
    rw [Nat.add_zero, Nat.mul_one] at g1 g2
    generalize xs[i] = X at *
    change _ = some (Value.int .i64 (X : Nat)) at g1
    change _ = some (Value.int .i64 (X : Nat)) at g2
    have z0 : (0 ≤ (i : Int)) = True := by simp
    simp -implicitDefEqProofs only [go_sem, ↓aj, ↓ah, ak, Nat.reduceBEq, ↓reduceIte, reduceCtorEq, Nat.reduceEqDiff, Nat.reduceAdd, Nat.reduceLeDiff, Int.reduceEq, Int.reduceLT, Int.reduceLE, Int.reduceAdd, Int.reduceToNat, Int.reduceNeg, Nat.reduceMul, Nat.reduceSub, Int.reduceBNe, Int.reduceBEq, h0, h1, h5, hvx, him, Int.ofNat_lt, decide_true, Tryz.underlying47]
    refine bG.of [(0, false, []), (1, false, []), (2, false, []), (3, false, []), (4, false, []), (5, false, []), (6, false, []), (7, false, []), (8, false, [])] [] [] (by kernel_rfl) ?_
    simp -implicitDefEqProofs only [go_sem, ↓aj, ↓ah, ak, Nat.reduceBEq, ↓reduceIte, reduceCtorEq, Nat.reduceEqDiff, Nat.reduceAdd, Nat.reduceLeDiff, Int.reduceEq, Int.reduceLT, Int.reduceLE, Int.reduceAdd, Int.reduceToNat, Int.reduceNeg, Nat.reduceMul, Nat.reduceSub, Int.reduceBNe, Int.reduceBEq, h0, h1, h5, hvx, hvx2, him, Int.ofNat_lt, decide_true, Int.natCast_nonneg, and_self, Int.toNat_natCast, hcx, hcx2, g1, g2, asz3, Tryz.underlying47, Tryz.underlying3, Option.map_some, show ((X : Int) != (X : Int)) = false by simp, w1, z0, and_self, Int.toNat_natCast, Nat.mul_one]
    exact ⟨xs.length - (i + 1), by omega, i + 1, rfl, by omega, rfl⟩
  · obtain rfl : i = xs.length := by omega
    simp -implicitDefEqProofs only [go_sem, ↓aj, ↓ah, ak, Nat.reduceBEq, ↓reduceIte, reduceCtorEq, Nat.reduceEqDiff, Nat.reduceAdd, Nat.reduceLeDiff, Int.reduceEq, Int.reduceLT, Int.reduceLE, Int.reduceAdd, Int.reduceToNat, Int.reduceNeg, Nat.reduceMul, Nat.reduceSub, Int.reduceBNe, Int.reduceBEq, h0, h1, h5, hva, Int.ofNat_lt, Nat.lt_irrefl, decide_false, Tryz.underlying47]
    exact hk
structure NdR (H : Hp) (n : Nd) (kv av dv : Value) : Prop where
  kid : Rws H kv 1 (n.kids.map fun c => [Value.int .i64 (c : Nat)])
  att : Rws H av 4 (n.atts.map attC)
  dcl : Rws H dv 2 (n.dcls.map dclC)
theorem NdR.sub {H H' : Hp} {n : Nd} {kv av dv : Value} (h : NdR H n kv av dv) (hs : ∀ e ∈ H, e ∈ H') : NdR H' n kv av dv := ⟨h.kid.sub hs, h.att.sub hs, h.dcl.sub hs⟩
theorem Bo.full {v : Value} {ns : List Nd} {cs : List (List Value)} {h : Hp} (hT : Bo v ns cs h) {i : Nat} {n : Nd} (hi : ns[i]? = some n) :
    ∃ B kv av dv, v = .slice (some ⟨B, 0, some 0⟩) ns.length ns.length ∧ (B, Ob.cells cs.flatten 55 true) ∈ h ∧ cut cs.flatten (i * 9) 9 = some (ndC n kv av dv) ∧ (∀ j, j < 9 → cs.flatten[i * 9 + j]? = (ndC n kv av dv)[j]?) ∧ NdR h n kv av dv := by
  obtain ⟨hn, hx, rfl, hG, hN⟩ := hT.rows
  obtain ⟨cl, c9⟩ := hN.len
  have hil := (List.getElem?_eq_some_iff.1 hi).1
  obtain ⟨B, hv, hB⟩ := GV.blk hG (by omega)
  obtain ⟨c, h1, h2, h3, a1, a2, ⟨kv, av, dv, hk, ha, hd, rfl, rfl, gk, ga, gd⟩, _⟩ := hN.at hi
  refine ⟨B, kv, av, dv, hv, by rw [hB]; simp, kJ c9 a1, fun j hj => flat_get c9 a1 hj, ⟨?_, ?_, ?_⟩⟩
  · have := GV.rows (r := []) (cs := n.kids.map fun c => [Value.int .i64 (c : Nat)]) (n := n.kids.length) (sz := 1) (e := 3) (hg := hk) (v := kv) (by
      have e : (n.kids.map fun c => [Value.int .i64 (c : Nat)]).flatten = mF n.kids := by
        unfold mF
        induction n.kids with
        | nil => rfl
        | cons a l ih => simp only [List.map_cons, List.flatten_cons, ih]; rfl
      rw [e]; exact gk) (fun c hc => by obtain ⟨d, _, rfl⟩ := List.mem_map.1 hc; rfl) (List.length_map _)
    exact this.sub fun e he => by rw [a2]; simp at he ⊢; simp [he]
  · have := GV.rows (r := []) (cs := n.atts.map attC) (n := n.atts.length) (sz := 4) (e := 59) (hg := ha) (v := av) ga (fun c hc => by obtain ⟨d, _, rfl⟩ := List.mem_map.1 hc; rfl) (List.length_map _)
    exact this.sub fun e he => by rw [a2]; simp at he ⊢; simp [he]
  · exact (ng (r := []) gd).sub fun e he => by rw [a2]; simp at he ⊢; simp [he]
set_option maxRecDepth 10000 in
theorem Dx (st : St) (r : Hp) (n : Nd) (kv av dv kv' av' dv' : Value) (r1 : NdR r n kv av dv) (r2 : NdR r n kv' av' dv') (hb : n.kids.length ≤ 1000000 ∧ n.atts.length ≤ 1000000 ∧ n.dcls.length ≤ 1000000) (hO : Own st r) (k q : Value → St → Prop) (hk : ∀ st', Own st' r → k (.bool true) st') : ay (C base w0 G) 40 [.agg (ndC n kv av dv).toArray, .agg (ndC n kv' av' dv').toArray] st k q := by
  obtain ⟨b1, b2, b3⟩ := hb
  obtain ⟨ka, kc, hkv, _⟩ := r1.kid.isSlice
  obtain ⟨ka', kc', hkv', _⟩ := r2.kid.isSlice
  obtain ⟨aa, ac, hav, _⟩ := r1.att.isSlice
  obtain ⟨aa', ac', hav', _⟩ := r2.att.isSlice
  obtain ⟨da, dc, hdv, _⟩ := r1.dcl.isSlice
  obtain ⟨da', dc', hdv', _⟩ := r2.dcl.isSlice
  rw [List.length_map] at hkv hkv' hav hav' hdv hdv'
  subst hkv hkv' hav hav' hdv hdv'
  refine ay.of (cx := C base w0 G) mixed Tryz.func40 rfl (by kernel_rfl) (by simp [Tryz.ntmps40]) ?_
  simp only [Tryz.results40]
  have ho1 := (hO.new (.cells (ndC n (.slice ka n.kids.length kc) (.slice aa n.atts.length ac) (.slice da n.dcls.length dc)) 55 true)).new (.cells (ndC n (.slice ka' n.kids.length kc') (.slice aa' n.atts.length ac') (.slice da' n.dcls.length dc')) 55 true)
  have hc2 := ho1.head
  have hc1 := ho1.tail.head
  have hne : ¬ st.n = st.n + 1 := by omega
  have hne' : ¬ st.n + 1 = st.n := by omega
  have q1 : ((n.atts.length : Int) != (n.atts.length : Int)) = false := by simp
  have q2 : ((n.dcls.length : Int) != (n.dcls.length : Int)) = false := by simp
  unfold ndC at hc1 hc2
  simp -implicitDefEqProofs only [go_sem, ↓aj, ↓ah, ak, Nat.reduceBEq, ↓reduceIte, reduceCtorEq, Nat.reduceEqDiff, Nat.reduceAdd, Nat.reduceLeDiff, Int.reduceEq, Int.reduceLT, Int.reduceLE, Int.reduceAdd, Int.reduceToNat, Int.reduceNeg, Nat.reduceMul, Nat.reduceSub, Int.reduceBNe, Int.reduceBEq, List.append_eq, List.cons_append, List.nil_append, abox, ndC, hne, hne', fD, fE, kZ, o9, pq, Eu, dB, bT, mW, asz3, asz9, iM, Tryz.underlying3, Tryz.underlying9, Tryz.underlying47, List.getElem?_cons_zero, List.getElem?_cons_succ, dx, decide_true, Bool.not_true, show (n.kind != n.kind) = false by simp, show (n.par != n.par) = false by simp]
  refine au.enter Tryz.func29 rfl (by kernel_rfl) (Dw _ _ _ _ n.kids b1 (r1.kid.sub fun e he => List.mem_cons_of_mem _ (List.mem_cons_of_mem _ he)) (r2.kid.sub fun e he => List.mem_cons_of_mem _ (List.mem_cons_of_mem _ he)) ho1 _ _ ?_)
  simp -implicitDefEqProofs only [go_sem, ↓aj, ↓ah, ak, Nat.reduceBEq, ↓reduceIte, reduceCtorEq, Nat.reduceEqDiff, Nat.reduceAdd, Nat.reduceLeDiff, Int.reduceEq, Int.reduceLT, Int.reduceLE, Int.reduceAdd, Int.reduceToNat, Int.reduceNeg, Nat.reduceMul, Nat.reduceSub, Int.reduceBNe, Int.reduceBEq, List.append_eq, List.cons_append, List.nil_append, ndC, hne, hne', dB, bT, iO, fI, Tryz.underlying52, Tryz.underlying53, hc1, hc2, cut1, List.getElem?_cons_zero, List.getElem?_cons_succ, q1, q2, decide_true, Bool.not_true, Bool.not_false]
  change Own ((st.new (.cells [.int .i64 n.kind, .int .i64 n.par, .slice ka n.kids.length kc, .string (tx n.pre), .string (tx n.loc), .string (tx n.spc), .slice aa n.atts.length ac, .slice da n.dcls.length dc, .string (tx n.val)] 55 true)).new (.cells [.int .i64 n.kind, .int .i64 n.par, .slice ka' n.kids.length kc', .string (tx n.pre), .string (tx n.loc), .string (tx n.spc), .slice aa' n.atts.length ac', .slice da' n.dcls.length dc', .string (tx n.val)] 55 true)) _ at ho1
  change ((st.new (.cells [.int .i64 n.kind, .int .i64 n.par, .slice ka n.kids.length kc, .string (tx n.pre), .string (tx n.loc), .string (tx n.spc), .slice aa n.atts.length ac, .slice da n.dcls.length dc, .string (tx n.val)] 55 true)).new (.cells [.int .i64 n.kind, .int .i64 n.par, .slice ka' n.kids.length kc', .string (tx n.pre), .string (tx n.loc), .string (tx n.spc), .slice aa' n.atts.length ac', .slice da' n.dcls.length dc', .string (tx n.val)] 55 true)).H st.n = _ at hc1
  change ((st.new (.cells [.int .i64 n.kind, .int .i64 n.par, .slice ka n.kids.length kc, .string (tx n.pre), .string (tx n.loc), .string (tx n.spc), .slice aa n.atts.length ac, .slice da n.dcls.length dc, .string (tx n.val)] 55 true)).new (.cells [.int .i64 n.kind, .int .i64 n.par, .slice ka' n.kids.length kc', .string (tx n.pre), .string (tx n.loc), .string (tx n.spc), .slice aa' n.atts.length ac', .slice da' n.dcls.length dc', .string (tx n.val)] 55 true)).H (st.n + 1) = _ at hc2
  generalize hst : ((st.new (Ob.cells [.int .i64 n.kind, .int .i64 n.par, .slice ka n.kids.length kc, .string (tx n.pre), .string (tx n.loc), .string (tx n.spc), .slice aa n.atts.length ac, .slice da n.dcls.length dc, .string (tx n.val)] 55 true)).new (Ob.cells [.int .i64 n.kind, .int .i64 n.par, .slice ka' n.kids.length kc', .string (tx n.pre), .string (tx n.loc), .string (tx n.spc), .slice aa' n.atts.length ac', .slice da' n.dcls.length dc', .string (tx n.val)] 55 true)) = s0 at *
  refine ⟨fun m ρ s => ∃ i : Nat, m = n.atts.length - i ∧ i ≤ n.atts.length ∧ ρ 2 = .pointer (some ⟨st.n, 0, none⟩) ∧ ρ 3 = .pointer (some ⟨st.n + 1, 0, none⟩) ∧ ρ 5 = .int .i64 i ∧ s0 = s, ⟨_, 0, rfl, Nat.zero_le _, rfl, rfl, rfl, rfl⟩, ?_⟩
  rintro _ ρ s ⟨i, rfl, hi, h2, h3, h5, rfl⟩
  by_cases him : i < n.atts.length
  · obtain ⟨x, o, sp, c', ccs, ty, own, hvx, hmem, hcut⟩ := r1.att.mem (i := i) (l := attC n.atts[i]) (by simp [him])
    obtain ⟨x2, o2, sp2, c2', ccs2, ty2, own2, hvx2, hmem2, hcut2⟩ := r2.att.mem (i := i) (l := attC n.atts[i]) (by simp [him])
    rw [List.length_map] at hvx hvx2
    injection hvx with hvx _ hcc
    injection hvx2 with hvx2 _ hcc2
    subst hvx hvx2 hcc hcc2
    have hcx := ho1.get (List.mem_cons_of_mem _ (List.mem_cons_of_mem _ hmem))
    have hcx2 := ho1.get (List.mem_cons_of_mem _ (List.mem_cons_of_mem _ hmem2))
    have w1 : IntKind.i64.wrap ((i : Int) + 1) = ((i + 1 : Nat) : Int) := by rw [cO (by omega)]; rfl
    have hq := JX n.atts[i]
    generalize n.atts[i] = X at *
    simp -implicitDefEqProofs only [go_sem, ↓aj, ↓ah, ak, Nat.reduceBEq, ↓reduceIte, reduceCtorEq, Nat.reduceEqDiff, Nat.reduceAdd, Nat.reduceLeDiff, Int.reduceEq, Int.reduceLT, Int.reduceLE, Int.reduceAdd, Int.reduceToNat, Int.reduceNeg, Nat.reduceMul, Nat.reduceSub, Int.reduceBNe, Int.reduceBEq, h2, h3, h5, hc1, hc2, hne, hne', him, Int.ofNat_lt, decide_true, Tryz.underlying52, dB, cut1, iO, List.getElem?_cons_zero, List.getElem?_cons_succ]
    refine bG.of [(0, false, []), (1, false, []), (2, false, []), (3, false, []), (4, false, []), (5, false, []), (6, false, []), (7, false, []), (8, false, []), (9, false, []), (10, false, [])] [] [] (by kernel_rfl) ?_
    simp -implicitDefEqProofs only [go_sem, ↓aj, ↓ah, ak, Nat.reduceBEq, ↓reduceIte, reduceCtorEq, Nat.reduceEqDiff, Nat.reduceAdd, Nat.reduceLeDiff, Int.reduceEq, Int.reduceLT, Int.reduceLE, Int.reduceAdd, Int.reduceToNat, Int.reduceNeg, Nat.reduceMul, Nat.reduceSub, Int.reduceBNe, Int.reduceBEq, h2, h3, h5, hc1, hc2, hne, hne', him, Int.ofNat_lt, decide_true, Int.natCast_nonneg, and_self, Int.toNat_natCast, hcx, hcx2, hcut, hcut2, iP, iO, Tryz.underlying52, Tryz.underlying59, Option.map_some, JV, hq, Bool.not_true, w1, dB, cut1, List.getElem?_cons_zero, List.getElem?_cons_succ]
    exact ⟨n.atts.length - (i + 1), by omega, i + 1, rfl, by omega, rfl⟩
  obtain rfl : i = n.atts.length := by omega
  simp -implicitDefEqProofs only [go_sem, ↓aj, ↓ah, ak, Nat.reduceBEq, ↓reduceIte, reduceCtorEq, Nat.reduceEqDiff, Nat.reduceAdd, Nat.reduceLeDiff, Int.reduceEq, Int.reduceLT, Int.reduceLE, Int.reduceAdd, Int.reduceToNat, Int.reduceNeg, Nat.reduceMul, Nat.reduceSub, Int.reduceBNe, Int.reduceBEq, h2, h3, h5, hc1, hc2, hne, hne', Int.ofNat_lt, Nat.lt_irrefl, decide_false, Tryz.underlying52, dB, cut1, iO, List.getElem?_cons_zero, List.getElem?_cons_succ]
  refine ⟨fun m ρ s => ∃ i : Nat, m = n.dcls.length - i ∧ i ≤ n.dcls.length ∧ ρ 2 = .pointer (some ⟨st.n, 0, none⟩) ∧ ρ 3 = .pointer (some ⟨st.n + 1, 0, none⟩) ∧ ρ 6 = .int .i64 i ∧ s0 = s, ⟨_, 0, rfl, Nat.zero_le _, h2, h3, rfl, rfl⟩, ?_⟩
  rintro _ ρ s ⟨i, rfl, hi, h2, h3, h5, rfl⟩
  by_cases him : i < n.dcls.length
  · obtain ⟨x, o, sp, c', ccs, ty, own, hvx, hmem, hcut⟩ := r1.dcl.mem (i := i) (l := dclC n.dcls[i]) (by simp [him])
    obtain ⟨x2, o2, sp2, c2', ccs2, ty2, own2, hvx2, hmem2, hcut2⟩ := r2.dcl.mem (i := i) (l := dclC n.dcls[i]) (by simp [him])
    rw [List.length_map] at hvx hvx2
    injection hvx with hvx _ hcc
    injection hvx2 with hvx2 _ hcc2
    subst hvx hvx2 hcc hcc2
    have hcx := ho1.get (List.mem_cons_of_mem _ (List.mem_cons_of_mem _ hmem))
    have hcx2 := ho1.get (List.mem_cons_of_mem _ (List.mem_cons_of_mem _ hmem2))
    have w1 : IntKind.i64.wrap ((i : Int) + 1) = ((i + 1 : Nat) : Int) := by rw [cO (by omega)]; rfl
    have hq := JY n.dcls[i]
    generalize n.dcls[i] = X at *
    simp -implicitDefEqProofs only [go_sem, ↓aj, ↓ah, ak, Nat.reduceBEq, ↓reduceIte, reduceCtorEq, Nat.reduceEqDiff, Nat.reduceAdd, Nat.reduceLeDiff, Int.reduceEq, Int.reduceLT, Int.reduceLE, Int.reduceAdd, Int.reduceToNat, Int.reduceNeg, Nat.reduceMul, Nat.reduceSub, Int.reduceBNe, Int.reduceBEq, h2, h3, h5, hc1, hc2, hne, hne', him, Int.ofNat_lt, decide_true, Tryz.underlying53, bT, cut1, fI, List.getElem?_cons_zero, List.getElem?_cons_succ]
    refine bG.of [(0, false, []), (1, false, []), (2, false, []), (3, false, []), (4, false, []), (5, false, []), (6, false, []), (7, false, []), (8, false, []), (9, false, []), (10, false, [])] [] [] (by kernel_rfl) ?_
    simp -implicitDefEqProofs only [go_sem, ↓aj, ↓ah, ak, Nat.reduceBEq, ↓reduceIte, reduceCtorEq, Nat.reduceEqDiff, Nat.reduceAdd, Nat.reduceLeDiff, Int.reduceEq, Int.reduceLT, Int.reduceLE, Int.reduceAdd, Int.reduceToNat, Int.reduceNeg, Nat.reduceMul, Nat.reduceSub, Int.reduceBNe, Int.reduceBEq, h2, h3, h5, hc1, hc2, hne, hne', him, Int.ofNat_lt, decide_true, Int.natCast_nonneg, and_self, Int.toNat_natCast, hcx, hcx2, hcut, hcut2, jA, fI, Tryz.underlying53, Tryz.underlying61, Option.map_some, JW, hq, Bool.not_true, w1, bT, cut1, List.getElem?_cons_zero, List.getElem?_cons_succ]
    exact ⟨n.dcls.length - (i + 1), by omega, i + 1, rfl, by omega, rfl⟩
  obtain rfl : i = n.dcls.length := by omega
  simp -implicitDefEqProofs only [go_sem, ↓aj, ↓ah, ak, Nat.reduceBEq, ↓reduceIte, reduceCtorEq, Nat.reduceEqDiff, Nat.reduceAdd, Nat.reduceLeDiff, Int.reduceEq, Int.reduceLT, Int.reduceLE, Int.reduceAdd, Int.reduceToNat, Int.reduceNeg, Nat.reduceMul, Nat.reduceSub, Int.reduceBNe, Int.reduceBEq, h2, h3, h5, hc1, hc2, hne, hne', Int.ofNat_lt, Nat.lt_irrefl, decide_false, Tryz.underlying53, bT, cut1, fI, List.getElem?_cons_zero, List.getElem?_cons_succ]
  exact hk _ ho1.tail.tail
def DocV (H : Hp) (v : Value) (ns : List Nd) : Prop := ∃ cs : List (List Value), cs.length = ns.length ∧ Rws H v 9 cs ∧ ∀ (i : Nat) (n : Nd), ns[i]? = some n → ∃ kv av dv, cs[i]? = some (ndC n kv av dv) ∧ NdR H n kv av dv
theorem DocV.sub {H H' : Hp} {v : Value} {ns : List Nd} (h : DocV H v ns) (hs : ∀ e ∈ H, e ∈ H') : DocV H' v ns := by
  obtain ⟨cs, h1, h2, h3⟩ := h
  exact ⟨cs, h1, h2.sub hs, fun i n hi => by obtain ⟨kv, av, dv, a, b⟩ := h3 i n hi; exact ⟨kv, av, dv, a, b.sub hs⟩⟩
theorem DocV.isSlice {H : Hp} {v : Value} {ns : List Nd} (h : DocV H v ns) : ∃ a c, v = .slice a ns.length c := by
  obtain ⟨cs, h1, h2, h3⟩ := h
  obtain ⟨a, c, h, _⟩ := h2.isSlice
  exact ⟨a, c, by rw [← h1]; exact h⟩
theorem DocV.at {H : Hp} {v : Value} {ns : List Nd} (h : DocV H v ns) {i : Nat} {n : Nd} (hi : ns[i]? = some n) :
    ∃ x o sp c ccs ty own kv av dv, v = .slice (some ⟨x, o, sp⟩) ns.length c ∧ (x, Ob.cells ccs ty own) ∈ H ∧ cut ccs (o + i * 9) 9 = some (ndC n kv av dv) ∧ (∀ j, j < 9 → ccs[o + i * 9 + j]? = (ndC n kv av dv)[j]?) ∧ NdR H n kv av dv := by
  obtain ⟨cs, h1, h2, h3⟩ := h
  obtain ⟨kv, av, dv, a, b⟩ := h3 i n hi
  obtain ⟨x, o, sp, c, ccs, ty, own, g1, g2, g3⟩ := h2.mem a
  exact ⟨x, o, sp, c, ccs, ty, own, kv, av, dv, by rw [← h1]; exact g1, g2, g3, fun j hj => eF g3 hj, b⟩
theorem DocH.view {v : Value} {ns : List Nd} {h : Hp} (hD : DocH v ns h) : DocV h v ns := by
  obtain ⟨cs, hn, hx, rfl, hG, hN⟩ := hD
  have hT : Bo v ns cs (hn ++ hx) := ⟨hn, hx, rfl, hG, hN⟩
  obtain ⟨cl, c9⟩ := hN.len
  refine ⟨cs, cl, by
    have := GV.rows (r := hx) hG c9 cl
    exact this, fun i n hi => ?_⟩
  obtain ⟨B, kv, av, dv, _, _, a3, _, a5⟩ := hT.full hi
  have hil := (List.getElem?_eq_some_iff.1 hi).1
  refine ⟨kv, av, dv, ?_, a5⟩
  obtain ⟨c, hc⟩ : ∃ c, cs[i]? = some c := ⟨cs[i]'(by omega), by simp⟩
  rw [hc]
  rw [kJ c9 hc] at a3
  exact a3
def Small (ns : List Nd) : Prop := ns.length ≤ 1000000 ∧ ∀ n ∈ ns, n.kids.length ≤ 1000000 ∧ n.atts.length ≤ 1000000 ∧ n.dcls.length ≤ 1000000
set_option maxRecDepth 10000 in
theorem Dy (st : St) (r : Hp) (v v' : Value) (ns : List Nd) (h1 : DocV r v ns) (h2 : DocV r v' ns) (hb : Small ns) (hO : Own st r) (k q : Value → St → Prop) (hk : ∀ st', Own st' r → k (.bool true) st') : ay (C base w0 G) 14 [v, v'] st k q := by
  obtain ⟨aa, ca, hva⟩ := h1.isSlice
  obtain ⟨ab, cb, hvb⟩ := h2.isSlice
  obtain ⟨b0, b1⟩ := hb
  refine ay.of (cx := C base w0 G) mixed Tryz.func14 rfl (by kernel_rfl) (by simp [Tryz.ntmps14]) ?_
  simp only [Tryz.results14]
  simp -implicitDefEqProofs only [go_sem, ↓aj, ↓ah, ak, Nat.reduceBEq, ↓reduceIte, reduceCtorEq, Nat.reduceEqDiff, Nat.reduceAdd, Nat.reduceLeDiff, Int.reduceEq, Int.reduceLT, Int.reduceLE, Int.reduceAdd, Int.reduceToNat, Int.reduceNeg, Nat.reduceMul, Nat.reduceSub, Int.reduceBNe, Int.reduceBEq, hva, hvb, Tryz.underlying22, show ((ns.length : Int) != (ns.length : Int)) = false by simp]
  refine ⟨fun m ρ s => ∃ i : Nat, m = ns.length - i ∧ i ≤ ns.length ∧ ρ 0 = v ∧ ρ 1 = v' ∧ ρ 5 = .int .i64 i ∧ Own s r, ⟨_, 0, rfl, Nat.zero_le _, hva.symm, hvb.symm, rfl, hO⟩, ?_⟩
  rintro _ ρ s ⟨i, rfl, hi, g0, g1, g5, hs⟩
  by_cases him : i < ns.length
  · obtain ⟨x, o, sp, c, ccs, ty, own, kv, av, dv, hvx, hmem, hcut, _, r1⟩ := h1.at (i := i) (n := ns[i]) (by simp [him])
    obtain ⟨x2, o2, sp2, c2, ccs2, ty2, own2, kv2, av2, dv2, hvx2, hmem2, hcut2, _, r2⟩ := h2.at (i := i) (n := ns[i]) (by simp [him])
    have hcx := hs.get hmem
    have hcx2 := hs.get hmem2
    have w1 : IntKind.i64.wrap ((i : Int) + 1) = ((i + 1 : Nat) : Int) := by rw [cO (by omega)]; rfl
    have hbn := b1 ns[i] (List.getElem_mem ..)
    generalize ns[i] = X at *
    simp -implicitDefEqProofs only [go_sem, ↓aj, ↓ah, ak, Nat.reduceBEq, ↓reduceIte, reduceCtorEq, Nat.reduceEqDiff, Nat.reduceAdd, Nat.reduceLeDiff, Int.reduceEq, Int.reduceLT, Int.reduceLE, Int.reduceAdd, Int.reduceToNat, Int.reduceNeg, Nat.reduceMul, Nat.reduceSub, Int.reduceBNe, Int.reduceBEq, g0, g1, g5, hvx, him, Int.ofNat_lt, decide_true, Tryz.underlying22]
    refine bG.of [(0, false, []), (1, false, []), (2, false, []), (3, false, []), (4, false, []), (5, false, []), (6, false, []), (7, false, []), (8, false, []), (9, false, [])] [] [] (by kernel_rfl) ?_
    simp -implicitDefEqProofs only [go_sem, ↓aj, ↓ah, ak, Nat.reduceBEq, ↓reduceIte, reduceCtorEq, Nat.reduceEqDiff, Nat.reduceAdd, Nat.reduceLeDiff, Int.reduceEq, Int.reduceLT, Int.reduceLE, Int.reduceAdd, Int.reduceToNat, Int.reduceNeg, Nat.reduceMul, Nat.reduceSub, Int.reduceBNe, Int.reduceBEq, g0, g1, g5, hvx, hvx2, him, Int.ofNat_lt, decide_true, hcx, hcx2, hcut, hcut2, aU, Tryz.underlying22, Tryz.underlying55, Option.map_some, Int.natCast_nonneg, and_self, Int.toNat_natCast]
    refine au.enter Tryz.func40 rfl (by kernel_rfl) (Dx _ _ X kv av dv kv2 av2 dv2 r1 r2 hbn hs _ _ fun s1 ho1 => ?_)
    simp -implicitDefEqProofs only [go_sem, ↓aj, ↓ah, ak, Nat.reduceBEq, ↓reduceIte, reduceCtorEq, Nat.reduceEqDiff, Nat.reduceAdd, Nat.reduceLeDiff, Int.reduceEq, Int.reduceLT, Int.reduceLE, Int.reduceAdd, Int.reduceToNat, Int.reduceNeg, Nat.reduceMul, Nat.reduceSub, Int.reduceBNe, Int.reduceBEq, g0, g1, g5, hvx, hvx2, him, Int.ofNat_lt, decide_true, w1, Bool.not_true]
    exact ⟨ns.length - (i + 1), by omega, i + 1, rfl, by omega, rfl, ho1⟩
  · obtain rfl : i = ns.length := by omega
    simp -implicitDefEqProofs only [go_sem, ↓aj, ↓ah, ak, Nat.reduceBEq, ↓reduceIte, reduceCtorEq, Nat.reduceEqDiff, Nat.reduceAdd, Nat.reduceLeDiff, Int.reduceEq, Int.reduceLT, Int.reduceLE, Int.reduceAdd, Int.reduceToNat, Int.reduceNeg, Nat.reduceMul, Nat.reduceSub, Int.reduceBNe, Int.reduceBEq, g0, g1, g5, hva, Int.ofNat_lt, Nat.lt_irrefl, decide_false, Tryz.underlying22]
    exact hk _ hs
end Go.Proofs.YtigjbehgfjjlkaaGreatDoor
