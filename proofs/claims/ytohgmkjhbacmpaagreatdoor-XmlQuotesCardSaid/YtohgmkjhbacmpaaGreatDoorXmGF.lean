/- What is read is a tree (plain Lean). -/
import Derived.Test.YtohgmkjhbacmpaaGreatDoorXmGD
import Derived.Test.YtohgmkjhbacmpaaGreatDoorXmGE
set_option linter.unusedVariables false
set_option linter.unusedSimpArgs false
namespace Go.Proofs.YtohgmkjhbacmpaaGreatDoor
open Go Go.Abs Go.RowKit Go.Xml
inductive Up (ns : List Nd) (p : Tx) : Int → Option Tx → Prop
  | out {i : Int} : i < 0 → Up ns p i none
  | hit {i : Nat} {n : Nd} {u : Tx} : ns[i]? = some n → findD p n.dcls = some u → Up ns p i (some u)
  | up {i : Nat} {n : Nd} {o : Option Tx} : ns[i]? = some n → findD p n.dcls = none → Up ns p n.par o → Up ns p i o
def Fj (p : Tx) (o : Option Tx) : Tx × Bool := if p = [120, 109, 108] then (fI, true) else match o with
  | some u => (u, true)
  | none => ([], decide (p = []))
def Ext (ns ns' : List Nd) : Prop := ∀ (i : Nat) (n : Nd), ns[i]? = some n → ∃ n' : Nd, ns'[i]? = some n' ∧ n'.kind = n.kind ∧ n'.par = n.par ∧ n'.dcls = n.dcls
theorem Up.mono {ns ns' : List Nd} (h : Ext ns ns') {p : Tx} {i : Int} {o : Option Tx} (hu : Up ns p i o) : Up ns' p i o := by
  induction hu with
  | out h0 => exact .out h0
  | hit h1 h2 =>
    obtain ⟨n', g1, _, _, g4⟩ := h _ _ h1
    exact .hit g1 (by rw [g4]; exact h2)
  | up h1 h2 _ ih =>
    obtain ⟨n', g1, _, g3, g4⟩ := h _ _ h1
    exact .up g1 (by rw [g4]; exact h2) (by rw [g3]; exact ih)
structure wY (ns : List Nd) (i : Nat) (n : Nd) : Prop where
  par : (i = 0 ∧ n.par = -1) ∨ (0 < i ∧ ∃ p : Nat, n.par = p ∧ p < i)
  kind : 1 ≤ n.kind ∧ n.kind ≤ 4
  leaf : n.kind ≠ 1 → n.kids = [] ∧ n.atts = [] ∧ n.dcls = []
  text : n.kind = 2 → n.val ≠ []
  elem : n.kind = 1 → bK n.loc = true ∧ ∃ o, Up ns n.pre i o ∧ Fj n.pre o = (n.spc, true)
  kid : ∀ (k c : Nat), n.kids[k]? = some c → i < c ∧ ∃ m : Nd, ns[c]? = some m ∧ m.par = i
  next : ∀ (k c d : Nat), n.kids[k]? = some c → n.kids[k + 1]? = some d → c < d ∧ ∀ m m' : Nd, ns[c]? = some m → ns[d]? = some m' → ¬ (m.kind = 2 ∧ m'.kind = 2)
def bM : List Nd → Nat
  | [] => 0
  | n :: ns => n.kids.length + bM ns
theorem kV : ∀ (a b : List Nd), bM (a ++ b) = bM a + bM b
  | [], b => by simp [bM]
  | n :: a, b => by rw [List.cons_append, bM, bM, kV a b, Nat.add_assoc]
theorem nu : ∀ (ns : List Nd) (p c : Nat), p < ns.length → bM (aH ns p c) = bM ns + 1
  | [], p, c, h => by simp at h
  | n :: ns, 0, c, h => by simp [aH, bM]; omega
  | n :: ns, p + 1, c, h => by
    have ih := nu ns p c (by simpa using h)
    unfold aH at ih ⊢
    rw [List.modify_succ_cons, bM, bM, ih, Nat.add_assoc]
def chain (ns : List Nd) : List (Nat × Tx) → Int → Prop
  | [], i => i = -1
  | (a, _) :: t, i => i = (a : Int) ∧ ∃ n : Nd, ns[a]? = some n ∧ n.kind = 1 ∧ chain ns t n.par
theorem chain.mono {ns ns' : List Nd} (h : Ext ns ns') : ∀ {l : List (Nat × Tx)} {i : Int}, chain ns l i → chain ns' l i
  | [], i, hc => hc
  | (a, _) :: t, i, ⟨h1, n, h2, h3, h4⟩ => by
    obtain ⟨n', g1, g2, g3, _⟩ := h _ _ h2
    exact ⟨h1, n', g1, g2.trans h3, by rw [g3]; exact h4.mono h⟩
theorem chain.up {ns : List Nd} {p : Tx} : ∀ {l : List (Nat × Tx)} {i : Int}, chain ns l i → Up ns p i (outer ns p l)
  | [], i, hc => .out (by rw [show i = -1 from hc]; decide)
  | (a, x) :: t, i, ⟨h1, n, h2, h3, h4⟩ => by
    subst h1
    unfold outer
    rw [h2]
    show Up ns p a (match findD p n.dcls with
      | some u => some u
      | none => outer ns p t)
    cases hf : findD p n.dcls with
    | some u => exact .hit h2 hf
    | none => exact .up h2 hf h4.up
structure TI (r : RS) : Prop where
  node : ∀ (i : Nat) (n : Nd), r.ns[i]? = some n → wY r.ns i n
  sum : r.ns ≠ [] → bM r.ns + 1 = r.ns.length
  stk : ∃ i, chain r.ns r.stk.reverse i
  done : r.done = true → r.ns ≠ []
  none : r.done = false → r.ns = [] ∧ r.stk = []
theorem TI.less {r : RS} (h : TI r) (s : Tx) : TI { r with s := s } := ⟨h.node, h.sum, h.stk, h.done, h.none⟩
theorem TI.start (s : Tx) : TI ⟨s, [], [], false⟩ := ⟨fun i n h => (by simp at h), fun h => absurd rfl h, ⟨-1, rfl⟩, fun h => (by cases h), fun _ => ⟨rfl, rfl⟩⟩
theorem o9 {l : List (Nat × Tx)} {x : Nat × Tx} (h : l.getLast? = some x) : l.reverse = x :: l.dropLast.reverse := by
  obtain ⟨t, rfl⟩ : ∃ t, l = t ++ [x] := List.getLast?_eq_some_iff.1 h
  simp
theorem TI.top {r : RS} (h : TI r) {p : Nat} {nm : Tx} (hl : r.stk.getLast? = some (p, nm)) : ∃ n, r.ns[p]? = some n ∧ n.kind = 1 ∧ chain r.ns r.stk.reverse p := by
  obtain ⟨i, hc⟩ := h.stk
  have hr := o9 hl
  rw [hr] at hc ⊢
  obtain ⟨h1, n, h2, h3, h4⟩ := hc
  exact ⟨n, h2, h3, rfl, n, h2, h3, h4⟩
theorem oo {ns : List Nd} {p c i : Nat} : (aH ns p c)[i]? = (ns[i]?).map fun n => if p = i then { n with kids := n.kids ++ [c] } else n := by
  unfold aH
  rw [List.getElem?_modify]
  cases ns[i]? <;> rfl
theorem Ext.aH (ns : List Nd) (p c : Nat) (m : Nd) : Ext ns (aH ns p c ++ [m]) := fun i n hn => by
  have hi := (List.getElem?_eq_some_iff.1 hn).1
  rw [List.getElem?_append_left (by rw [bU]; exact hi), oo, hn]
  refine ⟨_, rfl, ?_⟩
  dsimp only
  by_cases e : p = i
  · rw [if_pos e]; exact ⟨rfl, rfl, rfl⟩
  · rw [if_neg e]; exact ⟨rfl, rfl, rfl⟩
structure Fp (r : RS) (n : Nd) : Prop where
  kids : n.kids = []
  kind : 1 ≤ n.kind ∧ n.kind ≤ 4
  leaf : n.kind ≠ 1 → n.atts = [] ∧ n.dcls = []
  text : n.kind = 2 → n.val ≠ [] ∧ ∀ p nm, r.stk.getLast? = some (p, nm) → bL r.ns p = none
  elem : n.kind = 1 → bK n.loc = true ∧ aJ r n.pre n.dcls = (n.spc, true)
theorem rP (r : RS) (p : Tx) (ds : List Dcl) : aJ r p ds = Fj p (match findD p ds with
    | some u => some u
    | none => outer r.ns p r.stk.reverse) := by
  unfold aJ Fj
  by_cases h : p = [120, 109, 108]
  · rw [if_pos h, if_pos h]
  · rw [if_neg h, if_neg h]
    cases findD p ds with
    | some u => rfl
    | none => cases outer r.ns p r.stk.reverse <;> rfl
theorem TI.Fq {r : RS} {n : Nd} {p : Nat} {nm : Tx} (h : TI r) (hn : Fp r n) (hl : r.stk.getLast? = some (p, nm)) : TI { r with ns := aH r.ns p r.ns.length ++ [{ n with par := p }] } := by
  obtain ⟨np, hp1, hp2, hp3⟩ := h.top hl
  have hpl := (List.getElem?_eq_some_iff.1 hp1).1
  have hext := Ext.aH r.ns p r.ns.length { n with par := p }
  have hnew : (aH r.ns p r.ns.length ++ [{ n with par := p }])[r.ns.length]? = some { n with par := p } := by
    rw [List.getElem?_append_right (by rw [bU]; exact Nat.le_refl _), bU, Nat.sub_self]; rfl
  have hdone : r.done = true := by
    cases hd : r.done with
    | true => rfl
    | false => have := (h.none hd).2; rw [this] at hl; cases hl
  have hold : ∀ j m, j < r.ns.length → (aH r.ns p r.ns.length ++ [{ n with par := p }])[j]? = some m → ∃ m0, r.ns[j]? = some m0 ∧ m.kind = m0.kind ∧ m = if p = j then { m0 with kids := m0.kids ++ [r.ns.length] } else m0 := fun j m hj hm => by
    rw [List.getElem?_append_left (by rw [bU]; exact hj), oo] at hm
    obtain ⟨m0, g1, g2⟩ := Option.map_eq_some_iff.1 hm
    refine ⟨m0, g1, ?_, g2.symm⟩
    rw [← g2]
    split <;> rfl
  refine ⟨fun i m hm => ?_, fun _ => ?_, ⟨p, ?_⟩, fun _ => by simp, fun hd => by rw [show r.done = false from hd] at hdone; cases hdone⟩
  · change (aH r.ns p r.ns.length ++ [{ n with par := p }])[i]? = some m at hm
    have hi := (List.getElem?_eq_some_iff.1 hm).1
    rw [List.length_append, bU, List.length_singleton] at hi
    show wY (aH r.ns p r.ns.length ++ [{ n with par := p }]) i m
    by_cases hil : i < r.ns.length
    · obtain ⟨m0, g1, gk, g2⟩ := hold i m hil hm
      have hN := h.node i m0 g1
      have kidOld : ∀ k c, m0.kids[k]? = some c → i < c ∧ ∃ m', (aH r.ns p r.ns.length ++ [{ n with par := p }])[c]? = some m' ∧ m'.par = (i : Int) := fun k c hc => by
        obtain ⟨q1, m1, q2, q3⟩ := hN.kid k c hc
        obtain ⟨m', t1, _, t3, _⟩ := hext _ _ q2
        exact ⟨q1, m', t1, t3.trans q3⟩
      have nextOld : ∀ k c d, m0.kids[k]? = some c → m0.kids[k + 1]? = some d → c < d ∧ ∀ a b, (aH r.ns p r.ns.length ++ [{ n with par := p }])[c]? = some a → (aH r.ns p r.ns.length ++ [{ n with par := p }])[d]? = some b → ¬ (a.kind = 2 ∧ b.kind = 2) := fun k c d hc hd => by
        obtain ⟨q1, q2⟩ := hN.next k c d hc hd
        refine ⟨q1, fun a b ha hb => ?_⟩
        obtain ⟨_, m1, s1, _⟩ := hN.kid k c hc
        obtain ⟨_, m2, s2, _⟩ := hN.kid (k + 1) d hd
        obtain ⟨a0, t1, t2, _⟩ := hold c a (List.getElem?_eq_some_iff.1 s1).1 ha
        obtain ⟨b0, u1, u2, _⟩ := hold d b (List.getElem?_eq_some_iff.1 s2).1 hb
        rw [t2, u2]
        exact q2 a0 b0 t1 u1
      by_cases hpi : p = i
      · rw [if_pos hpi] at g2
        subst g2
        have hm0 : m0 = np := by rw [hpi] at hp1; rw [hp1] at g1; injection g1 with g1; exact g1.symm
        have hk1 : m0.kind = 1 := by rw [hm0]; exact hp2
        refine ⟨hN.par, hN.kind, fun hk => absurd hk1 hk, hN.text, fun hk => ?_, fun k c hc => ?_, fun k c d hc hd => ?_⟩
        · obtain ⟨e1, o, e2, e3⟩ := hN.elem hk
          exact ⟨e1, o, e2.mono hext, e3⟩
        · change (m0.kids ++ [r.ns.length])[k]? = some c at hc
          by_cases hkl : k < m0.kids.length
          · rw [List.getElem?_append_left hkl] at hc
            exact kidOld k c hc
          · rw [List.getElem?_append_right (by omega)] at hc
            have hce : c = r.ns.length := by
              cases hkk : k - m0.kids.length with
              | zero => rw [hkk] at hc; simpa using hc.symm
              | succ x => rw [hkk] at hc; simp at hc
            subst hce
            exact ⟨hil, _, hnew, by show (p : Int) = i; rw [hpi]⟩
        · change (m0.kids ++ [r.ns.length])[k]? = some c at hc
          change (m0.kids ++ [r.ns.length])[k + 1]? = some d at hd
          by_cases hkl : k + 1 < m0.kids.length
          · rw [List.getElem?_append_left hkl] at hd
            rw [List.getElem?_append_left (by omega)] at hc
            exact nextOld k c d hc hd
          · have hk2 : k + 1 = m0.kids.length := by
              have := (List.getElem?_eq_some_iff.1 hd).1
              rw [List.length_append, List.length_singleton] at this
              omega
            rw [List.getElem?_append_left (by omega)] at hc
            rw [List.getElem?_append_right (by omega), show k + 1 - m0.kids.length = 0 by omega] at hd
            have hde : d = r.ns.length := by simpa using hd.symm
            subst hde
            obtain ⟨_, mc, s1, _⟩ := hN.kid k c hc
            have hcl := (List.getElem?_eq_some_iff.1 s1).1
            refine ⟨hcl, fun a b ha hb => ?_⟩
            obtain ⟨a0, t1, t2, _⟩ := hold c a hcl ha
            rw [hnew] at hb
            injection hb with hb
            intro hkk
            have hb2 : n.kind = 2 := by rw [← hb] at hkk; exact hkk.2
            have hlt := (hn.text hb2).2 p nm hl
            unfold bL at hlt
            have hgl : m0.kids.getLast? = some c := by rw [List.getLast?_eq_getElem?, show m0.kids.length - 1 = k by omega]; exact hc
            rw [hp1, ← hm0] at hlt
            simp only [Option.bind_some, hgl, t1, Option.map_some] at hlt
            rw [if_pos (by rw [← t2, hkk.1])] at hlt
            cases hlt
      · rw [if_neg hpi] at g2
        subst g2
        refine ⟨hN.par, hN.kind, hN.leaf, hN.text, fun hk => ?_, kidOld, nextOld⟩
        obtain ⟨e1, o, e2, e3⟩ := hN.elem hk
        exact ⟨e1, o, e2.mono hext, e3⟩
    · have hie : i = r.ns.length := by omega
      subst hie
      rw [hnew] at hm
      injection hm with hm
      subst hm
      refine ⟨.inr ⟨by omega, p, rfl, hpl⟩, hn.kind, fun hk => ⟨hn.kids, hn.leaf hk⟩, fun hk => (hn.text hk).1, fun hk => ?_, fun k c hc => ?_, fun k c d hc _ => ?_⟩
      · obtain ⟨e1, e2⟩ := hn.elem hk
        refine ⟨e1, _, ?_, (rP r n.pre n.dcls).symm.trans e2⟩
        cases hf : findD n.pre n.dcls with
        | some u => exact .hit hnew hf
        | none => exact .up hnew hf ((hp3.up (p := n.pre)).mono hext)
      · change n.kids[k]? = some c at hc
        rw [hn.kids] at hc
        simp at hc
      · change n.kids[k]? = some c at hc
        rw [hn.kids] at hc
        simp at hc
  · show bM (aH r.ns p r.ns.length ++ [{ n with par := p }]) + 1 = (aH r.ns p r.ns.length ++ [{ n with par := p }]).length
    have hs := h.sum (fun e => by rw [e] at hpl; simp at hpl)
    rw [kV, nu _ _ _ hpl, List.length_append, bU]
    show bM r.ns + 1 + (n.kids.length + 0) + 1 = r.ns.length + 1
    rw [hn.kids]
    simp only [List.length_nil]
    omega
  · exact hp3.mono hext
theorem TI.first {r : RS} {n : Nd} (h : TI r) (hn : Fp r n) (hk : n.kind = 1) (hns : r.ns = []) (hst : r.stk = []) : TI { r with ns := [{ n with par := -1 }], done := true } := by
  refine ⟨fun i m hm => ?_, fun _ => ?_, ⟨-1, by show chain _ r.stk.reverse (-1); rw [hst]; rfl⟩, fun _ => List.cons_ne_nil _ _, fun hd => by cases hd⟩
  · change ([{ n with par := -1 }] : List Nd)[i]? = some m at hm
    show wY [{ n with par := -1 }] i m
    cases i with
    | succ i => simp at hm
    | zero =>
      simp at hm
      subst hm
      refine ⟨.inl ⟨rfl, rfl⟩, hn.kind, fun hk => ⟨hn.kids, hn.leaf hk⟩, fun hk => (hn.text hk).1, fun hk => ?_, fun k c hc => ?_, fun k c d hc _ => ?_⟩
      · obtain ⟨e1, e2⟩ := hn.elem hk
        refine ⟨e1, _, ?_, (rP r n.pre n.dcls).symm.trans e2⟩
        rw [hst]
        cases hf : findD n.pre n.dcls with
        | some u => exact .hit rfl hf
        | none => exact .up rfl hf (.out (show (-1 : Int) < 0 by decide))
      · change n.kids[k]? = some c at hc
        rw [hn.kids] at hc
        simp at hc
      · change n.kids[k]? = some c at hc
        rw [hn.kids] at hc
        simp at hc
  · show n.kids.length + 0 + 1 = 1
    rw [hn.kids]
    rfl
end Go.Proofs.YtohgmkjhbacmpaaGreatDoor
set_option linter.unusedVariables false
set_option linter.unusedSimpArgs false
namespace Go.Proofs.YtohgmkjhbacmpaaGreatDoor
open Go Go.Abs Go.RowKit Go.Xml
theorem kF {n : Nd} {r r' : RS} {i p : Nat} {nm : Tx} (hl : r.stk.getLast? = some (p, nm)) (h : addF n r = .ok (i, r')) : r' = { r with ns := aH r.ns p r.ns.length ++ [{ n with par := p }] } ∧ i = r.ns.length := by
  unfold addF at h
  split at h
  · cases h
  · rw [hl] at h
    dsimp only at h
    injection h with h
    simp only [Prod.mk.injEq] at h
    exact ⟨h.2.symm, h.1.symm⟩
theorem uI {n : Nd} {r r' : RS} {i : Nat} (hl : r.stk = []) (h : addF n r = .ok (i, r')) : r' = { r with ns := r.ns ++ [{ n with par := -1 }] } ∧ i = r.ns.length := by
  unfold addF at h
  split at h
  · cases h
  · have hl2 : r.stk.getLast? = none := by rw [hl]; rfl
    rw [hl2] at h
    dsimp only at h
    injection h with h
    simp only [Prod.mk.injEq] at h
    exact ⟨h.2.symm, h.1.symm⟩
theorem gu {l : List (Nat × Tx)} (h : l ≠ []) : ∃ p nm, l.getLast? = some (p, nm) := by
  cases e : l.getLast? with
  | none => exact absurd (List.getLast?_eq_none_iff.1 e) h
  | some x => exact ⟨x.1, x.2, rfl⟩
theorem kW : ∀ (ns : List Nd) (c : Nat) (f : Nd → Nd), (∀ n, (f n).kids = n.kids) → bM (ns.modify c f) = bM ns
  | [], c, f, _ => by simp [bM]
  | n :: ns, 0, f, hf => by simp [bM, hf]
  | n :: ns, c + 1, f, hf => by rw [List.modify_succ_cons, bM, bM, kW ns c f hf]
theorem TI.more {r : RS} (h : TI r) (c : Nat) (t : Tx) : TI { r with ns := r.ns.modify c fun n => { n with val := n.val ++ t } } := by
  have hget : ∀ i : Nat, (r.ns.modify c fun n => { n with val := n.val ++ t })[i]? = (r.ns[i]?).map fun n => if c = i then { n with val := n.val ++ t } else n := fun i => by
    rw [List.getElem?_modify]
    cases r.ns[i]? <;> rfl
  have hext : Ext r.ns (r.ns.modify c fun n => { n with val := n.val ++ t }) := fun i n hn => by
    rw [hget, hn]
    refine ⟨_, rfl, ?_⟩
    dsimp only
    by_cases e : c = i
    · rw [if_pos e]; exact ⟨rfl, rfl, rfl⟩
    · rw [if_neg e]; exact ⟨rfl, rfl, rfl⟩
  have hback : ∀ (i : Nat) (m : Nd), (r.ns.modify c fun n => { n with val := n.val ++ t })[i]? = some m → ∃ m0, r.ns[i]? = some m0 ∧ m.kind = m0.kind ∧ m.par = m0.par ∧ m.kids = m0.kids ∧ m.atts = m0.atts ∧ m.dcls = m0.dcls ∧ m.pre = m0.pre ∧ m.loc = m0.loc ∧ m.spc = m0.spc ∧ (m0.val ≠ [] → m.val ≠ []) := fun i m hm => by
    rw [hget] at hm
    obtain ⟨m0, g1, g2⟩ := Option.map_eq_some_iff.1 hm
    refine ⟨m0, g1, ?_⟩
    rw [← g2]
    by_cases e : c = i
    · rw [if_pos e]
      exact ⟨rfl, rfl, rfl, rfl, rfl, rfl, rfl, rfl, fun hv => by show m0.val ++ t ≠ []; intro hh; exact hv (List.append_eq_nil_iff.1 hh).1⟩
    · rw [if_neg e]
      exact ⟨rfl, rfl, rfl, rfl, rfl, rfl, rfl, rfl, fun hv => hv⟩
  refine ⟨fun i m hm => ?_, fun hne => ?_, ?_, fun hd => ?_, fun hd => ?_⟩
  · obtain ⟨m0, g1, g2, g3, g4, g5, g6, g7, g8, g9, g10⟩ := hback i m hm
    have hN := h.node i m0 g1
    refine ⟨by rw [g3]; exact hN.par, by rw [g2]; exact hN.kind, fun hk => by rw [g4, g5, g6]; exact hN.leaf (by rwa [← g2]), fun hk => g10 (hN.text (by rwa [← g2])), fun hk => ?_, fun k d hd => ?_, fun k c d hc hd => ?_⟩
    · obtain ⟨e1, o, e2, e3⟩ := hN.elem (by rwa [← g2])
      exact ⟨by rw [g8]; exact e1, o, by rw [g7]; exact e2.mono hext, by rw [g7, g9]; exact e3⟩
    · rw [g4] at hd
      obtain ⟨q1, m1, q2, q3⟩ := hN.kid k d hd
      obtain ⟨m', t1, _, t3, _⟩ := hext _ _ q2
      exact ⟨q1, m', t1, t3.trans q3⟩
    · rw [g4] at hc hd
      obtain ⟨q1, q2⟩ := hN.next k c d hc hd
      refine ⟨q1, fun a b ha hb => ?_⟩
      obtain ⟨a0, t1, t2, _⟩ := hback c a ha
      obtain ⟨b0, u1, u2, _⟩ := hback d b hb
      rw [t2, u2]
      exact q2 a0 b0 t1 u1
  · show bM (r.ns.modify c fun n => { n with val := n.val ++ t }) + 1 = (r.ns.modify c fun n => { n with val := n.val ++ t }).length
    rw [kW r.ns c (fun n => { n with val := n.val ++ t }) (fun n => rfl), List.length_modify]
    exact h.sum (fun e => hne (by show r.ns.modify c _ = []; rw [e]; simp))
  · obtain ⟨i, hc⟩ := h.stk
    exact ⟨i, hc.mono hext⟩
  · have := h.done hd
    show r.ns.modify c _ ≠ []
    intro e
    have := congrArg List.length e
    rw [List.length_modify] at this
    exact h.done hd (List.eq_nil_of_length_eq_zero this)
  · obtain ⟨e1, e2⟩ := h.none hd
    exact ⟨by show r.ns.modify c _ = []; rw [e1]; simp, e2⟩
theorem rQ {r r' : RS} {t : Tx} (h : TI r) (ha : aS t r = .ok r') : TI r' := by
  unfold aS at ha
  split at ha
  · injection ha with ha; subst ha; exact h
  rename_i ht
  split at ha
  · cases ha
  rename_i p nm hl
  split at ha
  · rename_i c hc
    injection ha with ha
    subst ha
    exact h.more c t
  · rename_i hlt
    split at ha
    · rename_i i r2 hadd
      injection ha with ha
      subst ha
      obtain ⟨rfl, _⟩ := kF hl hadd
      exact h.Fq ⟨rfl, by show (1 : Int) ≤ 2 ∧ (2 : Int) ≤ 4; decide, fun _ => ⟨rfl, rfl⟩, fun _ => ⟨ht, fun p' nm' hl' => by rw [hl] at hl'; injection hl' with hl'; injection hl' with e1 _; rw [← e1]; exact hlt⟩, fun hk => by cases hk⟩ hl
    · cases ha
theorem TI.push {r : RS} {a : Nat} {m : Nd} (h : TI r) (nm : Tx) (hm : r.ns[a]? = some m) (hk : m.kind = 1) (hc : chain r.ns r.stk.reverse m.par) : TI { r with stk := r.stk ++ [(a, nm)], done := true } := by
  have hne : r.ns ≠ [] := fun e => by rw [e] at hm; simp at hm
  refine ⟨h.node, h.sum, ⟨a, ?_⟩, fun _ => hne, fun hd => by cases hd⟩
  show chain r.ns (r.stk ++ [(a, nm)]).reverse a
  rw [List.reverse_append]
  exact ⟨rfl, m, hm, hk, hc⟩
theorem TI.yes {r : RS} (h : TI r) (hne : r.ns ≠ []) : TI { r with done := true } := ⟨h.node, h.sum, h.stk, fun _ => hne, fun hd => by cases hd⟩
theorem TI.pop {r : RS} (h : TI r) : TI { r with stk := r.stk.dropLast } := by
  refine ⟨h.node, h.sum, ?_, h.done, fun hd => ⟨(h.none hd).1, by show r.stk.dropLast = []; rw [(h.none hd).2]; rfl⟩⟩
  by_cases hs : r.stk = []
  · obtain ⟨i, hc⟩ := h.stk
    rw [hs] at hc
    exact ⟨i, by show chain r.ns r.stk.dropLast.reverse i; rw [hs]; exact hc⟩
  · obtain ⟨p, nm, hl⟩ := gu hs
    obtain ⟨n, _, _, hc⟩ := h.top hl
    rw [o9 hl] at hc
    obtain ⟨_, n', _, _, h4⟩ := hc
    exact ⟨_, h4⟩
theorem Bb (nm v : Tx) (n : Nd) : (bW nm v n).kind = n.kind ∧ (bW nm v n).pre = n.pre ∧ (bW nm v n).loc = n.loc ∧ (bW nm v n).kids = n.kids := by
  unfold bW
  split
  · exact ⟨rfl, rfl, rfl, rfl⟩
  split
  · split <;> exact ⟨rfl, rfl, rfl, rfl⟩
  · exact ⟨rfl, rfl, rfl, rfl⟩
theorem iU : ∀ (f : Nat) {nms nms' : List Tx} {n n' : Nd} {s s' : Tx}, bA f nms n s = .ok (nms', n', s') → n'.kind = n.kind ∧ n'.pre = n.pre ∧ n'.loc = n.loc ∧ n'.kids = n.kids
  | 0, nms, nms', n, n', s, s', h => by cases h
  | f + 1, nms, nms', n, n', s, s', h => by
    unfold bA at h
    split at h
    · split at h
      · cases h
      · rename_i nm s1 h1
        split at h
        · cases h
        · rename_i s2 h2
          split at h
          · cases h
          · rename_i v s3 h3
            obtain ⟨i1, i2, i3, i4⟩ := iU f h
            obtain ⟨p1, p2, p3, p4⟩ := Bb nm v n
            exact ⟨i1.trans p1, i2.trans p2, i3.trans p3, i4.trans p4⟩
    · injection h with h
      simp only [Prod.mk.injEq] at h
      obtain ⟨_, rfl, _⟩ := h
      exact ⟨rfl, rfl, rfl, rfl⟩
theorem ny {nm s s' : Tx} (h : dh s = .ok (nm, s')) : (dx nm).kind = 1 ∧ bK (dx nm).loc = true ∧ (dx nm).kids = [] := by
  unfold dh at h
  split at h
  · rename_i hh
    injection h with h
    simp only [Prod.mk.injEq] at h
    obtain ⟨rfl, _⟩ := h
    generalize s.take (upTo s aW) = x at *
    unfold mJ at hh
    unfold dx
    cases hc : (Lib.cut x [58]).2.2 with
    | true =>
      rw [hc] at hh
      simp only [Bool.and_eq_true, Bool.not_true, Bool.false_or] at hh
      rw [if_pos rfl]
      exact ⟨rfl, hh.2, rfl⟩
    | false =>
      rw [if_neg (by decide)]
      refine ⟨rfl, ?_, rfl⟩
      simp only [Bool.and_eq_true] at hh
      have h1 := hh.1
      have : (Lib.cut x [58]).1 = x := by
        unfold Lib.cut at hc ⊢
        split
        · rename_i hi; rw [if_pos hi] at hc; cases hc
        · rfl
      rw [this] at h1
      exact h1
  · cases h
theorem lK {r : RS} {n n' : Nd} (h : bq r n = .ok n') : aJ r n.pre n.dcls = (n'.spc, true) ∧ n'.kind = n.kind ∧ n'.pre = n.pre ∧ n'.loc = n.loc ∧ n'.kids = n.kids ∧ n'.dcls = n.dcls := by
  unfold bq at h
  split at h
  · cases h
  split at h
  · rename_i hs
    split at h
    · injection h with h
      subst h
      exact ⟨by rw [← hs], rfl, rfl, rfl, rfl, rfl⟩
    · cases h
  · cases h
theorem DC {r r' : RS} (h : TI r) (ha : bH r = .ok r') : TI r' := by
  unfold bH at ha
  split at ha
  · cases ha
  rename_i hsd
  split at ha
  · cases ha
  rename_i nm s1 h1
  split at ha
  · cases ha
  rename_i nms n s2 h2
  split at ha
  · cases ha
  split at ha
  · cases ha
  split at ha
  · cases ha
  split at ha
  · cases ha
  rename_i n' h3
  split at ha
  · cases ha
  split at ha
  · cases ha
  rename_i a r1 h4
  injection ha with ha
  subst ha
  obtain ⟨c1, c2, c3⟩ := ny h1
  obtain ⟨b1, b2, b3, b4⟩ := iU _ h2
  obtain ⟨d1, d2, d3, d4, d5, d6⟩ := lK h3
  have hk1 : n'.kind = 1 := d2.trans (b1.trans c1)
  have hnew : Fp { r with s := (hasF [62] (hasF [47] s2).2).2 } n' := ⟨d5.trans (b4.trans c3), by rw [hk1]; decide, fun hk => absurd hk1 hk, fun hk => (by rw [hk1] at hk; cases hk), fun _ => ⟨by rw [d4, b3]; exact c2, by rw [d3, d6]; exact d1⟩⟩
  have hT := h.less (hasF [62] (hasF [47] s2).2).2
  by_cases hs : r.stk = []
  · have hd : r.done = false := by
      cases hd : r.done with
      | false => rfl
      | true => exact absurd ⟨hs, hd⟩ hsd
    have hns := (h.none hd).1
    obtain ⟨rfl, rfl⟩ := uI (show ({ r with s := (hasF [62] (hasF [47] s2).2).2 } : RS).stk = [] from hs) h4
    have hT1 := hT.first hnew hk1 hns hs
    have e : ({ r with s := (hasF [62] (hasF [47] s2).2).2, ns := r.ns ++ [{ n' with par := -1 }], done := true } : RS) = { r with s := (hasF [62] (hasF [47] s2).2).2, ns := [{ n' with par := -1 }], done := true } := by rw [hns]; rfl
    cases hb : (hasF [47] s2).1 with
    | true =>
      rw [if_pos rfl]
      show TI { r with s := (hasF [62] (hasF [47] s2).2).2, ns := r.ns ++ [{ n' with par := -1 }], done := true }
      rw [e]
      exact hT1
    | false =>
      rw [if_neg (by decide)]
      have := TI.push (a := 0) (m := { n' with par := -1 }) hT1 nm rfl hk1 (by show chain _ r.stk.reverse (-1); rw [hs]; rfl)
      show TI { r with s := (hasF [62] (hasF [47] s2).2).2, ns := r.ns ++ [{ n' with par := -1 }], done := true, stk := r.stk ++ [(r.ns.length, nm)] }
      have e2 : ({ r with s := (hasF [62] (hasF [47] s2).2).2, ns := r.ns ++ [{ n' with par := -1 }], done := true, stk := r.stk ++ [(r.ns.length, nm)] } : RS) = { r with s := (hasF [62] (hasF [47] s2).2).2, ns := [{ n' with par := -1 }], done := true, stk := r.stk ++ [(0, nm)] } := by rw [hns]; rfl
      rw [e2]
      exact this
  · obtain ⟨p, nm0, hl⟩ := gu hs
    obtain ⟨rfl, rfl⟩ := kF (show ({ r with s := (hasF [62] (hasF [47] s2).2).2 } : RS).stk.getLast? = some (p, nm0) from hl) h4
    have hT1 := hT.Fq hnew hl
    have hm : (aH r.ns p r.ns.length ++ [{ n' with par := (p : Int) }])[r.ns.length]? = some { n' with par := (p : Int) } := by
      rw [List.getElem?_append_right (by rw [bU]; exact Nat.le_refl _), bU, Nat.sub_self]; rfl
    cases hb : (hasF [47] s2).1 with
    | true =>
      rw [if_pos rfl]
      exact hT1.yes (by show aH r.ns p r.ns.length ++ [_] ≠ []; simp)
    | false =>
      rw [if_neg (by decide)]
      obtain ⟨_, _, _, hc⟩ := hT1.top (p := p) (nm := nm0) hl
      exact TI.push hT1 nm hm hk1 hc
theorem GR {r r' : RS} (h : TI r) (ha : endF r = .ok r') : TI r' := by
  unfold endF at ha
  split at ha
  · cases ha
  split at ha
  · cases ha
  rename_i x s1 h1
  split at ha
  · injection ha with ha
    subst ha
    exact (h.less _).pop
  · cases ha
theorem wZ {r r' : RS} {n : Nd} {s : Tx} (h : TI r) (hn : n.kids = []) (hd : n.dcls = []) (hat : n.atts = []) (hk : n.kind = 3 ∨ n.kind = 4)
    (ha : (if r.stk = [] then (Except.ok { r with s := s } : Ex RS) else match addF n { r with s := s } with
          | .error e => .error e
          | .ok (_, r') => .ok r') = .ok r') : TI r' := by
  split at ha
  · injection ha with ha; subst ha; exact h.less s
  · rename_i hs
    split at ha
    · cases ha
    · rename_i i r1 h1
      injection ha with ha; subst ha
      obtain ⟨p, nm, hl⟩ := gu hs
      obtain ⟨rfl, _⟩ := kF (show ({ r with s := s } : RS).stk.getLast? = some (p, nm) from hl) h1
      exact (h.less s).Fq ⟨hn, by rcases hk with hk | hk <;> rw [hk] <;> decide, fun _ => ⟨hat, hd⟩, fun h2 => (by omega), fun h2 => (by omega)⟩ hl
theorem ze {r r' : RS} (h : TI r) (ha : aX r = .ok r') : TI r' := by
  unfold aX at ha
  split at ha
  · cases ha
  rename_i v s1 h1
  split at ha
  · exact wZ (n := { nd0 with kind := 3, val := v }) h rfl rfl rfl (.inl rfl) ha
  · cases ha
theorem Fu {r r' : RS} (h : TI r) (ha : fB r = .ok r') : TI r' := by
  unfold fB at ha
  split at ha
  · cases ha
  rename_i nm s1 h1
  split at ha
  · cases ha
  dsimp only at ha
  split at ha
  · exact wZ (n := { nd0 with kind := 4, loc := nm, val := [] }) h rfl rfl rfl (.inr rfl) ha
  · split at ha
    · split at ha
      · cases ha
      · rename_i v s2 h2
        exact wZ (n := { nd0 with kind := 4, loc := nm, val := v }) h rfl rfl rfl (.inr rfl) ha
    · cases ha
theorem Fv {r r' : RS} (h : TI r) (ha : iQ r = .ok r') : TI r' := by
  unfold iQ at ha
  split at ha
  · exact ze (h.less _) ha
  split at ha
  · cases ha
  split at ha
  · split at ha
    · cases ha
    · exact rQ (h.less _) ha
  split at ha
  · exact Fu (h.less _) ha
  split at ha
  · exact GR (h.less _) ha
  split at ha
  · exact DC (h.less _) ha
  · injection ha with ha; subst ha; exact h
theorem DF {r r' : RS} (h : TI r) (ha : gq r = .ok r') : TI r' := by
  unfold gq at ha
  split at ha
  · split at ha
    · injection ha with ha; subst ha; exact h.less _
    · cases ha
  · split at ha
    · cases ha
    · split at ha
      · cases ha
      · rename_i r1 h1
        injection ha with ha; subst ha
        exact (rQ h h1).less _
theorem Fw {r r' : RS} (h : TI r) (ha : bg r = .ok r') : TI r' := by
  unfold bg at ha
  split at ha
  · exact Fv h ha
  · split at ha
    · split at ha
      · cases ha
      · exact rQ (h.less _) ha
    · split at ha
      · cases ha
      · exact DF h ha
theorem BZ : ∀ (f : Nat) {r r' : RS}, TI r → allR f r = .ok r' → TI r'
  | 0, r, r', h, ha => by
    unfold allR at ha
    split at ha
    · injection ha with ha; subst ha; exact h
    · cases ha
  | f + 1, r, r', h, ha => by
    unfold allR at ha
    split at ha
    · injection ha with ha; subst ha; exact h
    · split at ha
      · cases ha
      · rename_i r1 h1
        exact BZ f (Fw h h1) ha
theorem zf {b : Tx} {ns : List Nd} (h : eB b = .ok ns) : (∀ (i : Nat) (n : Nd), ns[i]? = some n → wY ns i n) ∧ bM ns + 1 = ns.length := by
  unfold eB at h
  split at h
  · cases h
  split at h
  · cases h
  unfold allF at h
  split at h
  · cases h
  rename_i s1 h1
  split at h
  · cases h
  rename_i r h2
  split at h
  · rename_i h3
    injection h with h
    subst h
    have hT := BZ _ (TI.start s1) h2
    exact ⟨hT.node, hT.sum (hT.done h3.1)⟩
  · cases h
end Go.Proofs.YtohgmkjhbacmpaaGreatDoor
set_option linter.unusedVariables false
set_option linter.unusedSimpArgs false
namespace Go.Proofs.YtohgmkjhbacmpaaGreatDoor
open Go Go.Abs Go.RowKit Go.Xml
end Go.Proofs.YtohgmkjhbacmpaaGreatDoor
set_option linter.unusedVariables false
set_option linter.unusedSimpArgs false
namespace Go.Proofs.YtohgmkjhbacmpaaGreatDoor
open Go Go.Abs Go.RowKit Go.Xml
variable {base : Nat} {w0 : World} {G : Nat}
theorem Up.neg {ns : List Nd} {p : Tx} {i : Int} {o : Option Tx} (h : Up ns p i o) (hi : i < 0) : o = none := by
  cases h with
  | out _ => rfl
  | hit h1 h2 => omega
  | up h1 h2 h3 => omega
theorem Up.at {ns : List Nd} {p : Tx} {i : Nat} {o : Option Tx} {n : Nd} (h : Up ns p i o) (hn : ns[i]? = some n) : (∃ u, findD p n.dcls = some u ∧ o = some u) ∨ (findD p n.dcls = none ∧ Up ns p n.par o) := by
  generalize hj : (i : Int) = j at h
  cases h with
  | out h0 => omega
  | hit h1 h2 =>
    obtain rfl : i = _ := by exact_mod_cast hj
    rw [hn] at h1; injection h1 with h1; subst h1
    exact .inl ⟨_, h2, rfl⟩
  | up h1 h2 h3 =>
    obtain rfl : i = _ := by exact_mod_cast hj
    rw [hn] at h1; injection h1 with h1; subst h1
    exact .inr ⟨h2, h3⟩
structure zh (v : Value) (ns : List Nd) (cs : List (List Value)) (h : Hp) : Prop where
  rows : ∃ hn hx, h = hn ++ hx ∧ GV v cs.flatten ns.length 9 34 hn ∧ NdsH ns cs hx
theorem zh.node {v : Value} {ns : List Nd} {cs : List (List Value)} {h : Hp} (hT : zh v ns cs h) {i : Nat} {n : Nd} (hi : ns[i]? = some n) :
    ∃ B kv av dv, v = .slice (some ⟨B, 0, some 0⟩) ns.length ns.length ∧ (B, Ob.cells cs.flatten 34 true) ∈ h ∧ cs[i]? = some (ndC n kv av dv) ∧ (∀ j, j < 9 → cs.flatten[i * 9 + j]? = (ndC n kv av dv)[j]?) ∧ cut cs.flatten (i * 9) 9 = some (ndC n kv av dv) ∧
      (∀ r, Rws (h ++ r) kv 1 (n.kids.map fun c => [Value.int .i64 (c : Nat)])) ∧ (∀ r, Rws (h ++ r) dv 2 (n.dcls.map dclC)) ∧ (∃ a c, av = .slice a n.atts.length c) := by
  obtain ⟨hn, hx, rfl, hG, hN⟩ := hT.rows
  obtain ⟨cl, c9⟩ := hN.len
  have hil := (List.getElem?_eq_some_iff.1 hi).1
  obtain ⟨B, hv, hB⟩ := GV.blk hG (by omega)
  obtain ⟨c, h1, h2, h3, a1, a2, ⟨kv, av, dv, hk, ha, hd, rfl, rfl, gk, ga, gd⟩, _⟩ := hN.at hi
  refine ⟨B, kv, av, dv, hv, by rw [hB]; simp, a1, fun j hj => flat_get c9 a1 hj, jk c9 a1, fun r => ?_, fun r => ?_, ?_⟩
  · have := GV.rows (r := []) (cs := n.kids.map fun c => [Value.int .i64 (c : Nat)]) (n := n.kids.length) (sz := 1) (e := 3) (hg := hk) (v := kv) (by
      have e : (n.kids.map fun c => [Value.int .i64 (c : Nat)]).flatten = jV n.kids := by
        unfold jV
        induction n.kids with
        | nil => rfl
        | cons a l ih => simp only [List.map_cons, List.flatten_cons, ih]; rfl
      rw [e]; exact gk) (fun c hc => by obtain ⟨d, _, rfl⟩ := List.mem_map.1 hc; rfl) (List.length_map _)
    exact this.sub fun e he => by rw [a2]; simp at he ⊢; simp [he]
  · exact (kC (r := []) gd).sub fun e he => by rw [a2]; simp at he ⊢; simp [he]
  · obtain ⟨a, e⟩ := ga.isSlice
    exact ⟨a, _, e⟩
end Go.Proofs.YtohgmkjhbacmpaaGreatDoor
