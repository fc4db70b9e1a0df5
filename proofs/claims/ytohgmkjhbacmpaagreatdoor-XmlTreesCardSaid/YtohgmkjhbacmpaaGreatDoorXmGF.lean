/- What is read is a tree (plain Lean). -/
import Derived.Test.YtohgmkjhbacmpaaGreatDoorXmGD
import Derived.Test.YtohgmkjhbacmpaaGreatDoorXmGE
set_option linter.unusedVariables false
set_option linter.unusedSimpArgs false
namespace Go.Proofs.YtohgmkjhbacmpaaGreatDoor
open Go Go.Abs Go.RowKit Go.Xml

/-- From a node up: what is declared of a prefix. -/
inductive Up (ns : List Nd) (p : Tx) : Int → Option Tx → Prop
  | out {i : Int} : i < 0 → Up ns p i none
  | hit {i : Nat} {n : Nd} {u : Tx} : ns[i]? = some n → findD p n.dcls = some u → Up ns p i (some u)
  | up {i : Nat} {n : Nd} {o : Option Tx} : ns[i]? = some n → findD p n.dcls = none → Up ns p n.par o → Up ns p i o
def spRes (p : Tx) (o : Option Tx) : Tx × Bool := if p = [120, 109, 108] then (ownSpace, true) else match o with
  | some u => (u, true)
  | none => ([], decide (p = []))
/-- Nothing but values and children has been put to nodes, and nodes behind them. -/
def Ext (ns ns' : List Nd) : Prop := ∀ (i : Nat) (n : Nd), ns[i]? = some n → ∃ n' : Nd, ns'[i]? = some n' ∧ n'.kind = n.kind ∧ n'.par = n.par ∧ n'.dcls = n.dcls
theorem Up.mono {ns ns' : List Nd} (h : Ext ns ns') {p : Tx} {i : Int} {o : Option Tx} (hu : Up ns p i o) : Up ns' p i o := by
  induction hu with
  | out h0 => exact .out h0
  | hit h1 h2 =>
    obtain ⟨n', g1, _, _, g4⟩ := h _ _ h1
    exact .hit g1 (by rw [g4]; exact h2)
  | up h1 h2 _ ih =>
    obtain ⟨n', g1, _, g3, g4⟩ := h _ _ h1
    exact .up g1 (by rw [g4]; exact h2) (by rw [g3]; exact ih)
structure NodeOk (ns : List Nd) (i : Nat) (n : Nd) : Prop where
  par : (i = 0 ∧ n.par = -1) ∨ (0 < i ∧ ∃ p : Nat, n.par = p ∧ p < i)
  kind : 1 ≤ n.kind ∧ n.kind ≤ 4
  leaf : n.kind ≠ 1 → n.kids = [] ∧ n.atts = [] ∧ n.dcls = []
  text : n.kind = 2 → n.val ≠ []
  elem : n.kind = 1 → nameOk n.loc = true ∧ ∃ o, Up ns n.pre i o ∧ spRes n.pre o = (n.spc, true)
  kid : ∀ (k c : Nat), n.kids[k]? = some c → i < c ∧ ∃ m : Nd, ns[c]? = some m ∧ m.par = i
  next : ∀ (k c d : Nat), n.kids[k]? = some c → n.kids[k + 1]? = some d → c < d ∧ ∀ m m' : Nd, ns[c]? = some m → ns[d]? = some m' → ¬ (m.kind = 2 ∧ m'.kind = 2)
def kidSum : List Nd → Nat
  | [] => 0
  | n :: ns => n.kids.length + kidSum ns
theorem kidSum_append : ∀ (a b : List Nd), kidSum (a ++ b) = kidSum a + kidSum b
  | [], b => by simp [kidSum]
  | n :: a, b => by rw [List.cons_append, kidSum, kidSum, kidSum_append a b, Nat.add_assoc]
theorem kidSum_kidAt : ∀ (ns : List Nd) (p c : Nat), p < ns.length → kidSum (kidAt ns p c) = kidSum ns + 1
  | [], p, c, h => by simp at h
  | n :: ns, 0, c, h => by simp [kidAt, kidSum]; omega
  | n :: ns, p + 1, c, h => by
    have ih := kidSum_kidAt ns p c (by simpa using h)
    unfold kidAt at ih ⊢
    rw [List.modify_succ_cons, kidSum, kidSum, ih, Nat.add_assoc]
/-- The open elements, the innermost first, lie within one another. -/
def chain (ns : List Nd) : List (Nat × Tx) → Int → Prop
  | [], i => i = -1
  | (a, _) :: t, i => i = (a : Int) ∧ ∃ n : Nd, ns[a]? = some n ∧ n.kind = 1 ∧ chain ns t n.par
theorem chain.mono {ns ns' : List Nd} (h : Ext ns ns') : ∀ {l : List (Nat × Tx)} {i : Int}, chain ns l i → chain ns' l i
  | [], i, hc => hc
  | (a, _) :: t, i, ⟨h1, n, h2, h3, h4⟩ => by
    obtain ⟨n', g1, g2, g3, _⟩ := h _ _ h2
    exact ⟨h1, n', g1, g2.trans h3, by rw [g3]; exact h4.mono h⟩
theorem chain.up {ns : List Nd} {p : Tx} : ∀ {l : List (Nat × Tx)} {i : Int}, chain ns l i → Up ns p i (outer ns p l)
  | [], i, hc => .out (by rw [show i = -1 from hc]; decide)
  | (a, x) :: t, i, ⟨h1, n, h2, h3, h4⟩ => by
    subst h1
    unfold outer
    rw [h2]
    show Up ns p a (match findD p n.dcls with
      | some u => some u
      | none => outer ns p t)
    cases hf : findD p n.dcls with
    | some u => exact .hit h2 hf
    | none => exact .up h2 hf h4.up
structure TI (r : RS) : Prop where
  node : ∀ (i : Nat) (n : Nd), r.ns[i]? = some n → NodeOk r.ns i n
  sum : r.ns ≠ [] → kidSum r.ns + 1 = r.ns.length
  stk : ∃ i, chain r.ns r.stk.reverse i
  done : r.done = true → r.ns ≠ []
  none : r.done = false → r.ns = [] ∧ r.stk = []
theorem TI.less {r : RS} (h : TI r) (s : Tx) : TI { r with s := s } := ⟨h.node, h.sum, h.stk, h.done, h.none⟩
theorem TI.start (s : Tx) : TI ⟨s, [], [], false⟩ := ⟨fun i n h => (by simp at h), fun h => absurd rfl h, ⟨-1, rfl⟩, fun h => (by cases h), fun _ => ⟨rfl, rfl⟩⟩
theorem getLast_rev {l : List (Nat × Tx)} {x : Nat × Tx} (h : l.getLast? = some x) : l.reverse = x :: l.dropLast.reverse := by
  obtain ⟨t, rfl⟩ : ∃ t, l = t ++ [x] := List.getLast?_eq_some_iff.1 h
  simp
/-- The innermost open element is one. -/
theorem TI.top {r : RS} (h : TI r) {p : Nat} {nm : Tx} (hl : r.stk.getLast? = some (p, nm)) : ∃ n, r.ns[p]? = some n ∧ n.kind = 1 ∧ chain r.ns r.stk.reverse p := by
  obtain ⟨i, hc⟩ := h.stk
  have hr := getLast_rev hl
  rw [hr] at hc ⊢
  obtain ⟨h1, n, h2, h3, h4⟩ := hc
  exact ⟨n, h2, h3, rfl, n, h2, h3, h4⟩
theorem get_kidAt {ns : List Nd} {p c i : Nat} : (kidAt ns p c)[i]? = (ns[i]?).map fun n => if p = i then { n with kids := n.kids ++ [c] } else n := by
  unfold kidAt
  rw [List.getElem?_modify]
  cases ns[i]? <;> rfl
theorem Ext.kidAt (ns : List Nd) (p c : Nat) (m : Nd) : Ext ns (kidAt ns p c ++ [m]) := fun i n hn => by
  have hi := (List.getElem?_eq_some_iff.1 hn).1
  rw [List.getElem?_append_left (by rw [kidAt_len]; exact hi), get_kidAt, hn]
  refine ⟨_, rfl, ?_⟩
  dsimp only
  by_cases e : p = i
  · rw [if_pos e]; exact ⟨rfl, rfl, rfl⟩
  · rw [if_neg e]; exact ⟨rfl, rfl, rfl⟩
/-- What a node must be that is put behind the others. -/
structure NewOk (r : RS) (n : Nd) : Prop where
  kids : n.kids = []
  kind : 1 ≤ n.kind ∧ n.kind ≤ 4
  leaf : n.kind ≠ 1 → n.atts = [] ∧ n.dcls = []
  text : n.kind = 2 → n.val ≠ [] ∧ ∀ p nm, r.stk.getLast? = some (p, nm) → lastText r.ns p = none
  elem : n.kind = 1 → nameOk n.loc = true ∧ spaceF r n.pre n.dcls = (n.spc, true)
theorem spaceF_res (r : RS) (p : Tx) (ds : List Dcl) : spaceF r p ds = spRes p (match findD p ds with
    | some u => some u
    | none => outer r.ns p r.stk.reverse) := by
  unfold spaceF spRes
  by_cases h : p = [120, 109, 108]
  · rw [if_pos h, if_pos h]
  · rw [if_neg h, if_neg h]
    cases findD p ds with
    | some u => rfl
    | none => cases outer r.ns p r.stk.reverse <;> rfl
theorem TI.addTo {r : RS} {n : Nd} {p : Nat} {nm : Tx} (h : TI r) (hn : NewOk r n) (hl : r.stk.getLast? = some (p, nm)) : TI { r with ns := kidAt r.ns p r.ns.length ++ [{ n with par := p }] } := by
  obtain ⟨np, hp1, hp2, hp3⟩ := h.top hl
  have hpl := (List.getElem?_eq_some_iff.1 hp1).1
  have hext := Ext.kidAt r.ns p r.ns.length { n with par := p }
  have hnew : (kidAt r.ns p r.ns.length ++ [{ n with par := p }])[r.ns.length]? = some { n with par := p } := by
    rw [List.getElem?_append_right (by rw [kidAt_len]; exact Nat.le_refl _), kidAt_len, Nat.sub_self]; rfl
  have hdone : r.done = true := by
    cases hd : r.done with
    | true => rfl
    | false => have := (h.none hd).2; rw [this] at hl; cases hl
  have hold : ∀ j m, j < r.ns.length → (kidAt r.ns p r.ns.length ++ [{ n with par := p }])[j]? = some m → ∃ m0, r.ns[j]? = some m0 ∧ m.kind = m0.kind ∧ m = if p = j then { m0 with kids := m0.kids ++ [r.ns.length] } else m0 := fun j m hj hm => by
    rw [List.getElem?_append_left (by rw [kidAt_len]; exact hj), get_kidAt] at hm
    obtain ⟨m0, g1, g2⟩ := Option.map_eq_some_iff.1 hm
    refine ⟨m0, g1, ?_, g2.symm⟩
    rw [← g2]
    split <;> rfl
  refine ⟨fun i m hm => ?_, fun _ => ?_, ⟨p, ?_⟩, fun _ => by simp, fun hd => by rw [show r.done = false from hd] at hdone; cases hdone⟩
  · change (kidAt r.ns p r.ns.length ++ [{ n with par := p }])[i]? = some m at hm
    have hi := (List.getElem?_eq_some_iff.1 hm).1
    rw [List.length_append, kidAt_len, List.length_singleton] at hi
    show NodeOk (kidAt r.ns p r.ns.length ++ [{ n with par := p }]) i m
    by_cases hil : i < r.ns.length
    · obtain ⟨m0, g1, gk, g2⟩ := hold i m hil hm
      have hN := h.node i m0 g1
      have kidOld : ∀ k c, m0.kids[k]? = some c → i < c ∧ ∃ m', (kidAt r.ns p r.ns.length ++ [{ n with par := p }])[c]? = some m' ∧ m'.par = (i : Int) := fun k c hc => by
        obtain ⟨q1, m1, q2, q3⟩ := hN.kid k c hc
        obtain ⟨m', t1, _, t3, _⟩ := hext _ _ q2
        exact ⟨q1, m', t1, t3.trans q3⟩
      have nextOld : ∀ k c d, m0.kids[k]? = some c → m0.kids[k + 1]? = some d → c < d ∧ ∀ a b, (kidAt r.ns p r.ns.length ++ [{ n with par := p }])[c]? = some a → (kidAt r.ns p r.ns.length ++ [{ n with par := p }])[d]? = some b → ¬ (a.kind = 2 ∧ b.kind = 2) := fun k c d hc hd => by
        obtain ⟨q1, q2⟩ := hN.next k c d hc hd
        refine ⟨q1, fun a b ha hb => ?_⟩
        obtain ⟨_, m1, s1, _⟩ := hN.kid k c hc
        obtain ⟨_, m2, s2, _⟩ := hN.kid (k + 1) d hd
        obtain ⟨a0, t1, t2, _⟩ := hold c a (List.getElem?_eq_some_iff.1 s1).1 ha
        obtain ⟨b0, u1, u2, _⟩ := hold d b (List.getElem?_eq_some_iff.1 s2).1 hb
        rw [t2, u2]
        exact q2 a0 b0 t1 u1
      by_cases hpi : p = i
      · rw [if_pos hpi] at g2
        subst g2
        have hm0 : m0 = np := by rw [hpi] at hp1; rw [hp1] at g1; injection g1 with g1; exact g1.symm
        have hk1 : m0.kind = 1 := by rw [hm0]; exact hp2
        refine ⟨hN.par, hN.kind, fun hk => absurd hk1 hk, hN.text, fun hk => ?_, fun k c hc => ?_, fun k c d hc hd => ?_⟩
        · obtain ⟨e1, o, e2, e3⟩ := hN.elem hk
          exact ⟨e1, o, e2.mono hext, e3⟩
        · change (m0.kids ++ [r.ns.length])[k]? = some c at hc
          by_cases hkl : k < m0.kids.length
          · rw [List.getElem?_append_left hkl] at hc
            exact kidOld k c hc
          · rw [List.getElem?_append_right (by omega)] at hc
            have hce : c = r.ns.length := by
              cases hkk : k - m0.kids.length with
              | zero => rw [hkk] at hc; simpa using hc.symm
              | succ x => rw [hkk] at hc; simp at hc
            subst hce
            exact ⟨hil, _, hnew, by show (p : Int) = i; rw [hpi]⟩
        · change (m0.kids ++ [r.ns.length])[k]? = some c at hc
          change (m0.kids ++ [r.ns.length])[k + 1]? = some d at hd
          by_cases hkl : k + 1 < m0.kids.length
          · rw [List.getElem?_append_left hkl] at hd
            rw [List.getElem?_append_left (by omega)] at hc
            exact nextOld k c d hc hd
          · have hk2 : k + 1 = m0.kids.length := by
              have := (List.getElem?_eq_some_iff.1 hd).1
              rw [List.length_append, List.length_singleton] at this
              omega
            rw [List.getElem?_append_left (by omega)] at hc
            rw [List.getElem?_append_right (by omega), show k + 1 - m0.kids.length = 0 by omega] at hd
            have hde : d = r.ns.length := by simpa using hd.symm
            subst hde
            obtain ⟨_, mc, s1, _⟩ := hN.kid k c hc
            have hcl := (List.getElem?_eq_some_iff.1 s1).1
            refine ⟨hcl, fun a b ha hb => ?_⟩
            obtain ⟨a0, t1, t2, _⟩ := hold c a hcl ha
            rw [hnew] at hb
            injection hb with hb
            intro hkk
            have hb2 : n.kind = 2 := by rw [← hb] at hkk; exact hkk.2
            have hlt := (hn.text hb2).2 p nm hl
            unfold lastText at hlt
            have hgl : m0.kids.getLast? = some c := by rw [List.getLast?_eq_getElem?, show m0.kids.length - 1 = k by omega]; exact hc
            rw [hp1, ← hm0] at hlt
            simp only [Option.bind_some, hgl, t1, Option.map_some] at hlt
            rw [if_pos (by rw [← t2, hkk.1])] at hlt
            cases hlt
      · rw [if_neg hpi] at g2
        subst g2
        refine ⟨hN.par, hN.kind, hN.leaf, hN.text, fun hk => ?_, kidOld, nextOld⟩
        obtain ⟨e1, o, e2, e3⟩ := hN.elem hk
        exact ⟨e1, o, e2.mono hext, e3⟩
    · have hie : i = r.ns.length := by omega
      subst hie
      rw [hnew] at hm
      injection hm with hm
      subst hm
      refine ⟨.inr ⟨by omega, p, rfl, hpl⟩, hn.kind, fun hk => ⟨hn.kids, hn.leaf hk⟩, fun hk => (hn.text hk).1, fun hk => ?_, fun k c hc => ?_, fun k c d hc _ => ?_⟩
      · obtain ⟨e1, e2⟩ := hn.elem hk
        refine ⟨e1, _, ?_, (spaceF_res r n.pre n.dcls).symm.trans e2⟩
        cases hf : findD n.pre n.dcls with
        | some u => exact .hit hnew hf
        | none => exact .up hnew hf ((hp3.up (p := n.pre)).mono hext)
      · change n.kids[k]? = some c at hc
        rw [hn.kids] at hc
        simp at hc
      · change n.kids[k]? = some c at hc
        rw [hn.kids] at hc
        simp at hc
  · show kidSum (kidAt r.ns p r.ns.length ++ [{ n with par := p }]) + 1 = (kidAt r.ns p r.ns.length ++ [{ n with par := p }]).length
    have hs := h.sum (fun e => by rw [e] at hpl; simp at hpl)
    rw [kidSum_append, kidSum_kidAt _ _ _ hpl, List.length_append, kidAt_len]
    show kidSum r.ns + 1 + (n.kids.length + 0) + 1 = r.ns.length + 1
    rw [hn.kids]
    simp only [List.length_nil]
    omega
  · exact hp3.mono hext
/-- The first node. -/
theorem TI.first {r : RS} {n : Nd} (h : TI r) (hn : NewOk r n) (hk : n.kind = 1) (hns : r.ns = []) (hst : r.stk = []) : TI { r with ns := [{ n with par := -1 }], done := true } := by
  refine ⟨fun i m hm => ?_, fun _ => ?_, ⟨-1, by show chain _ r.stk.reverse (-1); rw [hst]; rfl⟩, fun _ => List.cons_ne_nil _ _, fun hd => by cases hd⟩
  · change ([{ n with par := -1 }] : List Nd)[i]? = some m at hm
    show NodeOk [{ n with par := -1 }] i m
    cases i with
    | succ i => simp at hm
    | zero =>
      simp at hm
      subst hm
      refine ⟨.inl ⟨rfl, rfl⟩, hn.kind, fun hk => ⟨hn.kids, hn.leaf hk⟩, fun hk => (hn.text hk).1, fun hk => ?_, fun k c hc => ?_, fun k c d hc _ => ?_⟩
      · obtain ⟨e1, e2⟩ := hn.elem hk
        refine ⟨e1, _, ?_, (spaceF_res r n.pre n.dcls).symm.trans e2⟩
        rw [hst]
        cases hf : findD n.pre n.dcls with
        | some u => exact .hit rfl hf
        | none => exact .up rfl hf (.out (show (-1 : Int) < 0 by decide))
      · change n.kids[k]? = some c at hc
        rw [hn.kids] at hc
        simp at hc
      · change n.kids[k]? = some c at hc
        rw [hn.kids] at hc
        simp at hc
  · show n.kids.length + 0 + 1 = 1
    rw [hn.kids]
    rfl
end Go.Proofs.YtohgmkjhbacmpaaGreatDoor
set_option linter.unusedVariables false
set_option linter.unusedSimpArgs false
namespace Go.Proofs.YtohgmkjhbacmpaaGreatDoor
open Go Go.Abs Go.RowKit Go.Xml

theorem addF_some {n : Nd} {r r' : RS} {i p : Nat} {nm : Tx} (hl : r.stk.getLast? = some (p, nm)) (h : addF n r = .ok (i, r')) : r' = { r with ns := kidAt r.ns p r.ns.length ++ [{ n with par := p }] } ∧ i = r.ns.length := by
  unfold addF at h
  split at h
  · cases h
  · rw [hl] at h
    dsimp only at h
    injection h with h
    simp only [Prod.mk.injEq] at h
    exact ⟨h.2.symm, h.1.symm⟩
theorem addF_none {n : Nd} {r r' : RS} {i : Nat} (hl : r.stk = []) (h : addF n r = .ok (i, r')) : r' = { r with ns := r.ns ++ [{ n with par := -1 }] } ∧ i = r.ns.length := by
  unfold addF at h
  split at h
  · cases h
  · have hl2 : r.stk.getLast? = none := by rw [hl]; rfl
    rw [hl2] at h
    dsimp only at h
    injection h with h
    simp only [Prod.mk.injEq] at h
    exact ⟨h.2.symm, h.1.symm⟩
theorem getLast_ne {l : List (Nat × Tx)} (h : l ≠ []) : ∃ p nm, l.getLast? = some (p, nm) := by
  cases e : l.getLast? with
  | none => exact absurd (List.getLast?_eq_none_iff.1 e) h
  | some x => exact ⟨x.1, x.2, rfl⟩
theorem kidSum_modify : ∀ (ns : List Nd) (c : Nat) (f : Nd → Nd), (∀ n, (f n).kids = n.kids) → kidSum (ns.modify c f) = kidSum ns
  | [], c, f, _ => by simp [kidSum]
  | n :: ns, 0, f, hf => by simp [kidSum, hf]
  | n :: ns, c + 1, f, hf => by rw [List.modify_succ_cons, kidSum, kidSum, kidSum_modify ns c f hf]
/-- More text at the end of a node's. -/
theorem TI.more {r : RS} (h : TI r) (c : Nat) (t : Tx) : TI { r with ns := r.ns.modify c fun n => { n with val := n.val ++ t } } := by
  have hget : ∀ i : Nat, (r.ns.modify c fun n => { n with val := n.val ++ t })[i]? = (r.ns[i]?).map fun n => if c = i then { n with val := n.val ++ t } else n := fun i => by
    rw [List.getElem?_modify]
    cases r.ns[i]? <;> rfl
  have hext : Ext r.ns (r.ns.modify c fun n => { n with val := n.val ++ t }) := fun i n hn => by
    rw [hget, hn]
    refine ⟨_, rfl, ?_⟩
    dsimp only
    by_cases e : c = i
    · rw [if_pos e]; exact ⟨rfl, rfl, rfl⟩
    · rw [if_neg e]; exact ⟨rfl, rfl, rfl⟩
  have hback : ∀ (i : Nat) (m : Nd), (r.ns.modify c fun n => { n with val := n.val ++ t })[i]? = some m → ∃ m0, r.ns[i]? = some m0 ∧ m.kind = m0.kind ∧ m.par = m0.par ∧ m.kids = m0.kids ∧ m.atts = m0.atts ∧ m.dcls = m0.dcls ∧ m.pre = m0.pre ∧ m.loc = m0.loc ∧ m.spc = m0.spc ∧ (m0.val ≠ [] → m.val ≠ []) := fun i m hm => by
    rw [hget] at hm
    obtain ⟨m0, g1, g2⟩ := Option.map_eq_some_iff.1 hm
    refine ⟨m0, g1, ?_⟩
    rw [← g2]
    by_cases e : c = i
    · rw [if_pos e]
      exact ⟨rfl, rfl, rfl, rfl, rfl, rfl, rfl, rfl, fun hv => by show m0.val ++ t ≠ []; intro hh; exact hv (List.append_eq_nil_iff.1 hh).1⟩
    · rw [if_neg e]
      exact ⟨rfl, rfl, rfl, rfl, rfl, rfl, rfl, rfl, fun hv => hv⟩
  refine ⟨fun i m hm => ?_, fun hne => ?_, ?_, fun hd => ?_, fun hd => ?_⟩
  · obtain ⟨m0, g1, g2, g3, g4, g5, g6, g7, g8, g9, g10⟩ := hback i m hm
    have hN := h.node i m0 g1
    refine ⟨by rw [g3]; exact hN.par, by rw [g2]; exact hN.kind, fun hk => by rw [g4, g5, g6]; exact hN.leaf (by rwa [← g2]), fun hk => g10 (hN.text (by rwa [← g2])), fun hk => ?_, fun k d hd => ?_, fun k c d hc hd => ?_⟩
    · obtain ⟨e1, o, e2, e3⟩ := hN.elem (by rwa [← g2])
      exact ⟨by rw [g8]; exact e1, o, by rw [g7]; exact e2.mono hext, by rw [g7, g9]; exact e3⟩
    · rw [g4] at hd
      obtain ⟨q1, m1, q2, q3⟩ := hN.kid k d hd
      obtain ⟨m', t1, _, t3, _⟩ := hext _ _ q2
      exact ⟨q1, m', t1, t3.trans q3⟩
    · rw [g4] at hc hd
      obtain ⟨q1, q2⟩ := hN.next k c d hc hd
      refine ⟨q1, fun a b ha hb => ?_⟩
      obtain ⟨a0, t1, t2, _⟩ := hback c a ha
      obtain ⟨b0, u1, u2, _⟩ := hback d b hb
      rw [t2, u2]
      exact q2 a0 b0 t1 u1
  · show kidSum (r.ns.modify c fun n => { n with val := n.val ++ t }) + 1 = (r.ns.modify c fun n => { n with val := n.val ++ t }).length
    rw [kidSum_modify r.ns c (fun n => { n with val := n.val ++ t }) (fun n => rfl), List.length_modify]
    exact h.sum (fun e => hne (by show r.ns.modify c _ = []; rw [e]; simp))
  · obtain ⟨i, hc⟩ := h.stk
    exact ⟨i, hc.mono hext⟩
  · have := h.done hd
    show r.ns.modify c _ ≠ []
    intro e
    have := congrArg List.length e
    rw [List.length_modify] at this
    exact h.done hd (List.eq_nil_of_length_eq_zero this)
  · obtain ⟨e1, e2⟩ := h.none hd
    exact ⟨by show r.ns.modify c _ = []; rw [e1]; simp, e2⟩
theorem textF_TI {r r' : RS} {t : Tx} (h : TI r) (ha : textF t r = .ok r') : TI r' := by
  unfold textF at ha
  split at ha
  · injection ha with ha; subst ha; exact h
  rename_i ht
  split at ha
  · cases ha
  rename_i p nm hl
  split at ha
  · rename_i c hc
    injection ha with ha
    subst ha
    exact h.more c t
  · rename_i hlt
    split at ha
    · rename_i i r2 hadd
      injection ha with ha
      subst ha
      obtain ⟨rfl, _⟩ := addF_some hl hadd
      exact h.addTo ⟨rfl, by show (1 : Int) ≤ 2 ∧ (2 : Int) ≤ 4; decide, fun _ => ⟨rfl, rfl⟩, fun _ => ⟨ht, fun p' nm' hl' => by rw [hl] at hl'; injection hl' with hl'; injection hl' with e1 _; rw [← e1]; exact hlt⟩, fun hk => by cases hk⟩ hl
    · cases ha
/-- An element is opened. -/
theorem TI.push {r : RS} {a : Nat} {m : Nd} (h : TI r) (nm : Tx) (hm : r.ns[a]? = some m) (hk : m.kind = 1) (hc : chain r.ns r.stk.reverse m.par) : TI { r with stk := r.stk ++ [(a, nm)], done := true } := by
  have hne : r.ns ≠ [] := fun e => by rw [e] at hm; simp at hm
  refine ⟨h.node, h.sum, ⟨a, ?_⟩, fun _ => hne, fun hd => by cases hd⟩
  show chain r.ns (r.stk ++ [(a, nm)]).reverse a
  rw [List.reverse_append]
  exact ⟨rfl, m, hm, hk, hc⟩
theorem TI.yes {r : RS} (h : TI r) (hne : r.ns ≠ []) : TI { r with done := true } := ⟨h.node, h.sum, h.stk, fun _ => hne, fun hd => by cases hd⟩
/-- And closed. -/
theorem TI.pop {r : RS} (h : TI r) : TI { r with stk := r.stk.dropLast } := by
  refine ⟨h.node, h.sum, ?_, h.done, fun hd => ⟨(h.none hd).1, by show r.stk.dropLast = []; rw [(h.none hd).2]; rfl⟩⟩
  by_cases hs : r.stk = []
  · obtain ⟨i, hc⟩ := h.stk
    rw [hs] at hc
    exact ⟨i, by show chain r.ns r.stk.dropLast.reverse i; rw [hs]; exact hc⟩
  · obtain ⟨p, nm, hl⟩ := getLast_ne hs
    obtain ⟨n, _, _, hc⟩ := h.top hl
    rw [getLast_rev hl] at hc
    obtain ⟨_, n', _, _, h4⟩ := hc
    exact ⟨_, h4⟩
theorem putAtt_all (nm v : Tx) (n : Nd) : (putAtt nm v n).kind = n.kind ∧ (putAtt nm v n).pre = n.pre ∧ (putAtt nm v n).loc = n.loc ∧ (putAtt nm v n).kids = n.kids := by
  unfold putAtt
  split
  · exact ⟨rfl, rfl, rfl, rfl⟩
  split
  · split <;> exact ⟨rfl, rfl, rfl, rfl⟩
  · exact ⟨rfl, rfl, rfl, rfl⟩
theorem attrsR_head : ∀ (f : Nat) {nms nms' : List Tx} {n n' : Nd} {s s' : Tx}, attrsR f nms n s = .ok (nms', n', s') → n'.kind = n.kind ∧ n'.pre = n.pre ∧ n'.loc = n.loc ∧ n'.kids = n.kids
  | 0, nms, nms', n, n', s, s', h => by cases h
  | f + 1, nms, nms', n, n', s, s', h => by
    unfold attrsR at h
    split at h
    · split at h
      · cases h
      · rename_i nm s1 h1
        split at h
        · cases h
        · rename_i s2 h2
          split at h
          · cases h
          · rename_i v s3 h3
            obtain ⟨i1, i2, i3, i4⟩ := attrsR_head f h
            obtain ⟨p1, p2, p3, p4⟩ := putAtt_all nm v n
            exact ⟨i1.trans p1, i2.trans p2, i3.trans p3, i4.trans p4⟩
    · injection h with h
      simp only [Prod.mk.injEq] at h
      obtain ⟨_, rfl, _⟩ := h
      exact ⟨rfl, rfl, rfl, rfl⟩
theorem headN_ok {nm s s' : Tx} (h : nameF s = .ok (nm, s')) : (headN nm).kind = 1 ∧ nameOk (headN nm).loc = true ∧ (headN nm).kids = [] := by
  unfold nameF at h
  split at h
  · rename_i hh
    injection h with h
    simp only [Prod.mk.injEq] at h
    obtain ⟨rfl, _⟩ := h
    generalize s.take (upTo s nameStop) = x at *
    unfold halvesOk at hh
    unfold headN
    cases hc : (Lib.cut x [58]).2.2 with
    | true =>
      rw [hc] at hh
      simp only [Bool.and_eq_true, Bool.not_true, Bool.false_or] at hh
      rw [if_pos rfl]
      exact ⟨rfl, hh.2, rfl⟩
    | false =>
      rw [if_neg (by decide)]
      refine ⟨rfl, ?_, rfl⟩
      simp only [Bool.and_eq_true] at hh
      have h1 := hh.1
      have : (Lib.cut x [58]).1 = x := by
        unfold Lib.cut at hc ⊢
        split
        · rename_i hi; rw [if_pos hi] at hc; cases hc
        · rfl
      rw [this] at h1
      exact h1
  · cases h
theorem spacedF_ok {r : RS} {n n' : Nd} (h : spacedF r n = .ok n') : spaceF r n.pre n.dcls = (n'.spc, true) ∧ n'.kind = n.kind ∧ n'.pre = n.pre ∧ n'.loc = n.loc ∧ n'.kids = n.kids ∧ n'.dcls = n.dcls := by
  unfold spacedF at h
  split at h
  · cases h
  split at h
  · rename_i hs
    split at h
    · injection h with h
      subst h
      exact ⟨by rw [← hs], rfl, rfl, rfl, rfl, rfl⟩
    · cases h
  · cases h
theorem startF_TI {r r' : RS} (h : TI r) (ha : startF r = .ok r') : TI r' := by
  unfold startF at ha
  split at ha
  · cases ha
  rename_i hsd
  split at ha
  · cases ha
  rename_i nm s1 h1
  split at ha
  · cases ha
  rename_i nms n s2 h2
  split at ha
  · cases ha
  split at ha
  · cases ha
  split at ha
  · cases ha
  split at ha
  · cases ha
  rename_i n' h3
  split at ha
  · cases ha
  split at ha
  · cases ha
  rename_i a r1 h4
  injection ha with ha
  subst ha
  obtain ⟨c1, c2, c3⟩ := headN_ok h1
  obtain ⟨b1, b2, b3, b4⟩ := attrsR_head _ h2
  obtain ⟨d1, d2, d3, d4, d5, d6⟩ := spacedF_ok h3
  have hk1 : n'.kind = 1 := d2.trans (b1.trans c1)
  have hnew : NewOk { r with s := (hasF [62] (hasF [47] s2).2).2 } n' := ⟨d5.trans (b4.trans c3), by rw [hk1]; decide, fun hk => absurd hk1 hk, fun hk => (by rw [hk1] at hk; cases hk), fun _ => ⟨by rw [d4, b3]; exact c2, by rw [d3, d6]; exact d1⟩⟩
  have hT := h.less (hasF [62] (hasF [47] s2).2).2
  by_cases hs : r.stk = []
  · have hd : r.done = false := by
      cases hd : r.done with
      | false => rfl
      | true => exact absurd ⟨hs, hd⟩ hsd
    have hns := (h.none hd).1
    obtain ⟨rfl, rfl⟩ := addF_none (show ({ r with s := (hasF [62] (hasF [47] s2).2).2 } : RS).stk = [] from hs) h4
    have hT1 := hT.first hnew hk1 hns hs
    have e : ({ r with s := (hasF [62] (hasF [47] s2).2).2, ns := r.ns ++ [{ n' with par := -1 }], done := true } : RS) = { r with s := (hasF [62] (hasF [47] s2).2).2, ns := [{ n' with par := -1 }], done := true } := by rw [hns]; rfl
    cases hb : (hasF [47] s2).1 with
    | true =>
      rw [if_pos rfl]
      show TI { r with s := (hasF [62] (hasF [47] s2).2).2, ns := r.ns ++ [{ n' with par := -1 }], done := true }
      rw [e]
      exact hT1
    | false =>
      rw [if_neg (by decide)]
      have := TI.push (a := 0) (m := { n' with par := -1 }) hT1 nm rfl hk1 (by show chain _ r.stk.reverse (-1); rw [hs]; rfl)
      show TI { r with s := (hasF [62] (hasF [47] s2).2).2, ns := r.ns ++ [{ n' with par := -1 }], done := true, stk := r.stk ++ [(r.ns.length, nm)] }
      have e2 : ({ r with s := (hasF [62] (hasF [47] s2).2).2, ns := r.ns ++ [{ n' with par := -1 }], done := true, stk := r.stk ++ [(r.ns.length, nm)] } : RS) = { r with s := (hasF [62] (hasF [47] s2).2).2, ns := [{ n' with par := -1 }], done := true, stk := r.stk ++ [(0, nm)] } := by rw [hns]; rfl
      rw [e2]
      exact this
  · obtain ⟨p, nm0, hl⟩ := getLast_ne hs
    obtain ⟨rfl, rfl⟩ := addF_some (show ({ r with s := (hasF [62] (hasF [47] s2).2).2 } : RS).stk.getLast? = some (p, nm0) from hl) h4
    have hT1 := hT.addTo hnew hl
    have hm : (kidAt r.ns p r.ns.length ++ [{ n' with par := (p : Int) }])[r.ns.length]? = some { n' with par := (p : Int) } := by
      rw [List.getElem?_append_right (by rw [kidAt_len]; exact Nat.le_refl _), kidAt_len, Nat.sub_self]; rfl
    cases hb : (hasF [47] s2).1 with
    | true =>
      rw [if_pos rfl]
      exact hT1.yes (by show kidAt r.ns p r.ns.length ++ [_] ≠ []; simp)
    | false =>
      rw [if_neg (by decide)]
      obtain ⟨_, _, _, hc⟩ := hT1.top (p := p) (nm := nm0) hl
      exact TI.push hT1 nm hm hk1 hc
theorem endF_TI {r r' : RS} (h : TI r) (ha : endF r = .ok r') : TI r' := by
  unfold endF at ha
  split at ha
  · cases ha
  split at ha
  · cases ha
  rename_i x s1 h1
  split at ha
  · injection ha with ha
    subst ha
    exact (h.less _).pop
  · cases ha
theorem leaf_TI {r r' : RS} {n : Nd} {s : Tx} (h : TI r) (hn : n.kids = []) (hd : n.dcls = []) (hat : n.atts = []) (hk : n.kind = 3 ∨ n.kind = 4)
    (ha : (if r.stk = [] then (Except.ok { r with s := s } : Ex RS) else match addF n { r with s := s } with
          | .error e => .error e
          | .ok (_, r') => .ok r') = .ok r') : TI r' := by
  split at ha
  · injection ha with ha; subst ha; exact h.less s
  · rename_i hs
    split at ha
    · cases ha
    · rename_i i r1 h1
      injection ha with ha; subst ha
      obtain ⟨p, nm, hl⟩ := getLast_ne hs
      obtain ⟨rfl, _⟩ := addF_some (show ({ r with s := s } : RS).stk.getLast? = some (p, nm) from hl) h1
      exact (h.less s).addTo ⟨hn, by rcases hk with hk | hk <;> rw [hk] <;> decide, fun _ => ⟨hat, hd⟩, fun h2 => (by omega), fun h2 => (by omega)⟩ hl
theorem commentF_TI {r r' : RS} (h : TI r) (ha : commentF r = .ok r') : TI r' := by
  unfold commentF at ha
  split at ha
  · cases ha
  rename_i v s1 h1
  split at ha
  · exact leaf_TI (n := { nd0 with kind := 3, val := v }) h rfl rfl rfl (.inl rfl) ha
  · cases ha
theorem procF_TI {r r' : RS} (h : TI r) (ha : procF r = .ok r') : TI r' := by
  unfold procF at ha
  split at ha
  · cases ha
  rename_i nm s1 h1
  split at ha
  · cases ha
  dsimp only at ha
  split at ha
  · exact leaf_TI (n := { nd0 with kind := 4, loc := nm, val := [] }) h rfl rfl rfl (.inr rfl) ha
  · split at ha
    · split at ha
      · cases ha
      · rename_i v s2 h2
        exact leaf_TI (n := { nd0 with kind := 4, loc := nm, val := v }) h rfl rfl rfl (.inr rfl) ha
    · cases ha
theorem markF_TI {r r' : RS} (h : TI r) (ha : markF r = .ok r') : TI r' := by
  unfold markF at ha
  split at ha
  · exact commentF_TI (h.less _) ha
  split at ha
  · cases ha
  split at ha
  · split at ha
    · cases ha
    · exact textF_TI (h.less _) ha
  split at ha
  · exact procF_TI (h.less _) ha
  split at ha
  · exact endF_TI (h.less _) ha
  split at ha
  · exact startF_TI (h.less _) ha
  · injection ha with ha; subst ha; exact h
theorem plainF_TI {r r' : RS} (h : TI r) (ha : plainF r = .ok r') : TI r' := by
  unfold plainF at ha
  split at ha
  · split at ha
    · injection ha with ha; subst ha; exact h.less _
    · cases ha
  · split at ha
    · cases ha
    · split at ha
      · cases ha
      · rename_i r1 h1
        injection ha with ha; subst ha
        exact (textF_TI h h1).less _
theorem stepF_TI {r r' : RS} (h : TI r) (ha : stepF r = .ok r') : TI r' := by
  unfold stepF at ha
  split at ha
  · exact markF_TI h ha
  · split at ha
    · split at ha
      · cases ha
      · exact textF_TI (h.less _) ha
    · split at ha
      · cases ha
      · exact plainF_TI h ha
theorem allR_TI : ∀ (f : Nat) {r r' : RS}, TI r → allR f r = .ok r' → TI r'
  | 0, r, r', h, ha => by
    unfold allR at ha
    split at ha
    · injection ha with ha; subst ha; exact h
    · cases ha
  | f + 1, r, r', h, ha => by
    unfold allR at ha
    split at ha
    · injection ha with ha; subst ha; exact h
    · split at ha
      · cases ha
      · rename_i r1 h1
        exact allR_TI f (stepF_TI h h1) ha
/-- What is read hangs together. -/
theorem parseF_tree {b : Tx} {ns : List Nd} (h : parseF b = .ok ns) : (∀ (i : Nat) (n : Nd), ns[i]? = some n → NodeOk ns i n) ∧ kidSum ns + 1 = ns.length := by
  unfold parseF at h
  split at h
  · cases h
  split at h
  · cases h
  unfold allF at h
  split at h
  · cases h
  rename_i s1 h1
  split at h
  · cases h
  rename_i r h2
  split at h
  · rename_i h3
    injection h with h
    subst h
    have hT := allR_TI _ (TI.start s1) h2
    exact ⟨hT.node, hT.sum (hT.done h3.1)⟩
  · cases h
end Go.Proofs.YtohgmkjhbacmpaaGreatDoor
set_option linter.unusedVariables false
set_option linter.unusedSimpArgs false
namespace Go.Proofs.YtohgmkjhbacmpaaGreatDoor
open Go Go.Abs Go.RowKit Go.Xml

theorem untilF_err {t s : Tx} {e : Int} (h : untilF t s = .error e) : e ≠ 0 := by
  unfold untilF at h
  repeat' split at h
  all_goals first
    | (cases h; done)
    | (injection h with h; rw [← h]; decide)
theorem nameF_err {s : Tx} {e : Int} (h : nameF s = .error e) : e ≠ 0 := by
  unfold nameF at h
  repeat' split at h
  all_goals first
    | (cases h; done)
    | (injection h with h; rw [← h]; decide)
    | (injection h with h; rw [← h]; first | exact untilF_err (by assumption))
theorem codeF_err {d : Tx} {b : Nat} {e : Int} (h : codeF d b = .error e) : e ≠ 0 := by
  unfold codeF at h
  repeat' split at h
  all_goals first
    | (cases h; done)
    | (injection h with h; rw [← h]; decide)
    | (injection h with h; rw [← h]; first | exact untilF_err (by assumption) | exact nameF_err (by assumption))
theorem refX_err {x : Tx} {e : Int} (h : refX x = .error e) : e ≠ 0 := by
  unfold refX at h
  repeat' split at h
  all_goals first
    | (cases h; done)
    | (injection h with h; rw [← h]; decide)
    | exact codeF_err h
theorem refF_err {s : Tx} {e : Int} (h : refF s = .error e) : e ≠ 0 := by
  unfold refF at h
  repeat' split at h
  all_goals first
    | (cases h; done)
    | (injection h with h; rw [← h]; decide)
    | (injection h with h; rw [← h]; first | exact untilF_err (by assumption) | exact nameF_err (by assumption) | exact codeF_err (by assumption) | exact refX_err (by assumption))
theorem quotR_err {q : Tx} : ∀ (f : Nat) {o s : Tx} {e : Int}, quotR q f o s = .error e → e ≠ 0
  | 0, o, s, e, h => by injection h with h; rw [← h]; decide
  | f + 1, o, s, e, h => by
    unfold quotR at h
    repeat' split at h
    all_goals first
      | (cases h; done)
      | (injection h with h; rw [← h]; decide)
      | exact quotR_err f h
      | (injection h with h; rw [← h]; exact refF_err (by assumption))
theorem quotF_err {s : Tx} {e : Int} (h : quotF s = .error e) : e ≠ 0 := by
  unfold quotF at h
  repeat' split at h
  all_goals first
    | exact quotR_err _ h
    | (injection h with h; rw [← h]; decide)
theorem eqF_err {s : Tx} {e : Int} (h : eqF s = .error e) : e ≠ 0 := by
  unfold eqF at h
  repeat' split at h
  all_goals first
    | (cases h; done)
    | (injection h with h; rw [← h]; decide)
    | (injection h with h; rw [← h]; first | exact untilF_err (by assumption) | exact nameF_err (by assumption) | exact codeF_err (by assumption) | exact refX_err (by assumption) | exact refF_err (by assumption) | exact quotF_err (by assumption))
theorem givenF_err {w : Tx} {b : Bool} {vs : List Tx} {s : Tx} {e : Int} (h : givenF w b vs s = .error e) : e ≠ 0 := by
  unfold givenF at h
  repeat' split at h
  all_goals first
    | (cases h; done)
    | (injection h with h; rw [← h]; decide)
    | (injection h with h; rw [← h]; first | exact untilF_err (by assumption) | exact nameF_err (by assumption) | exact codeF_err (by assumption) | exact refX_err (by assumption) | exact refF_err (by assumption) | exact quotF_err (by assumption) | exact eqF_err (by assumption))
theorem frontF_err {s : Tx} {e : Int} (h : frontF s = .error e) : e ≠ 0 := by
  unfold frontF at h
  repeat' split at h
  all_goals first
    | (cases h; done)
    | (injection h with h; rw [← h]; decide)
    | (injection h with h; rw [← h]; first | exact untilF_err (by assumption) | exact nameF_err (by assumption) | exact codeF_err (by assumption) | exact refX_err (by assumption) | exact refF_err (by assumption) | exact quotF_err (by assumption) | exact eqF_err (by assumption) | exact givenF_err (by assumption))
theorem addF_err {n : Nd} {r : RS} {e : Int} (h : addF n r = .error e) : e ≠ 0 := by
  unfold addF at h
  repeat' split at h
  all_goals first
    | (cases h; done)
    | (injection h with h; rw [← h]; decide)
    | (injection h with h; rw [← h]; first | exact untilF_err (by assumption) | exact nameF_err (by assumption) | exact codeF_err (by assumption) | exact refX_err (by assumption) | exact refF_err (by assumption) | exact quotF_err (by assumption) | exact eqF_err (by assumption) | exact givenF_err (by assumption) | exact frontF_err (by assumption))
theorem textF_err {t : Tx} {r : RS} (hs : r.stk ≠ []) {e : Int} (h : textF t r = .error e) : e ≠ 0 := by
  obtain ⟨p, nm, hl⟩ := getLast_ne hs
  unfold textF at h
  rw [hl] at h
  dsimp only at h
  repeat' split at h
  all_goals first
    | (cases h; done)
    | (injection h with h; rw [← h]; exact addF_err (by assumption))
theorem attsR_err {r : RS} {ds : List Dcl} : ∀ (l acc : List Att) {e : Int}, attsR r ds acc l = .error e → e ≠ 0
  | [], acc, e, h => by cases h
  | a :: l, acc, e, h => by
    unfold attsR at h
    repeat' split at h
    all_goals first
      | exact attsR_err l _ h
      | (injection h with h; rw [← h]; decide)
theorem spacedF_err {r : RS} {n : Nd} {e : Int} (h : spacedF r n = .error e) : e ≠ 0 := by
  unfold spacedF at h
  repeat' split at h
  all_goals first
    | (cases h; done)
    | (injection h with h; rw [← h]; decide)
    | (injection h with h; rw [← h]; exact attsR_err _ _ (by assumption))
theorem attrsR_err : ∀ (f : Nat) {nms : List Tx} {n : Nd} {s : Tx} {e : Int}, attrsR f nms n s = .error e → e ≠ 0
  | 0, nms, n, s, e, h => by injection h with h; rw [← h]; decide
  | f + 1, nms, n, s, e, h => by
    unfold attrsR at h
    repeat' split at h
    all_goals first
      | (cases h; done)
      | exact attrsR_err f h
      | (injection h with h; rw [← h]; first | exact nameF_err (by assumption) | exact eqF_err (by assumption) | exact quotF_err (by assumption))
theorem startF_err {r : RS} {e : Int} (h : startF r = .error e) : e ≠ 0 := by
  unfold startF at h
  repeat' split at h
  all_goals first
    | (cases h; done)
    | (injection h with h; rw [← h]; decide)
    | (injection h with h; rw [← h]; first | exact nameF_err (by assumption) | exact attrsR_err _ (by assumption) | exact spacedF_err (by assumption) | exact addF_err (by assumption))
theorem endF_err {r : RS} {e : Int} (h : endF r = .error e) : e ≠ 0 := by
  unfold endF at h
  repeat' split at h
  all_goals first
    | (cases h; done)
    | (injection h with h; rw [← h]; decide)
    | (injection h with h; rw [← h]; first | exact untilF_err (by assumption) | exact nameF_err (by assumption) | exact codeF_err (by assumption) | exact refX_err (by assumption) | exact refF_err (by assumption) | exact quotF_err (by assumption) | exact eqF_err (by assumption) | exact givenF_err (by assumption) | exact frontF_err (by assumption) | exact addF_err (by assumption) | exact spacedF_err (by assumption) | exact startF_err (by assumption))
theorem procF_err {r : RS} {e : Int} (h : procF r = .error e) : e ≠ 0 := by
  unfold procF at h
  dsimp only at h
  repeat' split at h
  all_goals first
    | (cases h; done)
    | (injection h with h; rw [← h]; decide)
    | (injection h with h; rw [← h]; first | exact untilF_err (by assumption) | exact nameF_err (by assumption) | exact codeF_err (by assumption) | exact refX_err (by assumption) | exact refF_err (by assumption) | exact quotF_err (by assumption) | exact eqF_err (by assumption) | exact givenF_err (by assumption) | exact frontF_err (by assumption) | exact addF_err (by assumption) | exact spacedF_err (by assumption) | exact startF_err (by assumption) | exact endF_err (by assumption))
theorem commentF_err {r : RS} {e : Int} (h : commentF r = .error e) : e ≠ 0 := by
  unfold commentF at h
  repeat' split at h
  all_goals first
    | (cases h; done)
    | (injection h with h; rw [← h]; decide)
    | (injection h with h; rw [← h]; first | exact untilF_err (by assumption) | exact nameF_err (by assumption) | exact codeF_err (by assumption) | exact refX_err (by assumption) | exact refF_err (by assumption) | exact quotF_err (by assumption) | exact eqF_err (by assumption) | exact givenF_err (by assumption) | exact frontF_err (by assumption) | exact addF_err (by assumption) | exact spacedF_err (by assumption) | exact startF_err (by assumption) | exact endF_err (by assumption) | exact procF_err (by assumption))
theorem markF_err {r : RS} {e : Int} (h : markF r = .error e) : e ≠ 0 := by
  unfold markF at h
  split at h
  · exact commentF_err h
  split at h
  · injection h with h; rw [← h]; decide
  split at h
  · rename_i hc
    split at h
    · rename_i e' h'
      injection h with h; rw [← h]; exact untilF_err h'
    · rename_i t s1 h1
      exact textF_err (r := ⟨s1, r.ns, r.stk, r.done⟩) hc.1 h
  split at h
  · exact procF_err h
  split at h
  · exact endF_err h
  split at h
  · exact startF_err h
  · cases h
theorem plainF_err {r : RS} {e : Int} (h : plainF r = .error e) : e ≠ 0 := by
  unfold plainF at h
  split at h
  · split at h
    · cases h
    · injection h with h; rw [← h]; decide
  · rename_i hs
    split at h
    · injection h with h; rw [← h]; decide
    · split at h
      · rename_i e' h'
        injection h with h; rw [← h]; exact textF_err hs h'
      · cases h
theorem stepF_err {r : RS} {e : Int} (h : stepF r = .error e) : e ≠ 0 := by
  unfold stepF at h
  split at h
  · exact markF_err h
  split at h
  · rename_i hs
    split at h
    · rename_i e' h'
      injection h with h; rw [← h]; exact refF_err h'
    · rename_i t s1 h1
      exact textF_err (r := ⟨s1, r.ns, r.stk, r.done⟩) hs.1 h
  split at h
  · injection h with h; rw [← h]; decide
  · exact plainF_err h
theorem allR_err : ∀ (f : Nat) {r : RS} {e : Int}, allR f r = .error e → e ≠ 0
  | 0, r, e, h => by
    unfold allR at h
    split at h
    · cases h
    · injection h with h; rw [← h]; decide
  | f + 1, r, e, h => by
    unfold allR at h
    split at h
    · cases h
    · split at h
      · rename_i e' h'
        injection h with h; rw [← h]; exact stepF_err h'
      · exact allR_err f h
theorem parseF_err {b : Tx} {e : Int} (h : parseF b = .error e) : e ≠ 0 := by
  unfold parseF at h
  split at h
  · injection h with h; rw [← h]; decide
  split at h
  · injection h with h; rw [← h]; decide
  unfold allF at h
  split at h
  · rename_i e' h'
    injection h with h; rw [← h]; exact frontF_err h'
  split at h
  · rename_i e' h'
    injection h with h; rw [← h]; exact allR_err _ h'
  split at h
  · cases h
  · injection h with h; rw [← h]; decide
end Go.Proofs.YtohgmkjhbacmpaaGreatDoor
set_option linter.unusedVariables false
set_option linter.unusedSimpArgs false
namespace Go.Proofs.YtohgmkjhbacmpaaGreatDoor
open Go Go.Abs Go.RowKit Go.Xml
variable {base : Nat} {w0 : World} {G : Nat}

theorem Rown_spec (st : St) (k q : Value → St → Prop) (hk : k (.string (tx ownSpace)) st) : ACall (C base w0 G) 21 [.bool false] st k q := by
  refine ACall.of (cx := C base w0 G) mixed Tryz.func21 rfl (by kernel_rfl) (by simp [Tryz.ntmps21]) ?_
  simp only [Tryz.results21]
  simp (config := { implicitDefEqProofs := false }) only [↓GP, ↓GM, GQ, abuiltinX, ↓awp_seq, ↓awp_block, C_ex, Nat.reduceBEq, acap, afieldAddr, aload, astore, abin, anum, aun, isAggD, cond_true, cond_false, ↓reduceIte, C_P, C_G, isTuple, Value.cells, setL, ares, aresL, ares1, reduceCtorEq, Nat.reduceEqDiff, eq_self, Nat.reduceAdd, if_true, if_false, Go.Abs.one, Nat.reduceLeDiff, undef, gsl, aextract, aindexAddr, amake, implies_true, forall_const, alen, abuiltin, anil, isC, Int.reduceEq, Int.reduceLT, Int.reduceLE, Int.reduceAdd, Int.reduceToNat, Int.reduceNeg, Nat.reduceMul, Nat.reduceSub, abuild, afill, Int.reduceBNe, Int.reduceBEq, own_eqB]
  exact hk
theorem Up.neg {ns : List Nd} {p : Tx} {i : Int} {o : Option Tx} (h : Up ns p i o) (hi : i < 0) : o = none := by
  cases h with
  | out _ => rfl
  | hit h1 h2 => omega
  | up h1 h2 h3 => omega
theorem Up.at {ns : List Nd} {p : Tx} {i : Nat} {o : Option Tx} {n : Nd} (h : Up ns p i o) (hn : ns[i]? = some n) : (∃ u, findD p n.dcls = some u ∧ o = some u) ∨ (findD p n.dcls = none ∧ Up ns p n.par o) := by
  generalize hj : (i : Int) = j at h
  cases h with
  | out h0 => omega
  | hit h1 h2 =>
    obtain rfl : i = _ := by exact_mod_cast hj
    rw [hn] at h1; injection h1 with h1; subst h1
    exact .inl ⟨_, h2, rfl⟩
  | up h1 h2 h3 =>
    obtain rfl : i = _ := by exact_mod_cast hj
    rw [hn] at h1; injection h1 with h1; subst h1
    exact .inr ⟨h2, h3⟩
/-- The nodes' rows, and where they lie. -/
structure TreeH (v : Value) (ns : List Nd) (cs : List (List Value)) (h : Hp) : Prop where
  rows : ∃ hn hx, h = hn ++ hx ∧ GV v cs.flatten ns.length 9 34 hn ∧ NdsH ns cs hx
theorem TreeH.node {v : Value} {ns : List Nd} {cs : List (List Value)} {h : Hp} (hT : TreeH v ns cs h) {i : Nat} {n : Nd} (hi : ns[i]? = some n) :
    ∃ B kv av dv, v = .slice (some ⟨B, 0, some 0⟩) ns.length ns.length ∧ (B, Ob.cells cs.flatten 34 true) ∈ h ∧ cs[i]? = some (ndC n kv av dv) ∧ (∀ j, j < 9 → cs.flatten[i * 9 + j]? = (ndC n kv av dv)[j]?) ∧ cut cs.flatten (i * 9) 9 = some (ndC n kv av dv) ∧
      (∀ r, Rws (h ++ r) kv 1 (n.kids.map fun c => [Value.int .i64 (c : Nat)])) ∧ (∀ r, Rws (h ++ r) dv 2 (n.dcls.map dclC)) ∧ (∃ a c, av = .slice a n.atts.length c) := by
  obtain ⟨hn, hx, rfl, hG, hN⟩ := hT.rows
  obtain ⟨cl, c9⟩ := hN.len
  have hil := (List.getElem?_eq_some_iff.1 hi).1
  obtain ⟨B, hv, hB⟩ := GV.blk hG (by omega)
  obtain ⟨c, h1, h2, h3, a1, a2, ⟨kv, av, dv, hk, ha, hd, rfl, rfl, gk, ga, gd⟩, _⟩ := hN.at hi
  refine ⟨B, kv, av, dv, hv, by rw [hB]; simp, a1, fun j hj => flat_get c9 a1 hj, flat_cut c9 a1, fun r => ?_, fun r => ?_, ?_⟩
  · have := GV.rows (r := []) (cs := n.kids.map fun c => [Value.int .i64 (c : Nat)]) (n := n.kids.length) (sz := 1) (e := 3) (hg := hk) (v := kv) (by
      have e : (n.kids.map fun c => [Value.int .i64 (c : Nat)]).flatten = intsC n.kids := by
        unfold intsC
        induction n.kids with
        | nil => rfl
        | cons a l ih => simp only [List.map_cons, List.flatten_cons, ih]; rfl
      rw [e]; exact gk) (fun c hc => by obtain ⟨d, _, rfl⟩ := List.mem_map.1 hc; rfl) (List.length_map _)
    exact this.sub fun e he => by rw [a2]; simp at he ⊢; simp [he]
  · exact (dclRows (r := []) gd).sub fun e he => by rw [a2]; simp at he ⊢; simp [he]
  · obtain ⟨a, e⟩ := ga.isSlice
    exact ⟨a, _, e⟩
set_option maxRecDepth 10000 in
theorem Rspace_spec (st : St) (h r : Hp) (v : Value) (ns : List Nd) (cs : List (List Value)) (p : Tx) (i0 : Int) (o : Option Tx) (hT : TreeH v ns cs h) (hpar : ∀ (i : Nat) (n : Nd), ns[i]? = some n → NodeOk ns i n) (hi0 : -1 ≤ i0 ∧ i0 < ns.length) (hdl : ∀ n ∈ ns, n.dcls.length ≤ 1000000) (hU : Up ns p i0 o) (hO : Own st (h ++ r)) (k q : Value → St → Prop)
    (hk : k (.tuple #[.string (tx (spRes p o).1), .bool (spRes p o).2]) st) : ACall (C base w0 G) 10 [v, .int .i64 i0, .slice none 0 0, .string (tx p)] st k q := by
  refine ACall.of (cx := C base w0 G) mixed Tryz.func10 rfl (by kernel_rfl) (by simp [Tryz.ntmps10]) ?_
  simp only [Tryz.results10]
  have e0 : (⟨#[]⟩ : ByteArray) = tx [] := rfl
  have e1 : (⟨#[120, 109, 108]⟩ : ByteArray) = tx [120, 109, 108] := rfl
  by_cases hx : p = [120, 109, 108]
  · have hF : spRes p o = (ownSpace, true) := by unfold spRes; rw [if_pos hx]
    rw [hF] at hk
    simp (config := { implicitDefEqProofs := false }) only [↓GP, ↓GM, GQ, abuiltinX, ↓awp_seq, ↓awp_block, C_ex, Nat.reduceBEq, acap, afieldAddr, aload, astore, abin, anum, aun, isAggD, cond_true, cond_false, ↓reduceIte, C_P, C_G, isTuple, Value.cells, setL, ares, aresL, ares1, reduceCtorEq, Nat.reduceEqDiff, eq_self, Nat.reduceAdd, if_true, if_false, Go.Abs.one, Nat.reduceLeDiff, undef, gsl, aextract, aindexAddr, amake, implies_true, forall_const, alen, abuiltin, anil, isC, Int.reduceEq, Int.reduceLT, Int.reduceLE, Int.reduceAdd, Int.reduceToNat, Int.reduceNeg, Nat.reduceMul, Nat.reduceSub, abuild, afill, Int.reduceBNe, Int.reduceBEq, e0, e1, astr_eqlT, decide_eq_true hx]
    refine ACallF.enter Tryz.func21 rfl (by kernel_rfl) (Rown_spec _ _ _ ?_)
    simp (config := { implicitDefEqProofs := false }) only [↓GP, ↓GM, GQ, abuiltinX, ↓awp_seq, ↓awp_block, C_ex, Nat.reduceBEq, acap, afieldAddr, aload, astore, abin, anum, aun, isAggD, cond_true, cond_false, ↓reduceIte, C_P, C_G, isTuple, Value.cells, setL, ares, aresL, ares1, reduceCtorEq, Nat.reduceEqDiff, eq_self, Nat.reduceAdd, if_true, if_false, Go.Abs.one, Nat.reduceLeDiff, undef, gsl, aextract, aindexAddr, amake, implies_true, forall_const, alen, abuiltin, anil, isC, Int.reduceEq, Int.reduceLT, Int.reduceLE, Int.reduceAdd, Int.reduceToNat, Int.reduceNeg, Nat.reduceMul, Nat.reduceSub, abuild, afill, Int.reduceBNe, Int.reduceBEq]
    exact hk
  have hF : spRes p o = spFin p o := by unfold spRes; rw [if_neg hx]; cases o <;> rfl
  rw [hF] at hk
  simp (config := { implicitDefEqProofs := false }) only [↓GP, ↓GM, GQ, abuiltinX, ↓awp_seq, ↓awp_block, C_ex, Nat.reduceBEq, acap, afieldAddr, aload, astore, abin, anum, aun, isAggD, cond_true, cond_false, ↓reduceIte, C_P, C_G, isTuple, Value.cells, setL, ares, aresL, ares1, reduceCtorEq, Nat.reduceEqDiff, eq_self, Nat.reduceAdd, if_true, if_false, Go.Abs.one, Nat.reduceLeDiff, undef, gsl, aextract, aindexAddr, amake, implies_true, forall_const, alen, abuiltin, anil, isC, Int.reduceEq, Int.reduceLT, Int.reduceLE, Int.reduceAdd, Int.reduceToNat, Int.reduceNeg, Nat.reduceMul, Nat.reduceSub, abuild, afill, Int.reduceBNe, Int.reduceBEq, e0, e1, astr_eqlT, decide_eq_false hx]
  refine ⟨fun m ρ s => ∃ (i : Int) (dv : Value) (l : List Dcl), m = (i + 1).toNat ∧ i < ns.length ∧ -1 ≤ i ∧ l.length ≤ 1000000 ∧ ρ 0 = v ∧ ρ 1 = .int .i64 i ∧ ρ 2 = dv ∧ ρ 3 = .string (tx p) ∧ Rws (h ++ r) dv 2 (l.map dclC) ∧ ((∃ u, findD p l = some u ∧ o = some u) ∨ (findD p l = none ∧ Up ns p i o)) ∧ s = st, ⟨_, i0, .slice none 0 0, [], rfl, hi0.2, hi0.1, by simp, rfl, rfl, rfl, rfl, .inl ⟨rfl, .inl rfl⟩, .inr ⟨rfl, hU⟩, rfl⟩, ?_⟩
  rintro _ ρ s ⟨i, dv, l, rfl, hil, hi1, hll, h0, h1, h2, h3, hRw, hcase, rfl⟩
  obtain ⟨xa, xc, hxs2, _⟩ := hRw.isSlice
  rw [List.length_map] at hxs2
  simp (config := { implicitDefEqProofs := false }) only [↓GP, ↓GM, GQ, abuiltinX, ↓awp_seq, ↓awp_block, C_ex, Nat.reduceBEq, acap, afieldAddr, aload, astore, abin, anum, aun, isAggD, cond_true, cond_false, ↓reduceIte, C_P, C_G, isTuple, Value.cells, setL, ares, aresL, ares1, reduceCtorEq, Nat.reduceEqDiff, eq_self, Nat.reduceAdd, if_true, if_false, Go.Abs.one, Nat.reduceLeDiff, undef, gsl, aextract, aindexAddr, amake, implies_true, forall_const, alen, abuiltin, anil, isC, Int.reduceEq, Int.reduceLT, Int.reduceLE, Int.reduceAdd, Int.reduceToNat, Int.reduceNeg, Nat.reduceMul, Nat.reduceSub, abuild, afill, Int.reduceBNe, Int.reduceBEq]
  refine ⟨fun m ρ s' => ∃ j : Nat, m = l.length - j ∧ j ≤ l.length ∧ ρ 0 = v ∧ ρ 1 = .int .i64 i ∧ ρ 2 = dv ∧ ρ 3 = .string (tx p) ∧ ρ 10 = .int .i64 (j : Nat) ∧ (∀ d ∈ l.take j, d.pre ≠ p) ∧ s' = s, ⟨_, 0, rfl, Nat.zero_le _, h0, h1, h2, h3, rfl, fun d hd => (by simp at hd), rfl⟩, ?_⟩
  rintro _ ρ2 s2 ⟨j, rfl, hj, k0, k1, k2, k3, k10, hno, rfl⟩
  by_cases hjl : j < l.length
  · obtain ⟨x, o', sp, c', cs', ty, own, hvx, hmem, hcut'⟩ := hRw.mem (i := j) (l := dclC l[j]) (by simp [hjl])
    rw [List.length_map] at hvx
    have hcx := hO.get hmem
    have g0 := cut_get hcut' (j := 0) (by decide)
    have g1 := cut_get hcut' (j := 1) (by decide)
    have hdi : l[j]? = some l[j] := List.getElem?_eq_getElem hjl
    generalize hd : l[j] = d at *
    change _ = some (Value.string (tx d.pre)) at g0
    change _ = some (Value.string (tx d.uri)) at g1
    rw [Nat.add_zero] at g0
    have wi : IntKind.i64.wrap ((j : Int) + 1) = ((j + 1 : Nat) : Int) := by rw [w_i64 (by omega)]; rfl
    by_cases hpre : d.pre = p
    · have hfd := findD_at hdi hno hpre
      obtain ⟨u, hu, ho⟩ := hcase.resolve_right (fun g => by rw [hfd] at g; cases g.1)
      rw [hfd] at hu
      injection hu with hu
      rw [ho, ← hu] at hk
      simp (config := { implicitDefEqProofs := false }) only [↓GP, ↓GM, GQ, abuiltinX, ↓awp_seq, ↓awp_block, C_ex, Nat.reduceBEq, acap, afieldAddr, aload, astore, abin, anum, aun, isAggD, cond_true, cond_false, ↓reduceIte, C_P, C_G, isTuple, Value.cells, setL, ares, aresL, ares1, reduceCtorEq, Nat.reduceEqDiff, eq_self, Nat.reduceAdd, if_true, if_false, Go.Abs.one, Nat.reduceLeDiff, undef, gsl, aextract, aindexAddr, amake, implies_true, forall_const, alen, abuiltin, anil, isC, Int.reduceEq, Int.reduceLT, Int.reduceLE, Int.reduceAdd, Int.reduceToNat, Int.reduceNeg, Nat.reduceMul, Nat.reduceSub, abuild, afill, Int.reduceBNe, Int.reduceBEq, k0, k1, k2, k3, k10, hvx, hjl, Int.ofNat_lt, decide_true, hcx, g0, g1, asz62, asz9, Tryz.underlying9, Tryz.underlying62, Tryz.underlying32, afo62_0, afo62_1, astr_eqlT, decide_eq_true hpre, show (0 ≤ (j : Int)) = True by simp, and_self, Int.toNat_natCast]
      exact hk
    · simp (config := { implicitDefEqProofs := false }) only [↓GP, ↓GM, GQ, abuiltinX, ↓awp_seq, ↓awp_block, C_ex, Nat.reduceBEq, acap, afieldAddr, aload, astore, abin, anum, aun, isAggD, cond_true, cond_false, ↓reduceIte, C_P, C_G, isTuple, Value.cells, setL, ares, aresL, ares1, reduceCtorEq, Nat.reduceEqDiff, eq_self, Nat.reduceAdd, if_true, if_false, Go.Abs.one, Nat.reduceLeDiff, undef, gsl, aextract, aindexAddr, amake, implies_true, forall_const, alen, abuiltin, anil, isC, Int.reduceEq, Int.reduceLT, Int.reduceLE, Int.reduceAdd, Int.reduceToNat, Int.reduceNeg, Nat.reduceMul, Nat.reduceSub, abuild, afill, Int.reduceBNe, Int.reduceBEq, k0, k1, k2, k3, k10, hvx, hjl, Int.ofNat_lt, decide_true, hcx, g0, asz62, asz9, Tryz.underlying9, Tryz.underlying62, Tryz.underlying32, afo62_0, afo62_1, astr_eqlT, decide_eq_false hpre, show (0 ≤ (j : Int)) = True by simp, and_self, Int.toNat_natCast, wi]
      refine ⟨l.length - (j + 1), by omega, j + 1, rfl, by omega, rfl, fun e he => ?_⟩
      rw [List.take_add_one, hdi] at he
      rcases List.mem_append.1 he with he | he
      · exact hno e he
      · simp at he; rw [he]; exact hpre
  · obtain rfl : j = l.length := by omega
    rw [List.take_length] at hno
    have hfn := findD_none hno
    have hup := (hcase.resolve_left (fun ⟨u, g, _⟩ => by rw [hfn] at g; cases g)).2
    by_cases hneg : i < 0
    · have ho := hup.neg hneg
      rw [ho] at hk
      simp (config := { implicitDefEqProofs := false }) only [↓GP, ↓GM, GQ, abuiltinX, ↓awp_seq, ↓awp_block, C_ex, Nat.reduceBEq, acap, afieldAddr, aload, astore, abin, anum, aun, isAggD, cond_true, cond_false, ↓reduceIte, C_P, C_G, isTuple, Value.cells, setL, ares, aresL, ares1, reduceCtorEq, Nat.reduceEqDiff, eq_self, Nat.reduceAdd, if_true, if_false, Go.Abs.one, Nat.reduceLeDiff, undef, gsl, aextract, aindexAddr, amake, implies_true, forall_const, alen, abuiltin, anil, isC, Int.reduceEq, Int.reduceLT, Int.reduceLE, Int.reduceAdd, Int.reduceToNat, Int.reduceNeg, Nat.reduceMul, Nat.reduceSub, abuild, afill, Int.reduceBNe, Int.reduceBEq, k0, k1, k2, k3, k10, hxs2, Int.ofNat_lt, Nat.lt_irrefl, decide_false, Tryz.underlying32, show (i < 0) = True by simp; omega, decide_true, e0, astr_eqlT]
      exact hk
    · obtain ⟨a, rfl⟩ : ∃ a : Nat, i = a := ⟨i.toNat, by omega⟩
      have hal : a < ns.length := by omega
      obtain ⟨n, hn⟩ : ∃ n, ns[a]? = some n := ⟨ns[a], List.getElem?_eq_getElem hal⟩
      obtain ⟨B, kv, av, dv', hv, hB, hcs, hget, _, _, hdr, _⟩ := hT.node hn
      have hcB := hO.get (List.mem_append_left _ hB)
      have f1 := hget 1 (by decide)
      have f7 := hget 7 (by decide)
      have hpn : n.par < a ∧ -1 ≤ n.par := by
        rcases (hpar a n hn).par with ⟨e1, e2⟩ | ⟨e1, p', e2, e3⟩
        · rw [e2]; omega
        · rw [e2]; omega
      simp (config := { implicitDefEqProofs := false }) only [↓GP, ↓GM, GQ, abuiltinX, ↓awp_seq, ↓awp_block, C_ex, Nat.reduceBEq, acap, afieldAddr, aload, astore, abin, anum, aun, isAggD, cond_true, cond_false, ↓reduceIte, C_P, C_G, isTuple, Value.cells, setL, ares, aresL, ares1, reduceCtorEq, Nat.reduceEqDiff, eq_self, Nat.reduceAdd, if_true, if_false, Go.Abs.one, Nat.reduceLeDiff, undef, gsl, aextract, aindexAddr, amake, implies_true, forall_const, alen, abuiltin, anil, isC, Int.reduceEq, Int.reduceLT, Int.reduceLE, Int.reduceAdd, Int.reduceToNat, Int.reduceNeg, Nat.reduceMul, Nat.reduceSub, abuild, afill, Int.reduceBNe, Int.reduceBEq, k0, k1, k2, k3, k10, hxs2, Int.ofNat_lt, Nat.lt_irrefl, decide_false, Tryz.underlying32, show (((a : Nat) : Int) < 0) = False by simp, hv, hcB, hal, show (0 ≤ (a : Int)) = True by simp, and_self, Int.toNat_natCast, asz34, asz24, asz3, asz32, Tryz.underlying3, Tryz.underlying24, afo34_1, afo34_7, f1, f7, ndC, List.getElem?_cons_succ, List.getElem?_cons_zero]
      refine ⟨(n.par + 1).toNat, by omega, n.par, dv', n.dcls, rfl, by omega, hpn.2, hdl n (List.mem_of_getElem? hn), ?_⟩
      refine ⟨rfl, rfl, hdr r, hup.at hn⟩
end Go.Proofs.YtohgmkjhbacmpaaGreatDoor
