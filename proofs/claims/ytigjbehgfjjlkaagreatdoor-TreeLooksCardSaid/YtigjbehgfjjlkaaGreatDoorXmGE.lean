/- The document's example. No conditions but on the library's tables. -/
import Derived.Test.YtigjbehgfjjlkaaGreatDoorXmGD
set_option linter.unusedVariables false
set_option linter.unusedSimpArgs false
namespace Go.Proofs.YtigjbehgfjjlkaaGreatDoor
open Go Go.Abs Go.RowKit Go.Xml
variable {base : Nat} {w0 : World} {G : Nat}
theorem BM {st : St} {B o n c : Nat} {sp : Option Nat} {cs : List Value} (h : st.H B = some (.cells cs 5 true)) (hc : 0 < c) : dP Tryz.prog st 31 31 (.slice (some ⟨B, o, sp⟩) n c) = some (.slice (some ⟨B, o, sp⟩) n c, st) := by
  simp [dP, Tryz.underlying31, Tryz.underlying5, h, isU8, hc]
end Go.Proofs.YtigjbehgfjjlkaaGreatDoor
set_option linter.unusedVariables false
set_option linter.unusedSimpArgs false
namespace Go.Proofs.YtigjbehgfjjlkaaGreatDoor
open Go Go.Abs Go.RowKit Go.Xml
inductive Up (ns : List Nd) (p : Tx) : Int → Option Tx → Prop
  | out {i : Int} : i < 0 → Up ns p i none
  | hit {i : Nat} {n : Nd} {u : Tx} : ns[i]? = some n → findD p n.dcls = some u → Up ns p i (some u)
  | up {i : Nat} {n : Nd} {o : Option Tx} : ns[i]? = some n → findD p n.dcls = none → Up ns p n.par o → Up ns p i o
def FH (p : Tx) (o : Option Tx) : Tx × Bool := if p = [120, 109, 108] then (jl, true) else match o with
  | some u => (u, true)
  | none => ([], decide (p = []))
def Ext (ns ns' : List Nd) : Prop := ∀ (i : Nat) (n : Nd), ns[i]? = some n → ∃ n' : Nd, ns'[i]? = some n' ∧ n'.kind = n.kind ∧ n'.par = n.par ∧ n'.dcls = n.dcls
theorem Up.mono {ns ns' : List Nd} (h : Ext ns ns') {p : Tx} {i : Int} {o : Option Tx} (hu : Up ns p i o) : Up ns' p i o := by
  induction hu with
  | out h0 => exact .out h0
  | hit h1 h2 =>
    obtain ⟨n', g1, _, _, g4⟩ := h _ _ h1
    exact .hit g1 (by rw [g4]; exact h2)
  | up h1 h2 _ ih =>
    obtain ⟨n', g1, _, g3, g4⟩ := h _ _ h1
    exact .up g1 (by rw [g4]; exact h2) (by rw [g3]; exact ih)
structure FI (ns : List Nd) (i : Nat) (n : Nd) : Prop where
  par : (i = 0 ∧ n.par = -1) ∨ (0 < i ∧ ∃ p : Nat, n.par = p ∧ p < i)
  kind : 1 ≤ n.kind ∧ n.kind ≤ 4
  leaf : n.kind ≠ 1 → n.kids = [] ∧ n.atts = [] ∧ n.dcls = []
  text : n.kind = 2 → n.val ≠ []
  elem : n.kind = 1 → cO n.loc = true ∧ ∃ o, Up ns n.pre i o ∧ FH n.pre o = (n.spc, true)
  kid : ∀ (k c : Nat), n.kids[k]? = some c → i < c ∧ ∃ m : Nd, ns[c]? = some m ∧ m.par = i
  next : ∀ (k c d : Nat), n.kids[k]? = some c → n.kids[k + 1]? = some d → c < d ∧ ∀ m m' : Nd, ns[c]? = some m → ns[d]? = some m' → ¬ (m.kind = 2 ∧ m'.kind = 2)
def kV : List Nd → Nat
  | [] => 0
  | n :: ns => n.kids.length + kV ns
def chain (ns : List Nd) : List (Nat × Tx) → Int → Prop
  | [], i => i = -1
  | (a, _) :: t, i => i = (a : Int) ∧ ∃ n : Nd, ns[a]? = some n ∧ n.kind = 1 ∧ chain ns t n.par
theorem chain.mono {ns ns' : List Nd} (h : Ext ns ns') : ∀ {l : List (Nat × Tx)} {i : Int}, chain ns l i → chain ns' l i
  | [], i, hc => hc
  | (a, _) :: t, i, ⟨h1, n, h2, h3, h4⟩ => by
    obtain ⟨n', g1, g2, g3, _⟩ := h _ _ h2
    exact ⟨h1, n', g1, g2.trans h3, by rw [g3]; exact h4.mono h⟩
theorem chain.up {ns : List Nd} {p : Tx} : ∀ {l : List (Nat × Tx)} {i : Int}, chain ns l i → Up ns p i (outer ns p l)
  | [], i, hc => .out (by rw [show i = -1 from hc]; decide)
  | (a, x) :: t, i, ⟨h1, n, h2, h3, h4⟩ => by
    subst h1
    unfold outer
    rw [h2]
    show Up ns p a (match findD p n.dcls with
      | some u => some u
      | none => outer ns p t)
    cases hf : findD p n.dcls with
    | some u => exact .hit h2 hf
    | none => exact .up h2 hf h4.up
structure TI (r : RS) : Prop where
  node : ∀ (i : Nat) (n : Nd), r.ns[i]? = some n → FI r.ns i n
  sum : r.ns ≠ [] → kV r.ns + 1 = r.ns.length
  stk : ∃ i, chain r.ns r.stk.reverse i
  done : r.done = true → r.ns ≠ []
  none : r.done = false → r.ns = [] ∧ r.stk = []
theorem TI.less {r : RS} (h : TI r) (s : Tx) : TI { r with s := s } := ⟨h.node, h.sum, h.stk, h.done, h.none⟩
theorem TI.start (s : Tx) : TI ⟨s, [], [], false⟩ := ⟨fun i n h => (by simp at h), fun h => absurd rfl h, ⟨-1, rfl⟩, fun h => (by cases h), fun _ => ⟨rfl, rfl⟩⟩
theorem zO {l : List (Nat × Tx)} {x : Nat × Tx} (h : l.getLast? = some x) : l.reverse = x :: l.dropLast.reverse := by
  obtain ⟨t, rfl⟩ : ∃ t, l = t ++ [x] := List.getLast?_eq_some_iff.1 h
  simp
theorem TI.top {r : RS} (h : TI r) {p : Nat} {nm : Tx} (hl : r.stk.getLast? = some (p, nm)) : ∃ n, r.ns[p]? = some n ∧ n.kind = 1 ∧ chain r.ns r.stk.reverse p := by
  obtain ⟨i, hc⟩ := h.stk
  have hr := zO hl
  rw [hr] at hc ⊢
  obtain ⟨h1, n, h2, h3, h4⟩ := hc
  exact ⟨n, h2, h3, rfl, n, h2, h3, h4⟩
theorem D8 {ns : List Nd} {p c i : Nat} : (j3 ns p c)[i]? = (ns[i]?).map fun n => if p = i then { n with kids := n.kids ++ [c] } else n := by
  unfold j3
  rw [List.getElem?_modify]
  cases ns[i]? <;> rfl
theorem Ext.j3 (ns : List Nd) (p c : Nat) (m : Nd) : Ext ns (j3 ns p c ++ [m]) := fun i n hn => by
  have hi := (List.getElem?_eq_some_iff.1 hn).1
  rw [List.getElem?_append_left (by rw [pW]; exact hi), D8, hn]
  refine ⟨_, rfl, ?_⟩
  dsimp only
  by_cases e : p = i
  · rw [if_pos e]; exact ⟨rfl, rfl, rfl⟩
  · rw [if_neg e]; exact ⟨rfl, rfl, rfl⟩
structure Jt (r : RS) (n : Nd) : Prop where
  kids : n.kids = []
  kind : 1 ≤ n.kind ∧ n.kind ≤ 4
  leaf : n.kind ≠ 1 → n.atts = [] ∧ n.dcls = []
  text : n.kind = 2 → n.val ≠ [] ∧ ∀ p nm, r.stk.getLast? = some (p, nm) → iO r.ns p = none
  elem : n.kind = 1 → cO n.loc = true ∧ bD r n.pre n.dcls = (n.spc, true)
theorem BN (r : RS) (p : Tx) (ds : List Dcl) : bD r p ds = FH p (match findD p ds with
    | some u => some u
    | none => outer r.ns p r.stk.reverse) := by
  unfold bD FH
  by_cases h : p = [120, 109, 108]
  · rw [if_pos h, if_pos h]
  · rw [if_neg h, if_neg h]
    cases findD p ds with
    | some u => rfl
    | none => cases outer r.ns p r.stk.reverse <;> rfl
theorem TI.first {r : RS} {n : Nd} (h : TI r) (hn : Jt r n) (hk : n.kind = 1) (hns : r.ns = []) (hst : r.stk = []) : TI { r with ns := [{ n with par := -1 }], done := true } := by
  refine ⟨fun i m hm => ?_, fun _ => ?_, ⟨-1, by show chain _ r.stk.reverse (-1); rw [hst]; rfl⟩, fun _ => List.cons_ne_nil _ _, fun hd => by cases hd⟩
  · change ([{ n with par := -1 }] : List Nd)[i]? = some m at hm
    show FI [{ n with par := -1 }] i m
    cases i with
    | succ i => simp at hm
    | zero =>
      simp at hm
      subst hm
      refine ⟨.inl ⟨rfl, rfl⟩, hn.kind, fun hk => ⟨hn.kids, hn.leaf hk⟩, fun hk => (hn.text hk).1, fun hk => ?_, fun k c hc => ?_, fun k c d hc _ => ?_⟩
      · obtain ⟨e1, e2⟩ := hn.elem hk
        refine ⟨e1, _, ?_, (BN r n.pre n.dcls).symm.trans e2⟩
        rw [hst]
        cases hf : findD n.pre n.dcls with
        | some u => exact .hit rfl hf
        | none => exact .up rfl hf (.out (show (-1 : Int) < 0 by decide))
      · change n.kids[k]? = some c at hc
        rw [hn.kids] at hc
        simp at hc
      · change n.kids[k]? = some c at hc
        rw [hn.kids] at hc
        simp at hc
  · show n.kids.length + 0 + 1 = 1
    rw [hn.kids]
    rfl
end Go.Proofs.YtigjbehgfjjlkaaGreatDoor
set_option linter.unusedVariables false
set_option linter.unusedSimpArgs false
namespace Go.Proofs.YtigjbehgfjjlkaaGreatDoor
open Go Go.Abs Go.RowKit Go.Xml
theorem mK : ∀ (ns : List Nd) (c : Nat) (f : Nd → Nd), (∀ n, (f n).kids = n.kids) → kV (ns.modify c f) = kV ns
  | [], c, f, _ => by simp [kV]
  | n :: ns, 0, f, hf => by simp [kV, hf]
  | n :: ns, c + 1, f, hf => by rw [List.modify_succ_cons, kV, kV, mK ns c f hf]
theorem TI.more {r : RS} (h : TI r) (c : Nat) (t : Tx) : TI { r with ns := r.ns.modify c fun n => { n with val := n.val ++ t } } := by
  have hget : ∀ i : Nat, (r.ns.modify c fun n => { n with val := n.val ++ t })[i]? = (r.ns[i]?).map fun n => if c = i then { n with val := n.val ++ t } else n := fun i => by
    rw [List.getElem?_modify]
    cases r.ns[i]? <;> rfl
  have hext : Ext r.ns (r.ns.modify c fun n => { n with val := n.val ++ t }) := fun i n hn => by
    rw [hget, hn]
    refine ⟨_, rfl, ?_⟩
    dsimp only
    by_cases e : c = i
    · rw [if_pos e]; exact ⟨rfl, rfl, rfl⟩
    · rw [if_neg e]; exact ⟨rfl, rfl, rfl⟩
  have hback : ∀ (i : Nat) (m : Nd), (r.ns.modify c fun n => { n with val := n.val ++ t })[i]? = some m → ∃ m0, r.ns[i]? = some m0 ∧ m.kind = m0.kind ∧ m.par = m0.par ∧ m.kids = m0.kids ∧ m.atts = m0.atts ∧ m.dcls = m0.dcls ∧ m.pre = m0.pre ∧ m.loc = m0.loc ∧ m.spc = m0.spc ∧ (m0.val ≠ [] → m.val ≠ []) := fun i m hm => by
    rw [hget] at hm
    obtain ⟨m0, g1, g2⟩ := Option.map_eq_some_iff.1 hm
    refine ⟨m0, g1, ?_⟩
    rw [← g2]
    by_cases e : c = i
    · rw [if_pos e]
      exact ⟨rfl, rfl, rfl, rfl, rfl, rfl, rfl, rfl, fun hv => by show m0.val ++ t ≠ []; intro hh; exact hv (List.append_eq_nil_iff.1 hh).1⟩
    · rw [if_neg e]
      exact ⟨rfl, rfl, rfl, rfl, rfl, rfl, rfl, rfl, fun hv => hv⟩
  refine ⟨fun i m hm => ?_, fun hne => ?_, ?_, fun hd => ?_, fun hd => ?_⟩
  · obtain ⟨m0, g1, g2, g3, g4, g5, g6, g7, g8, g9, g10⟩ := hback i m hm
    have hN := h.node i m0 g1
    refine ⟨by rw [g3]; exact hN.par, by rw [g2]; exact hN.kind, fun hk => by rw [g4, g5, g6]; exact hN.leaf (by rwa [← g2]), fun hk => g10 (hN.text (by rwa [← g2])), fun hk => ?_, fun k d hd => ?_, fun k c d hc hd => ?_⟩
    · obtain ⟨e1, o, e2, e3⟩ := hN.elem (by rwa [← g2])
      exact ⟨by rw [g8]; exact e1, o, by rw [g7]; exact e2.mono hext, by rw [g7, g9]; exact e3⟩
    · rw [g4] at hd
      obtain ⟨q1, m1, q2, q3⟩ := hN.kid k d hd
      obtain ⟨m', t1, _, t3, _⟩ := hext _ _ q2
      exact ⟨q1, m', t1, t3.trans q3⟩
    · rw [g4] at hc hd
      obtain ⟨q1, q2⟩ := hN.next k c d hc hd
      refine ⟨q1, fun a b ha hb => ?_⟩
      obtain ⟨a0, t1, t2, _⟩ := hback c a ha
      obtain ⟨b0, u1, u2, _⟩ := hback d b hb
      rw [t2, u2]
      exact q2 a0 b0 t1 u1
  · show kV (r.ns.modify c fun n => { n with val := n.val ++ t }) + 1 = (r.ns.modify c fun n => { n with val := n.val ++ t }).length
    rw [mK r.ns c (fun n => { n with val := n.val ++ t }) (fun n => rfl), List.length_modify]
    exact h.sum (fun e => hne (by show r.ns.modify c _ = []; rw [e]; simp))
  · obtain ⟨i, hc⟩ := h.stk
    exact ⟨i, hc.mono hext⟩
  · have := h.done hd
    show r.ns.modify c _ ≠ []
    intro e
    have := congrArg List.length e
    rw [List.length_modify] at this
    exact h.done hd (List.eq_nil_of_length_eq_zero this)
  · obtain ⟨e1, e2⟩ := h.none hd
    exact ⟨by show r.ns.modify c _ = []; rw [e1]; simp, e2⟩
theorem TI.push {r : RS} {a : Nat} {m : Nd} (h : TI r) (nm : Tx) (hm : r.ns[a]? = some m) (hk : m.kind = 1) (hc : chain r.ns r.stk.reverse m.par) : TI { r with stk := r.stk ++ [(a, nm)], done := true } := by
  have hne : r.ns ≠ [] := fun e => by rw [e] at hm; simp at hm
  refine ⟨h.node, h.sum, ⟨a, ?_⟩, fun _ => hne, fun hd => by cases hd⟩
  show chain r.ns (r.stk ++ [(a, nm)]).reverse a
  rw [List.reverse_append]
  exact ⟨rfl, m, hm, hk, hc⟩
end Go.Proofs.YtigjbehgfjjlkaaGreatDoor
set_option linter.unusedVariables false
set_option linter.unusedSimpArgs false
namespace Go.Proofs.YtigjbehgfjjlkaaGreatDoor
open Go Go.Abs Go.RowKit Go.Xml
variable {base : Nat} {w0 : World} {G : Nat}
theorem Up.neg {ns : List Nd} {p : Tx} {i : Int} {o : Option Tx} (h : Up ns p i o) (hi : i < 0) : o = none := by
  cases h with
  | out _ => rfl
  | hit h1 h2 => omega
  | up h1 h2 h3 => omega
theorem Up.at {ns : List Nd} {p : Tx} {i : Nat} {o : Option Tx} {n : Nd} (h : Up ns p i o) (hn : ns[i]? = some n) : (∃ u, findD p n.dcls = some u ∧ o = some u) ∨ (findD p n.dcls = none ∧ Up ns p n.par o) := by
  generalize hj : (i : Int) = j at h
  cases h with
  | out h0 => omega
  | hit h1 h2 =>
    obtain rfl : i = _ := by exact_mod_cast hj
    rw [hn] at h1; injection h1 with h1; subst h1
    exact .inl ⟨_, h2, rfl⟩
  | up h1 h2 h3 =>
    obtain rfl : i = _ := by exact_mod_cast hj
    rw [hn] at h1; injection h1 with h1; subst h1
    exact .inr ⟨h2, h3⟩
structure zP (v : Value) (ns : List Nd) (cs : List (List Value)) (h : Hp) : Prop where
  rows : ∃ hn hx, h = hn ++ hx ∧ GV v cs.flatten ns.length 9 55 hn ∧ NdsH ns cs hx
theorem zP.node {v : Value} {ns : List Nd} {cs : List (List Value)} {h : Hp} (hT : zP v ns cs h) {i : Nat} {n : Nd} (hi : ns[i]? = some n) :
    ∃ B kv av dv, v = .slice (some ⟨B, 0, some 0⟩) ns.length ns.length ∧ (B, Ob.cells cs.flatten 55 true) ∈ h ∧ cs[i]? = some (ndC n kv av dv) ∧ (∀ j, j < 9 → cs.flatten[i * 9 + j]? = (ndC n kv av dv)[j]?) ∧ cut cs.flatten (i * 9) 9 = some (ndC n kv av dv) ∧
      (∀ r, Rws (h ++ r) kv 1 (n.kids.map fun c => [Value.int .i64 (c : Nat)])) ∧ (∀ r, Rws (h ++ r) dv 2 (n.dcls.map dclC)) ∧ (∃ a c, av = .slice a n.atts.length c) := by
  obtain ⟨hn, hx, rfl, hG, hN⟩ := hT.rows
  obtain ⟨cl, c9⟩ := hN.len
  have hil := (List.getElem?_eq_some_iff.1 hi).1
  obtain ⟨B, hv, hB⟩ := GV.blk hG (by omega)
  obtain ⟨c, h1, h2, h3, a1, a2, ⟨kv, av, dv, hk, ha, hd, rfl, rfl, gk, ga, gd⟩, _⟩ := hN.at hi
  refine ⟨B, kv, av, dv, hv, by rw [hB]; simp, a1, fun j hj => flat_get c9 a1 hj, kg c9 a1, fun r => ?_, fun r => ?_, ?_⟩
  · have := GV.rows (r := []) (cs := n.kids.map fun c => [Value.int .i64 (c : Nat)]) (n := n.kids.length) (sz := 1) (e := 3) (hg := hk) (v := kv) (by
      have e : (n.kids.map fun c => [Value.int .i64 (c : Nat)]).flatten = lM n.kids := by
        unfold lM
        induction n.kids with
        | nil => rfl
        | cons a l ih => simp only [List.map_cons, List.flatten_cons, ih]; rfl
      rw [e]; exact gk) (fun c hc => by obtain ⟨d, _, rfl⟩ := List.mem_map.1 hc; rfl) (List.length_map _)
    exact this.sub fun e he => by rw [a2]; simp at he ⊢; simp [he]
  · exact (l6 (r := []) gd).sub fun e he => by rw [a2]; simp at he ⊢; simp [he]
  · obtain ⟨a, e⟩ := ga.isSlice
    exact ⟨a, _, e⟩
end Go.Proofs.YtigjbehgfjjlkaaGreatDoor
set_option linter.unusedVariables false
set_option linter.unusedSimpArgs false
namespace Go.Proofs.YtigjbehgfjjlkaaGreatDoor
open Go Go.Abs Go.RowKit Go.Xml
variable {base : Nat} {w0 : World} {G : Nat}
structure NdR (H : Hp) (n : Nd) (kv av dv : Value) : Prop where
  kid : Rws H kv 1 (n.kids.map fun c => [Value.int .i64 (c : Nat)])
  att : Rws H av 4 (n.atts.map attC)
  dcl : Rws H dv 2 (n.dcls.map dclC)
theorem NdR.sub {H H' : Hp} {n : Nd} {kv av dv : Value} (h : NdR H n kv av dv) (hs : ∀ e ∈ H, e ∈ H') : NdR H' n kv av dv := ⟨h.kid.sub hs, h.att.sub hs, h.dcl.sub hs⟩
theorem zP.full {v : Value} {ns : List Nd} {cs : List (List Value)} {h : Hp} (hT : zP v ns cs h) {i : Nat} {n : Nd} (hi : ns[i]? = some n) :
    ∃ B kv av dv, v = .slice (some ⟨B, 0, some 0⟩) ns.length ns.length ∧ (B, Ob.cells cs.flatten 55 true) ∈ h ∧ cut cs.flatten (i * 9) 9 = some (ndC n kv av dv) ∧ (∀ j, j < 9 → cs.flatten[i * 9 + j]? = (ndC n kv av dv)[j]?) ∧ NdR h n kv av dv := by
  obtain ⟨hn, hx, rfl, hG, hN⟩ := hT.rows
  obtain ⟨cl, c9⟩ := hN.len
  have hil := (List.getElem?_eq_some_iff.1 hi).1
  obtain ⟨B, hv, hB⟩ := GV.blk hG (by omega)
  obtain ⟨c, h1, h2, h3, a1, a2, ⟨kv, av, dv, hk, ha, hd, rfl, rfl, gk, ga, gd⟩, _⟩ := hN.at hi
  refine ⟨B, kv, av, dv, hv, by rw [hB]; simp, kg c9 a1, fun j hj => flat_get c9 a1 hj, ⟨?_, ?_, ?_⟩⟩
  · have := GV.rows (r := []) (cs := n.kids.map fun c => [Value.int .i64 (c : Nat)]) (n := n.kids.length) (sz := 1) (e := 3) (hg := hk) (v := kv) (by
      have e : (n.kids.map fun c => [Value.int .i64 (c : Nat)]).flatten = lM n.kids := by
        unfold lM
        induction n.kids with
        | nil => rfl
        | cons a l ih => simp only [List.map_cons, List.flatten_cons, ih]; rfl
      rw [e]; exact gk) (fun c hc => by obtain ⟨d, _, rfl⟩ := List.mem_map.1 hc; rfl) (List.length_map _)
    exact this.sub fun e he => by rw [a2]; simp at he ⊢; simp [he]
  · have := GV.rows (r := []) (cs := n.atts.map attC) (n := n.atts.length) (sz := 4) (e := 59) (hg := ha) (v := av) ga (fun c hc => by obtain ⟨d, _, rfl⟩ := List.mem_map.1 hc; rfl) (List.length_map _)
    exact this.sub fun e he => by rw [a2]; simp at he ⊢; simp [he]
  · exact (l6 (r := []) gd).sub fun e he => by rw [a2]; simp at he ⊢; simp [he]
def DocV (H : Hp) (v : Value) (ns : List Nd) : Prop := ∃ cs : List (List Value), cs.length = ns.length ∧ Rws H v 9 cs ∧ ∀ (i : Nat) (n : Nd), ns[i]? = some n → ∃ kv av dv, cs[i]? = some (ndC n kv av dv) ∧ NdR H n kv av dv
theorem DocV.sub {H H' : Hp} {v : Value} {ns : List Nd} (h : DocV H v ns) (hs : ∀ e ∈ H, e ∈ H') : DocV H' v ns := by
  obtain ⟨cs, h1, h2, h3⟩ := h
  exact ⟨cs, h1, h2.sub hs, fun i n hi => by obtain ⟨kv, av, dv, a, b⟩ := h3 i n hi; exact ⟨kv, av, dv, a, b.sub hs⟩⟩
theorem DocV.isSlice {H : Hp} {v : Value} {ns : List Nd} (h : DocV H v ns) : ∃ a c, v = .slice a ns.length c := by
  obtain ⟨cs, h1, h2, h3⟩ := h
  obtain ⟨a, c, h, _⟩ := h2.isSlice
  exact ⟨a, c, by rw [← h1]; exact h⟩
theorem DocV.at {H : Hp} {v : Value} {ns : List Nd} (h : DocV H v ns) {i : Nat} {n : Nd} (hi : ns[i]? = some n) :
    ∃ x o sp c ccs ty own kv av dv, v = .slice (some ⟨x, o, sp⟩) ns.length c ∧ (x, Ob.cells ccs ty own) ∈ H ∧ cut ccs (o + i * 9) 9 = some (ndC n kv av dv) ∧ (∀ j, j < 9 → ccs[o + i * 9 + j]? = (ndC n kv av dv)[j]?) ∧ NdR H n kv av dv := by
  obtain ⟨cs, h1, h2, h3⟩ := h
  obtain ⟨kv, av, dv, a, b⟩ := h3 i n hi
  obtain ⟨x, o, sp, c, ccs, ty, own, g1, g2, g3⟩ := h2.mem a
  exact ⟨x, o, sp, c, ccs, ty, own, kv, av, dv, by rw [← h1]; exact g1, g2, g3, fun j hj => bq g3 hj, b⟩
theorem DocH.view {v : Value} {ns : List Nd} {h : Hp} (hD : DocH v ns h) : DocV h v ns := by
  obtain ⟨cs, hn, hx, rfl, hG, hN⟩ := hD
  have hT : zP v ns cs (hn ++ hx) := ⟨hn, hx, rfl, hG, hN⟩
  obtain ⟨cl, c9⟩ := hN.len
  refine ⟨cs, cl, by
    have := GV.rows (r := hx) hG c9 cl
    exact this, fun i n hi => ?_⟩
  obtain ⟨B, kv, av, dv, _, _, a3, _, a5⟩ := hT.full hi
  have hil := (List.getElem?_eq_some_iff.1 hi).1
  refine ⟨kv, av, dv, ?_, a5⟩
  obtain ⟨c, hc⟩ : ∃ c, cs[i]? = some c := ⟨cs[i]'(by omega), by simp⟩
  rw [hc]
  rw [kg c9 hc] at a3
  exact a3
end Go.Proofs.YtigjbehgfjjlkaaGreatDoor
