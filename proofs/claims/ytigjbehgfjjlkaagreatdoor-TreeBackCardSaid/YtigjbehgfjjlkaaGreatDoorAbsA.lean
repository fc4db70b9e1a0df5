/- An abstract heap (no capacities, no order of evaluation) and how it lies in the model's memory. -/
import Derived.Calls
import Derived.Orders
import Derived.Below
import Derived.Laws.Rows
set_option linter.unusedVariables false
set_option linter.unusedSimpArgs false
namespace Go.Abs
open Go.RowKit
def okCr (rf : Bool) (can : Nat → Bool) : Code → Bool
  | .region _ ops _ => ops.all fun o => o.dst.all can
  | .seq x y | .cond _ x y => okCr rf can x && okCr rf can y
  | .block _ c | .loop c => okCr rf can c
  | .rangeFunc _ ps x y => rf && ps.all can && okCr false can x && okCr false can y
  | _ => true
structure ARec where
  ρ : Nat → Value
  ps : Array Nat
  assign : Code
  body : Code
  state : LoopState
  pend : Option Code
inductive Ob where
  | cells (cs : List Value) (ty : TypeId) (own : Bool)
  | map (es : List MapEntry) (clock : Nat)
  | siter (s : ByteArray) (pos : Nat)
  | mbox (v : Value) (ty : TypeId)
  | loop (r : ARec)
def Ob.own : Ob → Bool
  | .cells _ _ o => o
  | _ => true
structure St where
  H : Nat → Option Ob
  n : Nat
def St.set (st : St) (B : Nat) (o : Option Ob) : St := { H := fun b => if b = B then o else st.H b, n := st.n }
def St.new (st : St) (o : Ob) : St := { H := fun b => if b = st.n then some o else st.H b, n := st.n + 1 }
structure Pl where
  blk : Nat
  off : Nat
  ext : Nat
  sz : Nat
abbrev Emb := Nat → Option Pl
def Emb.le (φ ψ : Emb) : Prop := ∀ B p, φ B = some p → ψ B = some p
theorem Emb.le_refl (φ : Emb) : φ.le φ := fun _ _ h => h
theorem Emb.le_trans {a b c : Emb} (h : a.le b) (k : b.le c) : a.le c := fun B p e => k B p (h B p e)
def Emb.ins (φ : Emb) (B : Nat) (p : Pl) : Emb := fun b => if b = B then some p else φ b
def gK : Fn → Bool
  | .yield _ => false
  | _ => true
def oJ : Value := .tuple #[.pointer (some ⟨0, 0, some 0⟩)]
inductive VR (φ : Emb) : Value → Value → Prop
  | junk (v : Value) : VR φ (.tuple #[]) v
  | skip : VR φ (.tuple #[.pointer (some ⟨0, 0, some 0⟩)]) (.tuple #[])
  | bool (b : Bool) : VR φ (.bool b) (.bool b)
  | int (k : IntKind) (n : Int) : VR φ (.int k n) (.int k n)
  | float (k : FloatKind) (b : Nat) : VR φ (.float k b) (.float k b)
  | complex (k : FloatKind) (a b : Nat) : VR φ (.complex k a b) (.complex k a b)
  | string (s : ByteArray) : VR φ (.string s) (.string s)
  | nilptr : VR φ (.pointer none) (.pointer none)
  | ptr {B off : Nat} {p : Pl} (h : φ B = some p) : VR φ (.pointer (some ⟨B, off, none⟩)) (.pointer (some ⟨p.blk, p.off + off, none⟩))
  | nilslc : VR φ (.slice none 0 0) (.slice none 0 0)
  | slcX {B off len cap : Nat} {a : Addr} {p : Pl} (h : φ B = some p) (hl : len ≤ cap) (ha : a = ⟨p.blk, p.off + off, none⟩ ∨ cap = 0) : VR φ (.slice (some ⟨B, off, none⟩) len cap) (.slice (some a) len cap)
  | slcO {B off len cap cap' : Nat} {a : Addr} {p : Pl} (h : φ B = some p) (hl : len ≤ cap) (hc : cap ≤ cap') (hw : cap' = 0 ∨ p.sz = 0 ∨ off + cap' * p.sz ≤ p.ext) (ha : a = ⟨p.blk, p.off + off, none⟩ ∨ cap' = 0) :
      VR φ (.slice (some ⟨B, off, some 0⟩) len cap) (.slice (some a) len cap')
  | nilmap : VR φ (.map none) (.map none)
  | map {B : Nat} {p : Pl} (h : φ B = some p) : VR φ (.map (some B)) (.map (some p.blk))
  | nilFunc : VR φ .nilFunc .nilFunc
  | yield {B : Nat} {p : Pl} (h : φ B = some p) : VR φ (.func (.yield B) #[] #[]) (.func (.yield p.blk) #[] #[])
  | func (fn : Fn) {As as Bs bs : Array Value} (hf : gK fn = true) (ha : As.size = as.size) (h : ∀ i (h1 : i < As.size) (h2 : i < as.size), VR φ As[i] as[i])
      (hb : Bs.size = bs.size) (k : ∀ i (h1 : i < Bs.size) (h2 : i < bs.size), VR φ Bs[i] bs[i]) : VR φ (.func fn As Bs) (.func fn as bs)
  | nilIface : VR φ .nilIface .nilIface
  | iface (t : TypeId) {V v : Value} (h : VR φ V v) : VR φ (.iface t V) (.iface t v)
  | agg {As as : Array Value} (ha : As.size = as.size) (h : ∀ i (h1 : i < As.size) (h2 : i < as.size), VR φ As[i] as[i]) : VR φ (.agg As) (.agg as)
  | tuple {As as : Array Value} (ha : As.size = as.size) (h : ∀ i (h1 : i < As.size) (h2 : i < as.size), VR φ As[i] as[i]) : VR φ (.tuple As) (.tuple as)
theorem VR.mono {φ ψ : Emb} (hle : φ.le ψ) {V v : Value} (h : VR φ V v) : VR ψ V v := by
  induction h with
  | junk v => exact .junk v
  | skip => exact .skip
  | bool b => exact .bool b
  | int k n => exact .int k n
  | float k b => exact .float k b
  | complex k a b => exact .complex k a b
  | string s => exact .string s
  | nilptr => exact .nilptr
  | ptr h => exact .ptr (hle _ _ h)
  | nilslc => exact .nilslc
  | slcX h hl ha => exact .slcX (hle _ _ h) hl ha
  | slcO h hl hc hw ha => exact .slcO (hle _ _ h) hl hc hw ha
  | nilmap => exact .nilmap
  | map h => exact .map (hle _ _ h)
  | nilFunc => exact .nilFunc
  | yield h => exact .yield (hle _ _ h)
  | func fn hf ha _ hb _ ih ik => exact .func fn hf ha ih hb ik
  | nilIface => exact .nilIface
  | iface t _ ih => exact .iface t ih
  | agg ha _ ih => exact .agg ha ih
  | tuple ha _ ih => exact .tuple ha ih
def VRA (φ : Emb) (As as : Array Value) : Prop := As.size = as.size ∧ ∀ i (h1 : i < As.size) (h2 : i < as.size), VR φ As[i] as[i]
theorem VRA.mono {φ ψ : Emb} (hle : φ.le ψ) {As as : Array Value} (h : VRA φ As as) : VRA ψ As as := ⟨h.1, fun i h1 h2 => (h.2 i h1 h2).mono hle⟩
theorem VRA.get {φ : Emb} {As as : Array Value} (h : VRA φ As as) {i : Nat} {V : Value} (hi : As[i]? = some V) : ∃ v, as[i]? = some v ∧ VR φ V v := by
  obtain ⟨h1, rfl⟩ := Array.getElem?_eq_some_iff.1 hi
  have h2 : i < as.size := h.1 ▸ h1
  exact ⟨as[i], by simp [h2], h.2 i h1 h2⟩
def isTuple : Value → Bool
  | .tuple _ => true
  | _ => false
theorem VR.cells {φ : Emb} {V v : Value} (h : VR φ V v) (ht : isTuple V = false) : VRA φ V.cells v.cells := by
  cases h with
  | agg ha h => exact ⟨ha, h⟩
  | junk v => simp [isTuple] at ht
  | skip => simp [isTuple] at ht
  | tuple ha h => simp [isTuple] at ht
  | iface t h => exact ⟨rfl, fun i h1 h2 => by simp [Value.cells] at h1; subst h1; exact .iface t h⟩
  | func fn hf ha h hb k => exact ⟨rfl, fun i h1 h2 => by simp [Value.cells] at h1; subst h1; exact .func fn hf ha h hb k⟩
  | slcO h hl hc hw ha => exact ⟨rfl, fun i h1 h2 => by simp [Value.cells] at h1; subst h1; exact .slcO h hl hc hw ha⟩
  | _ => exact ⟨rfl, fun i h1 h2 => by simp [Value.cells] at h1; subst h1; constructor <;> assumption⟩
def one : Value → Bool
  | .agg _ | .tuple _ => false
  | _ => true
theorem VR.one {φ : Emb} {V v : Value} (h : VR φ V v) (ho : one V = true) : one v = true := by
  cases h <;> simp_all [Abs.one]
structure Cx where
  P : Program
  base : Nat
  w0 : World
  G : Nat
  ex : TypeId → Bool
  kd : Nat → Bool
abbrev Cx.at (cx : Cx) (k : Nat → Bool) : Cx := { cx with kd := k }
structure EntR (φ : Emb) (E e : MapEntry) : Prop where
  key : VR φ E.key e.key
  val : VR φ E.val e.val
  born : E.born = e.born
def ObR (cx : Cx) (φ : Emb) (p : Pl) (w : World) : Ob → Prop
  | .cells cs ty own => ∃ ccs fz, w.heap[p.blk]? = some (.cells ccs ty fz) ∧ cs.length ≤ p.ext ∧ p.off + p.ext ≤ ccs.size ∧
      (∀ (i : Nat) (V : Value), cs[i]? = some V → ∃ v, ccs[p.off + i]? = some v ∧ VR φ V v) ∧
      (own = false → p.blk < cx.base ∧ p.sz = 0) ∧
      (own = true → cx.base ≤ p.blk ∧ (cx.P.cellsOf ty = p.sz ∧ p.off % p.sz = 0) ∧ (fz.1 = fz.2 ∨ (ccs.size ≤ fz.1 ∧ cx.P.underlying ty = some (.int .u8))))
  | .map es clock => ∃ ces : Array MapEntry, w.heap[p.blk]? = some (.map ces clock) ∧ cx.base ≤ p.blk ∧ p.off = 0 ∧ p.ext = 1 ∧
      es.length = ces.size ∧ ∀ (i : Nat) (E : MapEntry), es[i]? = some E → ∃ e, ces[i]? = some e ∧ EntR φ E e
  | .siter s pos => w.heap[p.blk]? = some (.stringIter s pos) ∧ cx.base ≤ p.blk ∧ p.off = 0 ∧ p.ext = 1
  | .mbox V ty => ∃ v, w.heap[p.blk]? = some (.cells #[v] ty (0, 0)) ∧ cx.base ≤ p.blk ∧ p.off = 0 ∧ p.ext = 1 ∧ VR φ V v
  | .loop r => ∃ fn tmps D, w.heap[p.blk]? = some (.loop { state := r.state, pending := r.pend, fn := fn, tmps := tmps, params := r.ps, assign := r.assign, body := r.body, defers := D }) ∧ cx.base ≤ p.blk ∧ p.off = 0 ∧ p.ext = 1 ∧
      (r.ps.all (· < tmps.size) = true ∧ okCr false (fun t => decide (t < tmps.size)) r.assign = true ∧ okCr false (fun t => decide (t < tmps.size)) r.body = true) ∧ ∀ t, VR φ (r.ρ t) (tmps.getD t undef)
theorem ObR.mono {cx : Cx} {φ ψ : Emb} (hle : φ.le ψ) {p : Pl} {w w' : World} {o : Ob} (h : ObR cx φ p w o) (hw : w'.heap[p.blk]? = w.heap[p.blk]?) : ObR cx ψ p w' o := by
  cases o with
  | cells cs ty own =>
    obtain ⟨ccs, fz, h1, h2, h3, h4, h5, h6⟩ := h
    exact ⟨ccs, fz, hw.trans h1, h2, h3, fun i V hi => let ⟨v, a, b⟩ := h4 i V hi; ⟨v, a, b.mono hle⟩, h5, h6⟩
  | map es clock =>
    obtain ⟨ces, h1, h2, h3, h4, h5, h6⟩ := h
    exact ⟨ces, hw.trans h1, h2, h3, h4, h5, fun i E hi => let ⟨e, a, b⟩ := h6 i E hi; ⟨e, a, b.key.mono hle, b.val.mono hle, b.born⟩⟩
  | siter s pos => exact ⟨hw.trans h.1, h.2⟩
  | mbox V ty => obtain ⟨v, h1, h2, h3, h4, h5⟩ := h; exact ⟨v, hw.trans h1, h2, h3, h4, h5.mono hle⟩
  | loop r =>
    obtain ⟨fn, tmps, D, h1, h2, h3, h4, h5, h6⟩ := h
    exact ⟨fn, tmps, D, hw.trans h1, h2, h3, h4, h5, fun t => (h6 t).mono hle⟩
theorem ObR.lt {cx : Cx} {φ : Emb} {p : Pl} {w : World} {o : Ob} (h : ObR cx φ p w o) : p.blk < w.heap.size := by
  cases o with
  | cells cs ty own => obtain ⟨ccs, fz, h1, _⟩ := h; exact (Array.getElem?_eq_some_iff.1 h1).1
  | map es clock => obtain ⟨ces, h1, _⟩ := h; exact (Array.getElem?_eq_some_iff.1 h1).1
  | siter s pos => obtain ⟨h1, _⟩ := h; exact (Array.getElem?_eq_some_iff.1 h1).1
  | mbox V ty => obtain ⟨v, h1, _⟩ := h; exact (Array.getElem?_eq_some_iff.1 h1).1
  | loop r => obtain ⟨fn, tmps, D, h1, _⟩ := h; exact (Array.getElem?_eq_some_iff.1 h1).1
theorem ObR.Gs {cx : Cx} {φ : Emb} {p : Pl} {w : World} {o : Ob} (h : ObR cx φ p w o) (ho : o.own = true) : cx.base ≤ p.blk := by
  cases o with
  | cells cs ty own => obtain ⟨ccs, fz, h1, h2, h3, h4, h5, h6⟩ := h; exact (h6 ho).1
  | map es clock => obtain ⟨ces, h1, h2, _⟩ := h; exact h2
  | siter s pos => exact h.2.1
  | mbox V ty => obtain ⟨v, h1, h2, _⟩ := h; exact h2
  | loop r => obtain ⟨fn, tmps, D, h1, h2, _⟩ := h; exact h2
def Pl.apart (p q : Pl) : Prop := p.blk ≠ q.blk ∨ p.off + p.ext ≤ q.off ∨ q.off + q.ext ≤ p.off
theorem Pl.apart.symm {p q : Pl} (h : p.apart q) : q.apart p := by
  rcases h with h | h | h
  · exact .inl (Ne.symm h)
  · exact .inr (.inr h)
  · exact .inr (.inl h)
structure HR (cx : Cx) (φ : Emb) (st : St) (w : World) : Prop where
  below : Below cx.base cx.w0 w
  size : cx.base ≤ w.heap.size
  glob : cx.G ≤ cx.base
  ident : ∀ g, g < cx.G → ∃ p, φ g = some p ∧ p.blk = g ∧ p.off = 0 ∧ p.sz = 0
  dom : ∀ B p, φ B = some p → B < st.n
  live : ∀ B o, st.H B = some o → ∃ p, φ B = some p ∧ ObR cx φ p w o
  dis : ∀ B B' o o' p p', B ≠ B' → st.H B = some o → st.H B' = some o' → o.own = true → o'.own = true → φ B = some p → φ B' = some p' → p.blk ≠ p'.blk
  kept : ∀ d, cx.kd d = true → cx.base ≤ d ∧ w.heap[d]? = some (.deferred (some []))
section
variable {cx : Cx} {φ ψ : Emb} {st : St} {w w' : World}
theorem HR.apart (h : HR cx φ st w) (B B' : Nat) (o o' : Ob) (p p' : Pl) (hne : B ≠ B') (h1 : st.H B = some o) (h2 : st.H B' = some o') (k1 : o.own = true) (k2 : o'.own = true) (q1 : φ B = some p) (q2 : φ B' = some p') : p.apart p' := .inl (h.dis B B' o o' p p' hne h1 h2 k1 k2 q1 q2)
theorem HR.fresh (h : HR cx φ st w) : φ st.n = none := by
  cases e : φ st.n with
  | none => rfl
  | some p => exact absurd (h.dom _ _ e) (Nat.lt_irrefl _)
theorem HR.fQ (h : HR cx φ st w) (p : Pl) : φ.le (φ.ins st.n p) := fun B q e => by
  unfold Emb.ins
  rw [if_neg]
  · exact e
  · intro hB
    subst hB
    rw [h.fresh] at e
    cases e
theorem HR.lt (h : HR cx φ st w) {B : Nat} {o : Ob} (hB : st.H B = some o) : B < st.n := let ⟨p, hp, _⟩ := h.live B o hB; h.dom B p hp
theorem HR.of_below (h : HR cx φ st w) (hb : Below w.heap.size w w') : HR cx φ st w' where
  below := h.below.trans (hb.mono h.size)
  size := Nat.le_trans h.size hb.size
  glob := h.glob
  ident := h.ident
  dom := h.dom
  live := fun B o hB => let ⟨p, hp, ho⟩ := h.live B o hB; ⟨p, hp, ho.mono (Emb.le_refl _) (hb.block _ ho.lt)⟩
  dis := h.dis
  kept := fun d hd => ⟨(h.kept d hd).1, (hb.block _ (Array.getElem?_eq_some_iff.1 (h.kept d hd).2).1).trans (h.kept d hd).2⟩
theorem HR.drew (h : HR cx φ st w) : HR cx φ st w.drew := h.of_below (Below.refl _ _).drew
theorem HR.kill (h : HR cx φ st w) (B : Nat) : HR cx φ (st.set B none) w where
  below := h.below
  size := h.size
  glob := h.glob
  ident := h.ident
  dom := h.dom
  live := fun B' o hB => by
    by_cases e : B' = B
    · simp [St.set, e] at hB
    · simp [St.set, e] at hB; exact h.live B' o hB
  dis := fun B1 B2 o o' p p' hne h1 h2 => by
    by_cases e1 : B1 = B
    · simp [St.set, e1] at h1
    by_cases e2 : B2 = B
    · simp [St.set, e2] at h2
    simp [St.set, e1] at h1
    simp [St.set, e2] at h2
    exact h.dis B1 B2 o o' p p' hne h1 h2
  kept := h.kept
theorem HR.new (h : HR cx φ st w) (o : Ob) (ob : Obj) (p : Pl) (hp : p.blk = w.heap.size)
    (ho : ObR cx (φ.ins st.n p) p (w.alloc ob) o) : HR cx (φ.ins st.n p) (st.new o) (w.alloc ob) where
  below := h.below.alloc h.size _
  size := by simp; exact Nat.le_succ_of_le h.size
  glob := h.glob
  ident := fun g hg => let ⟨q, a, b⟩ := h.ident g hg; ⟨q, h.fQ p _ _ a, b⟩
  dom := fun B q hq => by
    unfold Emb.ins at hq
    show B < st.n + 1
    split at hq
    · omega
    · exact Nat.lt_succ_of_lt (h.dom B q hq)
  live := fun B o' hB => by
    by_cases e : B = st.n
    · subst e
      simp [St.new] at hB
      subst hB
      exact ⟨p, by simp [Emb.ins], ho⟩
    · simp [St.new, e] at hB
      obtain ⟨q, hq, hoq⟩ := h.live B o' hB
      exact ⟨q, h.fQ p _ _ hq, hoq.mono (h.fQ p) (Below.heap_alloc _ _ _ hoq.lt)⟩
  dis := fun B1 B2 o1 o2 p1 p2 hne h1 h2 k1 k2 q1 q2 => by
    by_cases e1 : B1 = st.n
    · have e2 : B2 ≠ st.n := fun e => hne (e1.trans e.symm)
      simp [St.new, e2] at h2
      simp [Emb.ins, e1] at q1
      simp [Emb.ins, e2] at q2
      obtain ⟨q, hq, hoq⟩ := h.live B2 o2 h2
      rw [hq] at q2; injection q2 with q2; subst q2 q1
      have := hoq.lt; omega
    · simp [St.new, e1] at h1
      simp [Emb.ins, e1] at q1
      by_cases e2 : B2 = st.n
      · simp [Emb.ins, e2] at q2
        obtain ⟨q, hq, hoq⟩ := h.live B1 o1 h1
        rw [hq] at q1; injection q1 with q1; subst q1 q2
        have := hoq.lt; omega
      · simp [St.new, e2] at h2
        simp [Emb.ins, e2] at q2
        exact h.dis B1 B2 o1 o2 p1 p2 hne h1 h2 k1 k2 q1 q2
  kept := fun d hd => ⟨(h.kept d hd).1, (Below.heap_alloc _ _ _ (Array.getElem?_eq_some_iff.1 (h.kept d hd).2).1).trans (h.kept d hd).2⟩
theorem ObR.Gt {p : Pl} {o : Ob} {x : Option (List Deferred)} (ho : ObR cx φ p w o) : w.heap[p.blk]? ≠ some (.deferred x) := fun e => by
  cases o with
  | cells cs ty own => obtain ⟨ccs, fz, h1, _⟩ := ho; rw [e] at h1; cases h1
  | map es clock => obtain ⟨ces, h1, _⟩ := ho; rw [e] at h1; cases h1
  | siter s pos => have h1 := ho.1; rw [e] at h1; cases h1
  | mbox V ty => obtain ⟨v, h1, _⟩ := ho; rw [e] at h1; cases h1
  | loop r => obtain ⟨fn, tmps, D, h1, _⟩ := ho; rw [e] at h1; cases h1
theorem HR.turn (h : HR cx φ st w) {B : Nat} {o o' : Ob} {p : Pl} (hB : st.H B = some o) (hp : φ B = some p) (hown : o.own = true) (hown' : o'.own = true)
    (hb : Below cx.base w w') (hother : ∀ g, g ≠ p.blk → w'.heap[g]? = w.heap[g]?)
    (hcells : ∀ q : Pl, q.blk ≠ p.blk → ∀ ψ' o1, ObR cx φ q w o1 → o1.own = true → ψ' = φ → ObR cx φ q w' o1) (ho : ObR cx φ p w' o') : HR cx φ (st.set B (some o')) w' where
  below := h.below.trans hb
  size := Nat.le_trans h.size hb.size
  glob := h.glob
  ident := h.ident
  dom := h.dom
  live := fun B' o1 hB' => by
    by_cases e : B' = B
    · subst e
      simp [St.set] at hB'
      subst hB'
      exact ⟨p, hp, ho⟩
    · simp [St.set, e] at hB'
      obtain ⟨q, hq, hoq⟩ := h.live B' o1 hB'
      refine ⟨q, hq, ?_⟩
      by_cases hq1 : o1.own = true
      · exact hcells q (h.dis B' B o1 o q p e hB' hB hq1 hown hq hp) φ o1 hoq hq1 rfl
      · refine hoq.mono (Emb.le_refl _) (hother _ ?_)
        obtain ⟨p0, hp0, hop⟩ := h.live B o hB
        rw [hp] at hp0; injection hp0 with hp0; subst hp0
        have h1 := hop.Gs hown
        cases o1 with
        | cells cs ty own =>
          obtain ⟨ccs, fz, _, _, _, _, h5, _⟩ := hoq
          have := (h5 (by simpa [Ob.own] using hq1)).1
          omega
        | map es clock => simp [Ob.own] at hq1
        | siter s pos => simp [Ob.own] at hq1
        | mbox V ty => simp [Ob.own] at hq1
        | loop r => simp [Ob.own] at hq1
  dis := fun B1 B2 o1 o2 p1 p2 hne h1 h2 k1 k2 q1 q2 => by
    have hold : ∀ B' o1, (st.set B (some o')).H B' = some o1 → o1.own = true → ∃ o2, st.H B' = some o2 ∧ o2.own = true := fun B' o1 hB' ho1 => by
      by_cases e : B' = B
      · exact ⟨o, e ▸ hB, hown⟩
      · simp [St.set, e] at hB'
        exact ⟨o1, hB', ho1⟩
    obtain ⟨o1', h1', k1'⟩ := hold B1 o1 h1 k1
    obtain ⟨o2', h2', k2'⟩ := hold B2 o2 h2 k2
    exact h.dis B1 B2 o1' o2' p1 p2 hne h1' h2' k1' k2' q1 q2
  kept := fun d hd => by
    obtain ⟨h1, h2⟩ := h.kept d hd
    refine ⟨h1, ?_⟩
    rw [hother d fun e => ?_]
    · exact h2
    · obtain ⟨p0, hp0, hop⟩ := h.live B o hB
      rw [hp] at hp0; injection hp0 with hp0; subst hp0
      subst e
      exact hop.Gt h2
theorem HR.store (h : HR cx φ st w) {B : Nat} {cs : List Value} {ty : TypeId} {p : Pl} (hB : st.H B = some (.cells cs ty true)) (hp : φ B = some p)
    {i : Nat} (hi : i < cs.length) {V v : Value} (hv : VR φ V v) :
    HR cx φ (st.set B (some (.cells (cs.set i V) ty true))) (w.setCell ⟨p.blk, p.off + i, none⟩ v) := by
  obtain ⟨p0, hp0, hop⟩ := h.live B _ hB
  rw [hp] at hp0; injection hp0 with hp0; subst hp0
  have hop' := hop
  obtain ⟨ccs, fz, h1, h2, h3, h4, h5, h6⟩ := hop
  have hblk : (w.setCell ⟨p.blk, p.off + i, none⟩ v).heap[p.blk]? = some (.cells (ccs.setIfInBounds (p.off + i) v) ty fz) := by
    simp only [World.setCell, Array.getElem?_modify, if_true, h1, Option.map_some]
    rfl
  refine h.turn hB hp rfl rfl ((Below.refl _ _).setCell (h6 rfl).1 _) (fun g hg => Below.heap_setCell _ _ _ _ hg) ?_ ?_
  · intro q hqb _ o1 ho1 hown _
    exact ho1.mono (Emb.le_refl _) (Below.heap_setCell _ _ _ _ hqb)
  · refine ⟨_, fz, hblk, by simpa using h2, by simpa using h3, fun j U hj => ?_, h5, by simpa using h6⟩
    by_cases e : j = i
    · subst e
      have : (cs.set j V)[j]? = some V := by simp [hi]
      rw [this] at hj
      injection hj with hj
      subst hj
      refine ⟨v, ?_, hv⟩
      rw [Array.getElem?_setIfInBounds_self_of_lt (by omega)]
    · rw [List.getElem?_set_ne (by omega)] at hj
      obtain ⟨u, hu, hr⟩ := h4 j U hj
      exact ⟨u, by rw [Array.getElem?_setIfInBounds_ne (by omega)]; exact hu, hr⟩
theorem HR.load (h : HR cx φ st w) {B : Nat} {cs : List Value} {ty : TypeId} {own : Bool} {p : Pl} (hB : st.H B = some (.cells cs ty own)) (hp : φ B = some p)
    {i : Nat} {V : Value} (hi : cs[i]? = some V) : ∃ v, w.cell? ⟨p.blk, p.off + i, none⟩ = some v ∧ VR φ V v := by
  obtain ⟨p0, hp0, hop⟩ := h.live B _ hB
  rw [hp] at hp0; injection hp0 with hp0; subst hp0
  obtain ⟨ccs, fz, h1, h2, h3, h4, h5, h6⟩ := hop
  obtain ⟨v, hv, hr⟩ := h4 i V hi
  exact ⟨v, by simp [World.cell?, h1, hv], hr⟩
theorem HR.sP (h : HR cx φ st w) {B : Nat} {cs : List Value} {ty : TypeId} {p : Pl} (hB : st.H B = some (.cells cs ty true)) (hp : φ B = some p)
    {i : Nat} (hi : i < cs.length) : w.frozen? ⟨p.blk, p.off + i, none⟩ = false := by
  obtain ⟨p0, hp0, hop⟩ := h.live B _ hB
  rw [hp] at hp0; injection hp0 with hp0; subst hp0
  obtain ⟨ccs, fz, h1, h2, h3, h4, h5, h6⟩ := hop
  have : fz.1 = fz.2 ∨ ccs.size ≤ fz.1 := (h6 rfl).2.2.imp id (·.1)
  simp only [World.frozen?, h1]
  obtain ⟨lo, hi'⟩ := fz
  simp at this ⊢
  omega
end
end Go.Abs
