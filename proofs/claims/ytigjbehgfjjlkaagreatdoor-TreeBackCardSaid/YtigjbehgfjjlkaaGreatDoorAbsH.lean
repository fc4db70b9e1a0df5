/- One operation (calls of functions apart): what it does to the abstract heap; that the model's does the same. -/
import Derived.Test.YtigjbehgfjjlkaaGreatDoorAbsK
set_option linter.unusedVariables false
set_option linter.unusedSimpArgs false
namespace Go.Abs
open Go.RowKit
section
variable {cx : Cx} {φ : Emb} {st : St} {w : World}
def jl : Value → Option Value
  | .pointer (some a) => some (.pointer (some a))
  | .func (.func f) a b => some (.func (.func f) a b)
  | _ => none
def yA (vs : Array Value) : Bool := match (vs[0]? : Option Value) with
  | some (.pointer _) => false
  | _ => true
def kD (x : Value) (i : Nat) : Option Value :=
  match x with
  | .tuple vs => if vs.size = 1 then bif yA vs then vs[i]? else none else vs[i]?
  | _ => none
def tC (P : Program) (t : TypeId) (x : Value) : Option Value :=
  match P.underlying t with
  | some (.interface _) => none
  | some _ => some (.iface t x)
  | none => none
def tF (c a b : Value) : Option Value :=
  match c with
  | .bool z => some (bif z then a else b)
  | _ => none
def kV (P : Program) (st : St) (t : TypeId) (a : Value) : Option Value :=
  match a with
  | .pointer (some ⟨B, off, none⟩) => zT P st t B off
  | _ => none
def jP (P : Program) (st : St) (t : TypeId) (a x : Value) : Option St :=
  match a with
  | .pointer (some ⟨B, off, none⟩) => sQ P st t B off x
  | _ => none
def oQ (P : Program) (st : St) (t : TypeId) (x : Value) : Option (Value × St) :=
  match P.underlying t, x with
  | some .string, .string s => some (.pointer (some ⟨st.n, 0, none⟩), st.new (.siter s 0))
  | _, _ => none
def qG (st : St) (it : Value) (z : Bool) : Option (Value × St) :=
  match it with
  | .pointer (some ⟨B, 0, none⟩) => match st.H B with
    | some (.siter s pos) => bif z then (if pos < s.size then some (.tuple #[.bool true, .int .i64 (pos : Nat), .int .i32 ((Utf8.decode s pos).1 : Nat)], st.set B (some (.siter s (pos + (Utf8.decode s pos).2)))) else some (.tuple #[.bool false], st)) else none
    | _ => none
  | _ => none
def sI (P : Program) (t : TypeId) (c : Bool) (x : Value) : Option Value :=
  match P.underlying t, x with
  | some (.interface _), _ => none
  | some _, .iface t' V => if c = false ∧ t' = t then some V else none
  | _, _ => none
def aop (P : Program) (ρ : Operand → Value) (st : St) (o : Op) : Option (Value × St) :=
  match o with
  | .move x | .assign x => some (ρ x, st)
  | .pick c a b => (tF (ρ c) (ρ a) (ρ b)).map fun v => (v, st)
  | .alloc t => bB P st t
  | .box t x => abox st t (ρ x)
  | .build t ps => (jY P t (ps.toList.map fun p => (p.1, ρ p.2))).map fun v => (v, st)
  | .buildSlice t n ps => aL P st t n (ps.toList.map fun p => (p.1, ρ p.2))
  | .load t a => (kV P st t (ρ a)).map fun v => (v, st)
  | .store t a x => (jP P st t (ρ a) (ρ x)).map fun st' => (undef, st')
  | .nilCheck x => (jl (ρ x)).map fun v => (v, st)
  | .binOp op t x y _ => (abin P op t x y (ρ x) (ρ y)).map fun v => (v, st)
  | .unOp op _ x => (aun op (ρ x)).map fun v => (v, st)
  | .convert s d x => dL P st s d (ρ x)
  | .makeInterface t x => (tC P t (ρ x)).map fun v => (v, st)
  | .makeFunc fn a b => bif gK fn then some (.func fn (a.map ρ) (b.map ρ), st) else none
  | .makeSlice t l c => ak P st t (ρ l) (ρ c)
  | .slice t x lo hi mx => (aslice P st t (ρ x) (lo.map ρ) (hi.map ρ) (mx.map ρ)).map fun v => (v, st)
  | .fieldAddr t x f => (fT P t (ρ x) f).map fun v => (v, st)
  | .field t x f => (qA P t (ρ x) f).map fun v => (v, st)
  | .indexAddr t x i => (fU P t (ρ x) (ρ i)).map fun v => (v, st)
  | .index t x i => (jr P t (ρ x) (ρ i)).map fun v => (v, st)
  | .extract x i => (kD (ρ x) i).map fun v => (v, st)
  | .call { callee := .builtin b, args, argTypes } => d9 P st b argTypes (args.toList.map ρ)
  | .makeMap t r => kC P st t (r.map ρ)
  | .lookup t x i ok => (oO P st t (ρ x) (ρ i) ok).map fun v => (v, st)
  | .mapUpdate t m k v => (eO P st t (ρ m) (ρ k) (ρ v)).map fun st' => (undef, st')
  | .range t x => oQ P st t (ρ x)
  | .next it z => qG st (ρ it) z
  | .typeAssert x s t c => (sI P t c (ρ x)).map fun v => (v, st)
  | _ => none
def OutN (cx : Cx) (φ : Emb) (V : Value) (st : St) (r : Result Next) : Prop :=
  ∃ φ' nx v w', r = .ok nx w' ∧ (nx = .value v ∨ nx = .skip ∧ v = undef) ∧ φ.le φ' ∧ VR φ' V v ∧ HR cx φ' st w'
theorem aY {f : Option Value} {V : Value} {st st' : St} (h : f.map (fun v => (v, st)) = some (V, st')) : f = some V ∧ st = st' := by
  cases f with
  | none => simp at h
  | some v => simp at h; exact ⟨by rw [h.1], h.2⟩
theorem OutN.val (h : HR cx φ st w) {V v : Value} (hv : VR φ V v) {s : Sem Value} (hs : s.run cx.P w = .ok v w) : OutN cx φ V st ((do pure (Next.value (← s)) : Sem Next).run cx.P w) :=
  ⟨φ, .value v, v, w, by simp [hs], .inl rfl, Emb.le_refl _, hv, h⟩
theorem OutN.of {V : Value} {st' : St} {s : Sem Value} (h : Out cx φ V st' (s.run cx.P w)) : OutN cx φ V st' ((do pure (Next.value (← s)) : Sem Next).run cx.P w) := by
  obtain ⟨φ', v, w', h1, h2, h3, h4⟩ := h
  exact ⟨φ', .value v, v, w', by simp [h1], .inl rfl, h2, h3, h4⟩
theorem VRP.map {ρ r : Operand → Value} (hr : ∀ o, VR φ (ρ o) (r o)) : ∀ l : List (Nat × Operand), VRP φ (l.map fun p => (p.1, ρ p.2)) (l.map fun p => (p.1, r p.2))
  | [] => trivial
  | p :: l => ⟨rfl, hr _, VRP.map hr l⟩
theorem VRL.mapO {ρ r : Operand → Value} (hr : ∀ o, VR φ (ρ o) (r o)) : ∀ l : List Operand, VRL φ (l.map ρ) (l.map r)
  | [] => VRL.nil
  | o :: l => (VRL.mapO hr l).cons (hr o)
theorem VRO.map {ρ r : Operand → Value} (hr : ∀ o, VR φ (ρ o) (r o)) : ∀ l : Option Operand, VRO φ (l.map ρ) (l.map r)
  | none => trivial
  | some o => hr o
theorem VRA.mapO {ρ r : Operand → Value} (hr : ∀ o, VR φ (ρ o) (r o)) (l : Array Operand) : VRA φ (l.map ρ) (l.map r) :=
  ⟨by simp, fun i h1 h2 => by simp only [Array.getElem_map]; exact hr _⟩
theorem vR (h : HR cx φ st w) {t : TypeId} {X x V : Value} {st' : St} (hx : VR φ X x) (ha : oQ cx.P st t X = some (V, st')) : Out cx φ V st' ((Instr.range t x).run cx.P w) := by
  unfold oQ at ha
  split at ha
  · rename_i s hu
    injection ha with ha; simp only [Prod.mk.injEq] at ha; obtain ⟨rfl, rfl⟩ := ha
    obtain rfl := hx.bS
    refine ⟨_, .pointer (some ⟨w.heap.size, 0, none⟩), w.alloc (.stringIter s 0), ?_, h.fQ ⟨w.heap.size, 0, 1, 0⟩, .ptr (p := ⟨w.heap.size, 0, 1, 0⟩) (by simp [Emb.ins]), h.new (.siter s 0) _ ⟨w.heap.size, 0, 1, 0⟩ rfl ⟨(by show (w.heap.push _)[w.heap.size]? = _; exact Array.getElem?_push_size), h.size, rfl, rfl⟩⟩
    simp [Instr.range, run_underlying hu]
  · cases ha
theorem yB (h : HR cx φ st w) {X x V : Value} {st' : St} {z : Bool} {ty : TypeId} (hx : VR φ X x) (ha : qG st X z = some (V, st')) : Out cx φ V st' ((Instr.next x z ty).run cx.P w) := by
  unfold qG at ha
  split at ha
  · rename_i B
    split at ha
    · rename_i s pos hB
      cases z with
      | false => cases ha
      | true =>
        obtain ⟨p, hp, g1, g2, g3, g4⟩ := h.live B _ hB
        obtain rfl : x = .pointer (some ⟨p.blk, 0, none⟩) := by
          cases hx with
          | ptr h' => rw [hp] at h'; injection h' with h'; subst h'; rw [g3]
        have hg : (getObj p.blk).run cx.P w = .ok (.stringIter s pos) w := by simp [getObj, Sem.run, g1]
        simp only [cond_true] at ha
        split at ha
        · rename_i hlt
          injection ha with ha; simp only [Prod.mk.injEq] at ha; obtain ⟨rfl, rfl⟩ := ha
          have hset : (setObj p.blk (.stringIter s (pos + (Utf8.decode s pos).2))).run cx.P w = .ok () { w with heap := w.heap.setIfInBounds p.blk (.stringIter s (pos + (Utf8.decode s pos).2)) } := by simp [setObj, Sem.run, g1]
          have hlt2 := (Array.getElem?_eq_some_iff.1 g1).1
          refine ⟨φ, .tuple #[.bool true, .int .i64 (pos : Nat), .int .i32 ((Utf8.decode s pos).1 : Nat)], { w with heap := w.heap.setIfInBounds p.blk (.stringIter s (pos + (Utf8.decode s pos).2)) }, ?_, Emb.le_refl _, ?_, ?_⟩
          · simp [Instr.next, hg, hlt, hset, goInt]
          · refine .tuple rfl fun i h1 h2 => ?_
            match i, h1 with
            | 0, _ => exact .bool _
            | 1, _ => exact .int _ _
            | 2, _ => exact .int _ _
          · refine h.turn hB hp rfl rfl ⟨rfl, rfl, rfl, by simp, fun k hk => ?_⟩ (fun g hg => ?_) (fun q hqb _ o1 ho1 hown _ => ?_) ⟨?_, g2, g3, g4⟩
            · show (w.heap.setIfInBounds p.blk _)[k]? = _
              rw [Array.getElem?_setIfInBounds_ne (by omega)]
            · show (w.heap.setIfInBounds p.blk _)[g]? = _
              rw [Array.getElem?_setIfInBounds_ne (fun e => hg e.symm)]
            · refine ho1.mono (Emb.le_refl _) ?_
              show (w.heap.setIfInBounds p.blk _)[q.blk]? = _
              rw [Array.getElem?_setIfInBounds_ne (fun e => hqb e.symm)]
            · show (w.heap.setIfInBounds p.blk _)[p.blk]? = _
              rw [Array.getElem?_setIfInBounds_self_of_lt hlt2]
        · rename_i hlt
          injection ha with ha; simp only [Prod.mk.injEq] at ha; obtain ⟨rfl, rfl⟩ := ha
          refine ⟨φ, .tuple #[.bool false], w, by simp [Instr.next, hg, hlt], Emb.le_refl _, ?_, h⟩
          refine .tuple rfl fun i h1 h2 => ?_
          match i, h1 with
          | 0, _ => exact .bool _
    · cases ha
  · cases ha
theorem EW (h : HR cx φ st w) {ρ r : Operand → Value} (hr : ∀ o, VR φ (ρ o) (r o)) {o : Oper} {V : Value} {st' : St} (ha : aop cx.P ρ st o.op = some (V, st')) : OutN cx φ V st' ((execOp r o).run cx.P w) := by
  obtain ⟨dst, op, oty, pos, aft, grd⟩ := o
  have ptr : ∀ (a : Operand) (B off : Nat), ρ a = .pointer (some ⟨B, off, none⟩) → ∃ p, φ B = some p ∧ r a = .pointer (some ⟨p.blk, p.off + off, none⟩) := fun a B off hB => by
    have hc := hr a
    rw [hB] at hc
    generalize hx : r a = x at hc
    cases hc with
    | ptr hp => exact ⟨_, hp, rfl⟩
  cases op with
  | move x =>
    have e : (ρ x, st) = (V, st') := Option.some.inj ha
    simp only [Prod.mk.injEq] at e; obtain ⟨rfl, rfl⟩ := e
    exact ⟨φ, .value (r x), r x, w, rfl, .inl rfl, Emb.le_refl _, hr x, h⟩
  | assign x =>
    have e : (ρ x, st) = (V, st') := Option.some.inj ha
    simp only [Prod.mk.injEq] at e; obtain ⟨rfl, rfl⟩ := e
    exact ⟨φ, .value (r x), r x, w, rfl, .inl rfl, Emb.le_refl _, hr x, h⟩
  | pick c a b =>
    obtain ⟨hb, rfl⟩ := aY (f := tF (ρ c) (ρ a) (ρ b)) ha
    unfold tF at hb
    split at hb
    · rename_i z hz
      injection hb with hb; subst hb
      have hc := hr c
      rw [hz] at hc
      have hc' := hc.gM
      have e : execOp r ⟨dst, .pick c a b, oty, pos, aft, grd⟩ = (do pure (Next.value (if ← asBool (r c) then r a else r b)) : Sem Next) := rfl
      refine ⟨φ, .value (if z then r a else r b), _, w, by rw [e, hc']; simp [asBool], .inl rfl, Emb.le_refl _, ?_, h⟩
      cases z
      · exact hr b
      · exact hr a
    · cases hb
  | alloc t =>
    have e : execOp r ⟨dst, .alloc t, oty, pos, aft, grd⟩ = (do pure (Next.value (← Instr.alloc t true (.tuple #[]))) : Sem Next) := rfl
    rw [e]
    exact OutN.of (s := Instr.alloc t true (.tuple #[])) (xR h ha)
  | box t x =>
    have e : execOp r ⟨dst, .box t x, oty, pos, aft, grd⟩ = (do pure (Next.value (← Instr.box t (r x))) : Sem Next) := rfl
    rw [e]
    exact OutN.of (s := Instr.box t (r x)) (BU h (hr x) ha)
  | build t ps =>
    have ha' : (jY cx.P t (ps.toList.map fun p => (p.1, ρ p.2))).map (fun v => (v, st)) = some (V, st') := ha
    obtain ⟨hb, rfl⟩ := aY ha'
    obtain ⟨v, h1, h2⟩ := xX (cx := cx) (w := w) (Ps := ps.map fun p => (p.1, ρ p.2)) (ps := ps.map fun p => (p.1, r p.2)) (by simpa using VRP.map hr ps.toList) (by simpa using hb)
    have e : execOp r ⟨dst, .build t ps, oty, pos, aft, grd⟩ = (do pure (Next.value (← Instr.build t (ps.map fun (i, x) => (i, r x)))) : Sem Next) := rfl
    have em : (ps.map fun ((i, x) : Nat × Operand) => (i, r x)) = ps.map fun p => (p.1, r p.2) := by congr
    rw [e, em]
    exact OutN.val h h2 h1
  | buildSlice t n ps =>
    have ha' : aL cx.P st t n (ps.toList.map fun p => (p.1, ρ p.2)) = some (V, st') := ha
    have hs := oL h (Ps := ps.map fun p => (p.1, ρ p.2)) (ps := ps.map fun p => (p.1, r p.2)) (by simpa using VRP.map hr ps.toList) (by simpa using ha')
    have e : execOp r ⟨dst, .buildSlice t n ps, oty, pos, aft, grd⟩ = (do pure (Next.value (← Instr.buildSlice t n (ps.map fun (i, x) => (i, r x)))) : Sem Next) := rfl
    have em : (ps.map fun ((i, x) : Nat × Operand) => (i, r x)) = ps.map fun p => (p.1, r p.2) := by congr
    rw [e, em]
    exact OutN.of hs
  | load t a =>
    obtain ⟨hb, rfl⟩ := aY (f := kV cx.P st t (ρ a)) ha
    unfold kV at hb
    split at hb
    · rename_i B off hB
      obtain ⟨p, hp, hx⟩ := ptr a B off hB
      obtain ⟨v, h1, h2⟩ := rC h hp hb
      have e : execOp r ⟨dst, .load t a, oty, pos, aft, grd⟩ = (do pure (Next.value (← Instr.loadAt t (r a))) : Sem Next) := rfl
      rw [e]
      exact OutN.val h h2 (s := Instr.loadAt t (r a)) (by rw [hx]; exact h1)
    · cases hb
  | store t a x =>
    have ha' : (jP cx.P st t (ρ a) (ρ x)).map (fun st' => (undef, st')) = some (V, st') := ha
    cases hst : jP cx.P st t (ρ a) (ρ x) with
    | none => rw [hst] at ha'; cases ha'
    | some st1 =>
      rw [hst] at ha'
      have e2 : (undef, st1) = (V, st') := Option.some.inj ha'
      simp only [Prod.mk.injEq] at e2
      obtain ⟨rfl, rfl⟩ := e2
      unfold jP at hst
      split at hst
      · rename_i B off hB
        obtain ⟨p, hp, hx⟩ := ptr a B off hB
        obtain ⟨w', h1, h2⟩ := xQ h hp (hr x) hst
        have e : execOp r ⟨dst, .store t a x, oty, pos, aft, grd⟩ = (do Instr.storeAt t (r a) (r x); pure Next.skip : Sem Next) := rfl
        exact ⟨φ, .skip, undef, w', by rw [e, hx]; simp [h1], .inr ⟨rfl, rfl⟩, Emb.le_refl _, .junk _, h2⟩
      · cases hst
  | nilCheck x =>
    obtain ⟨hb, rfl⟩ := aY ha
    have hc := hr x
    unfold jl at hb
    split at hb
    · rename_i a hx
      injection hb with hb; subst hb
      rw [hx] at hc
      generalize hx2 : r x = x2 at hc
      cases hc with
      | ptr hp => exact ⟨φ, .value _, _, w, by simp [execOp, hx2], .inl rfl, Emb.le_refl _, .ptr hp, h⟩
    · rename_i f a b hx
      injection hb with hb; subst hb
      rw [hx] at hc
      generalize hx2 : r x = x2 at hc
      cases hc with
      | func fn h0 h1 h2 h3 h4 => exact ⟨φ, .value _, _, w, by simp [execOp, hx2], .inl rfl, Emb.le_refl _, .func _ h0 h1 h2 h3 h4, h⟩
    · cases hb
  | binOp op t x y t2 =>
    obtain ⟨hb, rfl⟩ := aY ha
    obtain ⟨h1, h2⟩ := Cc (w := w) (hr x) (hr y) hb
    have e : execOp r ⟨dst, .binOp op t x y t2, oty, pos, aft, grd⟩ = (do pure (Next.value (← (do eqGuard op t x y (r x) (r y); binOp op t (r x) (r y)))) : Sem Next) := rfl
    rw [e]
    exact OutN.val h h2 (s := do eqGuard op t x y (r x) (r y); binOp op t (r x) (r y)) h1
  | unOp op t x =>
    obtain ⟨hb, rfl⟩ := aY ha
    obtain ⟨h1, h2⟩ := ET (cx := cx) (w := w) (hr x) hb
    have e : execOp r ⟨dst, .unOp op t x, oty, pos, aft, grd⟩ = (do pure (Next.value (← Op.unary op (r x))) : Sem Next) := rfl
    rw [e]
    exact OutN.val h h2 (s := Op.unary op (r x)) h1
  | convert s d x =>
    have e : execOp r ⟨dst, .convert s d x, oty, pos, aft, grd⟩ = (do pure (Next.value (← convert s d (r x))) : Sem Next) := rfl
    rw [e]
    exact OutN.of (s := convert s d (r x)) (Aa h (hr x) ha)
  | makeInterface t x =>
    obtain ⟨hb, rfl⟩ := aY ha
    unfold tC at hb
    cases hu : cx.P.underlying t with
    | none => rw [hu] at hb; cases hb
    | some d =>
      rw [hu] at hb
      have hrun : (Instr.makeInterface t (r x)).run cx.P w = .ok (.iface t (r x)) w := by
        cases d <;> first
          | (cases hb; done)
          | (simp [Instr.makeInterface, run_underlying hu]; done)
      have hV : V = .iface t (ρ x) := by cases d <;> first | (cases hb; done) | (injection hb with hb; exact hb.symm)
      subst hV
      have e : execOp r ⟨dst, .makeInterface t x, oty, pos, aft, grd⟩ = (do pure (Next.value (← Instr.makeInterface t (r x))) : Sem Next) := rfl
      rw [e]
      exact OutN.val h (.iface t (hr x)) (s := Instr.makeInterface t (r x)) hrun
  | makeFunc fn a b =>
    have ha' : (bif gK fn then some (Value.func fn (a.map ρ) (b.map ρ), st) else none) = some (V, st') := ha
    cases hpf : gK fn with
    | false => rw [hpf] at ha'; cases ha'
    | true =>
    rw [hpf] at ha'
    have e2 : (Value.func fn (a.map ρ) (b.map ρ), st) = (V, st') := Option.some.inj ha'
    simp only [Prod.mk.injEq] at e2; obtain ⟨rfl, rfl⟩ := e2
    have h1 := VRA.mapO (φ := φ) hr a
    have h2 := VRA.mapO (φ := φ) hr b
    have e : execOp r ⟨dst, .makeFunc fn a b, oty, pos, aft, grd⟩ = (do pure (Next.value (← Instr.makeFunc fn (a.map r) (b.map r))) : Sem Next) := rfl
    rw [e]
    exact OutN.val h (.func fn hpf h1.1 h1.2 h2.1 h2.2) (s := Instr.makeFunc fn (a.map r) (b.map r)) (by simp [Instr.makeFunc])
  | makeSlice t l c =>
    have e : execOp r ⟨dst, .makeSlice t l c, oty, pos, aft, grd⟩ = (do pure (Next.value (← Instr.makeSlice t (r l) (r c))) : Sem Next) := rfl
    rw [e]
    exact OutN.of (s := Instr.makeSlice t (r l) (r c)) (zU h (hr l) (hr c) ha)
  | slice t x lo hi mx =>
    obtain ⟨hb, rfl⟩ := aY ha
    obtain ⟨v, h1, h2⟩ := xW h (hr x) (VRO.map hr lo) (VRO.map hr hi) (VRO.map hr mx) hb
    have e : execOp r ⟨dst, .slice t x lo hi mx, oty, pos, aft, grd⟩ = (do pure (Next.value (← Instr.sliceAt t (r x) (lo.map r) (hi.map r) (mx.map r))) : Sem Next) := rfl
    rw [e]
    exact OutN.val h h2 (s := Instr.sliceAt t (r x) (lo.map r) (hi.map r) (mx.map r)) h1
  | fieldAddr t x f =>
    obtain ⟨hb, rfl⟩ := aY ha
    obtain ⟨v, h1, h2⟩ := qz (w := w) (hr x) hb
    have e : execOp r ⟨dst, .fieldAddr t x f, oty, pos, aft, grd⟩ = (do pure (Next.value (← Instr.fieldAt t (r x) f)) : Sem Next) := rfl
    rw [e]
    exact OutN.val h h2 (s := Instr.fieldAt t (r x) f) h1
  | field t x f =>
    obtain ⟨hb, rfl⟩ := aY ha
    obtain ⟨v, h1, h2⟩ := xU (w := w) (hr x) hb
    have e : execOp r ⟨dst, .field t x f, oty, pos, aft, grd⟩ = (do pure (Next.value (← Instr.field t (r x) f)) : Sem Next) := rfl
    rw [e]
    exact OutN.val h h2 (s := Instr.field t (r x) f) h1
  | indexAddr t x i =>
    obtain ⟨hb, rfl⟩ := aY ha
    obtain ⟨v, h1, h2⟩ := qB (w := w) (hr x) (hr i) hb
    have e : execOp r ⟨dst, .indexAddr t x i, oty, pos, aft, grd⟩ = (do pure (Next.value (← Instr.indexAt t (r x) (r i))) : Sem Next) := rfl
    rw [e]
    exact OutN.val h h2 (s := Instr.indexAt t (r x) (r i)) h1
  | index t x i =>
    obtain ⟨hb, rfl⟩ := aY ha
    obtain ⟨v, h1, h2⟩ := xV (w := w) (hr x) (hr i) hb
    have e : execOp r ⟨dst, .index t x i, oty, pos, aft, grd⟩ = (do pure (Next.value (← Instr.index t (r x) (r i))) : Sem Next) := rfl
    rw [e]
    exact OutN.val h h2 (s := Instr.index t (r x) (r i)) h1
  | extract x i =>
    obtain ⟨hb, rfl⟩ := aY ha
    have hc := hr x
    unfold kD at hb
    split at hb
    · rename_i vs hx
      rw [hx] at hc
      generalize hx2 : r x = x2 at hc
      cases hc with
      | junk => simp at hb
      | skip => simp [yA] at hb
      | tuple h1 h2 =>
        have hb : vs[i]? = some V := by
          split at hb
          · cases hn : yA vs with
            | true => rw [hn] at hb; exact hb
            | false => rw [hn] at hb; cases hb
          · exact hb
        obtain ⟨v, hv, hrv⟩ := (show VRA φ _ _ from ⟨h1, h2⟩).get hb
        have e : execOp r ⟨dst, .extract x i, oty, pos, aft, grd⟩ = (do pure (Next.value (← Instr.extract (r x) i)) : Sem Next) := rfl
        rw [e]
        exact OutN.val h hrv (s := Instr.extract (r x) i) (by simp [Instr.extract, hx2, hv])
    · cases hb
  | makeMap t m =>
    have e : execOp r ⟨dst, .makeMap t m, oty, pos, aft, grd⟩ = (do pure (Next.value (← Instr.makeMap t (m.map r))) : Sem Next) := rfl
    rw [e]
    exact OutN.of (s := Instr.makeMap t (m.map r)) (tu h (by cases m with | none => trivial | some m => exact hr m) ha)
  | lookup t x i ok =>
    obtain ⟨hb, rfl⟩ := aY ha
    obtain ⟨v, h1, h2⟩ := vO (w := w) h (hr x) (hr i) hb
    have e : execOp r ⟨dst, .lookup t x i ok, oty, pos, aft, grd⟩ = (do pure (Next.value (← Instr.lookup t (r x) (r i) ok)) : Sem Next) := rfl
    rw [e]
    exact OutN.val h h2 (s := Instr.lookup t (r x) (r i) ok) h1
  | mapUpdate t m k v =>
    have ha' : (eO cx.P st t (ρ m) (ρ k) (ρ v)).map (fun st' => (undef, st')) = some (V, st') := ha
    cases hst : eO cx.P st t (ρ m) (ρ k) (ρ v) with
    | none => rw [hst] at ha'; cases ha'
    | some s2 =>
      rw [hst] at ha'
      injection ha' with ha'
      simp only [Prod.mk.injEq] at ha'
      obtain ⟨rfl, rfl⟩ := ha'
      obtain ⟨w', h1, h2⟩ := qD h (hr m) (hr k) (hr v) hst
      have e : execOp r ⟨dst, .mapUpdate t m k v, oty, pos, aft, grd⟩ = (do Instr.mapUpdate t (r m) (r k) (r v); pure Next.skip : Sem Next) := rfl
      exact ⟨φ, .skip, undef, w', by rw [e]; simp [h1], .inr ⟨rfl, rfl⟩, Emb.le_refl _, .junk _, h2⟩
  | range t x =>
    have e : execOp r ⟨dst, .range t x, oty, pos, aft, grd⟩ = (do pure (Next.value (← Instr.range t (r x))) : Sem Next) := rfl
    rw [e]
    exact OutN.of (s := Instr.range t (r x)) (vR h (hr x) ha)
  | typeAssert x s t c =>
    obtain ⟨hb, rfl⟩ := aY ha
    have hc := hr x
    unfold sI at hb
    split at hb
    · cases hb
    · rename_i d t' V' hnu hu hx
      split at hb
      · rename_i hcond
        obtain ⟨rfl, rfl⟩ := hcond
        injection hb with hb
        subst hb
        rw [hx] at hc
        generalize hx2 : r x = x2 at hc
        cases hc with
        | iface _ hv =>
          have e : execOp r ⟨dst, .typeAssert x s t' false, oty, pos, aft, grd⟩ = (do pure (Next.value (← Instr.typeAssert (r x) s t' false)) : Sem Next) := rfl
          rw [e]
          refine OutN.val h hv (s := Instr.typeAssert (r x) s t' false) ?_
          rw [hx2]
          simp [Instr.typeAssert, run_underlying hu]
          skip
      · cases hb
    · cases hb
  | next it z =>
    have e : execOp r ⟨dst, .next it z, oty, pos, aft, grd⟩ = (do pure (Next.value (← Instr.next (r it) z oty)) : Sem Next) := rfl
    rw [e]
    exact OutN.of (s := Instr.next (r it) z oty) (yB h (hr it) ha)
  | call c =>
    obtain ⟨cal, args, tys⟩ := c
    cases cal with
    | builtin b =>
      obtain ⟨φ', v, w', h1, h2, h3, h4⟩ := rZ (ty := oty) (cs := args.map fun | .const _ => true | _ => false) h (xs := args.map r) (by simpa using VRL.mapO hr args.toList) ha
      exact ⟨φ', .value v, v, w', by simp [execOp, resolve, invoke]; exact h1, .inl rfl, h2, h3, h4⟩
    | value f => cases ha
    | invoke a b => cases ha
  | _ => cases ha
end
end Go.Abs
