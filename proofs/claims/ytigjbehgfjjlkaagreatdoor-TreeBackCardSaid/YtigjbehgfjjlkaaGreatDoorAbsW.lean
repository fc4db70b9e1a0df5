/- Code over the abstract heap: a weakest precondition, and that the model meets it. -/
import Derived.Test.YtigjbehgfjjlkaaGreatDoorAbsH
import Derived.RangeFuncIn
import Derived.RangeFuncRecord
import Derived.OrdersIn
set_option linter.unusedVariables false
set_option linter.unusedSimpArgs false
namespace Go.Abs
open Go.RowKit
abbrev Env := Nat → Value
def put (ρ : Env) (d : Nat) (v : Value) : Env := fun t => if t = d then v else ρ t
def putO (ρ : Env) (d : Option Nat) (v : Value) : Env :=
  match d with
  | some d => put ρ d v
  | none => ρ
def ev (G : Nat) (ρ : Env) : Operand → Value
  | .tmp t => ρ t
  | .const v => bif cst v then v else undef
  | .global g => if g < G then .pointer (some ⟨g, 0, none⟩) else undef
  | .func f => .func (.func f) #[] #[]
def Marks (k0 : Nat → Bool) : (Nat → Bool) → List Deferred → Prop
  | kd, [] => kd = k0
  | kd, m :: r => ∃ d k1, m = { target := .collected d, args := #[] } ∧ k1 d = false ∧ kd = (fun x => k1 x || x == d) ∧ Marks k0 k1 r
structure Fx where
  N : Nat
  k0 : Nat → Bool
  dl : List Deferred
  fix : Nat → Option Value
  flat : Bool
def Fx.can (fx : Fx) : Nat → Bool := fun d => (fx.fix d).isNone && decide (d < fx.N)
def Ck (fx : Fx) (kd : Nat → Bool) (ds : List Deferred) : Prop := ∃ ms, ds = ms ++ fx.dl ∧ Marks fx.k0 kd ms ∧ (fx.flat = true → ms = [])
structure EnvR (φ : Emb) (fx : Fx) (kd : Nat → Bool) (ρ : Env) (a : Act) : Prop where
  size : a.tmps.size = fx.N
  defers : Ck fx kd a.defers
  slot : ∀ t, VR φ (ρ t) (a.tmps.getD t undef)
  keep : ∀ t v, fx.fix t = some v → a.tmps.getD t undef = v
def Gy (fx : Fx) (kd : Nat → Bool) (a : Act) : Prop := Ck fx kd a.defers ∧ ∀ t v, fx.fix t = some v → a.tmps.getD t undef = v
theorem EnvR.gone {φ : Emb} {fx : Fx} {kd : Nat → Bool} {ρ : Env} {a : Act} (h : EnvR φ fx kd ρ a) : Gy fx kd a := ⟨h.defers, h.keep⟩
def pan (V : Value) : Exit := .panic [{ v := V, recovered := false }]
def Gz : Exit → Bool
  | .normal | .exit _ | .goto _ | .ret => true
  | _ => false
abbrev Post := Exit → Env → St → Prop
abbrev dz := Value → St → Prop
def lift (cx : Cx) (fx : Fx) (φ0 : Emb) (Q : Post) (q : dz) : Exit → Act → World → Prop :=
  fun e a w => (∃ kd φ ρ st, Gz e = true ∧ φ0.le φ ∧ HR (cx.at kd) φ st w ∧ EnvR φ fx kd ρ a ∧ Q e ρ st) ∨
    (∃ kd φ V v st, e = pan v ∧ φ0.le φ ∧ VR φ V v ∧ HR (cx.at kd) φ st w ∧ Gy fx kd a ∧ q V st)
def ay (cx : Cx) (f : Nat) (args : List Value) (st : St) (k q : Value → St → Prop) : Prop :=
  ∀ kd φ w (vals : Array Value), HR (cx.at kd) φ st w → VRL φ args vals.toList →
    Calls cx.P f vals w fun e w' => match e with
      | .returned v => ∃ φ' V st', φ.le φ' ∧ VR φ' V v ∧ HR (cx.at kd) φ' st' w' ∧ k V st'
      | .panicked ch => ∃ φ' V v st', ch = [{ v := v, recovered := false }] ∧ φ.le φ' ∧ VR φ' V v ∧ HR (cx.at kd) φ' st' w' ∧ q V st'
      | .outgrown => False
theorem ay.mono {cx : Cx} {f : Nat} {args : List Value} {st : St} {k q k' q' : Value → St → Prop} (h : ay cx f args st k q) (hk : ∀ V st, k V st → k' V st) (hq : ∀ V st, q V st → q' V st) : ay cx f args st k' q' :=
  fun kd φ w vals h1 h2 => (h kd φ w vals h1 h2).mono fun e w' he => by
    cases e with
    | returned v => obtain ⟨φ', V, st', a, b, c, d⟩ := he; exact ⟨φ', V, st', a, b, c, hk _ _ d⟩
    | panicked ch => obtain ⟨φ', V, v, st', e, a, b, c, d⟩ := he; exact ⟨φ', V, v, st', e, a, b, c, hq _ _ d⟩
    | outgrown => exact he
def au (cx : Cx) (f : Nat) (args : List Value) (st : St) (k q : Value → St → Prop) : Prop :=
  ((∃ fn, cx.P.funcs[f]? = some fn ∧ fn.body.isSome = true ∧ (fn.name == "runtime.NumGoroutine") = false) ∧ ay cx f args st k q) ∨
  (∀ kd φ w (vals : Array Value), HR (cx.at kd) φ st w → VRL φ args vals.toList → ∃ φ' V v st' w', (callFunc f vals).run cx.P w = .ok (.value v) w' ∧ φ.le φ' ∧ VR φ' V v ∧ HR (cx.at kd) φ' st' w' ∧ k V st')
theorem au.mono {cx : Cx} {f : Nat} {args : List Value} {st : St} {k q k' q' : Value → St → Prop} (h : au cx f args st k q) (hk : ∀ V st, k V st → k' V st) (hq : ∀ V st, q V st → q' V st) : au cx f args st k' q' := by
  rcases h with ⟨h1, h2⟩ | h
  · exact .inl ⟨h1, h2.mono hk hq⟩
  · exact .inr fun kd φ w vals h1 h2 => let ⟨φ', V, v, st', w', a, b, c, d, e⟩ := h kd φ w vals h1 h2; ⟨φ', V, v, st', w', a, b, c, d, hk _ _ e⟩
abbrev fen (ro : Option Nat) : Fence := { Fence.wide with round := ro }
def Jf (P : Program) (l : Nat) (args : Array Value) (w : World) (R : Ending → World → Prop) : Prop :=
  ∃ fn tmps assign body, (Instr.yield l args).run P w = .ok (.round l fn tmps assign body) w ∧ RoundIn Fence.wide 0 P l fn tmps assign body w R
def kW (cx : Cx) (B : Nat) (args : List Value) (st : St) (k : Value → St → Prop) : Prop :=
  ∀ kd φ w (vals : Array Value) (p : Pl), HR (cx.at kd) φ st w → φ B = some p → VRL φ args vals.toList →
    Jf cx.P p.blk vals w fun e w' => match e with
      | .returned v => ∃ φ' V st', φ.le φ' ∧ VR φ' V v ∧ HR (cx.at kd) φ' st' w' ∧ k V st'
      | _ => False
theorem kW.mono {cx : Cx} {B : Nat} {args : List Value} {st : St} {k k' : Value → St → Prop} (h : kW cx B args st k) (hk : ∀ V st, k V st → k' V st) : kW cx B args st k' := fun kd φ w vals p h1 h2 h3 => by
  obtain ⟨fn, tmps, assign, body, hy, hR⟩ := h kd φ w vals p h1 h2 h3
  refine ⟨fn, tmps, assign, body, hy, hR.mono fun e w' he => ?_⟩
  cases e with
  | returned v => obtain ⟨φ', V, st', a, b, c, d⟩ := he; exact ⟨φ', V, st', a, b, c, hk _ _ d⟩
  | panicked ch => exact he
  | outgrown => exact he
def iw (v : Value) (want : Bool) (x y : Prop) : Prop :=
  match v with
  | .bool b => (b = want → x) ∧ (b = !want → y)
  | .tuple vs => vs.size = 1 ∧ y
  | _ => False
def l6 (ops : Array Oper) (ρ : Env) (o : Oper) (x y : Prop) : Prop :=
  match o.guard with
  | none => x
  | some (g, want) => match (ops[g]?).bind (·.dst) with
    | some d => iw (ρ d) want x y
    | none => False
def alet (x : Option (Value × St)) (k : Value → St → Prop) : Prop :=
  match x with
  | some (v, s) => k v s
  | none => False
def gq (cx : Cx) (f : Value) (args : List Value) (st : St) (k q : Value → St → Prop) : Prop :=
  match f with
  | .func (.func n) first captured => au cx n (first.toList ++ args ++ captured.toList) st k q
  | .func (.yield B) _ _ => kW cx B args st k
  | _ => False
def kX (v : Value) (st : St) (q : Value → St → Prop) : Prop :=
  match v with
  | .iface t x => q (.iface t x) st
  | _ => False
def oU (P : Program) (st : St) (tys : Array TypeId) (xs : List Value) : Option (TypeId × Nat × List Value × List Value) :=
  match xs with
  | [s, x] => sU P st tys s x
  | _ => none
def wE (x : Option (TypeId × Nat × List Value × List Value)) (st : St) (k : Value → St → Prop) : Prop :=
  match x with
  | some (e, need, cs, z) => ∀ c, need ≤ c → k (.slice (some ⟨st.n, 0, none⟩) need c) (st.new (.cells (cs ++ zeros z (c - need)) e true))
  | none => False
def abody (cx : Cx) (o : Op) (ρ : Env) (st : St) (k q : Value → St → Prop) : Prop :=
  match o with
  | .call { callee := .value f, args, .. } => gq cx (ev cx.G ρ f) (args.toList.map (ev cx.G ρ)) st k q
  | .panic x => kX (ev cx.G ρ x) st q
  | .call { callee := .builtin .append, args, argTypes } => (cx.ex (argTypes.getD 0 0) = true ∧ wE (oU cx.P st argTypes (args.toList.map (ev cx.G ρ))) st k) ∨
      alet (aop cx.P (ev cx.G ρ) st o) k
  | o => alet (aop cx.P (ev cx.G ρ) st o) k
def bQ (cx : Cx) (ops : Array Oper) (o : Oper) (ρ : Env) (st : St) (k q : Value → St → Prop) : Prop :=
  l6 ops ρ o (abody cx o.op ρ st k q) (k oJ st)
def aops (cx : Cx) (ops : Array Oper) : List Oper → Post → dz → Env → St → Prop
  | [], Q, _, ρ, st => Q .normal ρ st
  | o :: r, Q, q, ρ, st => bQ cx ops o ρ st (fun V st' => aops cx ops r Q q (putO ρ o.dst V) st') q
section
variable {cx : Cx} {φ : Emb} {fx : Fx} {kd : Nat → Bool} {st : St} {w : World} {ρ : Env} {a : Act}
theorem EnvR.mono {ψ : Emb} (h : EnvR φ fx kd ρ a) (hle : φ.le ψ) : EnvR ψ fx kd ρ a := ⟨h.size, h.defers, fun t => (h.slot t).mono hle, h.keep⟩
theorem EnvR.put (h : EnvR φ fx kd ρ a) {d : Option Nat} (hd : d.all fx.can = true) {V v : Value} (hv : VR φ V v) : EnvR φ fx kd (putO ρ d V) (a.put d v) := by
  cases d with
  | none => exact h
  | some d =>
    obtain ⟨hfree, hlt⟩ : fx.fix d = none ∧ d < fx.N := by simpa [Fx.can] using hd
    refine ⟨by simpa [Act.put] using h.size, h.defers, fun t => ?_, fun t v hf => ?_⟩
    rotate_left
    · have e : t ≠ d := fun e => by subst e; rw [hfree] at hf; cases hf
      simp only [Act.put]
      rw [Array.getD_eq_getD_getElem?, Array.getElem?_setIfInBounds_ne (Ne.symm e), ← Array.getD_eq_getD_getElem?]
      exact h.keep t v hf
    by_cases e : t = d
    · subst e
      simp only [putO, Abs.put, if_true, Act.put]
      rw [Array.getD_eq_getD_getElem?, Array.getElem?_setIfInBounds_self_of_lt (by rw [h.size]; exact hlt)]
      exact hv
    · simp only [putO, Abs.put, if_neg e, Act.put]
      rw [Array.getD_eq_getD_getElem?, Array.getElem?_setIfInBounds_ne (Ne.symm e), ← Array.getD_eq_getD_getElem?]
      exact h.slot t
theorem EnvR.ev (hh : HR (cx.at kd) φ st w) (h : EnvR φ fx kd ρ a) (o : Operand) : VR φ (ev cx.G ρ o) (a.eval o) := by
  cases o with
  | tmp t => exact h.slot t
  | const v =>
    simp only [Abs.ev, Act.eval]
    cases hc : cst v with
    | true => exact VR.cst hc
    | false => exact .junk _
  | global g =>
    simp only [Abs.ev, Act.eval]
    split
    · rename_i hg
      obtain ⟨p, h1, h2, h3, _⟩ := hh.ident g hg
      have := VR.ptr (off := 0) h1
      rw [h2, h3] at this
      exact this
    · exact .junk _
  | func f => exact .func _ rfl rfl (fun i h1 h2 => by simp at h1) rfl (fun i h1 h2 => by simp at h1)
theorem wF {r : Operand → Value} {dst : Option Tmp} {f : Operand} {args : Array Operand} {tys : Array TypeId} {oty : TypeId} {pos : String} {aft : Array Edge} {grd : Option (Nat × Bool)} :
    execOp r ⟨dst, .call ⟨.value f, args, tys⟩, oty, pos, aft, grd⟩ = (do let d ← Deferred.ofValue (r f) (args.map r); invoke d.target d.args : Sem Next) := rfl
theorem oV {ro : Option Nat} {P : Program} {o : Oper} {a : Act} {w : World} {K : Act → World → Prop} {Q : Exit → Act → World → Prop} (hd : ∀ c, o.op ≠ .defer c) (h : o.uponIn (fen ro) 0 P a K Q ((execOp a.eval o).run P w)) : o.wpIn (fen ro) 0 P a w K Q := by
  refine ⟨fun _ _ => trivial, ?_⟩
  rw [Oper.semAt_eq _ _ _ hd]
  exact h
theorem rE (h : HR (cx.at kd) φ st w) (he : EnvR φ fx kd ρ a) (o : Oper) {k q : Value → St → Prop} (hb : abody cx o.op ρ st k q) {ro : Option Nat} {K : Act → World → Prop} {Q : Exit → Act → World → Prop}
    (hK : ∀ φ' V v st' w', φ.le φ' → VR φ' V v → HR (cx.at kd) φ' st' w' → k V st' → K (a.put o.dst v) w')
    (hQ : ∀ φ' V v st' w', φ.le φ' → VR φ' V v → HR (cx.at kd) φ' st' w' → q V st' → Q (pan v) a w') : o.wpIn (fen ro) 0 cx.P a w K Q := by
  obtain ⟨dst, op, oty, pos, aft, grd⟩ := o
  have gen : alet (aop cx.P (ev cx.G ρ) st op) k → Oper.wpIn (fen ro) 0 cx.P ⟨dst, op, oty, pos, aft, grd⟩ a w K Q := by
    intro hl
    unfold alet at hl
    split at hl
    · rename_i V st' hop
      obtain ⟨φ', nx, v, w', h1, h2, h3, h4, h5⟩ := EW (cx := cx.at kd) (o := ⟨dst, op, oty, pos, aft, grd⟩) h (fun o => he.ev h o) hop
      refine oV (by rintro c rfl; cases hop) ?_
      rw [h1]
      rcases h2 with rfl | ⟨rfl, rfl⟩
      · exact hK φ' V v st' w' h3 h4 h5 hl
      · exact hK φ' V undef st' w' h3 h4 h5 hl
    · exact hl.elim
  cases op with
  | call c =>
    obtain ⟨cal, args, tys⟩ := c
    cases cal with
    | value f =>
      have hb' : gq cx (ev cx.G ρ f) (args.toList.map (ev cx.G ρ)) st k q := hb
      unfold gq at hb'
      split at hb'
      · rename_i n first captured hf
        have hfv := he.ev h f
        rw [hf] at hfv
        generalize hf2 : a.eval f = fv at hfv
        cases hfv with
        | func fn h0 h1 h2 h3 h4 =>
          rename_i as bs
          have hargs : VRL φ (first.toList ++ args.toList.map (ev cx.G ρ) ++ captured.toList) (as ++ args.map a.eval ++ bs).toList := by
            simp only [Array.toList_append, Array.toList_map]
            exact ((show VRA φ first as from ⟨h1, h2⟩).toL.append (VRL.mapO (fun o => he.ev h o) args.toList)).append (show VRA φ captured bs from ⟨h3, h4⟩).toL
          refine oV (by rintro c h; cases h) ?_
          rw [wF, hf2]
          have hrun : ((do let d ← Deferred.ofValue (Value.func (.func n) as bs) (args.map a.eval); invoke d.target d.args : Sem Next)).run cx.P w = (callFunc n (as ++ args.map a.eval ++ bs)).run cx.P w := by
            simp [Deferred.ofValue, invoke]
          rw [hrun]
          rcases hb' with ⟨⟨fd, g1, g2, g3⟩, hc⟩ | hx
          · have hcall := hc kd φ w _ h hargs
            have hent : (callFunc n (as ++ args.map a.eval ++ bs)).run cx.P w = .ok (.enter n (as ++ args.map a.eval ++ bs)) w := by
              unfold callFunc
              simp only [Sem.run_bind, run_program, Result.andThen_ok, g1, g3, Bool.false_eq_true, if_false]
              have : fd.body.isNone = false := by cases hbd : fd.body <;> simp_all
              rw [this]
              rfl
            rw [hent]
            refine ⟨fun h => (by cases h), (callsIn_wide (n := 0 - 1)).2 (hcall.mono fun e w' hew => ?_)⟩
            cases e with
            | returned v => obtain ⟨φ', V, st', x1, x2, x3, x4⟩ := hew; exact hK φ' V v st' w' x1 x2 x3 x4
            | panicked ch => obtain ⟨φ', V, v, st', rfl, x1, x2, x3, x4⟩ := hew; exact hQ φ' V v st' w' x1 x2 x3 x4
            | outgrown => exact hew.elim
          · obtain ⟨φ', V, v, st', w', x0, x1, x2, x3, x4⟩ := hx kd φ w _ h hargs
            rw [x0]
            exact hK φ' V v st' w' x1 x2 x3 x4
      · rename_i B first captured hf
        have hfv := he.ev h f
        rw [hf] at hfv
        generalize hf2 : a.eval f = fv at hfv
        have hargs := VRL.mapO (φ := φ) (fun o => he.ev h o) args.toList
        cases hfv with
        | func fn h0 h1 h2 h3 h4 => cases h0
        | yield hB =>
          rename_i p
          refine oV (by rintro c h; cases h) ?_
          rw [wF, hf2]
          obtain ⟨fn, tmps, assign, body, hy, hR⟩ := hb' kd φ w (args.map a.eval) p h hB (by simpa using hargs)
          have hrun : ((do let d ← Deferred.ofValue (Value.func (.yield p.blk) #[] #[]) (args.map a.eval); invoke d.target d.args : Sem Next)).run cx.P w = (Instr.yield p.blk (args.map a.eval)).run cx.P w := by
            simp [Deferred.ofValue, invoke]
          rw [hrun, hy]
          refine ⟨fun h => (by cases h), hR.mono fun e w' hew => ?_⟩
          cases e with
          | returned v => obtain ⟨φ', V, st', x1, x2, x3, x4⟩ := hew; exact hK φ' V v st' w' x1 x2 x3 x4
          | panicked ch => exact hew.elim
          | outgrown => exact hew.elim
      · exact hb'.elim
    | builtin b =>
      cases b
      case append =>
        rcases (show (cx.ex (tys.getD 0 0) = true ∧ wE (oU cx.P st tys (args.toList.map (ev cx.G ρ))) st k) ∨ alet (aop cx.P (ev cx.G ρ) st (.call ⟨.builtin .append, args, tys⟩)) k from hb) with ⟨_, hg⟩ | hg
        · unfold wE at hg
          split at hg
          · rename_i e need cs z hag
            unfold oU at hag
            split at hag
            · rename_i S X hSX
              have hL := VRL.mapO (φ := φ) (fun o => he.ev h o) args.toList
              rw [hSX] at hL
              obtain ⟨s, r1, hr1, hx1, hx2⟩ := hL.bO
              obtain ⟨x, r2, rfl, hx3, hx4⟩ := hx2.bO
              have : r2 = [] := List.eq_nil_of_length_eq_zero (by have := hx4.1; simpa using this.symm)
              subst this
              obtain ⟨c, v, w', h1, h2, _, ⟨φ', h3, h4, h5⟩⟩ := oM (cx := cx.at kd) (ty := oty) h hx1 hx3 hag
              have hargs : args.map a.eval = #[s, x] := by
                apply Array.ext'
                simpa using hr1
              refine oV (by rintro c h; cases h) ?_
              have e : (execOp a.eval ⟨dst, .call ⟨.builtin .append, args, tys⟩, oty, pos, aft, grd⟩).run cx.P w = .ok (.value v) w' := by
                simp [execOp, resolve, invoke, builtin, hargs, h2]
              rw [e]
              exact hK φ' _ v _ w' h3 h4 h5 (hg c h1)
            · cases hag
          · exact hg.elim
        · exact gen hg
      all_goals exact gen hb
    | invoke x y => exact gen hb
  | panic x =>
    have hb' : kX (ev cx.G ρ x) st q := hb
    unfold kX at hb'
    split at hb'
    · rename_i t y hx
      have hxv := he.ev h x
      rw [hx] at hxv
      generalize hx2 : a.eval x = xv at hxv
      cases hxv with
      | iface _ hy =>
        refine oV (by rintro c h; cases h) ?_
        have e : execOp a.eval ⟨dst, .panic x, oty, pos, aft, grd⟩ = (do pure (Next.value (← Instr.panic (a.eval x))) : Sem Next) := rfl
        rw [e, hx2]
        simp [Instr.panic, Oper.uponIn]
        exact hQ φ _ _ st w (Emb.le_refl _) (.iface t hy) h hb'
    · exact hb'.elim
  | _ => exact gen hb
theorem EX {ops : Array Oper} (he : EnvR φ fx kd ρ a) {g d : Nat} {b : Bool} (hd : (ops[g]?).bind (·.dst) = some d) (hv : ρ d = .bool b) : yielded ops a.tmps g = some b := by
  have := he.slot d
  rw [hv] at this
  have hx := this.gM
  rw [Array.getD_eq_getD_getElem?] at hx
  unfold yielded
  rw [hd]
  cases ht : a.tmps[d]? with
  | none => rw [ht] at hx; cases hx
  | some v =>
    rw [ht] at hx
    simp at hx
    subst hx
    simp [ht]
theorem Ad {ops : Array Oper} (he : EnvR φ fx kd ρ a) {g d : Nat} {vs : Array Value} (hd : (ops[g]?).bind (·.dst) = some d) (hv : ρ d = .tuple vs) (h1 : vs.size = 1) : yielded ops a.tmps g = none := by
  have := he.slot d
  rw [hv] at this
  have hx : ∃ ws, a.tmps.getD d undef = .tuple ws := by
    generalize a.tmps.getD d undef = x at this
    cases this with
    | junk => simp at h1
    | skip => exact ⟨_, rfl⟩
    | tuple h2 h3 => exact ⟨_, rfl⟩
  obtain ⟨ws, hx⟩ := hx
  rw [Array.getD_eq_getD_getElem?] at hx
  unfold yielded
  rw [hd]
  cases ht : a.tmps[d]? with
  | none => simp [ht]
  | some v =>
    rw [ht] at hx
    simp at hx
    subst hx
    simp [ht]
theorem rF (ops : Array Oper) (h : HR (cx.at kd) φ st w) (he : EnvR φ fx kd ρ a) (i : Nat) (o : Oper) (hi : ops[i]? = some o) {k q : Value → St → Prop} (hb : bQ cx ops o ρ st k q) {ro : Option Nat} {K : Act → World → Prop} {Q : Exit → Act → World → Prop}
    (hK : ∀ φ' V v st' w', φ.le φ' → VR φ' V v → HR (cx.at kd) φ' st' w' → k V st' → K (a.put o.dst v) w')
    (hQ : ∀ φ' V v st' w', φ.le φ' → VR φ' V v → HR (cx.at kd) φ' st' w' → q V st' → Q (pan v) a w') : wpOpIn (fen ro) 0 cx.P ops Q i K a w := by
  unfold wpOpIn
  simp only [hi]
  unfold bQ l6 at hb
  split at hb
  · rename_i hg
    have hw : Region.wanted o (yielded ops a.tmps) = true := by unfold Region.wanted; rw [hg]
    rw [if_pos hw]
    exact (rE h he o hb hK hQ)
  · rename_i g want hg
    split at hb
    · rename_i d hd
      unfold iw at hb
      split at hb
      · rename_i b hv
        have hy := EX he hd hv
        have hw : Region.wanted o (yielded ops a.tmps) = (b == want) := by
          unfold Region.wanted; rw [hg]; simp only [hy]; cases b <;> cases want <;> rfl
        by_cases e : b = want
        · rw [if_pos (by rw [hw]; simpa using e)]
          exact (rE h he o (hb.1 e) hK hQ)
        · rw [if_neg (by rw [hw]; simpa using e)]
          exact ⟨fun _ _ => trivial, hK φ oJ undef st w (Emb.le_refl _) .skip h (hb.2 (by cases b <;> cases want <;> simp_all))⟩
      · rename_i vs hv
        have hy := Ad he hd hv hb.1
        have hw : Region.wanted o (yielded ops a.tmps) = false := by
          unfold Region.wanted; rw [hg]; simp only [hy]; rfl
        rw [if_neg (by rw [hw]; simp)]
        exact ⟨fun _ _ => trivial, hK φ oJ undef st w (Emb.le_refl _) .skip h hb.2⟩
      · exact hb.elim
    · exact hb.elim
theorem vS {ops : Array Oper} {l : List Oper} {o : Oper} {n : Nat} (h : ops.toList.drop n = o :: l) : ops[n]? = some o ∧ ops.toList.drop (n + 1) = l := by
  have h1 : (ops.toList.drop n)[0]? = some o := by rw [h]; rfl
  refine ⟨by simpa using h1, ?_⟩
  rw [← List.drop_drop, h]
  rfl
theorem tH (ops : Array Oper) (φ0 : Emb) (hN : ops.all (fun o => o.dst.all fx.can) = true) (Q : Post) (q : dz) (ro : Option Nat) : ∀ (l : List Oper) (n : Nat) (φ : Emb) (ρ : Env) (st : St) (a : Act) (w : World), ops.toList.drop n = l → φ0.le φ → HR (cx.at kd) φ st w → EnvR φ fx kd ρ a →
    aops cx ops l Q q ρ st → wpOpsIn (fen ro) 0 cx.P ops (lift cx fx φ0 Q q) ((List.range ops.size).drop n) a w
  | [], n, φ, ρ, st, a, w, hl, hle, h, he, hq => by
    have hn : ops.size ≤ n := by have := congrArg List.length hl; simp at this; omega
    rw [List.drop_eq_nil_of_le (by simpa using hn)]
    exact .inl ⟨kd, φ, ρ, st, rfl, hle, h, he, hq⟩
  | o :: l, n, φ, ρ, st, a, w, hl, hle, h, he, hq => by
    obtain ⟨hi, hl'⟩ := vS hl
    have hlt : n < ops.size := (Array.getElem?_eq_some_iff.1 hi).1
    have hr : (List.range ops.size).drop n = n :: (List.range ops.size).drop (n + 1) := by
      rw [List.drop_eq_getElem_cons (by simpa using hlt)]; simp
    have hd : o.dst.all fx.can = true := by
      have := Array.all_eq_true.1 hN n hlt
      rw [(Array.getElem?_eq_some_iff.1 hi).2] at this
      exact this
    rw [hr, wpOpsIn_cons]
    unfold aops at hq
    refine rF ops h he n o hi hq (fun φ' V v st' w' h1 h2 h3 h4 => ?_) (fun φ' V v st' w' h1 h2 h3 h4 => ?_)
    · exact tH ops φ0 hN Q q ro l (n + 1) φ' _ st' _ w' hl' (Emb.le_trans hle h1) h3 ((he.mono h1).put hd h2) h4
    · exact .inr ⟨kd, φ', V, v, st', rfl, Emb.le_trans hle h1, h2, h3, he.gone, h4⟩
end
end Go.Abs
