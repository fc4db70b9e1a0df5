/- Code, functions: a weakest precondition over the abstract heap, and that the model meets it. -/
import Derived.Test.YtjkmcnhofpnoeaaDoorAbsX
set_option linter.unusedVariables false
set_option linter.unusedSimpArgs false
namespace Go.Abs
open Go.RowKit

def thenQ (n : Env → St → Prop) (Q : Post) : Post := fun e ρ st => match e with
  | .normal => n ρ st
  | e => Q e ρ st
def inBlockQ (id : Nat) (Q : Post) : Post := fun e ρ st => match e with
  | .exit i => if i = id then Q .normal ρ st else Q (.exit i) ρ st
  | e => Q e ρ st
/-- A loop: what holds at every round's head; a number that each round lowers. -/
def ALoop (F : Post → Env → St → Prop) (Q : Post) (ρ : Env) (st : St) : Prop :=
  ∃ I : Nat → Env → St → Prop, (∃ n, I n ρ st) ∧ ∀ n ρ st, I n ρ st → F (thenQ (fun ρ' st' => ∃ m, m < n ∧ I m ρ' st') Q) ρ st
/-- A region whose order is open: every order serves. -/
def ADraw (cx : Cx) (ops : Array Oper) (Q : Post) (q : PostP) (ρ : Env) (st : St) : Prop :=
  ∃ (ks : Nat → Bool) (un : Nat → Nat → Bool), AAny cx ops ks un Q q ops.size (Array.replicate ops.size false) (fun _ _ => True) ρ st
def abranch (v : Value) (x y : Prop) : Prop :=
  match v with
  | .bool b => (b = true → x) ∧ (b = false → y)
  | _ => False
def awp (cx : Cx) : Code → Post → PostP → Env → St → Prop
  | .skip, Q, _, ρ, st => Q .normal ρ st
  | .region _ ops d, Q, q, ρ, st => bif d then ADraw cx ops Q q ρ st else aops cx ops ops.toList Q q ρ st
  | .seq x y, Q, q, ρ, st => awp cx x (thenQ (fun ρ st => awp cx y Q q ρ st) Q) q ρ st
  | .cond c x y, Q, q, ρ, st => abranch (ev cx.G ρ c) (awp cx x Q q ρ st) (awp cx y Q q ρ st)
  | .block id c, Q, q, ρ, st => awp cx c (inBlockQ id Q) q ρ st
  | .loop c, Q, q, ρ, st => ALoop (fun Q ρ st => awp cx c Q q ρ st) Q ρ st
  | .exit i, Q, _, ρ, st => Q (.exit i) ρ st
  | .ret, Q, _, ρ, st => Q .ret ρ st
  | .label _, Q, _, ρ, st => Q .normal ρ st
  | .goto l, Q, _, ρ, st => Q (.goto l) ρ st
  | _, _, _, _, _ => False
/-- Every slot that is written is there. -/
def okC (N : Nat) : Code → Bool
  | .region _ ops _ => ops.all fun o => o.dst.all (· < N)
  | .seq x y | .cond _ x y => okC N x && okC N y
  | .block _ c | .loop c => okC N c
  | _ => true

section
variable {cx : Cx} {fx : Fx}

theorem AAny_wp {ops : Array Oper} {ks : Nat → Bool} {un : Nat → Nat → Bool} (φ0 : Emb) (hN : ops.all (fun o => o.dst.all (· < fx.N)) = true) {Q : Post} {q : PostP} : ∀ (n : Nat) (listed : Array Bool) (recs : Nat → St → Prop) (φ : Emb) (ρ : Env) (st : St) (a : Act) (w : World),
    φ0.le φ → HR cx φ st w → EnvR φ fx ρ a → AAny cx ops ks un Q q n listed recs ρ st → wpAny cx.P .any ops (lift cx fx φ0 Q q) n listed a w
  | 0, listed, recs, φ, ρ, st, a, w, hle, h, he, hA => ⟨hA.1, .inl ⟨φ, ρ, st, rfl, hle, h, he, hA.2⟩⟩
  | n + 1, listed, recs, φ, ρ, st, a, w, hle, h, he, hA => by
    refine ⟨fun hr => .inl ⟨φ, ρ, st, rfl, hle, h, he, hA.1 hr⟩, fun i hi => ?_⟩
    obtain ⟨o, ho, hex⟩ := hA.2 i hi
    have hlt := (Array.getElem?_eq_some_iff.1 ho).1
    have hd : o.dst.all (· < fx.N) = true := by
      have := Array.all_eq_true.1 hN i hlt
      rw [(Array.getElem?_eq_some_iff.1 ho).2] at this
      exact this
    refine aexec_sound ops h he i o ho hex (fun φ' V v st' w' h1 h2 h3 h4 => ?_) (fun φ' V v st' w' h1 h2 h3 h4 => ?_)
    · exact AAny_wp φ0 hN n _ _ φ' _ st' _ w' (Emb.le_trans hle h1) h3 ((he.mono h1).put hd h2) h4.2
    · exact .inr ⟨φ', V, v, st', rfl, Emb.le_trans hle h1, h2, h3, he.defers, h4⟩

theorem wp_loop_nat {P : Program} {c : Code} {Q : Exit → Act → World → Prop} {a : Act} {w : World} (I : Nat → Act → World → Prop) (h₀ : ∃ n, I n a w)
    (round : ∀ n a w, I n a w → c.wp P (Exit.then (fun a' w' => ∃ m, m < n ∧ I m a' w') Q) a w) : (Code.loop c).wp P Q a w := by
  intro b k cs
  have key : ∀ n a w, I n a w → ∃ e a' w', Q e a' w' ∧ Arrives P (lone (b.at a (.code c :: .inLoop c :: k)) cs w) b k cs e a' w' := by
    intro n
    induction n using Nat.strongRecOn with
    | _ n ih =>
      intro a w hI
      obtain ⟨e, a₁, w₁, hq, harr⟩ := round n a w hI b (.inLoop c :: k) cs
      cases e with
      | normal =>
        obtain ⟨m, hlt, hI₁⟩ := hq
        obtain ⟨e₂, a₂, w₂, hq₂, harr₂⟩ := ih m hlt a₁ w₁ hI₁
        exact ⟨e₂, a₂, w₂, hq₂, .of_steps (Steps.trans harr (.one step_inLoop)) harr₂⟩
      | exit id => exact ⟨_, a₁, w₁, hq, .pass (x := .inLoop c) rfl (fun _ _ => .inl (by simp)) harr⟩
      | goto l => exact ⟨_, a₁, w₁, hq, .pass (x := .inLoop c) rfl (fun _ _ => .inl (by simp)) harr⟩
      | ret => exact ⟨_, a₁, w₁, hq, .pass (x := .inLoop c) rfl (fun _ _ => .inl (by simp)) harr⟩
      | panic ch => exact ⟨_, a₁, w₁, hq, .pass (x := .inLoop c) rfl (fun _ _ => .inl (by simp)) harr⟩
      | outgrown => exact ⟨_, a₁, w₁, hq, .pass (x := .inLoop c) rfl (fun _ _ => .inl (by simp)) harr⟩
  obtain ⟨n, hn⟩ := h₀
  obtain ⟨e, a', w', hq, harr⟩ := key n a w hn
  exact ⟨e, a', w', hq, .of_steps (.one step_loop) harr⟩

theorem lift_plain {φ0 φ : Emb} {Q : Post} {q : PostP} {e : Exit} {a : Act} {w : World} {ρ : Env} {st : St} (hp : plainE e = true) (hle : φ0.le φ) (h : HR cx φ st w) (he : EnvR φ fx ρ a) (hq : Q e ρ st) : lift cx fx φ0 Q q e a w :=
  .inl ⟨φ, ρ, st, hp, hle, h, he, hq⟩

theorem awp_sound (hm : cx.P.follows .mixedOrders = true) : ∀ (c : Code), okC fx.N c = true → ∀ (Q : Post) (q : PostP) (φ0 φ : Emb) (ρ : Env) (st : St) (a : Act) (w : World), φ0.le φ → HR cx φ st w → EnvR φ fx ρ a →
    awp cx c Q q ρ st → c.wp cx.P (lift cx fx φ0 Q q) a w := by
  intro c
  induction c with
  | skip => exact fun _ Q q φ0 φ ρ st a w hle h he hq => wp_skip (lift_plain rfl hle h he hq)
  | region id ops d =>
    intro hok Q q φ0 φ ρ st a w hle h he hq
    cases d with
    | false =>
      have := aops_sound ops φ0 hok Q q ops.toList 0 φ ρ st a w rfl hle h he hq
      exact wp_region (by simpa using this)
    | true =>
      obtain ⟨ks, un, hA⟩ := (show ADraw cx ops Q q ρ st from hq)
      exact wp_region_any hm (AAny_wp φ0 hok ops.size _ _ φ ρ st a w.drew hle h.drew he hA)
  | seq x y ihx ihy =>
    intro hok Q q φ0 φ ρ st a w hle h he hq
    simp only [okC, Bool.and_eq_true] at hok
    refine wp_seq (wp_mono (ihx hok.1 _ q φ0 φ ρ st a w hle h he hq) fun e a' w' hl => ?_)
    rcases hl with ⟨φ', ρ', st', hp, hle', h', he', hq'⟩ | ⟨φ', V, v, st', rfl, hle', hv, h', hd, hq'⟩
    · cases e with
      | normal => exact ihy hok.2 Q q φ0 φ' ρ' st' a' w' hle' h' he' hq'
      | exit i => exact lift_plain rfl hle' h' he' hq'
      | goto i => exact lift_plain rfl hle' h' he' hq'
      | ret => exact lift_plain rfl hle' h' he' hq'
      | panic ch => cases hp
      | outgrown => cases hp
    · exact .inr ⟨φ', V, v, st', rfl, hle', hv, h', hd, hq'⟩
  | cond c x y ihx ihy =>
    intro hok Q q φ0 φ ρ st a w hle h he hq
    simp only [okC, Bool.and_eq_true] at hok
    have hc := he.ev h c
    have hq' : abranch (ev cx.G ρ c) (awp cx x Q q ρ st) (awp cx y Q q ρ st) := hq
    unfold abranch at hq'
    split at hq'
    · rename_i b hb
      rw [hb] at hc
      exact wp_cond_split hc.bool_inv (fun e => ihx hok.1 Q q φ0 φ ρ st a w hle h he (hq'.1 e)) (fun e => ihy hok.2 Q q φ0 φ ρ st a w hle h he (hq'.2 e))
    · exact hq'.elim
  | block id c ih =>
    intro hok Q q φ0 φ ρ st a w hle h he hq
    refine wp_block (wp_mono (ih hok _ q φ0 φ ρ st a w hle h he hq) fun e a' w' hl => ?_)
    rcases hl with ⟨φ', ρ', st', hp, hle', h', he', hq'⟩ | ⟨φ', V, v, st', rfl, hle', hv, h', hd, hq'⟩
    · cases e with
      | normal => exact lift_plain rfl hle' h' he' hq'
      | exit i =>
        simp only [Exit.inBlock]
        simp only [inBlockQ] at hq'
        split
        · rename_i hi; rw [if_pos hi] at hq'; exact lift_plain rfl hle' h' he' hq'
        · rename_i hi; rw [if_neg hi] at hq'; exact lift_plain rfl hle' h' he' hq'
      | goto i => exact lift_plain rfl hle' h' he' hq'
      | ret => exact lift_plain rfl hle' h' he' hq'
      | panic ch => cases hp
      | outgrown => cases hp
    · exact .inr ⟨φ', V, v, st', rfl, hle', hv, h', hd, hq'⟩
  | loop c ih =>
    intro hok Q q φ0 φ ρ st a w hle h he hq
    obtain ⟨I, ⟨n, hn⟩, hround⟩ := (show ALoop (fun Q ρ st => awp cx c Q q ρ st) Q ρ st from hq)
    refine wp_loop_nat (fun n a w => ∃ φ ρ st, φ0.le φ ∧ HR cx φ st w ∧ EnvR φ fx ρ a ∧ I n ρ st) ⟨n, φ, ρ, st, hle, h, he, hn⟩ fun n a w hI => ?_
    obtain ⟨φ1, ρ1, st1, hle1, h1, he1, hI1⟩ := hI
    refine wp_mono (ih hok _ q φ0 φ1 ρ1 st1 a w hle1 h1 he1 (hround n ρ1 st1 hI1)) fun e a' w' hl => ?_
    rcases hl with ⟨φ', ρ', st', hp, hle', h', he', hq'⟩ | ⟨φ', V, v, st', rfl, hle', hv, h', hd, hq'⟩
    · cases e with
      | normal =>
        obtain ⟨m, hm, hIm⟩ := hq'
        exact ⟨m, hm, φ', ρ', st', hle', h', he', hIm⟩
      | exit i => exact lift_plain rfl hle' h' he' hq'
      | goto i => exact lift_plain rfl hle' h' he' hq'
      | ret => exact lift_plain rfl hle' h' he' hq'
      | panic ch => cases hp
      | outgrown => cases hp
    · exact .inr ⟨φ', V, v, st', rfl, hle', hv, h', hd, hq'⟩
  | exit i => exact fun _ Q q φ0 φ ρ st a w hle h he hq => wp_exit (lift_plain rfl hle h he hq)
  | ret => exact fun _ Q q φ0 φ ρ st a w hle h he hq => wp_ret (lift_plain rfl hle h he hq)
  | label l => exact fun _ Q q φ0 φ ρ st a w hle h he hq => wp_label (lift_plain rfl hle h he hq)
  | goto l => exact fun _ Q q φ0 φ ρ st a w hle h he hq => wp_goto (lift_plain rfl hle h he hq)
  | rangeFunc f ps x y _ _ => exact fun _ Q q φ0 φ ρ st a w hle h he hq => (show False from hq).elim
  | scope c _ => exact fun _ Q q φ0 φ ρ st a w hle h he hq => (show False from hq).elim
  | refuse s => exact fun _ Q q φ0 φ ρ st a w hle h he hq => (show False from hq).elim

/-! ### Functions -/
/-- The slots as a call finds them. -/
def env0 (args : List Value) : Env := fun t => args.getD t undef
/-- What a function hands back. -/
def ares1 (P : Program) (ρ : Env) (st : St) : ResultVar → Option Value
  | .tmp t => some (ρ t)
  | .cell a t => aloadV P st t (ρ a)
def aresL (P : Program) (ρ : Env) (st : St) : List ResultVar → Option (List Value)
  | [] => some []
  | r :: rs => match ares1 P ρ st r, aresL P ρ st rs with
    | some v, some vs => some (v :: vs)
    | _, _ => none
def ares (P : Program) (rs : Array ResultVar) (ρ : Env) (st : St) : Option Value :=
  match aresL P ρ st rs.toList with
  | some [v] => some v
  | some vs => some (.tuple vs.toArray)
  | none => none
def retQ (P : Program) (rs : Array ResultVar) (k : Value → St → Prop) : Post := fun e ρ st => match e with
  | .normal | .ret => match ares P rs ρ st with
    | some v => k v st
    | none => False
  | _ => False
def resF (a : Act) : ResultVar → Sem Value
  | .tmp t => pure (a.tmps.getD t undef)
  | .cell x t => do loadVar t (← asAddr (a.tmps.getD x undef))
theorem aresL_sound {φ : Emb} {st : St} {w : World} {ρ : Env} {a : Act} (h : HR cx φ st w) (he : EnvR φ fx ρ a) : ∀ (rs : List ResultVar) (Vs : List Value), aresL cx.P ρ st rs = some Vs →
    ∃ vs, (rs.mapM (resF a)).run cx.P w = .ok vs w ∧ VRL φ Vs vs
  | [], Vs, h' => by simp [aresL] at h'; subst h'; exact ⟨[], rfl, VRL.nil⟩
  | r :: rs, Vs, h' => by
    unfold aresL at h'
    split at h'
    · rename_i V Vs' h1 h2
      injection h' with h'; subst h'
      obtain ⟨vs, e1, e2⟩ := aresL_sound h he rs Vs' h2
      have one : ∃ v, (resF a r).run cx.P w = .ok v w ∧ VR φ V v := by
        cases r with
        | tmp t => simp [ares1] at h1; subst h1; exact ⟨_, rfl, he.slot t⟩
        | cell x t =>
          have h1' : aloadV cx.P st t (ρ x) = some V := h1
          unfold aloadV at h1'
          split at h1'
          · rename_i B off hx
            have hc := he.slot x
            rw [hx] at hc
            generalize hx2 : a.tmps.getD x undef = xv at hc
            cases hc with
            | ptr hp =>
              obtain ⟨v, r1, r2⟩ := aload_sound h hp h1'
              refine ⟨v, ?_, r2⟩
              simp only [resF, hx2, asAddr, Sem.run_bind, Sem.run_pure, Result.andThen_ok]
              simpa [Instr.loadAt, Instr.sureAddr] using r1
          · cases h1'
      obtain ⟨v, r1, r2⟩ := one
      refine ⟨v :: vs, ?_, e2.cons r2⟩
      rw [List.mapM_cons]
      simp only [Sem.run_bind, Sem.run_pure, Result.andThen_ok]
      rw [r1]
      simp only [Result.andThen_ok]
      rw [e1]
      rfl
    · cases h'
theorem ares_sound {φ : Emb} {st : St} {w : World} {ρ : Env} {a : Act} {fn : Func} {V : Value} (h : HR cx φ st w) (he : EnvR φ fx ρ a) (hr : ares cx.P fn.results ρ st = some V) :
    ∃ v, (results fn a.tmps).run cx.P w = .ok v w ∧ VR φ V v := by
  unfold ares at hr
  cases hl : aresL cx.P ρ st fn.results.toList with
  | none => rw [hl] at hr; cases hr
  | some Vs =>
    rw [hl] at hr
    obtain ⟨vs, e1, e2⟩ := aresL_sound h he _ _ hl
    have hm : (fn.results.mapM (resF a)).run cx.P w = .ok vs.toArray w := by
      rw [Array.mapM_eq_mapM_toList, Sem.run_map, e1]
      rfl
    unfold results
    simp only [Sem.run_bind]
    refine ⟨if h : vs.toArray.size = 1 then vs.toArray[0] else .tuple vs.toArray, ?_, ?_⟩
    · refine (congrArg (fun r => Result.andThen r _) hm).trans ?_
      rfl
    · have := e2.1
      match Vs, vs, e2, hr with
      | [V1], [v1], e2, hr => injection hr with hr; subst hr; obtain ⟨v', r', e, hv, _⟩ := e2.uncons; injection e with e3 e4; subst e3; simpa using hv
      | [], [], e2, hr => injection hr with hr; subst hr; exact .junk _
      | V1 :: V2 :: R, v1 :: v2 :: r, e2, hr => injection hr with hr; subst hr; have := e2.toA; simpa using VR.tuple this.1 this.2

/-- A function: its code, from its arguments on. -/
theorem ACall.of (hm : cx.P.follows .mixedOrders = true) {f : Nat} {fn : Func} {c : Code} {args : List Value} {st : St} {k q : Value → St → Prop} (hf : cx.P.funcs[f]? = some fn) (hb : fn.body = some c) (hN : okC fn.ntmps c = true) (hl : args.length ≤ fn.ntmps)
    (h : awp cx c (retQ cx.P fn.results k) q (env0 args) st) : ACall cx f args st k q := by
  intro φ w vals hr hv
  have hsz : vals.size = args.length := by have := hv.1; simpa using this.symm
  have he : EnvR φ ⟨fn.ntmps, []⟩ (env0 args) { tmps := vals ++ Array.replicate (fn.ntmps - vals.size) undef, defers := [] } := by
    refine ⟨by simp; omega, rfl, fun t => ?_⟩
    unfold env0
    by_cases ht : t < args.length
    · obtain ⟨v, h1, h2⟩ := hv.2 t args[t] (by simp [ht])
      have e1 : args.getD t undef = args[t] := by simp [List.getD, ht]
      have hts : t < vals.size := by omega
      rw [e1, Array.getD_eq_getD_getElem?, Array.getElem?_append_left hts]
      rw [← Array.getElem?_toList, h1]
      exact h2
    · have e1 : args.getD t undef = undef := by simp [List.getD, List.getElem?_eq_none (by omega : args.length ≤ t)]
      rw [e1]
      exact .junk _
  refine calls_of_wp hf hb (wp_mono (awp_sound (fx := ⟨fn.ntmps, []⟩) hm c hN _ q φ φ _ st _ w (Emb.le_refl _) hr he h) fun e a' w' hl => ?_)
  rcases hl with ⟨φ', ρ', st', hp, hle', h', he', hq'⟩ | ⟨φ', V, v, st', rfl, hle', hv, h', hd, hq'⟩
  · have ret : ∀ (hq' : match ares cx.P fn.results ρ' st' with | some v => k v st' | none => False), a'.defers = [] ∧ ∃ v, (results fn a'.tmps).run cx.P w' = .ok v w' ∧ ∃ φ'' V st'', φ.le φ'' ∧ VR φ'' V v ∧ HR cx φ'' st'' w' ∧ k V st'' := by
      intro hq'
      cases hres : ares cx.P fn.results ρ' st' with
      | none => rw [hres] at hq'; exact hq'.elim
      | some V =>
        rw [hres] at hq'
        obtain ⟨v, r1, r2⟩ := ares_sound h' he' hres
        exact ⟨he'.defers, v, r1, φ', V, st', hle', r2, h', hq'⟩
    cases e with
    | normal => exact ret hq'
    | ret => exact ret hq'
    | exit i => exact hq'.elim
    | goto i => exact hq'.elim
    | panic ch => cases hp
    | outgrown => cases hp
  · exact ⟨hd, φ', V, v, st', rfl, hle', hv, h', hq'⟩
end
end Go.Abs
