/- Functions that defer a call of a closure that recovers. -/
import Derived.Test.YtigjbehgfjjlkaaGreatDoorAbs9
import Derived.RecoverIn
set_option linter.unusedVariables false
set_option linter.unusedSimpArgs false
namespace Go.Abs
open Go.RowKit
def ADcl (cx : Cx) (g : Nat) (args : List Value) (st : St) (u : Option Value) (k : St → Prop) : Prop :=
  ∀ kd φ w (vals : Array Value), HR (cx.at kd) φ st w → VRL φ args vals.toList →
    match u with
    | none => CallsDIn Fence.wide 0 cx.P g vals .returning w fun e u' w' => match e with
        | .returned _ => u' = .returning ∧ ∃ φ' st', φ.le φ' ∧ HR (cx.at kd) φ' st' w' ∧ k st'
        | _ => False
    | some V => ∀ v, VR φ V v → CallsDIn Fence.wide 0 cx.P g vals (.panicking [{ v := v, recovered := false }]) w fun e u' w' => match e with
        | .returned _ => u' = .panicking [{ v := v, recovered := true }] ∧ ∃ φ' st', φ.le φ' ∧ HR (cx.at kd) φ' st' w' ∧ k st'
        | _ => False
theorem CallsDIn.mono {F : Fence} {n : Nat} {P : Program} {f : FuncId} {args : Array Value} {u : FrameMode} {w : World} {R R' : Ending → FrameMode → World → Prop} (h : CallsDIn F n P f args u w R) (hr : ∀ e u' w', R e u' w' → R' e u' w') : CallsDIn F n P f args u w R' :=
  ⟨h.1, fun c cs hu hroom => let ⟨e, u', w', fr, r, rest⟩ := h.2 c cs hu hroom; ⟨e, u', w', fr, hr _ _ _ r, rest⟩⟩
def uQ (fixed : List Nat) (rs : Array ResultVar) : Bool := rs.all fun r => match r with
  | .tmp t => fixed.contains t
  | .cell t _ => fixed.contains t
def uR (fixed : List Nat) (ρ : Env) : Env := fun t => if fixed.contains t then ρ t else undef
theorem wW {P : Program} {ρ : Env} {st : St} {fixed : List Nat} : ∀ (rs : List ResultVar), (rs.all fun r => match r with | .tmp t => fixed.contains t | .cell t _ => fixed.contains t) = true → nG P (uR fixed ρ) st rs = nG P ρ st rs
  | [], _ => rfl
  | r :: rs, h => by
    simp only [List.all_cons, Bool.and_eq_true] at h
    unfold nG
    rw [wW rs h.2]
    have e : tQ P (uR fixed ρ) st r = tQ P ρ st r := by
      cases r with
      | tmp t => have := h.1; simp only at this; unfold tQ uR; dsimp only; rw [if_pos this]
      | cell t ty => have := h.1; simp only at this; unfold tQ uR; dsimp only; rw [if_pos this]
    rw [e]
theorem Ih {P : Program} {ρ : Env} {st : St} {fixed : List Nat} {rs : Array ResultVar} (h : uQ fixed rs = true) : ares P rs (uR fixed ρ) st = ares P rs ρ st := by
  unfold ares
  rw [wW rs.toList (by unfold uQ at h; rw [← Array.all_toList] at h; exact h)]
def resQ (P : Program) (rs : Array ResultVar) (ρ : Env) (k : Value → St → Prop) (st : St) : Prop := match ares P rs ρ st with
  | some v => k v st
  | none => False
def endR (cx : Cx) (kd : Nat → Bool) (φ : Emb) (k q : Value → St → Prop) : Ending → World → Prop := fun e w' => match e with
  | .returned v => ∃ φ' V st', φ.le φ' ∧ VR φ' V v ∧ HR (cx.at kd) φ' st' w' ∧ k V st'
  | .panicked ch => ∃ φ' V v st', ch = [{ v := v, recovered := false }] ∧ φ.le φ' ∧ VR φ' V v ∧ HR (cx.at kd) φ' st' w' ∧ q V st'
  | .outgrown => False
section
variable {cx : Cx}
theorem ay.JN (hm : cx.P.follows .mixedOrders = true) {f g t id : Nat} {fn gf : Func} {A B C : Code} {cs : Array Operand} {ty1 ty2 : TypeId} {p1 p2 : String} {a1 a2 : Array Edge} {args : List Value} {st : St} {k q : Value → St → Prop} (fixed : List Nat)
    (hf : cx.P.funcs[f]? = some fn)
    (hb : fn.body = some (.seq A (.seq B (.seq (.region id #[⟨some t, .makeFunc (.func g) #[] cs, ty1, p1, a1, none⟩, ⟨none, .defer ⟨.value (.tmp t), #[], #[]⟩, ty2, p2, a2, none⟩] false) C))))
    (hN : okC fn.ntmps (.seq A B) = true) (hC : okCr true (fun d => !(fixed.contains d) && decide (d < fn.ntmps)) C = true) (hl : args.length ≤ fn.ntmps) (ht : t < fn.ntmps) (htf : fixed.contains t = false)
    (hres : uQ fixed fn.results = true) (hg : cx.P.funcs[g]? = some gf) (hgb : gf.body.isNone = false) (hgn : (gf.name == "runtime.NumGoroutine") = false)
    (h : awp cx (.seq A B) (fun e ρ1 st1 => match e with
      | .normal => awp cx C (fun e _ st3 => match e with
          | .normal | .ret => ADcl cx g ((cs.map (ev cx.G ρ1)).toList) st3 none (resQ cx.P fn.results ρ1 k)
          | _ => False) (fun V st3 => ADcl cx g ((cs.map (ev cx.G ρ1)).toList) st3 (some V) (resQ cx.P fn.results ρ1 k)) (put ρ1 t (.func (.func g) #[] (cs.map (ev cx.G ρ1)))) st1
      | .ret => retQ cx.P fn.results k .ret ρ1 st1
      | _ => False) q (env0 args) st) : ay cx f args st k q := by
  intro kd φ w vals hr hv
  have hsz : vals.size = args.length := by have := hv.1; simpa using this.symm
  have he : EnvR φ ⟨fn.ntmps, kd, [], fun _ => none, false⟩ kd (env0 args) { tmps := vals ++ Array.replicate (fn.ntmps - vals.size) undef, defers := [] } := by
    refine ⟨by simp; omega, ⟨[], rfl, rfl, fun _ => rfl⟩, fun t => ?_, fun _ _ h => by cases h⟩
    unfold env0
    by_cases ht : t < args.length
    · obtain ⟨v, h1, h2⟩ := hv.2 t args[t] (by simp [ht])
      have e1 : args.getD t undef = args[t] := by simp [List.getD, ht]
      have hts : t < vals.size := by omega
      rw [e1, Array.getD_eq_getD_getElem?, Array.getElem?_append_left hts]
      rw [← Array.getElem?_toList, h1]
      exact h2
    · have e1 : args.getD t undef = undef := by simp [List.getD, List.getElem?_eq_none (by omega : args.length ≤ t)]
      rw [e1]
      exact .junk _
  have fin : ∀ {φ1 : Emb} {ρ1 : Env} {st1 : St} {tm : Array Value} {kd1 : Nat → Bool} {ms0 : List Deferred} {w1 : World}, φ.le φ1 → Marks kd kd1 ms0 → HR (cx.at kd1) φ1 st1 w1 → (∀ t, VR φ1 (ρ1 t) (tm.getD t undef)) → resQ cx.P fn.results ρ1 k st1 →
      LeavesInM Fence.wide 0 cx.P fn tm (endR cx kd φ k q) ms0 .returning w1 := by
    intro φ1 ρ1 st1 tm kd1 ms0 w1 hle1 hms h1 hsl hq
    unfold resQ at hq
    cases hre : ares cx.P fn.results ρ1 st1 with
    | none => rw [hre] at hq; exact hq.elim
    | some V =>
      rw [hre] at hq
      have := dW (cx := cx) (P := cx.P) (fn := fn) (tmps := tm) (R := endR cx kd φ k q) (u := .returning) (k0 := kd) (by simp) rfl (dl := []) (fun w'' h'' => by
          have he'' : EnvR φ1 ⟨tm.size, kd, [], fun _ => none, false⟩ kd ρ1 { tmps := tm, defers := [] } := ⟨rfl, ⟨[], rfl, rfl, fun _ => rfl⟩, hsl, fun _ _ h => by cases h⟩
          obtain ⟨v, r1, r2⟩ := tT (fn := fn) h'' he'' hre
          exact ⟨v, r1, φ1, V, st1, hle1, r2, h'', hq⟩) ms0 kd1 w1 hms h1
      rw [List.append_nil] at this
      exact this
  have dead : ∀ {φ1 : Emb} {V v : Value} {st1 : St} {a1 : Act} {kd1 : Nat → Bool} {w1 : World}, φ.le φ1 → VR φ1 V v → HR (cx.at kd1) φ1 st1 w1 → Gy ⟨fn.ntmps, kd, [], fun _ => none, false⟩ kd1 a1 → q V st1 →
      LeavesInM Fence.wide 0 cx.P fn a1.tmps (endR cx kd φ k q) a1.defers (.panicking [{ v := v, recovered := false }]) w1 := by
    intro φ1 V v st1 a1 kd1 w1 hle1 hv1 h1 hg1 hq
    obtain ⟨⟨ms, em, hms, _⟩, _⟩ := hg1
    rw [em]
    refine dW (cx := cx) (by simp) rfl (fun w'' h'' => ?_) ms _ _ hms h1
    exact (show ∃ φ' V v' st', [({ v := v, recovered := false } : PanicEntry)] = [{ v := v', recovered := false }] ∧ φ.le φ' ∧ VR φ' V v' ∧ HR (cx.at kd) φ' st' w'' ∧ q V st' from ⟨φ1, V, v, st1, rfl, hle1, hv1, h'', hq⟩)
  refine (callsIn_wide (n := 0)).1 (callsIn_of_wp_marks (R := endR cx kd φ k q) hf hb trivial ?_)
  simp only [okC, okCr, Bool.and_eq_true] at hN
  refine wpIn_seq (wpIn_mono (iC (ro := none) (fx := ⟨fn.ntmps, kd, [], fun _ => none, false⟩) hm (rf := true) (fun _ => rfl) (fun e => by cases e) A hN.1 _ q kd φ φ _ st _ w (Emb.le_refl _) hr he (show awp cx A _ q (env0 args) st from h)) fun e a' w' hl => ?_)
  rcases hl with ⟨kd', φ', ρ', st', hp, hle', h', he', hq'⟩ | ⟨kd', φ', V, v, st', rfl, hle', hv', h', hd', hq'⟩
  rotate_left
  · exact dead hle' hv' h' hd' hq'
  cases e with
  | exit i => exact hq'.elim
  | goto i => exact hq'.elim
  | panic ch => cases hp
  | outgrown => cases hp
  | ret =>
    obtain ⟨ms, em, hms, _⟩ := he'.defers
    show LeavesInM Fence.wide 0 cx.P fn a'.tmps (endR cx kd φ k q) a'.defers .returning w'
    rw [em]
    simp only [List.append_nil]
    exact fin hle' hms h' he'.slot hq'
  | normal =>
  refine wpIn_seq (wpIn_mono (iC (ro := none) (fx := ⟨fn.ntmps, kd, [], fun _ => none, false⟩) hm (rf := true) (fun _ => rfl) (fun e => by cases e) B hN.2 _ q kd' φ φ' _ st' _ w' hle' h' he' hq') fun e a' w' hl => ?_)
  clear hq' h' he' hle'
  rcases hl with ⟨kd', φ', ρ', st', hp, hle', h', he', hq'⟩ | ⟨kd', φ', V, v, st', rfl, hle', hv', h', hd', hq'⟩
  rotate_left
  · exact dead hle' hv' h' hd' hq'
  cases e with
  | exit i => exact hq'.elim
  | goto i => exact hq'.elim
  | panic ch => cases hp
  | outgrown => cases hp
  | ret =>
    obtain ⟨ms, em, hms, _⟩ := he'.defers
    show LeavesInM Fence.wide 0 cx.P fn a'.tmps (endR cx kd φ k q) a'.defers .returning w'
    rw [em]
    simp only [List.append_nil]
    exact fin hle' hms h' he'.slot hq'
  | normal =>
  have hq2 : awp cx C (fun e _ st3 => match e with
          | .normal | .ret => ADcl cx g ((cs.map (ev cx.G ρ')).toList) st3 none (resQ cx.P fn.results ρ' k)
          | _ => False) (fun V st3 => ADcl cx g ((cs.map (ev cx.G ρ')).toList) st3 (some V) (resQ cx.P fn.results ρ' k)) (put ρ' t (.func (.func g) #[] (cs.map (ev cx.G ρ')))) st' := hq'
  clear hq'
  obtain ⟨ms0, em0, hms0, _⟩ := he'.defers
  have hcv : VRL φ' ((cs.map (ev cx.G ρ')).toList) (cs.map a'.eval).toList := by
    rw [Array.toList_map, Array.toList_map]
    exact VRL.mapO (fun o => he'.ev h' o) cs.toList
  have hfv : VR φ' (.func (.func g) #[] (cs.map (ev cx.G ρ'))) (.func (.func g) #[] (cs.map a'.eval)) :=
    .func _ rfl rfl (fun i h1 h2 => absurd h1 (Nat.not_lt_zero _)) (by simp) fun i h1 h2 => by
      rw [Array.getElem_map, Array.getElem_map]
      exact he'.ev h' _
  have hput := he'.put (d := some t) (by simp [Fx.can, ht]) hfv
  have hget : (a'.put (some t) (.func (.func g) #[] (cs.map a'.eval))).eval (.tmp t) = .func (.func g) #[] (cs.map a'.eval) := by
    simp only [Act.eval, Act.put]
    rw [Array.getD_eq_getD_getElem?, Array.getElem?_setIfInBounds_self_of_lt (by rw [he'.size]; exact ht)]
    rfl
  have hkeep : ∀ x, fixed.contains x = true → (a'.put (some t) (.func (.func g) #[] (cs.map a'.eval))).tmps.getD x undef = a'.tmps.getD x undef := fun x hx => by
    have e : x ≠ t := fun e => by subst e; rw [htf] at hx; cases hx
    simp only [Act.put]
    rw [Array.getD_eq_getD_getElem?, Array.getElem?_setIfInBounds_ne (Ne.symm e), ← Array.getD_eq_getD_getElem?]
  have hcall : ∀ W, (invoke (.fn (.func g) (cs.map a'.eval)) #[]).run cx.P W = .ok (.enter g (cs.map a'.eval)) W := fun W => by
    simp only [invoke]
    unfold callFunc
    simp only [Sem.run_bind, run_program, Result.andThen_ok, hg, hgn, Bool.false_eq_true, if_false, hgb]
    simp
  have run : ∀ {φ3 : Emb} {st3 : St} {a3 : Act} {w3 : World} {u : Option Value} {uf : FrameMode}, φ'.le φ3 → HR (cx.at kd') φ3 st3 w3 → (∀ x v, (if fixed.contains x then some (a'.tmps.getD x undef) else none) = some v → a3.tmps.getD x undef = v) →
      uf ≠ .run → (∀ R : Ending → FrameMode → World → Prop, (∀ v u' w4, (settle u' = .returning ∧ ∃ φ4 st4, φ3.le φ4 ∧ HR (cx.at kd') φ4 st4 w4 ∧ resQ cx.P fn.results ρ' k st4) → R (.returned v) u' w4) → CallsDIn Fence.wide 0 cx.P g (cs.map a'.eval) uf w3 R) →
      LeavesInM Fence.wide 0 cx.P fn a3.tmps (endR cx kd φ k q) ({ target := .fn (.func g) (cs.map a'.eval), args := #[] } :: a'.defers) uf w3 := by
    intro φ3 st3 a3 w3 u uf hle3 h3 hk3 hu hcl
    refine ⟨hu, .inr ⟨fun e => absurd e (by simp [Fence.wide]), .func g, cs.map a'.eval, g, cs.map a'.eval, rfl, hcall w3, fun _ _ => trivial, hcl _ fun v u' w4 hR => ?_⟩⟩
    obtain ⟨hse, φ4, st4, hle4, h4, hq4⟩ := hR
    show LeavesInM Fence.wide 0 cx.P fn a3.tmps (endR cx kd φ k q) a'.defers (settle u') w4
    rw [hse, em0, List.append_nil]
    refine fin (ρ1 := uR fixed ρ') (Emb.le_trans hle' (Emb.le_trans hle3 hle4)) hms0 h4 (fun x => ?_) (by unfold resQ; rw [Ih hres]; exact hq4)
    unfold uR
    cases hx : fixed.contains x with
    | false => exact .junk _
    | true =>
      rw [if_pos rfl, hk3 x _ (by rw [if_pos hx])]
      exact (he'.slot x).mono (Emb.le_trans hle3 hle4)
  have hE2 : EnvR φ' ⟨fn.ntmps, kd', { target := .fn (.func g) (cs.map a'.eval), args := #[] } :: a'.defers, fun x => if fixed.contains x then some (a'.tmps.getD x undef) else none, false⟩ kd' (put ρ' t (.func (.func g) #[] (cs.map (ev cx.G ρ'))))
      { a'.put (some t) (.func (.func g) #[] (cs.map a'.eval)) with defers := { target := .fn (.func g) (cs.map a'.eval), args := #[] } :: a'.defers } :=
    ⟨hput.size, ⟨[], rfl, rfl, fun _ => rfl⟩, hput.slot, fun x v hx => by
      dsimp only at hx
      cases hxf : fixed.contains x with
      | false => rw [hxf, if_neg (by decide)] at hx; cases hx
      | true =>
        rw [hxf, if_pos rfl] at hx
        injection hx with hx
        rw [← hx]
        exact hkeep x hxf⟩
  have hC2 : okCr true (Fx.can ⟨fn.ntmps, kd', { target := .fn (.func g) (cs.map a'.eval), args := #[] } :: a'.defers, fun x => if fixed.contains x then some (a'.tmps.getD x undef) else none, false⟩) C = true :=
    qJ (fun x hx => by
      rw [Bool.and_eq_true, Bool.not_eq_true'] at hx
      unfold Fx.can
      dsimp only
      rw [hx.1, if_neg (by decide), hx.2]
      rfl) hC
  have hw := iC (ro := none) hm (rf := true) (fun _ => rfl) (fun e => by cases e) C hC2 _ _ kd' φ' φ' _ st' _ w' (Emb.le_refl _) h' hE2 hq2
  have body : C.wpIn Fence.wide 0 cx.P (bodyPostM Fence.wide 0 cx.P fn (endR cx kd φ k q)) { a'.put (some t) (.func (.func g) #[] (cs.map a'.eval)) with defers := { target := .fn (.func g) (cs.map a'.eval), args := #[] } :: a'.defers } w' := by
    refine wpIn_mono hw fun e a3 w3 hl => ?_
    rcases hl with ⟨kd3, φ3, ρ3, st3, hp3, hle3, h3, he3, hq3⟩ | ⟨kd3, φ3, V, v, st3, rfl, hle3, hv3, h3, hd3, hq3⟩
    · have out : ∀ (hq3 : ADcl cx g ((cs.map (ev cx.G ρ')).toList) st3 none (resQ cx.P fn.results ρ' k)), LeavesInM Fence.wide 0 cx.P fn a3.tmps (endR cx kd φ k q) a3.defers .returning w3 := fun hq3 => by
        obtain ⟨ms, em, hms, _⟩ := he3.defers
        rw [em]
        refine dW (cx := cx) (by simp) rfl (fun w'' h'' => ?_) ms _ _ hms h3
        refine run (u := none) hle3 h'' he3.keep (by simp) fun R hR => ?_
        refine CallsDIn.mono (hq3 kd' φ3 w'' _ h'' (hcv.mono hle3)) fun e u' w4 h4 => ?_
        cases e with
        | returned v =>
          obtain ⟨rfl, φ4, st4, g1, g2, g3⟩ := h4
          exact hR v _ w4 ⟨rfl, φ4, st4, g1, g2, g3⟩
        | panicked ch => exact h4.elim
        | outgrown => exact h4.elim
      cases e with
      | normal => exact out hq3
      | ret => exact out hq3
      | exit i => exact hq3.elim
      | goto i => exact hq3.elim
      | panic ch => cases hp3
      | outgrown => cases hp3
    · show LeavesInM Fence.wide 0 cx.P fn a3.tmps (endR cx kd φ k q) a3.defers _ w3
      obtain ⟨⟨ms, em, hms, _⟩, hk3⟩ := hd3
      rw [em]
      refine dW (cx := cx) (by simp) rfl (fun w'' h'' => ?_) ms _ _ hms h3
      refine run (u := some V) hle3 h'' hk3 (by simp) fun R hR => ?_
      refine CallsDIn.mono (hq3 kd' φ3 w'' _ h'' (hcv.mono hle3) v hv3) fun e u' w4 h4 => ?_
      cases e with
      | returned v' =>
        obtain ⟨rfl, φ4, st4, g1, g2, g3⟩ := h4
        exact hR v' _ w4 ⟨rfl, φ4, st4, g1, g2, g3⟩
      | panicked ch => exact h4.elim
      | outgrown => exact h4.elim
  refine wpIn_seq (wpIn_region ?_)
  show wpOpsIn _ 0 cx.P _ _ [0, 1] a' w'
  refine ⟨fun _ _ => trivial, ?_⟩
  have s1 : ((⟨some t, .makeFunc (.func g) #[] cs, ty1, p1, a1, none⟩ : Oper).semAt none a'.eval).run cx.P w' = .ok (.value (.func (.func g) #[] (cs.map a'.eval))) w' := by
    rw [Oper.semAt_none]
    simp [execOp, Instr.makeFunc]
  show Oper.uponIn _ 0 cx.P (⟨some t, .makeFunc (.func g) #[] cs, ty1, p1, a1, none⟩ : Oper) _ _ _ (((⟨some t, .makeFunc (.func g) #[] cs, ty1, p1, a1, none⟩ : Oper).semAt none a'.eval).run cx.P w')
  rw [s1, Oper.uponIn_value]
  refine ⟨fun _ _ => trivial, ?_⟩
  have s2 : ((⟨none, .defer ⟨.value (.tmp t), #[], #[]⟩, ty2, p2, a2, none⟩ : Oper).semAt none (a'.put (some t) (.func (.func g) #[] (cs.map a'.eval))).eval).run cx.P w' = .ok (.defer { target := .fn (.func g) (cs.map a'.eval), args := #[] }) w' := by
    rw [Oper.semAt_none]
    simp only [execOp, resolve, hget]
    simp [Deferred.ofValue]
  show Oper.uponIn _ 0 cx.P _ _ _ _ (((⟨none, .defer ⟨.value (.tmp t), #[], #[]⟩, ty2, p2, a2, none⟩ : Oper).semAt none (a'.put (some t) (.func (.func g) #[] (cs.map a'.eval))).eval).run cx.P w')
  rw [s2, Oper.uponIn_defer]
  exact body
theorem zf {F : Fence} {n : Nat} {P : Program} {ops : Array Oper} {Q : Exit → Act → List Frame → World → Prop} {i : Nat} {rest : List Nat} {a : Act} {cs : List Frame} {w w' : World} {o : Oper} (ho : ops[i]? = some o) (hw : Region.wanted o (yielded ops a.tmps) = true)
    (ha : ∀ f, o.about P w a.eval = some f → F.fn f) (hr : (execOp a.eval o).run P w = .ok .recover w')
    (h1 : ∀ v cs', recoverD cs = some (v, cs') → wpOpsSIn F n P ops Q rest (a.put o.dst v) cs' w') (h2 : recoverD cs = none → wpOpsSIn F n P ops Q rest (a.put o.dst .nilIface) cs w') : wpOpsSIn F n P ops Q (i :: rest) a cs w := by
  simp only [wpOpsSIn, ho, hw, if_true, hr]
  refine ⟨ha, ?_⟩
  split
  · exact h1 _ _ (by assumption)
  · exact h2 (by assumption)
theorem zh {F : Fence} {n : Nat} {P : Program} {ops : Array Oper} {Q : Exit → Act → List Frame → World → Prop} {i : Nat} {rest : List Nat} {a : Act} {cs : List Frame} {w w' : World} {o : Oper} {v : Value} (ho : ops[i]? = some o) (hw : Region.wanted o (yielded ops a.tmps) = true)
    (ha : ∀ f, o.about P w a.eval = some f → F.fn f) (hr : (execOp a.eval o).run P w = .ok (.value v) w') (h : wpOpsSIn F n P ops Q rest (a.put o.dst v) cs w') : wpOpsSIn F n P ops Q (i :: rest) a cs w := by
  simp only [wpOpsSIn, ho, hw, if_true, hr]
  exact ⟨ha, h⟩
theorem ADcl.of (hm : cx.P.follows .mixedOrders = true) {g id s1 s2 : Nat} {fn : Func} {C : Code} {ty1 ty2 : TypeId} {p1 p2 : String} {a1 a2 : Array Edge} {args : List Value} {st : St} {u : Option Value} {k : St → Prop}
    (hf : cx.P.funcs[g]? = some fn) (hb : fn.body = some (.seq (.region id #[⟨some s1, .call ⟨.builtin .recover, #[], #[]⟩, ty1, p1, a1, none⟩, ⟨some s2, .assign (.tmp s1), ty2, p2, a2, none⟩] false) C))
    (hN : okCr false (fun t => decide (t < fn.ntmps)) C = true) (h1 : s1 < fn.ntmps) (h2 : s2 < fn.ntmps) (hl : args.length ≤ fn.ntmps) (hr0 : fn.results = #[])
    (h : awp cx C (fun e _ st' => match e with
      | .normal | .ret => k st'
      | _ => False) (fun _ _ => False) (put (put (env0 args) s1 (u.getD .nilIface)) s2 (u.getD .nilIface)) st) : ADcl cx g args st u k := by
  intro kd φ w vals hr hv
  have hsz : vals.size = args.length := by have := hv.1; simpa using this.symm
  have he : EnvR φ ⟨fn.ntmps, kd, [], fun _ => none, true⟩ kd (env0 args) { tmps := vals ++ Array.replicate (fn.ntmps - vals.size) undef, defers := [] } := by
    refine ⟨by simp; omega, ⟨[], rfl, rfl, fun _ => rfl⟩, fun t => ?_, fun _ _ h => by cases h⟩
    unfold env0
    by_cases ht : t < args.length
    · obtain ⟨v, h1, h2⟩ := hv.2 t args[t] (by simp [ht])
      have e1 : args.getD t undef = args[t] := by simp [List.getD, ht]
      have hts : t < vals.size := by omega
      rw [e1, Array.getD_eq_getD_getElem?, Array.getElem?_append_left hts]
      rw [← Array.getElem?_toList, h1]
      exact h2
    · have e1 : args.getD t undef = undef := by simp [List.getD, List.getElem?_eq_none (by omega : args.length ≤ t)]
      rw [e1]
      exact .junk _
  have hresv : ∀ (tm : Array Value) W, (results fn tm).run cx.P W = .ok (.tuple #[]) W := fun tm W => by
    unfold results
    rw [hr0]
    simp
  have walk : ∀ (c₀ : Frame) (cs cs' : List Frame) (v : Value) (u' : FrameMode) (R : Ending → FrameMode → World → Prop), VR φ (u.getD .nilIface) v →
      (recoverD (c₀ :: cs) = some (v, cs') ∨ recoverD (c₀ :: cs) = none ∧ v = .nilIface ∧ cs' = c₀ :: cs) → cs' = { c₀ with mode := u' } :: cs →
      (∀ w' φ' st', φ.le φ' → HR (cx.at kd) φ' st' w' → k st' → R (.returned (.tuple #[])) u' w') →
      (Code.seq (.region id #[⟨some s1, .call ⟨.builtin .recover, #[], #[]⟩, ty1, p1, a1, none⟩, ⟨some s2, .assign (.tmp s1), ty2, p2, a2, none⟩] false) C).wpSIn Fence.wide 0 cx.P (bodyPostS cx.P fn c₀ cs R) { tmps := vals ++ Array.replicate (fn.ntmps - vals.size) undef, defers := [] } (c₀ :: cs) w := by
    intro c₀ cs cs' v u' R hvv hrec hcs hR
    refine wpSIn_seq (wpSIn_region ?_)
    have hE1 := he.put (d := some s1) (by simp [Fx.can, h1]) hvv
    have hE2 := hE1.put (d := some s2) (by simp [Fx.can, h2]) hvv
    have hget : (Act.put { tmps := vals ++ Array.replicate (fn.ntmps - vals.size) undef, defers := [] } (some s1) v).eval (.tmp s1) = v := by
      simp only [Act.eval, Act.put]
      rw [Array.getD_eq_getD_getElem?, Array.getElem?_setIfInBounds_self_of_lt (by rw [he.size]; exact h1)]
      rfl
    have rest : C.wpSIn Fence.wide 0 cx.P (bodyPostS cx.P fn c₀ cs R) (((Act.put { tmps := vals ++ Array.replicate (fn.ntmps - vals.size) undef, defers := [] } (some s1) v)).put (some s2) v) cs' w := by
      refine wpSIn_of_wpIn rfl (wpIn_mono (iC (ro := none) (fx := ⟨fn.ntmps, kd, [], fun _ => none, true⟩) hm (rf := false) (fun _ => rfl) (fun _ => rfl) C hN _ _ kd φ φ _ st _ w (Emb.le_refl _) hr hE2 h) fun e a' w' hl => ?_)
      rcases hl with ⟨kd', φ', ρ', st', hp, hle', h', he', hq'⟩ | ⟨kd', φ', V, v, st', rfl, hle', hv', h', hd', hq'⟩
      rotate_left
      · exact hq'.elim
      obtain ⟨ms, em, hms, hfl⟩ := he'.defers
      obtain rfl := hfl rfl
      obtain rfl : kd' = kd := hms
      have out : ∀ (hk : k st'), a'.defers = [] ∧ ∃ u'', cs' = { c₀ with mode := u'' } :: cs ∧ ∃ v, (results fn a'.tmps).run cx.P w' = .ok v w' ∧ R (.returned v) u'' w' := fun hk => ⟨em, u', hcs, .tuple #[], hresv _ _, hR w' φ' st' hle' h' hk⟩
      cases e with
      | normal => exact out hq'
      | ret => exact out hq'
      | exit i => exact hq'.elim
      | goto i => exact hq'.elim
      | panic ch => cases hp
      | outgrown => cases hp
    have e1 : (execOp (Act.eval { tmps := vals ++ Array.replicate (fn.ntmps - vals.size) undef, defers := [] }) ⟨some s1, .call ⟨.builtin .recover, #[], #[]⟩, ty1, p1, a1, none⟩).run cx.P w = .ok .recover w := by
      simp [execOp, resolve, invoke, builtin]
    have e2 : ∀ r : Operand → Value, (execOp r ⟨some s2, .assign (.tmp s1), ty2, p2, a2, none⟩).run cx.P w = .ok (.value (r (.tmp s1))) w := fun r => rfl
    have second : wpOpsSIn Fence.wide 0 cx.P #[⟨some s1, .call ⟨.builtin .recover, #[], #[]⟩, ty1, p1, a1, none⟩, ⟨some s2, .assign (.tmp s1), ty2, p2, a2, none⟩] (Exit.thenS (C.wpSIn Fence.wide 0 cx.P (bodyPostS cx.P fn c₀ cs R)) (bodyPostS cx.P fn c₀ cs R)) [1]
        (Act.put { tmps := vals ++ Array.replicate (fn.ntmps - vals.size) undef, defers := [] } (some s1) v) cs' w :=
      zh (o := ⟨some s2, .assign (.tmp s1), ty2, p2, a2, none⟩) (v := v) rfl rfl (fun _ _ => trivial) (by rw [e2, hget]) rest
    refine zf (i := 0) (rest := [1]) rfl rfl (fun _ _ => trivial) e1 (fun v2 cs2 hr2 => ?_) (fun hr2 => ?_)
    · rcases hrec with hrec | ⟨hrec, _, _⟩
      · rw [hrec] at hr2
        injection hr2 with hr2
        injection hr2 with g1 g2
        subst g1 g2
        exact second
      · rw [hrec] at hr2; cases hr2
    · rcases hrec with hrec | ⟨hrec, rfl, rfl⟩
      · rw [hrec] at hr2; cases hr2
      · exact second
  cases u with
  | none =>
    refine callsDIn_of_wpSIn hf hb trivial fun c₀ cs hu => ?_
    exact walk c₀ cs (c₀ :: cs) .nilIface .returning _ .nilIface (.inr ⟨by simp [recoverD, hu], rfl, rfl⟩) (by rw [← hu]) (fun w' φ' st' a b c => ⟨rfl, φ', st', a, b, c⟩)
  | some V =>
    intro v hvv
    refine callsDIn_of_wpSIn hf hb trivial fun c₀ cs hu => ?_
    exact walk c₀ cs _ v (.panicking [{ v := v, recovered := true }]) _ hvv (.inl (by simp [recoverD, hu])) rfl (fun w' φ' st' a b c => ⟨rfl, φ', st', a, b, c⟩)
end
end Go.Abs
