/- Rules for the walk over the abstract heap: what 'simp' is given. -/
import Derived.Test.YtohgmkjhbacmpaaGreatDoorAbsZ
set_option linter.unusedVariables false
set_option linter.unusedSimpArgs false
namespace Go.Abs
open Go.RowKit
inductive Tag {α : Sort _} (x : α) : Type | mk
def stop {α : Sort _} (x : α) (t : Tag x) : α := x
theorem stop1 {α β : Type} (f : α → β) (a : α) : stop f .mk a = f a := (rfl)
theorem Jl {α β γ : Type} (f : α → β → γ) (a : α) (b : β) : stop f .mk a b = f a b := (rfl)
theorem Jm {α β γ δ : Type} (f : α → β → γ → δ) (a : α) (b : β) (c : γ) : stop f .mk a b c = f a b c := (rfl)
def olet (x : Option Value) (f : Value → Prop) : Prop :=
  match x with
  | some v => f v
  | none => False
def slet (x : Option St) (f : St → Prop) : Prop :=
  match x with
  | some v => f v
  | none => False
theorem CB (v : Value) (f : Value → Prop) : olet (some v) f = f v := (rfl)
theorem CF (v : St) (f : St → Prop) : slet (some v) f = f v := (rfl)
theorem CG (v : Value) (s : St) (f : Value → St → Prop) : alet (some (v, s)) f = f v s := (rfl)
theorem cu (x : Option Value) (st : St) (f : Value → St → Prop) : alet (x.map fun v => (v, st)) f = olet x fun v => f v st := by cases x <;> rfl
@[congr] theorem Ip {x y : Option Value} {f : Value → Prop} (h : x = y) : olet x f = olet y f := by rw [h]
@[congr] theorem Iq {x y : Option St} {f : St → Prop} (h : x = y) : slet x f = slet y f := by rw [h]
@[congr] theorem Ir {x y : Option (Value × St)} {f : Value → St → Prop} (h : x = y) : alet x f = alet y f := by rw [h]
@[congr] theorem Ht {v v' : Value} {b : Bool} {x y : Prop} (h : v = v') : gF v b x y = gF v' b x y := by rw [h]
@[congr] theorem FW {v v' : Value} {x y : Prop} (h : v = v') : bC v x y = bC v' x y := by rw [h]
@[congr] theorem Gc {cx : Cx} {f f' : Value} {args args' : List Value} {st : St} {k q : Value → St → Prop} (h : f = f') (h' : args = args') : fB cx f args st k q = fB cx f' args' st k q := by rw [h, h']
@[congr] theorem Gd {cx : Cx} {f : Nat} {args args' : List Value} {st : St} {k q : Value → St → Prop} (h' : args = args') : au cx f args st k q = au cx f args' st k q := by rw [h']
@[congr] theorem Gf {cx : Cx} {B : Nat} {args args' : List Value} {st : St} {k : Value → St → Prop} (h' : args = args') : jK cx B args st k = jK cx B args' st k := by rw [h']
@[congr] theorem Gg {cx : Cx} {g g' : Value} {ps : Array Nat} {x y : Code} {Q : Post} {q : bZ} {ρ : Env} {st : St} (h : g = g') : iJ cx g ps x y Q q ρ st = iJ cx g' ps x y Q q ρ st := by rw [h]
@[congr] theorem Iu {cx : Cx} {ops : Array Oper} {l : List Oper} {Q : Post} {q : bZ} {ρ : Env} {st : St} : aops cx ops l Q q ρ st = aops cx ops l Q q ρ st := (rfl)
@[congr] theorem Jf {cx : Cx} {c : Code} {Q : Post} {q : bZ} {ρ : Env} {st : St} : awp cx c Q q ρ st = awp cx c Q q ρ st := (rfl)
@[congr] theorem Gh {cx : Cx} {o : Op} {k q : bZ} {ρ : Env} {st : St} : abody cx o ρ st k q = abody cx o ρ st k q := (rfl)
@[congr] theorem Hu {recs : List (Nat × (St → Prop))} {l : List Nat} {st : St} {x : Prop} : gT recs l st x = gT recs l st x := (rfl)
@[congr] theorem Hw {cx : Cx} {ops : Array Oper} {π : Plan} {recs : List (Nat × (St → Prop))} {Q : Post} {q : bZ} {ρ : Env} {st : St} : jv cx ops π recs Q q ρ st = jv cx ops π recs Q q ρ st := (rfl)
@[congr] theorem Hy {F : Post → Env → St → Prop} {Q : Post} {ρ : Env} {st : St} : qP F Q ρ st = qP F Q ρ st := (rfl)
@[congr] theorem Hz {cx : Cx} {ops : Array Oper} {Q : Post} {q : bZ} {ρ : Env} {st : St} : bE cx ops Q q ρ st = bE cx ops Q q ρ st := (rfl)
section
variable {cx : Cx} {ρ : Env} {st : St} {k q : Value → St → Prop} {Q : Post} {qp : bZ}
theorem CJ (b : Bool) (x y : Prop) : gF (.bool b) b (stop x .mk) y = x := by simp [gF, stop]
theorem CK (x y : Prop) : gF (.bool true) false x (stop y .mk) = y := by simp [gF, stop]
theorem CO (x y : Prop) : gF (.bool false) true x (stop y .mk) = y := by simp [gF, stop]
theorem z8 (w : Bool) (x y : Prop) : gF mH w (stop x .mk) (stop y .mk) = y := by cases w <;> simp [gF, stop, mH]
theorem vQ (x y : Prop) : bC (.bool true) x y = x := by simp [bC]
theorem tC (x y : Prop) : bC (.bool false) x y = y := by simp [bC]
theorem yh (p : Prop) [Decidable p] (x y : Prop) : bC (.bool (decide p)) x y = ((p → x) ∧ (¬ p → y)) := by simp [bC]
theorem Aa (a b : Int) (x y : Prop) : bC (.bool (a == b)) x y = ((a = b → x) ∧ (¬ a = b → y)) := by simp [bC]
theorem Ab (a b : Int) (x y : Prop) : bC (.bool (a != b)) x y = ((¬ a = b → x) ∧ (a = b → y)) := by simp [bC]
theorem yj (b : Bool) (x y : Prop) : bC (.bool (!b)) x y = bC (.bool b) y x := by cases b <;> simp [bC]
theorem cB {x : Int} (h : -9223372036854775808 ≤ x ∧ x ≤ 9223372036854775807) : IntKind.i64.wrap x = x := wrap_i64 h.1 h.2
theorem Ac (i : Nat) (l : List Oper) : awp cx (.region i l.toArray false) Q qp ρ st = aops cx l.toArray l Q qp ρ st := (rfl)
theorem Ej (i : Nat) (ops : Array Oper) : awp cx (.region i ops true) Q qp ρ st = bE cx (stop ops .mk) (stop Q .mk) (stop qp .mk) ρ st := (rfl)
theorem aj (x y : Code) : awp cx (.seq x y) Q qp ρ st = awp cx x (mW (fun ρ st => awp cx y Q qp ρ st) Q) qp ρ st := (rfl)
theorem El (c : Operand) (x y : Code) : awp cx (.cond c x y) Q qp ρ st = bC (ev cx.G ρ c) (awp cx x Q qp ρ st) (awp cx y Q qp ρ st) := (rfl)
theorem ah (i : Nat) (c : Code) : awp cx (.block i c) Q qp ρ st = awp cx c (fO i Q) qp ρ st := (rfl)
theorem Em (c : Code) : awp cx (.loop c) Q qp ρ st = qP (stop (fun Q ρ st => awp cx c Q qp ρ st) .mk) (stop Q .mk) ρ st := (rfl)
theorem En (i : Nat) : awp cx (.exit i) Q qp ρ st = Q (.exit i) ρ st := (rfl)
theorem Gi : awp cx .ret Q qp ρ st = Q .ret ρ st := (rfl)
theorem Eo : awp cx .skip Q qp ρ st = Q .normal ρ st := (rfl)
theorem CP (l : Nat) : awp cx (.label l) Q qp ρ st = Q .normal ρ st := (rfl)
theorem vR (n : Env → St → Prop) : mW n Q .normal ρ st = n ρ st := (rfl)
theorem CQ (n : Env → St → Prop) : mW n Q .ret ρ st = Q .ret ρ st := (rfl)
theorem Ad (n : Env → St → Prop) (i : Nat) : mW n Q (.exit i) ρ st = Q (.exit i) ρ st := (rfl)
theorem p9 (i : Nat) : fO i Q .normal ρ st = Q .normal ρ st := (rfl)
theorem vS (i : Nat) : fO i Q .ret ρ st = Q .ret ρ st := (rfl)
theorem tF (i j : Nat) : fO i Q (.exit j) ρ st = if j = i then Q .normal ρ st else Q (.exit j) ρ st := (rfl)
theorem yt (P : Program) (rs : Array ResultVar) : retQ P rs k .normal ρ st = olet (ares P rs ρ st) (stop (fun v => k v st) .mk) := by
  unfold retQ olet; rfl
theorem Ep (P : Program) (rs : Array ResultVar) : retQ P rs k .ret ρ st = olet (ares P rs ρ st) (stop (fun v => k v st) .mk) := by
  unfold retQ olet; rfl
theorem Er (ops : Array Oper) : aops cx ops [] Q qp ρ st = Q .normal ρ st := (rfl)
theorem Gj (ops : Array Oper) (d : Nat) (op : Op) (ty : TypeId) (pos : String) (aft : Array Edge) (r : List Oper) :
    aops cx ops (⟨some d, op, ty, pos, aft, none⟩ :: r) Q qp ρ st = abody cx op ρ st (fun V st' => aops cx ops r Q qp (put ρ d V) st') qp := (rfl)
theorem Et (ops : Array Oper) (op : Op) (ty : TypeId) (pos : String) (aft : Array Edge) (r : List Oper) :
    aops cx ops (⟨none, op, ty, pos, aft, none⟩ :: r) Q qp ρ st = abody cx op ρ st (fun V st' => aops cx ops r Q qp ρ st') qp := (rfl)
def gsl (ops : Array Oper) (g : Nat) : Option Nat := (ops[g]?).bind (·.dst)
theorem Iw (ops : Array Oper) (d : Nat) (op : Op) (ty : TypeId) (pos : String) (aft : Array Edge) (g : Nat) (w : Bool) (r : List Oper) :
    aops cx ops (⟨some d, op, ty, pos, aft, some (g, w)⟩ :: r) Q qp ρ st = olet ((gsl ops g).map ρ) (stop (fun v => gF v w (stop (abody cx op ρ st (fun V st' => aops cx ops r Q qp (put ρ d V) st') qp) .mk) (stop (aops cx ops r Q qp (put ρ d mH) st) .mk)) .mk) := by
  show bI cx ops _ ρ st _ qp = _
  unfold bI kC gsl
  simp only
  cases (ops[g]?).bind (·.dst) <;> rfl
theorem yu (ops : Array Oper) (dst : Option Nat) (op : Op) (ty : TypeId) (pos : String) (aft : Array Edge) :
    bI cx ops ⟨dst, op, ty, pos, aft, none⟩ ρ st k q = abody cx op ρ st k q := (rfl)
theorem yw (ops : Array Oper) (dst : Option Nat) (op : Op) (ty : TypeId) (pos : String) (aft : Array Edge) (g : Nat) (w : Bool) :
    bI cx ops ⟨dst, op, ty, pos, aft, some (g, w)⟩ ρ st k q = olet (((ops[g]?).bind (·.dst)).map ρ) (stop (fun v => gF v w (stop (abody cx op ρ st k q) .mk) (stop (k mH st) .mk)) .mk) := by
  unfold bI kC
  simp only
  cases (ops[g]?).bind (·.dst) <;> rfl
theorem Gl {c : Prop} [Decidable c] (x : Option Value) (f : Value → Prop) : olet (if c then x else none) f = (c ∧ olet x f) := by
  by_cases h : c <;> simp [h, olet]
theorem Gm {c : Prop} [Decidable c] (x : Option St) (f : St → Prop) : slet (if c then x else none) f = (c ∧ slet x f) := by
  by_cases h : c <;> simp [h, slet]
theorem Gn {c : Prop} [Decidable c] (x : Option (Value × St)) (f : Value → St → Prop) : alet (if c then x else none) f = (c ∧ alet x f) := by
  by_cases h : c <;> simp [h, alet]
theorem Ae {c : Prop} [Decidable c] {α : Type} (x : Option α) (g : α → Value) (f : Value → Prop) : olet (Option.map g (if c then x else none)) f = (c ∧ olet (Option.map g x) f) := by
  by_cases h : c <;> simp [h, olet]
def atO (x : Option Oper) (f : Oper → Prop) : Prop :=
  match x with
  | none => False
  | some o => f o
@[congr] theorem Jg {x y : Option Oper} {f : Oper → Prop} (h : x = y) : atO x f = atO y f := by rw [h]
theorem Eu (o : Oper) (f : Oper → Prop) : atO (some o) f = f o := (rfl)
theorem CR (ops : Array Oper) (recs : List (Nat × (St → Prop))) : jv cx ops [] recs Q qp ρ st = Q .normal ρ st := (rfl)
theorem Af (ops : Array Oper) (i : Nat) (kp : Bool) (pd : List Nat) (π : Plan) (recs : List (Nat × (St → Prop))) :
    jv cx ops ((i, kp, pd) :: π) recs Q qp ρ st = atO (ops[i]?) fun o => bI cx ops o ρ st (fun V st' => gT recs pd st' (jv cx ops π (bif kp then (i, yld cx ops o ρ V) :: recs else recs) Q qp (putO ρ o.dst V) st')) qp := by
  show (match ops[i]? with
    | none => False
    | some o => bI cx ops o ρ st (fun V st' => gT recs pd st' (jv cx ops π (bif kp then (i, yld cx ops o ρ V) :: recs else recs) Q qp (putO ρ o.dst V) st')) qp) = _
  cases ops[i]? <;> rfl
theorem CS (recs : List (Nat × (St → Prop))) (x : Prop) : gT recs [] st x = x := (rfl)
theorem Ag (recs : List (Nat × (St → Prop))) (i : Nat) (r : List Nat) (x : Prop) : gT recs (i :: r) st x = (getR recs i st ∧ gT recs r st x) := (rfl)
theorem CU (j : Nat) (p : St → Prop) (r : List (Nat × (St → Prop))) (i : Nat) : getR ((j, p) :: r) i = if i = j then p else getR r i := (rfl)
@[congr] theorem Iy {recs : List (Nat × (St → Prop))} {i : Nat} {st : St} : getR recs i st = getR recs i st := (rfl)
theorem Gp (ops : Array Oper) (o : Oper) (V : Value) (s : St) : yld cx ops o ρ V s = bI cx ops o ρ s (fun V' s' => V' = V ∧ s' = s) (fun _ _ => False) := (rfl)
@[congr] theorem Jh {ops : Array Oper} {o : Oper} {V : Value} {s : St} : yld cx ops o ρ V s = yld cx ops o ρ V s := (rfl)
@[congr] theorem HV {ops : Array Oper} {o : Oper} : bI cx ops o ρ st k q = bI cx ops o ρ st k q := (rfl)
theorem bE.of {ops : Array Oper} (π : Plan) (ks : List Nat) (un : List (Nat × Nat)) (h : (BL ops && (π.length == ops.size) && okGo cx.P ops ks un π (Array.replicate ops.size false)) = true) (k : jv cx ops π [] Q qp ρ st) : bE cx (stop ops .mk) (stop Q .mk) (stop qp .mk) ρ st := by
  simp only [Bool.and_eq_true, beq_iff_eq] at h
  have hA := oh h.1.1 π _ [] ρ st h.2 (fun j _ => rfl) k
  rw [h.1.2] at hA
  exact ⟨_, _, hA⟩
theorem Gq (x : Operand) : abody cx (.move x) ρ st k q = olet (some (ev cx.G ρ x)) (stop (fun v => k v st) .mk) := (rfl)
theorem CV (x : Operand) : abody cx (.assign x) ρ st k q = olet (some (ev cx.G ρ x)) (stop (fun v => k v st) .mk) := (rfl)
theorem Gr (c a b : Operand) : abody cx (.pick c a b) ρ st k q = olet (qJ (ev cx.G ρ c) (ev cx.G ρ a) (ev cx.G ρ b)) (stop (fun v => k v st) .mk) := cu _ _ _
theorem Ev (t : TypeId) : abody cx (.alloc t) ρ st k q = alet (bN cx.P st t) (stop k .mk) := (rfl)
theorem Iz (t : TypeId) (x : Operand) : abody cx (.box t x) ρ st k q = alet (abox st t (ev cx.G ρ x)) (stop k .mk) := (rfl)
theorem Ew (t : TypeId) (ps : Array (Nat × Operand)) : abody cx (.build t ps) ρ st k q = olet (jg cx.P t (ps.toList.map fun p => (p.1, ev cx.G ρ p.2))) (stop (fun v => k v st) .mk) := cu _ _ _
theorem tH (t : TypeId) (n : Nat) (ps : Array (Nat × Operand)) : abody cx (.buildSlice t n ps) ρ st k q = alet (aL cx.P st t n (ps.toList.map fun p => (p.1, ev cx.G ρ p.2))) (stop k .mk) := (rfl)
theorem Gs (t : TypeId) (a : Operand) : abody cx (.load t a) ρ st k q = olet (jJ cx.P st t (ev cx.G ρ a)) (stop (fun v => k v st) .mk) := cu _ _ _
theorem Ey (t : TypeId) (a x : Operand) : abody cx (.store t a x) ρ st k q = slet (iX cx.P st t (ev cx.G ρ a) (ev cx.G ρ x)) (stop (fun s => k undef s) .mk) := by
  show alet ((iX cx.P st t (ev cx.G ρ a) (ev cx.G ρ x)).map fun st' => (undef, st')) k = _
  cases iX cx.P st t (ev cx.G ρ a) (ev cx.G ρ x) <;> rfl
theorem yx (x : Operand) : abody cx (.nilCheck x) ρ st k q = olet (iD (ev cx.G ρ x)) (stop (fun v => k v st) .mk) := cu _ _ _
theorem Ez (op : BinOp) (t : TypeId) (x y : Operand) (t2 : TypeId) : abody cx (.binOp op t x y t2) ρ st k q = olet (abin cx.P op t x y (ev cx.G ρ x) (ev cx.G ρ y)) (stop (fun v => k v st) .mk) := cu _ _ _
theorem Gt (op : UnOp) (t : TypeId) (x : Operand) : abody cx (.unOp op t x) ρ st k q = olet (aun op (ev cx.G ρ x)) (stop (fun v => k v st) .mk) := cu _ _ _
theorem Ah (s d : TypeId) (x : Operand) : abody cx (.convert s d x) ρ st k q = alet (cZ cx.P st s d (ev cx.G ρ x)) (stop k .mk) := (rfl)
theorem oq (t : TypeId) (x : Operand) : abody cx (.makeInterface t x) ρ st k q = olet (qI cx.P t (ev cx.G ρ x)) (stop (fun v => k v st) .mk) := cu _ _ _
theorem yA (n : Nat) (a b : Array Operand) : abody cx (.makeFunc (.func n) a b) ρ st k q = k (.func (.func n) (a.map (ev cx.G ρ)) (b.map (ev cx.G ρ))) st := (rfl)
theorem vT (t : TypeId) (l c : Operand) : abody cx (.makeSlice t l c) ρ st k q = alet (ak cx.P st t (ev cx.G ρ l) (ev cx.G ρ c)) (stop k .mk) := (rfl)
theorem EA (t : TypeId) (x : Operand) (lo hi mx : Option Operand) : abody cx (.slice t x lo hi mx) ρ st k q = olet (aslice cx.P st t (ev cx.G ρ x) (lo.map (ev cx.G ρ)) (hi.map (ev cx.G ρ)) (mx.map (ev cx.G ρ))) (stop (fun v => k v st) .mk) := cu _ _ _
theorem vU (t : TypeId) (x : Operand) (f : Nat) : abody cx (.fieldAddr t x f) ρ st k q = olet (fq cx.P t (ev cx.G ρ x) f) (stop (fun v => k v st) .mk) := cu _ _ _
theorem EB (t : TypeId) (x : Operand) (f : Nat) : abody cx (.field t x f) ρ st k q = olet (nU cx.P t (ev cx.G ρ x) f) (stop (fun v => k v st) .mk) := cu _ _ _
theorem vV (t : TypeId) (x i : Operand) : abody cx (.indexAddr t x i) ρ st k q = olet (fu cx.P t (ev cx.G ρ x) (ev cx.G ρ i)) (stop (fun v => k v st) .mk) := cu _ _ _
theorem EC (t : TypeId) (x i : Operand) : abody cx (.index t x i) ρ st k q = olet (iG cx.P t (ev cx.G ρ x) (ev cx.G ρ i)) (stop (fun v => k v st) .mk) := cu _ _ _
theorem Ai (x : Operand) (i : Nat) : abody cx (.extract x i) ρ st k q = olet (jr (ev cx.G ρ x) i) (stop (fun v => k v st) .mk) := cu _ _ _
theorem Gu (f : Operand) (args : Array Operand) (tys : Array TypeId) : abody cx (.call ⟨.value f, args, tys⟩) ρ st k q = fB cx (ev cx.G ρ f) (args.toList.map (ev cx.G ρ)) st (stop k .mk) (stop q .mk) := (rfl)
theorem IB (args : Array Operand) (tys : Array TypeId) : abody cx (.call ⟨.builtin .len, args, tys⟩) ρ st k q = alet (bQ cx.P st .len tys (args.toList.map (ev cx.G ρ))) (stop k .mk) := (rfl)
theorem IC (args : Array Operand) (tys : Array TypeId) : abody cx (.call ⟨.builtin .cap, args, tys⟩) ρ st k q = alet (bQ cx.P st .cap tys (args.toList.map (ev cx.G ρ))) (stop k .mk) := (rfl)
theorem Gv (args : Array Operand) (tys : Array TypeId) : abody cx (.call ⟨.builtin .copy, args, tys⟩) ρ st k q = alet (bQ cx.P st .copy tys (args.toList.map (ev cx.G ρ))) (stop k .mk) := (rfl)
theorem IE (args : Array Operand) (tys : Array TypeId) : abody cx (.call ⟨.builtin .max, args, tys⟩) ρ st k q = alet (bQ cx.P st .max tys (args.toList.map (ev cx.G ρ))) (stop k .mk) := (rfl)
theorem IG (args : Array Operand) (tys : Array TypeId) : abody cx (.call ⟨.builtin .min, args, tys⟩) ρ st k q = alet (bQ cx.P st .min tys (args.toList.map (ev cx.G ρ))) (stop k .mk) := (rfl)
theorem CW (args : Array Operand) (t : TypeId) (l : List TypeId) (h : cx.ex t = false) : abody cx (.call ⟨.builtin .append, args, (t :: l).toArray⟩) ρ st k q = alet (bQ cx.P st .append (t :: l).toArray (args.toList.map (ev cx.G ρ))) (stop k .mk) := by
  show ((cx.ex t = true ∧ uj (mR cx.P st (t :: l).toArray (args.toList.map (ev cx.G ρ))) st k) ∨ alet (bQ cx.P st .append (t :: l).toArray (args.toList.map (ev cx.G ρ))) k) = _
  rw [h]
  simp [stop]
theorem CX (args : Array Operand) (tys : Array TypeId) : abody cx (.call ⟨.builtin .delete, args, tys⟩) ρ st k q = alet (dI cx.P st .delete tys (args.toList.map (ev cx.G ρ))) (stop k .mk) := (rfl)
theorem ED (args : Array Operand) (tys : Array TypeId) : abody cx (.call ⟨.builtin .clear, args, tys⟩) ρ st k q = alet (dI cx.P st .clear tys (args.toList.map (ev cx.G ρ))) (stop k .mk) := (rfl)
theorem vW (args : Array Operand) (tys : Array TypeId) : abody cx (.call ⟨.builtin .unsafeSliceData, args, tys⟩) ρ st k q = alet (dI cx.P st .unsafeSliceData tys (args.toList.map (ev cx.G ρ))) (stop k .mk) := (rfl)
theorem qb (args : Array Operand) (tys : Array TypeId) : abody cx (.call ⟨.builtin .unsafeString, args, tys⟩) ρ st k q = alet (dI cx.P st .unsafeString tys (args.toList.map (ev cx.G ρ))) (stop k .mk) := (rfl)
theorem Aj (t : TypeId) (r : Option Operand) : abody cx (.makeMap t r) ρ st k q = alet (jq cx.P st t (r.map (ev cx.G ρ))) (stop k .mk) := (rfl)
theorem CY (t : TypeId) (x i : Operand) (ok : Bool) : abody cx (.lookup t x i ok) ρ st k q = olet (mO cx.P st t (ev cx.G ρ x) (ev cx.G ρ i) ok) (stop (fun v => k v st) .mk) := cu _ _ _
theorem vX (t : TypeId) (m kk v : Operand) : abody cx (.mapUpdate t m kk v) ρ st k q = slet (dP cx.P st t (ev cx.G ρ m) (ev cx.G ρ kk) (ev cx.G ρ v)) (stop (fun s => k undef s) .mk) := by
  show alet ((dP cx.P st t (ev cx.G ρ m) (ev cx.G ρ kk) (ev cx.G ρ v)).map fun st' => (undef, st')) k = _
  cases dP cx.P st t (ev cx.G ρ m) (ev cx.G ρ kk) (ev cx.G ρ v) <;> rfl
theorem EF (x : Operand) : abody cx (.panic x) ρ st k q = jL (ev cx.G ρ x) st q := (rfl)
theorem II (G t : Nat) : ev G ρ (.tmp t) = ρ t := (rfl)
theorem IJ (G : Nat) (i : IntKind) (n : Int) : ev G ρ (.const (.int i n)) = .int i n := (rfl)
theorem Gw (G : Nat) (b : Bool) : ev G ρ (.const (.bool b)) = .bool b := (rfl)
theorem CZ (G : Nat) (b : ByteArray) : ev G ρ (.const (.string b)) = .string b := (rfl)
theorem C8 (G : Nat) : ev G ρ (.const (.pointer none)) = .pointer none := (rfl)
theorem C9 (G : Nat) : ev G ρ (.const (.slice none 0 0)) = .slice none 0 0 := (rfl)
theorem yB (G : Nat) : ev G ρ (.const .nilIface) = .nilIface := (rfl)
theorem Gx (G f : Nat) : ev G ρ (.func f) = .func (.func f) #[] #[] := (rfl)
theorem Da (d : Nat) (v : Value) (t : Nat) : put ρ d v t = if t = d then v else ρ t := (rfl)
theorem Db (d : Nat) (v : Value) : putO ρ (some d) v = put ρ d v := (rfl)
theorem Dc (v : Value) : putO ρ none v = ρ := (rfl)
theorem Df (a : Value) (l : List Value) : env0 (a :: l) 0 = a := (rfl)
theorem Dg (a : Value) (l : List Value) (n : Nat) : env0 (a :: l) (n + 1) = env0 l n := (rfl)
theorem Dh (g : Operand) (ps : Array Nat) (x y : Code) : awp cx (.rangeFunc g ps x y) Q qp ρ st = iJ cx (ev cx.G ρ g) ps x y (stop Q .mk) (stop qp .mk) ρ st := (rfl)
theorem vY (B : Nat) (args : List Value) : fB cx (.func (.yield B) #[] #[]) args st k q = jK cx B args st k := (rfl)
theorem iJ.enter {n : Nat} {fn : Func} {first captured : Array Value} {ps : Array Nat} {x y : Code} (hf : cx.P.funcs[n]? = some fn) (hb : fn.body.isSome = true) (hn : (fn.name == "runtime.NumGoroutine") = false)
    (h : ay cx n (first.toList ++ [.func (.yield st.n) #[] #[]] ++ captured.toList) (st.new (.loop ⟨ρ, ps, x, y, .ready, none⟩)) (fun _ st' => aend st.n Q ρ st' (st'.H st.n)) qp) : iJ cx (.func (.func n) first captured) ps x y Q qp ρ st := ⟨⟨fn, hf, hb, hn⟩, h⟩
theorem Di (n : Nat) (args : List Value) : fB cx (.func (.func n) #[] #[]) args st k q = au cx n args st k q := by
  show au cx n ([] ++ args ++ []) st k q = _
  simp
theorem au.enter {n : Nat} {fn : Func} {args : List Value} (hf : cx.P.funcs[n]? = some fn) (hb : fn.body.isSome = true) (hn : (fn.name == "runtime.NumGoroutine") = false) (h : ay cx n args st k q) : au cx n args st k q := .inl ⟨⟨fn, hf, hb, hn⟩, h⟩
theorem Ak (b : Bool) (x y : Value) : qJ (.bool b) x y = some (bif b then x else y) := (rfl)
theorem Al (P : Program) (t : TypeId) (B off : Nat) : jJ P st t (.pointer (some ⟨B, off, none⟩)) = xO P st t B off := (rfl)
theorem yC (P : Program) (t : TypeId) (B off : Nat) (x : Value) : iX P st t (.pointer (some ⟨B, off, none⟩)) x = qA P st t B off x := (rfl)
theorem tJ (a : Addr) : iD (.pointer (some a)) = some (.pointer (some a)) := (rfl)
theorem EG (B : Nat) (o : Option Ob) (b : Nat) : (st.set B o).H b = if b = B then o else st.H b := (rfl)
theorem Jo (B : Nat) (o : Option Ob) : (st.set B o).n = st.n := (rfl)
theorem Jp (o : Ob) : (st.new o).n = st.n + 1 := (rfl)
theorem Am (o : Ob) : (st.new o).H st.n = some o := by simp [St.new]
theorem Jq (o : Ob) (b : Nat) : (st.new o).H b = if b = st.n then some o else st.H b := (rfl)
theorem Gy (o : Ob) {b : Nat} (h : b < st.n) : (st.new o).H b = st.H b := by
  show (if b = st.n then some o else st.H b) = _
  rw [if_neg (by omega)]
end
set_option linter.defProp false in
def GP := And.intro (And.intro (And.intro (And.intro (And.intro (And.intro @stop1 @Jl) (And.intro (And.intro @Jm @Dh) @Ac)) (And.intro (And.intro @Ej @El) (And.intro @Em @En))) (And.intro (And.intro (And.intro @Gi @Eo) (And.intro @CP @vR)) (And.intro (And.intro @CQ @Ad) (And.intro @p9 @vS)))) (And.intro (And.intro (And.intro (And.intro @tF @yt) (And.intro @Ep @Er)) (And.intro (And.intro @Gj @Et) (And.intro @Iw @CR))) (And.intro (And.intro (And.intro @Af @CS) (And.intro @Ag @Gp)) (And.intro (And.intro @Eu @yu) (And.intro @yw @Gq))))) (And.intro (And.intro (And.intro (And.intro (And.intro @CV @Gr) (And.intro @Ev @Iz)) (And.intro (And.intro @Ew @tH) (And.intro @Gs @Ey))) (And.intro (And.intro (And.intro @yx @Ez) (And.intro @Gt @Ah)) (And.intro (And.intro @oq @yA) (And.intro @vT @EA)))) (And.intro (And.intro (And.intro (And.intro @vU @EB) (And.intro @vV @EC)) (And.intro (And.intro @Ai @Gu) (And.intro @CW @IB))) (And.intro (And.intro (And.intro @IC @Gv) (And.intro @IE @IG)) (And.intro (And.intro @EF @CJ) (And.intro (And.intro @CK @CO) @z8)))))
set_option linter.defProp false in
def GQ := And.intro (And.intro (And.intro (And.intro (And.intro (And.intro @CU @Db) (And.intro @Dc @Bool.or_false)) (And.intro (And.intro @Bool.false_or @II) (And.intro @IJ (And.intro @Gw @CZ)))) (And.intro (And.intro (And.intro @C8 @C9) (And.intro @yB (And.intro @Gx @Da))) (And.intro (And.intro @Df @Dg) (And.intro @CB (And.intro @CF @CG))))) (And.intro (And.intro (And.intro (And.intro (And.intro @Di @vY) @Ak) (And.intro @Al (And.intro @yC @tJ))) (And.intro (And.intro @vQ @tC) (And.intro @yh (And.intro @List.set_cons_zero.{0} @List.set_cons_succ.{0})))) (And.intro (And.intro (And.intro @List.getElem?_cons_zero.{0} @List.getElem?_cons_succ.{0}) (And.intro @Nat.zero_add (And.intro @List.size_toArray.{0} @List.length_cons.{0}))) (And.intro (And.intro @List.length_nil.{0} @List.all_cons.{0}) (And.intro @List.all_nil.{0} (And.intro @Bool.and_true @Bool.and_self)))))) (And.intro (And.intro (And.intro (And.intro (And.intro @true_and @and_true) (And.intro @Aa (And.intro @Ab @yj))) (And.intro (And.intro @EG @Jo) (And.intro @Jp (And.intro @Jq @List.map_cons.{0, 0})))) (And.intro (And.intro (And.intro @List.map_nil.{0, 0} @Option.map_some.{0, 0}) (And.intro @Option.map_none.{0, 0} (And.intro @Nat.add_zero @and_self))) (And.intro (And.intro @Option.bind_some.{0, 0} @List.getElem?_toArray.{0}) (And.intro @List.cons_append.{0} (And.intro @List.nil_append.{0} @List.append_nil.{0}))))) (And.intro (And.intro (And.intro (And.intro @Gl @Gm) (And.intro @Gn (And.intro @Ae @Int.toNat_natCast))) (And.intro (And.intro @not_true_eq_false @not_false_eq_true) (And.intro @false_implies (And.intro @true_implies @Bool.not_true)))) (And.intro (And.intro (And.intro @Bool.not_false @Nat.mul_one) (And.intro @List.getElem?_map.{0, 0} (And.intro @Option.isNone_some.{0} @Option.isNone_none.{0}))) (And.intro (And.intro @bne_self_eq_false.{0} @beq_self_eq_true.{0}) (And.intro @Int.cast_ofNat_Int (And.intro @Nat.zero_mul @Nat.sub_zero))))))
set_option linter.defProp false in
def GM := And.intro (And.intro (And.intro @CX @ED) (And.intro @vW @qb)) (And.intro @Aj (And.intro @CY @vX))
end Go.Abs
