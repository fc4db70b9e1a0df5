/- Rules for the walk over the abstract heap: what 'simp' is given. -/
import Derived.Test.YtohgmkjhbacmpaaGreatDoorAbsZ
set_option linter.unusedVariables false
set_option linter.unusedSimpArgs false
namespace Go.Abs
open Go.RowKit
inductive Tag {α : Sort _} (x : α) : Type | mk
def stop {α : Sort _} (x : α) (t : Tag x) : α := x
theorem stop1 {α β : Type} (f : α → β) (a : α) : stop f .mk a = f a := (rfl)
theorem Jk {α β γ : Type} (f : α → β → γ) (a : α) (b : β) : stop f .mk a b = f a b := (rfl)
theorem Jl {α β γ δ : Type} (f : α → β → γ → δ) (a : α) (b : β) (c : γ) : stop f .mk a b c = f a b c := (rfl)
def olet (x : Option Value) (f : Value → Prop) : Prop :=
  match x with
  | some v => f v
  | none => False
def slet (x : Option St) (f : St → Prop) : Prop :=
  match x with
  | some v => f v
  | none => False
theorem Cz (v : Value) (f : Value → Prop) : olet (some v) f = f v := (rfl)
theorem CB (v : St) (f : St → Prop) : slet (some v) f = f v := (rfl)
theorem CF (v : Value) (s : St) (f : Value → St → Prop) : alet (some (v, s)) f = f v s := (rfl)
theorem cB (x : Option Value) (st : St) (f : Value → St → Prop) : alet (x.map fun v => (v, st)) f = olet x fun v => f v st := by cases x <;> rfl
@[congr] theorem Io {x y : Option Value} {f : Value → Prop} (h : x = y) : olet x f = olet y f := by rw [h]
@[congr] theorem Ip {x y : Option St} {f : St → Prop} (h : x = y) : slet x f = slet y f := by rw [h]
@[congr] theorem Iq {x y : Option (Value × St)} {f : Value → St → Prop} (h : x = y) : alet x f = alet y f := by rw [h]
@[congr] theorem Hq {v v' : Value} {b : Bool} {x y : Prop} (h : v = v') : dJ v b x y = dJ v' b x y := by rw [h]
@[congr] theorem FT {v v' : Value} {x y : Prop} (h : v = v') : bF v x y = bF v' x y := by rw [h]
@[congr] theorem F9 {cx : Cx} {f f' : Value} {args args' : List Value} {st : St} {k q : Value → St → Prop} (h : f = f') (h' : args = args') : eX cx f args st k q = eX cx f' args' st k q := by rw [h, h']
@[congr] theorem Ga {cx : Cx} {f : Nat} {args args' : List Value} {st : St} {k q : Value → St → Prop} (h' : args = args') : au cx f args st k q = au cx f args' st k q := by rw [h']
@[congr] theorem Gb {cx : Cx} {B : Nat} {args args' : List Value} {st : St} {k : Value → St → Prop} (h' : args = args') : jv cx B args st k = jv cx B args' st k := by rw [h']
@[congr] theorem Gc {cx : Cx} {g g' : Value} {ps : Array Nat} {x y : Code} {Q : Post} {q : cu} {ρ : Env} {st : St} (h : g = g') : iw cx g ps x y Q q ρ st = iw cx g' ps x y Q q ρ st := by rw [h]
@[congr] theorem Ir {cx : Cx} {ops : Array Oper} {l : List Oper} {Q : Post} {q : cu} {ρ : Env} {st : St} : aops cx ops l Q q ρ st = aops cx ops l Q q ρ st := (rfl)
@[congr] theorem Je {cx : Cx} {c : Code} {Q : Post} {q : cu} {ρ : Env} {st : St} : awp cx c Q q ρ st = awp cx c Q q ρ st := (rfl)
@[congr] theorem Gd {cx : Cx} {o : Op} {k q : cu} {ρ : Env} {st : St} : abody cx o ρ st k q = abody cx o ρ st k q := (rfl)
@[congr] theorem Hr {recs : List (Nat × (St → Prop))} {l : List Nat} {st : St} {x : Prop} : gH recs l st x = gH recs l st x := (rfl)
@[congr] theorem Ht {cx : Cx} {ops : Array Oper} {π : Plan} {recs : List (Nat × (St → Prop))} {Q : Post} {q : cu} {ρ : Env} {st : St} : jg cx ops π recs Q q ρ st = jg cx ops π recs Q q ρ st := (rfl)
@[congr] theorem Hu {F : Post → Env → St → Prop} {Q : Post} {ρ : Env} {st : St} : qE F Q ρ st = qE F Q ρ st := (rfl)
@[congr] theorem Hw {cx : Cx} {ops : Array Oper} {Q : Post} {q : cu} {ρ : Env} {st : St} : bJ cx ops Q q ρ st = bJ cx ops Q q ρ st := (rfl)
section
variable {cx : Cx} {ρ : Env} {st : St} {k q : Value → St → Prop} {Q : Post} {qp : cu}
theorem CG (b : Bool) (x y : Prop) : dJ (.bool b) b (stop x .mk) y = x := by simp [dJ, stop]
theorem CJ (x y : Prop) : dJ (.bool true) false x (stop y .mk) = y := by simp [dJ, stop]
theorem CK (x y : Prop) : dJ (.bool false) true x (stop y .mk) = y := by simp [dJ, stop]
theorem zW (w : Bool) (x y : Prop) : dJ lT w (stop x .mk) (stop y .mk) = y := by cases w <;> simp [dJ, stop, lT]
theorem vJ (x y : Prop) : bF (.bool true) x y = x := by simp [bF]
theorem sS (x y : Prop) : bF (.bool false) x y = y := by simp [bF]
theorem xW (p : Prop) [Decidable p] (x y : Prop) : bF (.bool (decide p)) x y = ((p → x) ∧ (¬ p → y)) := by simp [bF]
theorem zX (a b : Int) (x y : Prop) : bF (.bool (a == b)) x y = ((a = b → x) ∧ (¬ a = b → y)) := by simp [bF]
theorem zY (a b : Int) (x y : Prop) : bF (.bool (a != b)) x y = ((¬ a = b → x) ∧ (a = b → y)) := by simp [bF]
theorem xX (b : Bool) (x y : Prop) : bF (.bool (!b)) x y = bF (.bool b) y x := by cases b <;> simp [bF]
theorem cZ {x : Int} (h : -9223372036854775808 ≤ x ∧ x ≤ 9223372036854775807) : IntKind.i64.wrap x = x := wrap_i64 h.1 h.2
theorem zZ (i : Nat) (l : List Oper) : awp cx (.region i l.toArray false) Q qp ρ st = aops cx l.toArray l Q qp ρ st := (rfl)
theorem Ea (i : Nat) (ops : Array Oper) : awp cx (.region i ops true) Q qp ρ st = bJ cx (stop ops .mk) (stop Q .mk) (stop qp .mk) ρ st := (rfl)
theorem aj (x y : Code) : awp cx (.seq x y) Q qp ρ st = awp cx x (mo (fun ρ st => awp cx y Q qp ρ st) Q) qp ρ st := (rfl)
theorem Eb (c : Operand) (x y : Code) : awp cx (.cond c x y) Q qp ρ st = bF (ev cx.G ρ c) (awp cx x Q qp ρ st) (awp cx y Q qp ρ st) := (rfl)
theorem ah (i : Nat) (c : Code) : awp cx (.block i c) Q qp ρ st = awp cx c (fF i Q) qp ρ st := (rfl)
theorem Ec (c : Code) : awp cx (.loop c) Q qp ρ st = qE (stop (fun Q ρ st => awp cx c Q qp ρ st) .mk) (stop Q .mk) ρ st := (rfl)
theorem Ed (i : Nat) : awp cx (.exit i) Q qp ρ st = Q (.exit i) ρ st := (rfl)
theorem Gf : awp cx .ret Q qp ρ st = Q .ret ρ st := (rfl)
theorem Ee : awp cx .skip Q qp ρ st = Q .normal ρ st := (rfl)
theorem CO (l : Nat) : awp cx (.label l) Q qp ρ st = Q .normal ρ st := (rfl)
theorem vK (n : Env → St → Prop) : mo n Q .normal ρ st = n ρ st := (rfl)
theorem CP (n : Env → St → Prop) : mo n Q .ret ρ st = Q .ret ρ st := (rfl)
theorem z8 (n : Env → St → Prop) (i : Nat) : mo n Q (.exit i) ρ st = Q (.exit i) ρ st := (rfl)
theorem pI (i : Nat) : fF i Q .normal ρ st = Q .normal ρ st := (rfl)
theorem vL (i : Nat) : fF i Q .ret ρ st = Q .ret ρ st := (rfl)
theorem sU (i j : Nat) : fF i Q (.exit j) ρ st = if j = i then Q .normal ρ st else Q (.exit j) ρ st := (rfl)
theorem xY (P : Program) (rs : Array ResultVar) : retQ P rs k .normal ρ st = olet (ares P rs ρ st) (stop (fun v => k v st) .mk) := by
  unfold retQ olet; rfl
theorem Ef (P : Program) (rs : Array ResultVar) : retQ P rs k .ret ρ st = olet (ares P rs ρ st) (stop (fun v => k v st) .mk) := by
  unfold retQ olet; rfl
theorem Eh (ops : Array Oper) : aops cx ops [] Q qp ρ st = Q .normal ρ st := (rfl)
theorem Gg (ops : Array Oper) (d : Nat) (op : Op) (ty : TypeId) (pos : String) (aft : Array Edge) (r : List Oper) :
    aops cx ops (⟨some d, op, ty, pos, aft, none⟩ :: r) Q qp ρ st = abody cx op ρ st (fun V st' => aops cx ops r Q qp (put ρ d V) st') qp := (rfl)
theorem Ei (ops : Array Oper) (op : Op) (ty : TypeId) (pos : String) (aft : Array Edge) (r : List Oper) :
    aops cx ops (⟨none, op, ty, pos, aft, none⟩ :: r) Q qp ρ st = abody cx op ρ st (fun V st' => aops cx ops r Q qp ρ st') qp := (rfl)
def gsl (ops : Array Oper) (g : Nat) : Option Nat := (ops[g]?).bind (·.dst)
theorem Iu (ops : Array Oper) (d : Nat) (op : Op) (ty : TypeId) (pos : String) (aft : Array Edge) (g : Nat) (w : Bool) (r : List Oper) :
    aops cx ops (⟨some d, op, ty, pos, aft, some (g, w)⟩ :: r) Q qp ρ st = olet ((gsl ops g).map ρ) (stop (fun v => dJ v w (stop (abody cx op ρ st (fun V st' => aops cx ops r Q qp (put ρ d V) st') qp) .mk) (stop (aops cx ops r Q qp (put ρ d lT) st) .mk)) .mk) := by
  show bO cx ops _ ρ st _ qp = _
  unfold bO jP gsl
  simp only
  cases (ops[g]?).bind (·.dst) <;> rfl
theorem xZ (ops : Array Oper) (dst : Option Nat) (op : Op) (ty : TypeId) (pos : String) (aft : Array Edge) :
    bO cx ops ⟨dst, op, ty, pos, aft, none⟩ ρ st k q = abody cx op ρ st k q := (rfl)
theorem yc (ops : Array Oper) (dst : Option Nat) (op : Op) (ty : TypeId) (pos : String) (aft : Array Edge) (g : Nat) (w : Bool) :
    bO cx ops ⟨dst, op, ty, pos, aft, some (g, w)⟩ ρ st k q = olet (((ops[g]?).bind (·.dst)).map ρ) (stop (fun v => dJ v w (stop (abody cx op ρ st k q) .mk) (stop (k lT st) .mk)) .mk) := by
  unfold bO jP
  simp only
  cases (ops[g]?).bind (·.dst) <;> rfl
theorem Gh {c : Prop} [Decidable c] (x : Option Value) (f : Value → Prop) : olet (if c then x else none) f = (c ∧ olet x f) := by
  by_cases h : c <;> simp [h, olet]
theorem Gi {c : Prop} [Decidable c] (x : Option St) (f : St → Prop) : slet (if c then x else none) f = (c ∧ slet x f) := by
  by_cases h : c <;> simp [h, slet]
theorem Gj {c : Prop} [Decidable c] (x : Option (Value × St)) (f : Value → St → Prop) : alet (if c then x else none) f = (c ∧ alet x f) := by
  by_cases h : c <;> simp [h, alet]
theorem Aa {c : Prop} [Decidable c] {α : Type} (x : Option α) (g : α → Value) (f : Value → Prop) : olet (Option.map g (if c then x else none)) f = (c ∧ olet (Option.map g x) f) := by
  by_cases h : c <;> simp [h, olet]
def atO (x : Option Oper) (f : Oper → Prop) : Prop :=
  match x with
  | none => False
  | some o => f o
@[congr] theorem Jf {x y : Option Oper} {f : Oper → Prop} (h : x = y) : atO x f = atO y f := by rw [h]
theorem Ej (o : Oper) (f : Oper → Prop) : atO (some o) f = f o := (rfl)
theorem CQ (ops : Array Oper) (recs : List (Nat × (St → Prop))) : jg cx ops [] recs Q qp ρ st = Q .normal ρ st := (rfl)
theorem Ab (ops : Array Oper) (i : Nat) (kp : Bool) (pd : List Nat) (π : Plan) (recs : List (Nat × (St → Prop))) :
    jg cx ops ((i, kp, pd) :: π) recs Q qp ρ st = atO (ops[i]?) fun o => bO cx ops o ρ st (fun V st' => gH recs pd st' (jg cx ops π (bif kp then (i, yld cx ops o ρ V) :: recs else recs) Q qp (putO ρ o.dst V) st')) qp := by
  show (match ops[i]? with
    | none => False
    | some o => bO cx ops o ρ st (fun V st' => gH recs pd st' (jg cx ops π (bif kp then (i, yld cx ops o ρ V) :: recs else recs) Q qp (putO ρ o.dst V) st')) qp) = _
  cases ops[i]? <;> rfl
theorem CR (recs : List (Nat × (St → Prop))) (x : Prop) : gH recs [] st x = x := (rfl)
theorem Ac (recs : List (Nat × (St → Prop))) (i : Nat) (r : List Nat) (x : Prop) : gH recs (i :: r) st x = (getR recs i st ∧ gH recs r st x) := (rfl)
theorem CS (j : Nat) (p : St → Prop) (r : List (Nat × (St → Prop))) (i : Nat) : getR ((j, p) :: r) i = if i = j then p else getR r i := (rfl)
@[congr] theorem Iw {recs : List (Nat × (St → Prop))} {i : Nat} {st : St} : getR recs i st = getR recs i st := (rfl)
theorem Gl (ops : Array Oper) (o : Oper) (V : Value) (s : St) : yld cx ops o ρ V s = bO cx ops o ρ s (fun V' s' => V' = V ∧ s' = s) (fun _ _ => False) := (rfl)
@[congr] theorem Jg {ops : Array Oper} {o : Oper} {V : Value} {s : St} : yld cx ops o ρ V s = yld cx ops o ρ V s := (rfl)
@[congr] theorem Hy {ops : Array Oper} {o : Oper} : bO cx ops o ρ st k q = bO cx ops o ρ st k q := (rfl)
theorem bJ.of {ops : Array Oper} (π : Plan) (ks : List Nat) (un : List (Nat × Nat)) (h : (BF ops && (π.length == ops.size) && okGo cx.P ops ks un π (Array.replicate ops.size false)) = true) (k : jg cx ops π [] Q qp ρ st) : bJ cx (stop ops .mk) (stop Q .mk) (stop qp .mk) ρ st := by
  simp only [Bool.and_eq_true, beq_iff_eq] at h
  have hA := nO h.1.1 π _ [] ρ st h.2 (fun j _ => rfl) k
  rw [h.1.2] at hA
  exact ⟨_, _, hA⟩
theorem Gm (x : Operand) : abody cx (.move x) ρ st k q = olet (some (ev cx.G ρ x)) (stop (fun v => k v st) .mk) := (rfl)
theorem CU (x : Operand) : abody cx (.assign x) ρ st k q = olet (some (ev cx.G ρ x)) (stop (fun v => k v st) .mk) := (rfl)
theorem Gn (c a b : Operand) : abody cx (.pick c a b) ρ st k q = olet (qy (ev cx.G ρ c) (ev cx.G ρ a) (ev cx.G ρ b)) (stop (fun v => k v st) .mk) := cB _ _ _
theorem El (t : TypeId) : abody cx (.alloc t) ρ st k q = alet (cO cx.P st t) (stop k .mk) := (rfl)
theorem Iy (t : TypeId) (x : Operand) : abody cx (.box t x) ρ st k q = alet (abox st t (ev cx.G ρ x)) (stop k .mk) := (rfl)
theorem Em (t : TypeId) (ps : Array (Nat × Operand)) : abody cx (.build t ps) ρ st k q = olet (iW cx.P t (ps.toList.map fun p => (p.1, ev cx.G ρ p.2))) (stop (fun v => k v st) .mk) := cB _ _ _
theorem sV (t : TypeId) (n : Nat) (ps : Array (Nat × Operand)) : abody cx (.buildSlice t n ps) ρ st k q = alet (aI cx.P st t n (ps.toList.map fun p => (p.1, ev cx.G ρ p.2))) (stop k .mk) := (rfl)
theorem Gp (t : TypeId) (a : Operand) : abody cx (.load t a) ρ st k q = olet (jr cx.P st t (ev cx.G ρ a)) (stop (fun v => k v st) .mk) := cB _ _ _
theorem En (t : TypeId) (a x : Operand) : abody cx (.store t a x) ρ st k q = slet (iM cx.P st t (ev cx.G ρ a) (ev cx.G ρ x)) (stop (fun s => k undef s) .mk) := by
  show alet ((iM cx.P st t (ev cx.G ρ a) (ev cx.G ρ x)).map fun st' => (undef, st')) k = _
  cases iM cx.P st t (ev cx.G ρ a) (ev cx.G ρ x) <;> rfl
theorem yg (x : Operand) : abody cx (.nilCheck x) ρ st k q = olet (gY (ev cx.G ρ x)) (stop (fun v => k v st) .mk) := cB _ _ _
theorem Eo (op : BinOp) (t : TypeId) (x y : Operand) (t2 : TypeId) : abody cx (.binOp op t x y t2) ρ st k q = olet (abin cx.P op t x y (ev cx.G ρ x) (ev cx.G ρ y)) (stop (fun v => k v st) .mk) := cB _ _ _
theorem Gq (op : UnOp) (t : TypeId) (x : Operand) : abody cx (.unOp op t x) ρ st k q = olet (aun op (ev cx.G ρ x)) (stop (fun v => k v st) .mk) := cB _ _ _
theorem Ad (s d : TypeId) (x : Operand) : abody cx (.convert s d x) ρ st k q = alet (bS cx.P st s d (ev cx.G ρ x)) (stop k .mk) := (rfl)
theorem nR (t : TypeId) (x : Operand) : abody cx (.makeInterface t x) ρ st k q = olet (qx cx.P t (ev cx.G ρ x)) (stop (fun v => k v st) .mk) := cB _ _ _
theorem yh (n : Nat) (a b : Array Operand) : abody cx (.makeFunc (.func n) a b) ρ st k q = k (.func (.func n) (a.map (ev cx.G ρ)) (b.map (ev cx.G ρ))) st := (rfl)
theorem vM (t : TypeId) (l c : Operand) : abody cx (.makeSlice t l c) ρ st k q = alet (ak cx.P st t (ev cx.G ρ l) (ev cx.G ρ c)) (stop k .mk) := (rfl)
theorem Ep (t : TypeId) (x : Operand) (lo hi mx : Option Operand) : abody cx (.slice t x lo hi mx) ρ st k q = olet (aslice cx.P st t (ev cx.G ρ x) (lo.map (ev cx.G ρ)) (hi.map (ev cx.G ρ)) (mx.map (ev cx.G ρ))) (stop (fun v => k v st) .mk) := cB _ _ _
theorem vN (t : TypeId) (x : Operand) (f : Nat) : abody cx (.fieldAddr t x f) ρ st k q = olet (eP cx.P t (ev cx.G ρ x) f) (stop (fun v => k v st) .mk) := cB _ _ _
theorem Er (t : TypeId) (x : Operand) (f : Nat) : abody cx (.field t x f) ρ st k q = olet (nH cx.P t (ev cx.G ρ x) f) (stop (fun v => k v st) .mk) := cB _ _ _
theorem vO (t : TypeId) (x i : Operand) : abody cx (.indexAddr t x i) ρ st k q = olet (eT cx.P t (ev cx.G ρ x) (ev cx.G ρ i)) (stop (fun v => k v st) .mk) := cB _ _ _
theorem Et (t : TypeId) (x i : Operand) : abody cx (.index t x i) ρ st k q = olet (gZ cx.P t (ev cx.G ρ x) (ev cx.G ρ i)) (stop (fun v => k v st) .mk) := cB _ _ _
theorem Ae (x : Operand) (i : Nat) : abody cx (.extract x i) ρ st k q = olet (jf (ev cx.G ρ x) i) (stop (fun v => k v st) .mk) := cB _ _ _
theorem Gr (f : Operand) (args : Array Operand) (tys : Array TypeId) : abody cx (.call ⟨.value f, args, tys⟩) ρ st k q = eX cx (ev cx.G ρ f) (args.toList.map (ev cx.G ρ)) st (stop k .mk) (stop q .mk) := (rfl)
theorem Iz (args : Array Operand) (tys : Array TypeId) : abody cx (.call ⟨.builtin .len, args, tys⟩) ρ st k q = alet (bV cx.P st .len tys (args.toList.map (ev cx.G ρ))) (stop k .mk) := (rfl)
theorem IB (args : Array Operand) (tys : Array TypeId) : abody cx (.call ⟨.builtin .cap, args, tys⟩) ρ st k q = alet (bV cx.P st .cap tys (args.toList.map (ev cx.G ρ))) (stop k .mk) := (rfl)
theorem Gs (args : Array Operand) (tys : Array TypeId) : abody cx (.call ⟨.builtin .copy, args, tys⟩) ρ st k q = alet (bV cx.P st .copy tys (args.toList.map (ev cx.G ρ))) (stop k .mk) := (rfl)
theorem IC (args : Array Operand) (tys : Array TypeId) : abody cx (.call ⟨.builtin .max, args, tys⟩) ρ st k q = alet (bV cx.P st .max tys (args.toList.map (ev cx.G ρ))) (stop k .mk) := (rfl)
theorem IE (args : Array Operand) (tys : Array TypeId) : abody cx (.call ⟨.builtin .min, args, tys⟩) ρ st k q = alet (bV cx.P st .min tys (args.toList.map (ev cx.G ρ))) (stop k .mk) := (rfl)
theorem CV (args : Array Operand) (t : TypeId) (l : List TypeId) (h : cx.ex t = false) : abody cx (.call ⟨.builtin .append, args, (t :: l).toArray⟩) ρ st k q = alet (bV cx.P st .append (t :: l).toArray (args.toList.map (ev cx.G ρ))) (stop k .mk) := by
  show ((cx.ex t = true ∧ tO (l9 cx.P st (t :: l).toArray (args.toList.map (ev cx.G ρ))) st k) ∨ alet (bV cx.P st .append (t :: l).toArray (args.toList.map (ev cx.G ρ))) k) = _
  rw [h]
  simp [stop]
theorem CW (args : Array Operand) (tys : Array TypeId) : abody cx (.call ⟨.builtin .delete, args, tys⟩) ρ st k q = alet (dI cx.P st .delete tys (args.toList.map (ev cx.G ρ))) (stop k .mk) := (rfl)
theorem Eu (args : Array Operand) (tys : Array TypeId) : abody cx (.call ⟨.builtin .clear, args, tys⟩) ρ st k q = alet (dI cx.P st .clear tys (args.toList.map (ev cx.G ρ))) (stop k .mk) := (rfl)
theorem vP (args : Array Operand) (tys : Array TypeId) : abody cx (.call ⟨.builtin .unsafeSliceData, args, tys⟩) ρ st k q = alet (dI cx.P st .unsafeSliceData tys (args.toList.map (ev cx.G ρ))) (stop k .mk) := (rfl)
theorem pJ (args : Array Operand) (tys : Array TypeId) : abody cx (.call ⟨.builtin .unsafeString, args, tys⟩) ρ st k q = alet (dI cx.P st .unsafeString tys (args.toList.map (ev cx.G ρ))) (stop k .mk) := (rfl)
theorem Af (t : TypeId) (r : Option Operand) : abody cx (.makeMap t r) ρ st k q = alet (je cx.P st t (r.map (ev cx.G ρ))) (stop k .mk) := (rfl)
theorem CX (t : TypeId) (x i : Operand) (ok : Bool) : abody cx (.lookup t x i ok) ρ st k q = olet (lY cx.P st t (ev cx.G ρ x) (ev cx.G ρ i) ok) (stop (fun v => k v st) .mk) := cB _ _ _
theorem vQ (t : TypeId) (m kk v : Operand) : abody cx (.mapUpdate t m kk v) ρ st k q = slet (dN cx.P st t (ev cx.G ρ m) (ev cx.G ρ kk) (ev cx.G ρ v)) (stop (fun s => k undef s) .mk) := by
  show alet ((dN cx.P st t (ev cx.G ρ m) (ev cx.G ρ kk) (ev cx.G ρ v)).map fun st' => (undef, st')) k = _
  cases dN cx.P st t (ev cx.G ρ m) (ev cx.G ρ kk) (ev cx.G ρ v) <;> rfl
theorem Ev (x : Operand) : abody cx (.panic x) ρ st k q = jw (ev cx.G ρ x) st q := (rfl)
theorem IG (G t : Nat) : ev G ρ (.tmp t) = ρ t := (rfl)
theorem II (G : Nat) (i : IntKind) (n : Int) : ev G ρ (.const (.int i n)) = .int i n := (rfl)
theorem Gt (G : Nat) (b : Bool) : ev G ρ (.const (.bool b)) = .bool b := (rfl)
theorem CY (G : Nat) (b : ByteArray) : ev G ρ (.const (.string b)) = .string b := (rfl)
theorem CZ (G : Nat) : ev G ρ (.const (.pointer none)) = .pointer none := (rfl)
theorem C8 (G : Nat) : ev G ρ (.const (.slice none 0 0)) = .slice none 0 0 := (rfl)
theorem yj (G : Nat) : ev G ρ (.const .nilIface) = .nilIface := (rfl)
theorem Gu (G f : Nat) : ev G ρ (.func f) = .func (.func f) #[] #[] := (rfl)
theorem C9 (d : Nat) (v : Value) (t : Nat) : put ρ d v t = if t = d then v else ρ t := (rfl)
theorem Da (d : Nat) (v : Value) : putO ρ (some d) v = put ρ d v := (rfl)
theorem Db (v : Value) : putO ρ none v = ρ := (rfl)
theorem Dc (a : Value) (l : List Value) : env0 (a :: l) 0 = a := (rfl)
theorem Df (a : Value) (l : List Value) (n : Nat) : env0 (a :: l) (n + 1) = env0 l n := (rfl)
theorem Dg (g : Operand) (ps : Array Nat) (x y : Code) : awp cx (.rangeFunc g ps x y) Q qp ρ st = iw cx (ev cx.G ρ g) ps x y (stop Q .mk) (stop qp .mk) ρ st := (rfl)
theorem vR (B : Nat) (args : List Value) : eX cx (.func (.yield B) #[] #[]) args st k q = jv cx B args st k := (rfl)
theorem iw.enter {n : Nat} {fn : Func} {first captured : Array Value} {ps : Array Nat} {x y : Code} (hf : cx.P.funcs[n]? = some fn) (hb : fn.body.isSome = true) (hn : (fn.name == "runtime.NumGoroutine") = false)
    (h : ay cx n (first.toList ++ [.func (.yield st.n) #[] #[]] ++ captured.toList) (st.new (.loop ⟨ρ, ps, x, y, .ready, none⟩)) (fun _ st' => aend st.n Q ρ st' (st'.H st.n)) qp) : iw cx (.func (.func n) first captured) ps x y Q qp ρ st := ⟨⟨fn, hf, hb, hn⟩, h⟩
theorem Dh (n : Nat) (args : List Value) : eX cx (.func (.func n) #[] #[]) args st k q = au cx n args st k q := by
  show au cx n ([] ++ args ++ []) st k q = _
  simp
theorem au.enter {n : Nat} {fn : Func} {args : List Value} (hf : cx.P.funcs[n]? = some fn) (hb : fn.body.isSome = true) (hn : (fn.name == "runtime.NumGoroutine") = false) (h : ay cx n args st k q) : au cx n args st k q := .inl ⟨⟨fn, hf, hb, hn⟩, h⟩
theorem Ag (b : Bool) (x y : Value) : qy (.bool b) x y = some (bif b then x else y) := (rfl)
theorem Ah (P : Program) (t : TypeId) (B off : Nat) : jr P st t (.pointer (some ⟨B, off, none⟩)) = xH P st t B off := (rfl)
theorem yt (P : Program) (t : TypeId) (B off : Nat) (x : Value) : iM P st t (.pointer (some ⟨B, off, none⟩)) x = qc P st t B off x := (rfl)
theorem sW (a : Addr) : gY (.pointer (some a)) = some (.pointer (some a)) := (rfl)
theorem Ew (B : Nat) (o : Option Ob) (b : Nat) : (st.set B o).H b = if b = B then o else st.H b := (rfl)
theorem Jm (B : Nat) (o : Option Ob) : (st.set B o).n = st.n := (rfl)
theorem Jo (o : Ob) : (st.new o).n = st.n + 1 := (rfl)
theorem Ai (o : Ob) : (st.new o).H st.n = some o := by simp [St.new]
theorem Jp (o : Ob) (b : Nat) : (st.new o).H b = if b = st.n then some o else st.H b := (rfl)
theorem Gv (o : Ob) {b : Nat} (h : b < st.n) : (st.new o).H b = st.H b := by
  show (if b = st.n then some o else st.H b) = _
  rw [if_neg (by omega)]
end
set_option linter.defProp false in
def GP := And.intro (And.intro (And.intro (And.intro (And.intro (And.intro @stop1 @Jk) (And.intro (And.intro @Jl @Dg) @zZ)) (And.intro (And.intro @Ea @Eb) (And.intro @Ec @Ed))) (And.intro (And.intro (And.intro @Gf @Ee) (And.intro @CO @vK)) (And.intro (And.intro @CP @z8) (And.intro @pI @vL)))) (And.intro (And.intro (And.intro (And.intro @sU @xY) (And.intro @Ef @Eh)) (And.intro (And.intro @Gg @Ei) (And.intro @Iu @CQ))) (And.intro (And.intro (And.intro @Ab @CR) (And.intro @Ac @Gl)) (And.intro (And.intro @Ej @xZ) (And.intro @yc @Gm))))) (And.intro (And.intro (And.intro (And.intro (And.intro @CU @Gn) (And.intro @El @Iy)) (And.intro (And.intro @Em @sV) (And.intro @Gp @En))) (And.intro (And.intro (And.intro @yg @Eo) (And.intro @Gq @Ad)) (And.intro (And.intro @nR @yh) (And.intro @vM @Ep)))) (And.intro (And.intro (And.intro (And.intro @vN @Er) (And.intro @vO @Et)) (And.intro (And.intro @Ae @Gr) (And.intro @CV @Iz))) (And.intro (And.intro (And.intro @IB @Gs) (And.intro @IC @IE)) (And.intro (And.intro @Ev @CG) (And.intro (And.intro @CJ @CK) @zW)))))
set_option linter.defProp false in
def GQ := And.intro (And.intro (And.intro (And.intro (And.intro (And.intro @CS @Da) (And.intro @Db @Bool.or_false)) (And.intro (And.intro @Bool.false_or @IG) (And.intro @II (And.intro @Gt @CY)))) (And.intro (And.intro (And.intro @CZ @C8) (And.intro @yj (And.intro @Gu @C9))) (And.intro (And.intro @Dc @Df) (And.intro @Cz (And.intro @CB @CF))))) (And.intro (And.intro (And.intro (And.intro (And.intro @Dh @vR) @Ag) (And.intro @Ah (And.intro @yt @sW))) (And.intro (And.intro @vJ @sS) (And.intro @xW (And.intro @List.set_cons_zero.{0} @List.set_cons_succ.{0})))) (And.intro (And.intro (And.intro @List.getElem?_cons_zero.{0} @List.getElem?_cons_succ.{0}) (And.intro @Nat.zero_add (And.intro @List.size_toArray.{0} @List.length_cons.{0}))) (And.intro (And.intro @List.length_nil.{0} @List.all_cons.{0}) (And.intro @List.all_nil.{0} (And.intro @Bool.and_true @Bool.and_self)))))) (And.intro (And.intro (And.intro (And.intro (And.intro @true_and @and_true) (And.intro @zX (And.intro @zY @xX))) (And.intro (And.intro @Ew @Jm) (And.intro @Jo (And.intro @Jp @List.map_cons.{0, 0})))) (And.intro (And.intro (And.intro @List.map_nil.{0, 0} @Option.map_some.{0, 0}) (And.intro @Option.map_none.{0, 0} (And.intro @Nat.add_zero @and_self))) (And.intro (And.intro @Option.bind_some.{0, 0} @List.getElem?_toArray.{0}) (And.intro @List.cons_append.{0} (And.intro @List.nil_append.{0} @List.append_nil.{0}))))) (And.intro (And.intro (And.intro (And.intro @Gh @Gi) (And.intro @Gj (And.intro @Aa @Int.toNat_natCast))) (And.intro (And.intro @not_true_eq_false @not_false_eq_true) (And.intro @false_implies (And.intro @true_implies @Bool.not_true)))) (And.intro (And.intro (And.intro @Bool.not_false @Nat.mul_one) (And.intro @List.getElem?_map.{0, 0} (And.intro @Option.isNone_some.{0} @Option.isNone_none.{0}))) (And.intro (And.intro @bne_self_eq_false.{0} @beq_self_eq_true.{0}) (And.intro @Int.cast_ofNat_Int (And.intro @Nat.zero_mul @Nat.sub_zero))))))
set_option linter.defProp false in
def GM := And.intro (And.intro (And.intro @CW @Eu) (And.intro @vP @pJ)) (And.intro @Af (And.intro @CX @vQ))
end Go.Abs
