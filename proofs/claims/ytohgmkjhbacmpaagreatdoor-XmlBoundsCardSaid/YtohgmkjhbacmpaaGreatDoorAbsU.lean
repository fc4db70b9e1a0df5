/- Rules for the walk over the abstract heap: what 'simp' is given. -/
import Derived.Test.YtohgmkjhbacmpaaGreatDoorAbsZ
set_option linter.unusedVariables false
set_option linter.unusedSimpArgs false
namespace Go.Abs
open Go.RowKit
inductive Tag {α : Sort _} (x : α) : Type | mk
def stop {α : Sort _} (x : α) (t : Tag x) : α := x
theorem stop1 {α β : Type} (f : α → β) (a : α) : stop f .mk a = f a := (rfl)
theorem FU {α β γ : Type} (f : α → β → γ) (a : α) (b : β) : stop f .mk a b = f a b := (rfl)
theorem FV {α β γ δ : Type} (f : α → β → γ → δ) (a : α) (b : β) (c : γ) : stop f .mk a b c = f a b c := (rfl)
def olet (x : Option Value) (f : Value → Prop) : Prop :=
  match x with
  | some v => f v
  | none => False
def slet (x : Option St) (f : St → Prop) : Prop :=
  match x with
  | some v => f v
  | none => False
theorem zW (v : Value) (f : Value → Prop) : olet (some v) f = f v := (rfl)
theorem zX (v : St) (f : St → Prop) : slet (some v) f = f v := (rfl)
theorem zY (v : Value) (s : St) (f : Value → St → Prop) : alet (some (v, s)) f = f v s := (rfl)
theorem bK (x : Option Value) (st : St) (f : Value → St → Prop) : alet (x.map fun v => (v, st)) f = olet x fun v => f v st := by cases x <;> rfl
@[congr] theorem ER {x y : Option Value} {f : Value → Prop} (h : x = y) : olet x f = olet y f := by rw [h]
@[congr] theorem ES {x y : Option St} {f : St → Prop} (h : x = y) : slet x f = slet y f := by rw [h]
@[congr] theorem ET {x y : Option (Value × St)} {f : Value → St → Prop} (h : x = y) : alet x f = alet y f := by rw [h]
@[congr] theorem Ep {v v' : Value} {b : Bool} {x y : Prop} (h : v = v') : eT v b x y = eT v' b x y := by rw [h]
@[congr] theorem Da {v v' : Value} {x y : Prop} (h : v = v') : aW v x y = aW v' x y := by rw [h]
@[congr] theorem Dq {cx : Cx} {f f' : Value} {args args' : List Value} {st : St} {k q : Value → St → Prop} (h : f = f') (h' : args = args') : dP cx f args st k q = dP cx f' args' st k q := by rw [h, h']
@[congr] theorem Dr {cx : Cx} {f : Nat} {args args' : List Value} {st : St} {k q : Value → St → Prop} (h' : args = args') : au cx f args st k q = au cx f args' st k q := by rw [h']
@[congr] theorem Dt {cx : Cx} {B : Nat} {args args' : List Value} {st : St} {k : Value → St → Prop} (h' : args = args') : iU cx B args st k = iU cx B args' st k := by rw [h']
@[congr] theorem Du {cx : Cx} {g g' : Value} {ps : Array Nat} {x y : Code} {Q : Post} {q : bJ} {ρ : Env} {st : St} (h : g = g') : gF cx g ps x y Q q ρ st = gF cx g' ps x y Q q ρ st := by rw [h]
@[congr] theorem EU {cx : Cx} {ops : Array Oper} {l : List Oper} {Q : Post} {q : bJ} {ρ : Env} {st : St} : aops cx ops l Q q ρ st = aops cx ops l Q q ρ st := (rfl)
@[congr] theorem FM {cx : Cx} {c : Code} {Q : Post} {q : bJ} {ρ : Env} {st : St} : awp cx c Q q ρ st = awp cx c Q q ρ st := (rfl)
@[congr] theorem Dv {cx : Cx} {o : Op} {k q : bJ} {ρ : Env} {st : St} : abody cx o ρ st k q = abody cx o ρ st k q := (rfl)
@[congr] theorem Er {recs : List (Nat × (St → Prop))} {l : List Nat} {st : St} {x : Prop} : fF recs l st x = fF recs l st x := (rfl)
@[congr] theorem Et {cx : Cx} {ops : Array Oper} {π : Plan} {recs : List (Nat × (St → Prop))} {Q : Post} {q : bJ} {ρ : Env} {st : St} : iH cx ops π recs Q q ρ st = iH cx ops π recs Q q ρ st := (rfl)
@[congr] theorem Eu {F : Post → Env → St → Prop} {Q : Post} {ρ : Env} {st : St} : oN F Q ρ st = oN F Q ρ st := (rfl)
@[congr] theorem Ev {cx : Cx} {ops : Array Oper} {Q : Post} {q : bJ} {ρ : Env} {st : St} : bH cx ops Q q ρ st = bH cx ops Q q ρ st := (rfl)
section
variable {cx : Cx} {ρ : Env} {st : St} {k q : Value → St → Prop} {Q : Post} {qp : bJ}
theorem zZ (b : Bool) (x y : Prop) : eT (.bool b) b (stop x .mk) y = x := by simp [eT, stop]
theorem z8 (x y : Prop) : eT (.bool true) false x (stop y .mk) = y := by simp [eT, stop]
theorem Aa (x y : Prop) : eT (.bool false) true x (stop y .mk) = y := by simp [eT, stop]
theorem xP (w : Bool) (x y : Prop) : eT kK w (stop x .mk) (stop y .mk) = y := by cases w <;> simp [eT, stop, kK]
theorem sU (x y : Prop) : aW (.bool true) x y = x := by simp [aW]
theorem qD (x y : Prop) : aW (.bool false) x y = y := by simp [aW]
theorem vJ (p : Prop) [Decidable p] (x y : Prop) : aW (.bool (decide p)) x y = ((p → x) ∧ (¬ p → y)) := by simp [aW]
theorem xQ (a b : Int) (x y : Prop) : aW (.bool (a == b)) x y = ((a = b → x) ∧ (¬ a = b → y)) := by simp [aW]
theorem xR (a b : Int) (x y : Prop) : aW (.bool (a != b)) x y = ((¬ a = b → x) ∧ (a = b → y)) := by simp [aW]
theorem vK (b : Bool) (x y : Prop) : aW (.bool (!b)) x y = aW (.bool b) y x := by cases b <;> simp [aW]
theorem bW {x : Int} (h : -9223372036854775808 ≤ x ∧ x ≤ 9223372036854775807) : IntKind.i64.wrap x = x := wrap_i64 h.1 h.2
theorem xS (i : Nat) (l : List Oper) : awp cx (.region i l.toArray false) Q qp ρ st = aops cx l.toArray l Q qp ρ st := (rfl)
theorem Br (i : Nat) (ops : Array Oper) : awp cx (.region i ops true) Q qp ρ st = bH cx (stop ops .mk) (stop Q .mk) (stop qp .mk) ρ st := (rfl)
theorem aj (x y : Code) : awp cx (.seq x y) Q qp ρ st = awp cx x (kW (fun ρ st => awp cx y Q qp ρ st) Q) qp ρ st := (rfl)
theorem Bu (c : Operand) (x y : Code) : awp cx (.cond c x y) Q qp ρ st = aW (ev cx.G ρ c) (awp cx x Q qp ρ st) (awp cx y Q qp ρ st) := (rfl)
theorem ah (i : Nat) (c : Code) : awp cx (.block i c) Q qp ρ st = awp cx c (d9 i Q) qp ρ st := (rfl)
theorem Bv (c : Code) : awp cx (.loop c) Q qp ρ st = oN (stop (fun Q ρ st => awp cx c Q qp ρ st) .mk) (stop Q .mk) ρ st := (rfl)
theorem Bw (i : Nat) : awp cx (.exit i) Q qp ρ st = Q (.exit i) ρ st := (rfl)
theorem Dw : awp cx .ret Q qp ρ st = Q .ret ρ st := (rfl)
theorem Bz : awp cx .skip Q qp ρ st = Q .normal ρ st := (rfl)
theorem Ab (l : Nat) : awp cx (.label l) Q qp ρ st = Q .normal ρ st := (rfl)
theorem sV (n : Env → St → Prop) : kW n Q .normal ρ st = n ρ st := (rfl)
theorem Ac (n : Env → St → Prop) : kW n Q .ret ρ st = Q .ret ρ st := (rfl)
theorem xU (n : Env → St → Prop) (i : Nat) : kW n Q (.exit i) ρ st = Q (.exit i) ρ st := (rfl)
theorem nO (i : Nat) : d9 i Q .normal ρ st = Q .normal ρ st := (rfl)
theorem sW (i : Nat) : d9 i Q .ret ρ st = Q .ret ρ st := (rfl)
theorem qE (i j : Nat) : d9 i Q (.exit j) ρ st = if j = i then Q .normal ρ st else Q (.exit j) ρ st := (rfl)
theorem vL (P : Program) (rs : Array ResultVar) : retQ P rs k .normal ρ st = olet (ares P rs ρ st) (stop (fun v => k v st) .mk) := by
  unfold retQ olet; rfl
theorem BA (P : Program) (rs : Array ResultVar) : retQ P rs k .ret ρ st = olet (ares P rs ρ st) (stop (fun v => k v st) .mk) := by
  unfold retQ olet; rfl
theorem BD (ops : Array Oper) : aops cx ops [] Q qp ρ st = Q .normal ρ st := (rfl)
theorem Dx (ops : Array Oper) (d : Nat) (op : Op) (ty : TypeId) (pos : String) (aft : Array Edge) (r : List Oper) :
    aops cx ops (⟨some d, op, ty, pos, aft, none⟩ :: r) Q qp ρ st = abody cx op ρ st (fun V st' => aops cx ops r Q qp (put ρ d V) st') qp := (rfl)
theorem BF (ops : Array Oper) (op : Op) (ty : TypeId) (pos : String) (aft : Array Edge) (r : List Oper) :
    aops cx ops (⟨none, op, ty, pos, aft, none⟩ :: r) Q qp ρ st = abody cx op ρ st (fun V st' => aops cx ops r Q qp ρ st') qp := (rfl)
def gsl (ops : Array Oper) (g : Nat) : Option Nat := (ops[g]?).bind (·.dst)
theorem EW (ops : Array Oper) (d : Nat) (op : Op) (ty : TypeId) (pos : String) (aft : Array Edge) (g : Nat) (w : Bool) (r : List Oper) :
    aops cx ops (⟨some d, op, ty, pos, aft, some (g, w)⟩ :: r) Q qp ρ st = olet ((gsl ops g).map ρ) (stop (fun v => eT v w (stop (abody cx op ρ st (fun V st' => aops cx ops r Q qp (put ρ d V) st') qp) .mk) (stop (aops cx ops r Q qp (put ρ d kK) st) .mk)) .mk) := by
  show aZ cx ops _ ρ st _ qp = _
  unfold aZ jy gsl
  simp only
  cases (ops[g]?).bind (·.dst) <;> rfl
theorem vM (ops : Array Oper) (dst : Option Nat) (op : Op) (ty : TypeId) (pos : String) (aft : Array Edge) :
    aZ cx ops ⟨dst, op, ty, pos, aft, none⟩ ρ st k q = abody cx op ρ st k q := (rfl)
theorem vN (ops : Array Oper) (dst : Option Nat) (op : Op) (ty : TypeId) (pos : String) (aft : Array Edge) (g : Nat) (w : Bool) :
    aZ cx ops ⟨dst, op, ty, pos, aft, some (g, w)⟩ ρ st k q = olet (((ops[g]?).bind (·.dst)).map ρ) (stop (fun v => eT v w (stop (abody cx op ρ st k q) .mk) (stop (k kK st) .mk)) .mk) := by
  unfold aZ jy
  simp only
  cases (ops[g]?).bind (·.dst) <;> rfl
theorem Dy {c : Prop} [Decidable c] (x : Option Value) (f : Value → Prop) : olet (if c then x else none) f = (c ∧ olet x f) := by
  by_cases h : c <;> simp [h, olet]
theorem Dz {c : Prop} [Decidable c] (x : Option St) (f : St → Prop) : slet (if c then x else none) f = (c ∧ slet x f) := by
  by_cases h : c <;> simp [h, slet]
theorem DC {c : Prop} [Decidable c] (x : Option (Value × St)) (f : Value → St → Prop) : alet (if c then x else none) f = (c ∧ alet x f) := by
  by_cases h : c <;> simp [h, alet]
theorem xV {c : Prop} [Decidable c] {α : Type} (x : Option α) (g : α → Value) (f : Value → Prop) : olet (Option.map g (if c then x else none)) f = (c ∧ olet (Option.map g x) f) := by
  by_cases h : c <;> simp [h, olet]
def atO (x : Option Oper) (f : Oper → Prop) : Prop :=
  match x with
  | none => False
  | some o => f o
@[congr] theorem FN {x y : Option Oper} {f : Oper → Prop} (h : x = y) : atO x f = atO y f := by rw [h]
theorem BG (o : Oper) (f : Oper → Prop) : atO (some o) f = f o := (rfl)
theorem Ad (ops : Array Oper) (recs : List (Nat × (St → Prop))) : iH cx ops [] recs Q qp ρ st = Q .normal ρ st := (rfl)
theorem xW (ops : Array Oper) (i : Nat) (kp : Bool) (pd : List Nat) (π : Plan) (recs : List (Nat × (St → Prop))) :
    iH cx ops ((i, kp, pd) :: π) recs Q qp ρ st = atO (ops[i]?) fun o => aZ cx ops o ρ st (fun V st' => fF recs pd st' (iH cx ops π (bif kp then (i, yld cx ops o ρ V) :: recs else recs) Q qp (putO ρ o.dst V) st')) qp := by
  show (match ops[i]? with
    | none => False
    | some o => aZ cx ops o ρ st (fun V st' => fF recs pd st' (iH cx ops π (bif kp then (i, yld cx ops o ρ V) :: recs else recs) Q qp (putO ρ o.dst V) st')) qp) = _
  cases ops[i]? <;> rfl
theorem Ae (recs : List (Nat × (St → Prop))) (x : Prop) : fF recs [] st x = x := (rfl)
theorem xX (recs : List (Nat × (St → Prop))) (i : Nat) (r : List Nat) (x : Prop) : fF recs (i :: r) st x = (getR recs i st ∧ fF recs r st x) := (rfl)
theorem Af (j : Nat) (p : St → Prop) (r : List (Nat × (St → Prop))) (i : Nat) : getR ((j, p) :: r) i = if i = j then p else getR r i := (rfl)
@[congr] theorem EX {recs : List (Nat × (St → Prop))} {i : Nat} {st : St} : getR recs i st = getR recs i st := (rfl)
theorem DF (ops : Array Oper) (o : Oper) (V : Value) (s : St) : yld cx ops o ρ V s = aZ cx ops o ρ s (fun V' s' => V' = V ∧ s' = s) (fun _ _ => False) := (rfl)
@[congr] theorem FP {ops : Array Oper} {o : Oper} {V : Value} {s : St} : yld cx ops o ρ V s = yld cx ops o ρ V s := (rfl)
@[congr] theorem Ew {ops : Array Oper} {o : Oper} : aZ cx ops o ρ st k q = aZ cx ops o ρ st k q := (rfl)
theorem bH.of {ops : Array Oper} (π : Plan) (ks : List Nat) (un : List (Nat × Nat)) (h : (zn ops && (π.length == ops.size) && okGo cx.P ops ks un π (Array.replicate ops.size false)) = true) (k : iH cx ops π [] Q qp ρ st) : bH cx (stop ops .mk) (stop Q .mk) (stop qp .mk) ρ st := by
  simp only [Bool.and_eq_true, beq_iff_eq] at h
  have hA := mq h.1.1 π _ [] ρ st h.2 (fun j _ => rfl) k
  rw [h.1.2] at hA
  exact ⟨_, _, hA⟩
theorem DI (x : Operand) : abody cx (.move x) ρ st k q = olet (some (ev cx.G ρ x)) (stop (fun v => k v st) .mk) := (rfl)
theorem Ag (x : Operand) : abody cx (.assign x) ρ st k q = olet (some (ev cx.G ρ x)) (stop (fun v => k v st) .mk) := (rfl)
theorem DJ (c a b : Operand) : abody cx (.pick c a b) ρ st k q = olet (oH (ev cx.G ρ c) (ev cx.G ρ a) (ev cx.G ρ b)) (stop (fun v => k v st) .mk) := bK _ _ _
theorem BH (t : TypeId) : abody cx (.alloc t) ρ st k q = alet (bM cx.P st t) (stop k .mk) := (rfl)
theorem EY (t : TypeId) (x : Operand) : abody cx (.box t x) ρ st k q = alet (abox st t (ev cx.G ρ x)) (stop k .mk) := (rfl)
theorem BI (t : TypeId) (ps : Array (Nat × Operand)) : abody cx (.build t ps) ρ st k q = olet (iw cx.P t (ps.toList.map fun p => (p.1, ev cx.G ρ p.2))) (stop (fun v => k v st) .mk) := bK _ _ _
theorem qF (t : TypeId) (n : Nat) (ps : Array (Nat × Operand)) : abody cx (.buildSlice t n ps) ρ st k q = alet (aC cx.P st t n (ps.toList.map fun p => (p.1, ev cx.G ρ p.2))) (stop k .mk) := (rfl)
theorem DK (t : TypeId) (a : Operand) : abody cx (.load t a) ρ st k q = olet (iT cx.P st t (ev cx.G ρ a)) (stop (fun v => k v st) .mk) := bK _ _ _
theorem BJ (t : TypeId) (a x : Operand) : abody cx (.store t a x) ρ st k q = slet (gX cx.P st t (ev cx.G ρ a) (ev cx.G ρ x)) (stop (fun s => k undef s) .mk) := by
  show alet ((gX cx.P st t (ev cx.G ρ a) (ev cx.G ρ x)).map fun st' => (undef, st')) k = _
  cases gX cx.P st t (ev cx.G ρ a) (ev cx.G ρ x) <;> rfl
theorem vO (x : Operand) : abody cx (.nilCheck x) ρ st k q = olet (gu (ev cx.G ρ x)) (stop (fun v => k v st) .mk) := bK _ _ _
theorem BK (op : BinOp) (t : TypeId) (x y : Operand) (t2 : TypeId) : abody cx (.binOp op t x y t2) ρ st k q = olet (abin cx.P op t x y (ev cx.G ρ x) (ev cx.G ρ y)) (stop (fun v => k v st) .mk) := bK _ _ _
theorem DL (op : UnOp) (t : TypeId) (x : Operand) : abody cx (.unOp op t x) ρ st k q = olet (aun op (ev cx.G ρ x)) (stop (fun v => k v st) .mk) := bK _ _ _
theorem xY (s d : TypeId) (x : Operand) : abody cx (.convert s d x) ρ st k q = alet (bG cx.P st s d (ev cx.G ρ x)) (stop k .mk) := (rfl)
theorem mF (t : TypeId) (x : Operand) : abody cx (.makeInterface t x) ρ st k q = olet (oG cx.P t (ev cx.G ρ x)) (stop (fun v => k v st) .mk) := bK _ _ _
theorem vP (n : Nat) (a b : Array Operand) : abody cx (.makeFunc (.func n) a b) ρ st k q = k (.func (.func n) (a.map (ev cx.G ρ)) (b.map (ev cx.G ρ))) st := (rfl)
theorem sZ (t : TypeId) (l c : Operand) : abody cx (.makeSlice t l c) ρ st k q = alet (ak cx.P st t (ev cx.G ρ l) (ev cx.G ρ c)) (stop k .mk) := (rfl)
theorem BL (t : TypeId) (x : Operand) (lo hi mx : Option Operand) : abody cx (.slice t x lo hi mx) ρ st k q = olet (aslice cx.P st t (ev cx.G ρ x) (lo.map (ev cx.G ρ)) (hi.map (ev cx.G ρ)) (mx.map (ev cx.G ρ))) (stop (fun v => k v st) .mk) := bK _ _ _
theorem tq (t : TypeId) (x : Operand) (f : Nat) : abody cx (.fieldAddr t x f) ρ st k q = olet (dL cx.P t (ev cx.G ρ x) f) (stop (fun v => k v st) .mk) := bK _ _ _
theorem BM (t : TypeId) (x : Operand) (f : Nat) : abody cx (.field t x f) ρ st k q = olet (lY cx.P t (ev cx.G ρ x) f) (stop (fun v => k v st) .mk) := bK _ _ _
theorem tu (t : TypeId) (x i : Operand) : abody cx (.indexAddr t x i) ρ st k q = olet (dM cx.P t (ev cx.G ρ x) (ev cx.G ρ i)) (stop (fun v => k v st) .mk) := bK _ _ _
theorem BN (t : TypeId) (x i : Operand) : abody cx (.index t x i) ρ st k q = olet (gy cx.P t (ev cx.G ρ x) (ev cx.G ρ i)) (stop (fun v => k v st) .mk) := bK _ _ _
theorem xZ (x : Operand) (i : Nat) : abody cx (.extract x i) ρ st k q = olet (iG (ev cx.G ρ x) i) (stop (fun v => k v st) .mk) := bK _ _ _
theorem DN (f : Operand) (args : Array Operand) (tys : Array TypeId) : abody cx (.call ⟨.value f, args, tys⟩) ρ st k q = dP cx (ev cx.G ρ f) (args.toList.map (ev cx.G ρ)) st (stop k .mk) (stop q .mk) := (rfl)
theorem EZ (args : Array Operand) (tys : Array TypeId) : abody cx (.call ⟨.builtin .len, args, tys⟩) ρ st k q = alet (bC cx.P st .len tys (args.toList.map (ev cx.G ρ))) (stop k .mk) := (rfl)
theorem E5 (args : Array Operand) (tys : Array TypeId) : abody cx (.call ⟨.builtin .cap, args, tys⟩) ρ st k q = alet (bC cx.P st .cap tys (args.toList.map (ev cx.G ρ))) (stop k .mk) := (rfl)
theorem DR (args : Array Operand) (tys : Array TypeId) : abody cx (.call ⟨.builtin .copy, args, tys⟩) ρ st k q = alet (bC cx.P st .copy tys (args.toList.map (ev cx.G ρ))) (stop k .mk) := (rfl)
theorem E8 (args : Array Operand) (tys : Array TypeId) : abody cx (.call ⟨.builtin .max, args, tys⟩) ρ st k q = alet (bC cx.P st .max tys (args.toList.map (ev cx.G ρ))) (stop k .mk) := (rfl)
theorem E9 (args : Array Operand) (tys : Array TypeId) : abody cx (.call ⟨.builtin .min, args, tys⟩) ρ st k q = alet (bC cx.P st .min tys (args.toList.map (ev cx.G ρ))) (stop k .mk) := (rfl)
theorem Ah (args : Array Operand) (t : TypeId) (l : List TypeId) (h : cx.ex t = false) : abody cx (.call ⟨.builtin .append, args, (t :: l).toArray⟩) ρ st k q = alet (bC cx.P st .append (t :: l).toArray (args.toList.map (ev cx.G ρ))) (stop k .mk) := by
  show ((cx.ex t = true ∧ qU (kT cx.P st (t :: l).toArray (args.toList.map (ev cx.G ρ))) st k) ∨ alet (bC cx.P st .append (t :: l).toArray (args.toList.map (ev cx.G ρ))) k) = _
  rw [h]
  simp [stop]
theorem Ai (args : Array Operand) (tys : Array TypeId) : abody cx (.call ⟨.builtin .delete, args, tys⟩) ρ st k q = alet (bX cx.P st .delete tys (args.toList.map (ev cx.G ρ))) (stop k .mk) := (rfl)
theorem BO (args : Array Operand) (tys : Array TypeId) : abody cx (.call ⟨.builtin .clear, args, tys⟩) ρ st k q = alet (bX cx.P st .clear tys (args.toList.map (ev cx.G ρ))) (stop k .mk) := (rfl)
theorem tC (args : Array Operand) (tys : Array TypeId) : abody cx (.call ⟨.builtin .unsafeSliceData, args, tys⟩) ρ st k q = alet (bX cx.P st .unsafeSliceData tys (args.toList.map (ev cx.G ρ))) (stop k .mk) := (rfl)
theorem nP (args : Array Operand) (tys : Array TypeId) : abody cx (.call ⟨.builtin .unsafeString, args, tys⟩) ρ st k q = alet (bX cx.P st .unsafeString tys (args.toList.map (ev cx.G ρ))) (stop k .mk) := (rfl)
theorem yc (t : TypeId) (r : Option Operand) : abody cx (.makeMap t r) ρ st k q = alet (iE cx.P st t (r.map (ev cx.G ρ))) (stop k .mk) := (rfl)
theorem Aj (t : TypeId) (x i : Operand) (ok : Bool) : abody cx (.lookup t x i ok) ρ st k q = olet (kQ cx.P st t (ev cx.G ρ x) (ev cx.G ρ i) ok) (stop (fun v => k v st) .mk) := bK _ _ _
theorem tF (t : TypeId) (m kk v : Operand) : abody cx (.mapUpdate t m kk v) ρ st k q = slet (cB cx.P st t (ev cx.G ρ m) (ev cx.G ρ kk) (ev cx.G ρ v)) (stop (fun s => k undef s) .mk) := by
  show alet ((cB cx.P st t (ev cx.G ρ m) (ev cx.G ρ kk) (ev cx.G ρ v)).map fun st' => (undef, st')) k = _
  cases cB cx.P st t (ev cx.G ρ m) (ev cx.G ρ kk) (ev cx.G ρ v) <;> rfl
theorem BP (x : Operand) : abody cx (.panic x) ρ st k q = iV (ev cx.G ρ x) st q := (rfl)
theorem Fa (G t : Nat) : ev G ρ (.tmp t) = ρ t := (rfl)
theorem Fb (G : Nat) (i : IntKind) (n : Int) : ev G ρ (.const (.int i n)) = .int i n := (rfl)
theorem DT (G : Nat) (b : Bool) : ev G ρ (.const (.bool b)) = .bool b := (rfl)
theorem Ak (G : Nat) (b : ByteArray) : ev G ρ (.const (.string b)) = .string b := (rfl)
theorem Al (G : Nat) : ev G ρ (.const (.pointer none)) = .pointer none := (rfl)
theorem Am (G : Nat) : ev G ρ (.const (.slice none 0 0)) = .slice none 0 0 := (rfl)
theorem vQ (G : Nat) : ev G ρ (.const .nilIface) = .nilIface := (rfl)
theorem DU (G f : Nat) : ev G ρ (.func f) = .func (.func f) #[] #[] := (rfl)
theorem Ao (d : Nat) (v : Value) (t : Nat) : put ρ d v t = if t = d then v else ρ t := (rfl)
theorem Ap (d : Nat) (v : Value) : putO ρ (some d) v = put ρ d v := (rfl)
theorem Aq (v : Value) : putO ρ none v = ρ := (rfl)
theorem Ar (a : Value) (l : List Value) : env0 (a :: l) 0 = a := (rfl)
theorem Au (a : Value) (l : List Value) (n : Nat) : env0 (a :: l) (n + 1) = env0 l n := (rfl)
theorem Av (g : Operand) (ps : Array Nat) (x y : Code) : awp cx (.rangeFunc g ps x y) Q qp ρ st = gF cx (ev cx.G ρ g) ps x y (stop Q .mk) (stop qp .mk) ρ st := (rfl)
theorem tH (B : Nat) (args : List Value) : dP cx (.func (.yield B) #[] #[]) args st k q = iU cx B args st k := (rfl)
theorem gF.enter {n : Nat} {fn : Func} {first captured : Array Value} {ps : Array Nat} {x y : Code} (hf : cx.P.funcs[n]? = some fn) (hb : fn.body.isSome = true) (hn : (fn.name == "runtime.NumGoroutine") = false)
    (h : ay cx n (first.toList ++ [.func (.yield st.n) #[] #[]] ++ captured.toList) (st.new (.loop ⟨ρ, ps, x, y, .ready, none⟩)) (fun _ st' => aend st.n Q ρ st' (st'.H st.n)) qp) : gF cx (.func (.func n) first captured) ps x y Q qp ρ st := ⟨⟨fn, hf, hb, hn⟩, h⟩
theorem Aw (n : Nat) (args : List Value) : dP cx (.func (.func n) #[] #[]) args st k q = au cx n args st k q := by
  show au cx n ([] ++ args ++ []) st k q = _
  simp
theorem au.enter {n : Nat} {fn : Func} {args : List Value} (hf : cx.P.funcs[n]? = some fn) (hb : fn.body.isSome = true) (hn : (fn.name == "runtime.NumGoroutine") = false) (h : ay cx n args st k q) : au cx n args st k q := .inl ⟨⟨fn, hf, hb, hn⟩, h⟩
theorem yg (b : Bool) (x y : Value) : oH (.bool b) x y = some (bif b then x else y) := (rfl)
theorem yh (P : Program) (t : TypeId) (B off : Nat) : iT P st t (.pointer (some ⟨B, off, none⟩)) = u7 P st t B off := (rfl)
theorem vR (P : Program) (t : TypeId) (B off : Nat) (x : Value) : gX P st t (.pointer (some ⟨B, off, none⟩)) x = oo P st t B off x := (rfl)
theorem qG (a : Addr) : gu (.pointer (some a)) = some (.pointer (some a)) := (rfl)
theorem BQ (B : Nat) (o : Option Ob) (b : Nat) : (st.set B o).H b = if b = B then o else st.H b := (rfl)
theorem FW (B : Nat) (o : Option Ob) : (st.set B o).n = st.n := (rfl)
theorem FX (o : Ob) : (st.new o).n = st.n + 1 := (rfl)
theorem yj (o : Ob) : (st.new o).H st.n = some o := by simp [St.new]
theorem FY (o : Ob) (b : Nat) : (st.new o).H b = if b = st.n then some o else st.H b := (rfl)
theorem DV (o : Ob) {b : Nat} (h : b < st.n) : (st.new o).H b = st.H b := by
  show (if b = st.n then some o else st.H b) = _
  rw [if_neg (by omega)]
end
set_option linter.defProp false in
def GP := And.intro (And.intro (And.intro (And.intro (And.intro (And.intro @stop1 @FU) (And.intro (And.intro @FV @Av) @xS)) (And.intro (And.intro @Br @Bu) (And.intro @Bv @Bw))) (And.intro (And.intro (And.intro @Dw @Bz) (And.intro @Ab @sV)) (And.intro (And.intro @Ac @xU) (And.intro @nO @sW)))) (And.intro (And.intro (And.intro (And.intro @qE @vL) (And.intro @BA @BD)) (And.intro (And.intro @Dx @BF) (And.intro @EW @Ad))) (And.intro (And.intro (And.intro @xW @Ae) (And.intro @xX @DF)) (And.intro (And.intro @BG @vM) (And.intro @vN @DI))))) (And.intro (And.intro (And.intro (And.intro (And.intro @Ag @DJ) (And.intro @BH @EY)) (And.intro (And.intro @BI @qF) (And.intro @DK @BJ))) (And.intro (And.intro (And.intro @vO @BK) (And.intro @DL @xY)) (And.intro (And.intro @mF @vP) (And.intro @sZ @BL)))) (And.intro (And.intro (And.intro (And.intro @tq @BM) (And.intro @tu @BN)) (And.intro (And.intro @xZ @DN) (And.intro @Ah @EZ))) (And.intro (And.intro (And.intro @E5 @DR) (And.intro @E8 @E9)) (And.intro (And.intro @BP @zZ) (And.intro (And.intro @z8 @Aa) @xP)))))
set_option linter.defProp false in
def GQ := And.intro (And.intro (And.intro (And.intro (And.intro (And.intro @Af @Ap) (And.intro @Aq @Bool.or_false)) (And.intro (And.intro @Bool.false_or @Fa) (And.intro @Fb (And.intro @DT @Ak)))) (And.intro (And.intro (And.intro @Al @Am) (And.intro @vQ (And.intro @DU @Ao))) (And.intro (And.intro @Ar @Au) (And.intro @zW (And.intro @zX @zY))))) (And.intro (And.intro (And.intro (And.intro (And.intro @Aw @tH) @yg) (And.intro @yh (And.intro @vR @qG))) (And.intro (And.intro @sU @qD) (And.intro @vJ (And.intro @List.set_cons_zero.{0} @List.set_cons_succ.{0})))) (And.intro (And.intro (And.intro @List.getElem?_cons_zero.{0} @List.getElem?_cons_succ.{0}) (And.intro @Nat.zero_add (And.intro @List.size_toArray.{0} @List.length_cons.{0}))) (And.intro (And.intro @List.length_nil.{0} @List.all_cons.{0}) (And.intro @List.all_nil.{0} (And.intro @Bool.and_true @Bool.and_self)))))) (And.intro (And.intro (And.intro (And.intro (And.intro @true_and @and_true) (And.intro @xQ (And.intro @xR @vK))) (And.intro (And.intro @BQ @FW) (And.intro @FX (And.intro @FY @List.map_cons.{0, 0})))) (And.intro (And.intro (And.intro @List.map_nil.{0, 0} @Option.map_some.{0, 0}) (And.intro @Option.map_none.{0, 0} (And.intro @Nat.add_zero @and_self))) (And.intro (And.intro @Option.bind_some.{0, 0} @List.getElem?_toArray.{0}) (And.intro @List.cons_append.{0} (And.intro @List.nil_append.{0} @List.append_nil.{0}))))) (And.intro (And.intro (And.intro (And.intro @Dy @Dz) (And.intro @DC (And.intro @xV @Int.toNat_natCast))) (And.intro (And.intro @not_true_eq_false @not_false_eq_true) (And.intro @false_implies (And.intro @true_implies @Bool.not_true)))) (And.intro (And.intro (And.intro @Bool.not_false @Nat.mul_one) (And.intro @List.getElem?_map.{0, 0} (And.intro @Option.isNone_some.{0} @Option.isNone_none.{0}))) (And.intro (And.intro @bne_self_eq_false.{0} @beq_self_eq_true.{0}) (And.intro @Int.cast_ofNat_Int (And.intro @Nat.zero_mul @Nat.sub_zero))))))
set_option linter.defProp false in
def GM := And.intro (And.intro (And.intro @Ai @BO) (And.intro @tC @nP)) (And.intro @yc (And.intro @Aj @tF))
end Go.Abs
