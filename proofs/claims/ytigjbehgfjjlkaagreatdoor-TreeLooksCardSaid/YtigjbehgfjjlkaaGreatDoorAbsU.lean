/- Rules for the walk over the abstract heap: what 'simp' is given. -/
import Derived.Test.YtigjbehgfjjlkaaGreatDoorAbsZ
set_option linter.unusedVariables false
set_option linter.unusedSimpArgs false
namespace Go.Abs
open Go.RowKit
inductive Tag {α : Sort _} (x : α) : Type | mk
def stop {α : Sort _} (x : α) (t : Tag x) : α := x
theorem stop1 {α β : Type} (f : α → β) (a : α) : stop f .mk a = f a := (rfl)
theorem Ja {α β γ : Type} (f : α → β → γ) (a : α) (b : β) : stop f .mk a b = f a b := (rfl)
theorem Jb {α β γ δ : Type} (f : α → β → γ → δ) (a : α) (b : β) (c : γ) : stop f .mk a b c = f a b c := (rfl)
def olet (x : Option Value) (f : Value → Prop) : Prop :=
  match x with
  | some v => f v
  | none => False
def slet (x : Option St) (f : St → Prop) : Prop :=
  match x with
  | some v => f v
  | none => False
theorem CW (v : Value) (f : Value → Prop) : olet (some v) f = f v := (rfl)
theorem CX (v : St) (f : St → Prop) : slet (some v) f = f v := (rfl)
theorem CY (v : Value) (s : St) (f : Value → St → Prop) : alet (some (v, s)) f = f v s := (rfl)
theorem dK (x : Option Value) (st : St) (f : Value → St → Prop) : alet (x.map fun v => (v, st)) f = olet x fun v => f v st := by cases x <;> rfl
@[congr] theorem Ib {x y : Option Value} {f : Value → Prop} (h : x = y) : olet x f = olet y f := by rw [h]
@[congr] theorem Ic {x y : Option St} {f : St → Prop} (h : x = y) : slet x f = slet y f := by rw [h]
@[congr] theorem Ie {x y : Option (Value × St)} {f : Value → St → Prop} (h : x = y) : alet x f = alet y f := by rw [h]
@[congr] theorem G7 {v v' : Value} {b : Bool} {x y : Prop} (h : v = v') : gZ v b x y = gZ v' b x y := by rw [h]
@[congr] theorem FR {v v' : Value} {x y : Prop} (h : v = v') : bS v x y = bS v' x y := by rw [h]
@[congr] theorem F8 {cx : Cx} {f f' : Value} {args args' : List Value} {st : St} {k q : Value → St → Prop} (h : f = f') (h' : args = args') : fT cx f args st k q = fT cx f' args' st k q := by rw [h, h']
@[congr] theorem F9 {cx : Cx} {f : Nat} {args args' : List Value} {st : St} {k q : Value → St → Prop} (h' : args = args') : ay cx f args st k q = ay cx f args' st k q := by rw [h']
@[congr] theorem Ga {cx : Cx} {B : Nat} {args args' : List Value} {st : St} {k : Value → St → Prop} (h' : args = args') : kH cx B args st k = kH cx B args' st k := by rw [h']
@[congr] theorem Gb {cx : Cx} {g g' : Value} {ps : Array Nat} {x y : Code} {Q : Post} {q : dJ} {ρ : Env} {st : St} (h : g = g') : ji cx g ps x y Q q ρ st = ji cx g' ps x y Q q ρ st := by rw [h]
@[congr] theorem Ig {cx : Cx} {ops : Array Oper} {l : List Oper} {Q : Post} {q : dJ} {ρ : Env} {st : St} : aops cx ops l Q q ρ st = aops cx ops l Q q ρ st := (rfl)
@[congr] theorem I4 {cx : Cx} {c : Code} {Q : Post} {q : dJ} {ρ : Env} {st : St} : awp cx c Q q ρ st = awp cx c Q q ρ st := (rfl)
@[congr] theorem Gc {cx : Cx} {o : Op} {k q : dJ} {ρ : Env} {st : St} : abody cx o ρ st k q = abody cx o ρ st k q := (rfl)
@[congr] theorem G8 {recs : List (Nat × (St → Prop))} {l : List Nat} {st : St} {x : Prop} : iK recs l st x = iK recs l st x := (rfl)
@[congr] theorem G9 {cx : Cx} {ops : Array Oper} {π : Plan} {recs : List (Nat × (St → Prop))} {Q : Post} {q : dJ} {ρ : Env} {st : St} : jU cx ops π recs Q q ρ st = jU cx ops π recs Q q ρ st := (rfl)
@[congr] theorem He {F : Post → Env → St → Prop} {Q : Post} {ρ : Env} {st : St} : rU F Q ρ st = rU F Q ρ st := (rfl)
@[congr] theorem Hf {cx : Cx} {ops : Array Oper} {Q : Post} {q : dJ} {ρ : Env} {st : St} : bG cx ops Q q ρ st = bG cx ops Q q ρ st := (rfl)
section
variable {cx : Cx} {ρ : Env} {st : St} {k q : Value → St → Prop} {Q : Post} {qp : dJ}
theorem CZ (b : Bool) (x y : Prop) : gZ (.bool b) b (stop x .mk) y = x := by simp [gZ, stop]
theorem C8 (x y : Prop) : gZ (.bool true) false x (stop y .mk) = y := by simp [gZ, stop]
theorem C9 (x y : Prop) : gZ (.bool false) true x (stop y .mk) = y := by simp [gZ, stop]
theorem Ar (w : Bool) (x y : Prop) : gZ nG w (stop x .mk) (stop y .mk) = y := by cases w <;> simp [gZ, stop, nG]
theorem wJ (x y : Prop) : bS (.bool true) x y = x := by simp [bS]
theorem uG (x y : Prop) : bS (.bool false) x y = y := by simp [bS]
theorem yK (p : Prop) [Decidable p] (x y : Prop) : bS (.bool (decide p)) x y = ((p → x) ∧ (¬ p → y)) := by simp [bS]
theorem Au (a b : Int) (x y : Prop) : bS (.bool (a == b)) x y = ((a = b → x) ∧ (¬ a = b → y)) := by simp [bS]
theorem Av (a b : Int) (x y : Prop) : bS (.bool (a != b)) x y = ((¬ a = b → x) ∧ (a = b → y)) := by simp [bS]
theorem yL (b : Bool) (x y : Prop) : bS (.bool (!b)) x y = bS (.bool b) y x := by cases b <;> simp [bS]
theorem bH {x : Int} (h : -9223372036854775808 ≤ x ∧ x ≤ 9223372036854775807) : IntKind.i64.wrap x = x := wrap_i64 h.1 h.2
theorem Aw (i : Nat) (l : List Oper) : awp cx (.region i l.toArray false) Q qp ρ st = aops cx l.toArray l Q qp ρ st := (rfl)
theorem Eo (i : Nat) (ops : Array Oper) : awp cx (.region i ops true) Q qp ρ st = bG cx (stop ops .mk) (stop Q .mk) (stop qp .mk) ρ st := (rfl)
theorem aj (x y : Code) : awp cx (.seq x y) Q qp ρ st = awp cx x (nR (fun ρ st => awp cx y Q qp ρ st) Q) qp ρ st := (rfl)
theorem Ep (c : Operand) (x y : Code) : awp cx (.cond c x y) Q qp ρ st = bS (ev cx.G ρ c) (awp cx x Q qp ρ st) (awp cx y Q qp ρ st) := (rfl)
theorem ah (i : Nat) (c : Code) : awp cx (.block i c) Q qp ρ st = awp cx c (gI i Q) qp ρ st := (rfl)
theorem Er (c : Code) : awp cx (.loop c) Q qp ρ st = rU (stop (fun Q ρ st => awp cx c Q qp ρ st) .mk) (stop Q .mk) ρ st := (rfl)
theorem Et (i : Nat) : awp cx (.exit i) Q qp ρ st = Q (.exit i) ρ st := (rfl)
theorem Gd : awp cx .ret Q qp ρ st = Q .ret ρ st := (rfl)
theorem Eu : awp cx .skip Q qp ρ st = Q .normal ρ st := (rfl)
theorem Da (l : Nat) : awp cx (.label l) Q qp ρ st = Q .normal ρ st := (rfl)
theorem wK (n : Env → St → Prop) : nR n Q .normal ρ st = n ρ st := (rfl)
theorem Db (n : Env → St → Prop) : nR n Q .ret ρ st = Q .ret ρ st := (rfl)
theorem Ay (n : Env → St → Prop) (i : Nat) : nR n Q (.exit i) ρ st = Q (.exit i) ρ st := (rfl)
theorem qM (i : Nat) : gI i Q .normal ρ st = Q .normal ρ st := (rfl)
theorem wL (i : Nat) : gI i Q .ret ρ st = Q .ret ρ st := (rfl)
theorem uH (i j : Nat) : gI i Q (.exit j) ρ st = if j = i then Q .normal ρ st else Q (.exit j) ρ st := (rfl)
theorem yM (P : Program) (rs : Array ResultVar) : retQ P rs k .normal ρ st = olet (ares P rs ρ st) (stop (fun v => k v st) .mk) := by
  unfold retQ olet; rfl
theorem Ev (P : Program) (rs : Array ResultVar) : retQ P rs k .ret ρ st = olet (ares P rs ρ st) (stop (fun v => k v st) .mk) := by
  unfold retQ olet; rfl
theorem Ew (ops : Array Oper) : aops cx ops [] Q qp ρ st = Q .normal ρ st := (rfl)
theorem Gf (ops : Array Oper) (d : Nat) (op : Op) (ty : TypeId) (pos : String) (aft : Array Edge) (r : List Oper) :
    aops cx ops (⟨some d, op, ty, pos, aft, none⟩ :: r) Q qp ρ st = abody cx op ρ st (fun V st' => aops cx ops r Q qp (put ρ d V) st') qp := (rfl)
theorem Ey (ops : Array Oper) (op : Op) (ty : TypeId) (pos : String) (aft : Array Edge) (r : List Oper) :
    aops cx ops (⟨none, op, ty, pos, aft, none⟩ :: r) Q qp ρ st = abody cx op ρ st (fun V st' => aops cx ops r Q qp ρ st') qp := (rfl)
def gsl (ops : Array Oper) (g : Nat) : Option Nat := (ops[g]?).bind (·.dst)
theorem Ih (ops : Array Oper) (d : Nat) (op : Op) (ty : TypeId) (pos : String) (aft : Array Edge) (g : Nat) (w : Bool) (r : List Oper) :
    aops cx ops (⟨some d, op, ty, pos, aft, some (g, w)⟩ :: r) Q qp ρ st = olet ((gsl ops g).map ρ) (stop (fun v => gZ v w (stop (abody cx op ρ st (fun V st' => aops cx ops r Q qp (put ρ d V) st') qp) .mk) (stop (aops cx ops r Q qp (put ρ d nG) st) .mk)) .mk) := by
  show cu cx ops _ ρ st _ qp = _
  unfold cu lG gsl
  simp only
  cases (ops[g]?).bind (·.dst) <;> rfl
theorem yN (ops : Array Oper) (dst : Option Nat) (op : Op) (ty : TypeId) (pos : String) (aft : Array Edge) :
    cu cx ops ⟨dst, op, ty, pos, aft, none⟩ ρ st k q = abody cx op ρ st k q := (rfl)
theorem yO (ops : Array Oper) (dst : Option Nat) (op : Op) (ty : TypeId) (pos : String) (aft : Array Edge) (g : Nat) (w : Bool) :
    cu cx ops ⟨dst, op, ty, pos, aft, some (g, w)⟩ ρ st k q = olet (((ops[g]?).bind (·.dst)).map ρ) (stop (fun v => gZ v w (stop (abody cx op ρ st k q) .mk) (stop (k nG st) .mk)) .mk) := by
  unfold cu lG
  simp only
  cases (ops[g]?).bind (·.dst) <;> rfl
theorem Gg {c : Prop} [Decidable c] (x : Option Value) (f : Value → Prop) : olet (if c then x else none) f = (c ∧ olet x f) := by
  by_cases h : c <;> simp [h, olet]
theorem Gh {c : Prop} [Decidable c] (x : Option St) (f : St → Prop) : slet (if c then x else none) f = (c ∧ slet x f) := by
  by_cases h : c <;> simp [h, slet]
theorem Gi {c : Prop} [Decidable c] (x : Option (Value × St)) (f : Value → St → Prop) : alet (if c then x else none) f = (c ∧ alet x f) := by
  by_cases h : c <;> simp [h, alet]
theorem Az {c : Prop} [Decidable c] {α : Type} (x : Option α) (g : α → Value) (f : Value → Prop) : olet (Option.map g (if c then x else none)) f = (c ∧ olet (Option.map g x) f) := by
  by_cases h : c <;> simp [h, olet]
def atO (x : Option Oper) (f : Oper → Prop) : Prop :=
  match x with
  | none => False
  | some o => f o
@[congr] theorem I5 {x y : Option Oper} {f : Oper → Prop} (h : x = y) : atO x f = atO y f := by rw [h]
theorem Ez (o : Oper) (f : Oper → Prop) : atO (some o) f = f o := (rfl)
theorem Dc (ops : Array Oper) (recs : List (Nat × (St → Prop))) : jU cx ops [] recs Q qp ρ st = Q .normal ρ st := (rfl)
theorem AA (ops : Array Oper) (i : Nat) (kp : Bool) (pd : List Nat) (π : Plan) (recs : List (Nat × (St → Prop))) :
    jU cx ops ((i, kp, pd) :: π) recs Q qp ρ st = atO (ops[i]?) fun o => cu cx ops o ρ st (fun V st' => iK recs pd st' (jU cx ops π (bif kp then (i, yld cx ops o ρ V) :: recs else recs) Q qp (putO ρ o.dst V) st')) qp := by
  show (match ops[i]? with
    | none => False
    | some o => cu cx ops o ρ st (fun V st' => iK recs pd st' (jU cx ops π (bif kp then (i, yld cx ops o ρ V) :: recs else recs) Q qp (putO ρ o.dst V) st')) qp) = _
  cases ops[i]? <;> rfl
theorem Df (recs : List (Nat × (St → Prop))) (x : Prop) : iK recs [] st x = x := (rfl)
theorem AB (recs : List (Nat × (St → Prop))) (i : Nat) (r : List Nat) (x : Prop) : iK recs (i :: r) st x = (getR recs i st ∧ iK recs r st x) := (rfl)
theorem Dg (j : Nat) (p : St → Prop) (r : List (Nat × (St → Prop))) (i : Nat) : getR ((j, p) :: r) i = if i = j then p else getR r i := (rfl)
@[congr] theorem Ii {recs : List (Nat × (St → Prop))} {i : Nat} {st : St} : getR recs i st = getR recs i st := (rfl)
theorem Gj (ops : Array Oper) (o : Oper) (V : Value) (s : St) : yld cx ops o ρ V s = cu cx ops o ρ s (fun V' s' => V' = V ∧ s' = s) (fun _ _ => False) := (rfl)
@[congr] theorem I6 {ops : Array Oper} {o : Oper} {V : Value} {s : St} : yld cx ops o ρ V s = yld cx ops o ρ V s := (rfl)
@[congr] theorem Hg {ops : Array Oper} {o : Oper} : cu cx ops o ρ st k q = cu cx ops o ρ st k q := (rfl)
theorem bG.of {ops : Array Oper} (π : Plan) (ks : List Nat) (un : List (Nat × Nat)) (h : (Cm ops && (π.length == ops.size) && okGo cx.P ops ks un π (Array.replicate ops.size false)) = true) (k : jU cx ops π [] Q qp ρ st) : bG cx (stop ops .mk) (stop Q .mk) (stop qp .mk) ρ st := by
  simp only [Bool.and_eq_true, beq_iff_eq] at h
  have hA := o7 h.1.1 π _ [] ρ st h.2 (fun j _ => rfl) k
  rw [h.1.2] at hA
  exact ⟨_, _, hA⟩
theorem Gl (x : Operand) : abody cx (.move x) ρ st k q = olet (some (ev cx.G ρ x)) (stop (fun v => k v st) .mk) := (rfl)
theorem Dh (x : Operand) : abody cx (.assign x) ρ st k q = olet (some (ev cx.G ρ x)) (stop (fun v => k v st) .mk) := (rfl)
theorem Gm (c a b : Operand) : abody cx (.pick c a b) ρ st k q = olet (rM (ev cx.G ρ c) (ev cx.G ρ a) (ev cx.G ρ b)) (stop (fun v => k v st) .mk) := dK _ _ _
theorem EA (t : TypeId) : abody cx (.alloc t) ρ st k q = alet (bB cx.P st t) (stop k .mk) := (rfl)
theorem Ij (t : TypeId) (x : Operand) : abody cx (.box t x) ρ st k q = alet (abox st t (ev cx.G ρ x)) (stop k .mk) := (rfl)
theorem EB (t : TypeId) (ps : Array (Nat × Operand)) : abody cx (.build t ps) ρ st k q = olet (jI cx.P t (ps.toList.map fun p => (p.1, ev cx.G ρ p.2))) (stop (fun v => k v st) .mk) := dK _ _ _
theorem uI (t : TypeId) (n : Nat) (ps : Array (Nat × Operand)) : abody cx (.buildSlice t n ps) ρ st k q = alet (aP cx.P st t n (ps.toList.map fun p => (p.1, ev cx.G ρ p.2))) (stop k .mk) := (rfl)
theorem Gn (t : TypeId) (a : Operand) : abody cx (.load t a) ρ st k q = olet (kG cx.P st t (ev cx.G ρ a)) (stop (fun v => k v st) .mk) := dK _ _ _
theorem EC (t : TypeId) (a x : Operand) : abody cx (.store t a x) ρ st k q = slet (jB cx.P st t (ev cx.G ρ a) (ev cx.G ρ x)) (stop (fun s => k undef s) .mk) := by
  show alet ((jB cx.P st t (ev cx.G ρ a) (ev cx.G ρ x)).map fun st' => (undef, st')) k = _
  cases jB cx.P st t (ev cx.G ρ a) (ev cx.G ρ x) <;> rfl
theorem yP (x : Operand) : abody cx (.nilCheck x) ρ st k q = olet (jf (ev cx.G ρ x)) (stop (fun v => k v st) .mk) := dK _ _ _
theorem ED (op : BinOp) (t : TypeId) (x y : Operand) (t2 : TypeId) : abody cx (.binOp op t x y t2) ρ st k q = olet (abin cx.P op t x y (ev cx.G ρ x) (ev cx.G ρ y)) (stop (fun v => k v st) .mk) := dK _ _ _
theorem Gp (op : UnOp) (t : TypeId) (x : Operand) : abody cx (.unOp op t x) ρ st k q = olet (aun op (ev cx.G ρ x)) (stop (fun v => k v st) .mk) := dK _ _ _
theorem AJ (s d : TypeId) (x : Operand) : abody cx (.convert s d x) ρ st k q = alet (dP cx.P st s d (ev cx.G ρ x)) (stop k .mk) := (rfl)
theorem pq (t : TypeId) (x : Operand) : abody cx (.makeInterface t x) ρ st k q = olet (rJ cx.P t (ev cx.G ρ x)) (stop (fun v => k v st) .mk) := dK _ _ _
theorem yQ (n : Nat) (a b : Array Operand) : abody cx (.makeFunc (.func n) a b) ρ st k q = k (.func (.func n) (a.map (ev cx.G ρ)) (b.map (ev cx.G ρ))) st := (rfl)
theorem wM (t : TypeId) (l c : Operand) : abody cx (.makeSlice t l c) ρ st k q = alet (ak cx.P st t (ev cx.G ρ l) (ev cx.G ρ c)) (stop k .mk) := (rfl)
theorem EF (t : TypeId) (x : Operand) (lo hi mx : Option Operand) : abody cx (.slice t x lo hi mx) ρ st k q = olet (aslice cx.P st t (ev cx.G ρ x) (lo.map (ev cx.G ρ)) (hi.map (ev cx.G ρ)) (mx.map (ev cx.G ρ))) (stop (fun v => k v st) .mk) := dK _ _ _
theorem wN (t : TypeId) (x : Operand) (f : Nat) : abody cx (.fieldAddr t x f) ρ st k q = olet (fO cx.P t (ev cx.G ρ x) f) (stop (fun v => k v st) .mk) := dK _ _ _
theorem EG (t : TypeId) (x : Operand) (f : Nat) : abody cx (.field t x f) ρ st k q = olet (oN cx.P t (ev cx.G ρ x) f) (stop (fun v => k v st) .mk) := dK _ _ _
theorem wO (t : TypeId) (x i : Operand) : abody cx (.indexAddr t x i) ρ st k q = olet (fP cx.P t (ev cx.G ρ x) (ev cx.G ρ i)) (stop (fun v => k v st) .mk) := dK _ _ _
theorem EH (t : TypeId) (x i : Operand) : abody cx (.index t x i) ρ st k q = olet (jg cx.P t (ev cx.G ρ x) (ev cx.G ρ i)) (stop (fun v => k v st) .mk) := dK _ _ _
theorem AL (x : Operand) (i : Nat) : abody cx (.extract x i) ρ st k q = olet (jT (ev cx.G ρ x) i) (stop (fun v => k v st) .mk) := dK _ _ _
theorem Gq (f : Operand) (args : Array Operand) (tys : Array TypeId) : abody cx (.call ⟨.value f, args, tys⟩) ρ st k q = fT cx (ev cx.G ρ f) (args.toList.map (ev cx.G ρ)) st (stop k .mk) (stop q .mk) := (rfl)
theorem Ik (args : Array Operand) (tys : Array TypeId) : abody cx (.call ⟨.builtin .len, args, tys⟩) ρ st k q = alet (dz cx.P st .len tys (args.toList.map (ev cx.G ρ))) (stop k .mk) := (rfl)
theorem Il (args : Array Operand) (tys : Array TypeId) : abody cx (.call ⟨.builtin .cap, args, tys⟩) ρ st k q = alet (dz cx.P st .cap tys (args.toList.map (ev cx.G ρ))) (stop k .mk) := (rfl)
theorem Gr (args : Array Operand) (tys : Array TypeId) : abody cx (.call ⟨.builtin .copy, args, tys⟩) ρ st k q = alet (dz cx.P st .copy tys (args.toList.map (ev cx.G ρ))) (stop k .mk) := (rfl)
theorem Im (args : Array Operand) (tys : Array TypeId) : abody cx (.call ⟨.builtin .max, args, tys⟩) ρ st k q = alet (dz cx.P st .max tys (args.toList.map (ev cx.G ρ))) (stop k .mk) := (rfl)
theorem Io (args : Array Operand) (tys : Array TypeId) : abody cx (.call ⟨.builtin .min, args, tys⟩) ρ st k q = alet (dz cx.P st .min tys (args.toList.map (ev cx.G ρ))) (stop k .mk) := (rfl)
theorem Di (args : Array Operand) (t : TypeId) (l : List TypeId) (h : cx.ex t = false) : abody cx (.call ⟨.builtin .append, args, (t :: l).toArray⟩) ρ st k q = alet (dz cx.P st .append (t :: l).toArray (args.toList.map (ev cx.G ρ))) (stop k .mk) := by
  show ((cx.ex t = true ∧ uU (nO cx.P st (t :: l).toArray (args.toList.map (ev cx.G ρ))) st k) ∨ alet (dz cx.P st .append (t :: l).toArray (args.toList.map (ev cx.G ρ))) k) = _
  rw [h]
  simp [stop]
theorem Dj (args : Array Operand) (tys : Array TypeId) : abody cx (.call ⟨.builtin .delete, args, tys⟩) ρ st k q = alet (eG cx.P st .delete tys (args.toList.map (ev cx.G ρ))) (stop k .mk) := (rfl)
theorem EI (args : Array Operand) (tys : Array TypeId) : abody cx (.call ⟨.builtin .clear, args, tys⟩) ρ st k q = alet (eG cx.P st .clear tys (args.toList.map (ev cx.G ρ))) (stop k .mk) := (rfl)
theorem wP (args : Array Operand) (tys : Array TypeId) : abody cx (.call ⟨.builtin .unsafeSliceData, args, tys⟩) ρ st k q = alet (eG cx.P st .unsafeSliceData tys (args.toList.map (ev cx.G ρ))) (stop k .mk) := (rfl)
theorem qN (args : Array Operand) (tys : Array TypeId) : abody cx (.call ⟨.builtin .unsafeString, args, tys⟩) ρ st k q = alet (eG cx.P st .unsafeString tys (args.toList.map (ev cx.G ρ))) (stop k .mk) := (rfl)
theorem AO (t : TypeId) (r : Option Operand) : abody cx (.makeMap t r) ρ st k q = alet (jS cx.P st t (r.map (ev cx.G ρ))) (stop k .mk) := (rfl)
theorem Dk (t : TypeId) (x i : Operand) (ok : Bool) : abody cx (.lookup t x i ok) ρ st k q = olet (nL cx.P st t (ev cx.G ρ x) (ev cx.G ρ i) ok) (stop (fun v => k v st) .mk) := dK _ _ _
theorem wQ (t : TypeId) (m kk v : Operand) : abody cx (.mapUpdate t m kk v) ρ st k q = slet (eT cx.P st t (ev cx.G ρ m) (ev cx.G ρ kk) (ev cx.G ρ v)) (stop (fun s => k undef s) .mk) := by
  show alet ((eT cx.P st t (ev cx.G ρ m) (ev cx.G ρ kk) (ev cx.G ρ v)).map fun st' => (undef, st')) k = _
  cases eT cx.P st t (ev cx.G ρ m) (ev cx.G ρ kk) (ev cx.G ρ v) <;> rfl
theorem EJ (x : Operand) : abody cx (.panic x) ρ st k q = kI (ev cx.G ρ x) st q := (rfl)
theorem Ip (G t : Nat) : ev G ρ (.tmp t) = ρ t := (rfl)
theorem Iq (G : Nat) (i : IntKind) (n : Int) : ev G ρ (.const (.int i n)) = .int i n := (rfl)
theorem Gs (G : Nat) (b : Bool) : ev G ρ (.const (.bool b)) = .bool b := (rfl)
theorem Dl (G : Nat) (b : ByteArray) : ev G ρ (.const (.string b)) = .string b := (rfl)
theorem Dm (G : Nat) : ev G ρ (.const (.pointer none)) = .pointer none := (rfl)
theorem Dn (G : Nat) : ev G ρ (.const (.slice none 0 0)) = .slice none 0 0 := (rfl)
theorem yR (G : Nat) : ev G ρ (.const .nilIface) = .nilIface := (rfl)
theorem Gt (G f : Nat) : ev G ρ (.func f) = .func (.func f) #[] #[] := (rfl)
theorem Dp (d : Nat) (v : Value) (t : Nat) : put ρ d v t = if t = d then v else ρ t := (rfl)
theorem Dq (d : Nat) (v : Value) : putO ρ (some d) v = put ρ d v := (rfl)
theorem Dr (v : Value) : putO ρ none v = ρ := (rfl)
theorem Dt (a : Value) (l : List Value) : env0 (a :: l) 0 = a := (rfl)
theorem Du (a : Value) (l : List Value) (n : Nat) : env0 (a :: l) (n + 1) = env0 l n := (rfl)
theorem Dv (g : Operand) (ps : Array Nat) (x y : Code) : awp cx (.rangeFunc g ps x y) Q qp ρ st = ji cx (ev cx.G ρ g) ps x y (stop Q .mk) (stop qp .mk) ρ st := (rfl)
theorem wR (B : Nat) (args : List Value) : fT cx (.func (.yield B) #[] #[]) args st k q = kH cx B args st k := (rfl)
theorem ji.enter {n : Nat} {fn : Func} {first captured : Array Value} {ps : Array Nat} {x y : Code} (hf : cx.P.funcs[n]? = some fn) (hb : fn.body.isSome = true) (hn : (fn.name == "runtime.NumGoroutine") = false)
    (h : aA cx n (first.toList ++ [.func (.yield st.n) #[] #[]] ++ captured.toList) (st.new (.loop ⟨ρ, ps, x, y, .ready, none⟩)) (fun _ st' => aend st.n Q ρ st' (st'.H st.n)) qp) : ji cx (.func (.func n) first captured) ps x y Q qp ρ st := ⟨⟨fn, hf, hb, hn⟩, h⟩
theorem Dw (n : Nat) (args : List Value) : fT cx (.func (.func n) #[] #[]) args st k q = ay cx n args st k q := by
  show ay cx n ([] ++ args ++ []) st k q = _
  simp
theorem ay.enter {n : Nat} {fn : Func} {args : List Value} (hf : cx.P.funcs[n]? = some fn) (hb : fn.body.isSome = true) (hn : (fn.name == "runtime.NumGoroutine") = false) (h : aA cx n args st k q) : ay cx n args st k q := .inl ⟨⟨fn, hf, hb, hn⟩, h⟩
theorem AP (b : Bool) (x y : Value) : rM (.bool b) x y = some (bif b then x else y) := (rfl)
theorem AQ (P : Program) (t : TypeId) (B off : Nat) : kG P st t (.pointer (some ⟨B, off, none⟩)) = yu P st t B off := (rfl)
theorem yS (P : Program) (t : TypeId) (B off : Nat) (x : Value) : jB P st t (.pointer (some ⟨B, off, none⟩)) x = rz P st t B off x := (rfl)
theorem uJ (a : Addr) : jf (.pointer (some a)) = some (.pointer (some a)) := (rfl)
theorem EK (B : Nat) (o : Option Ob) (b : Nat) : (st.set B o).H b = if b = B then o else st.H b := (rfl)
theorem Jc (B : Nat) (o : Option Ob) : (st.set B o).n = st.n := (rfl)
theorem rZ (o : Ob) : (st.new o).n = st.n + 1 := (rfl)
theorem AR (o : Ob) : (st.new o).H st.n = some o := by simp [St.new]
theorem Jd (o : Ob) (b : Nat) : (st.new o).H b = if b = st.n then some o else st.H b := (rfl)
theorem Gu (o : Ob) {b : Nat} (h : b < st.n) : (st.new o).H b = st.H b := by
  show (if b = st.n then some o else st.H b) = _
  rw [if_neg (by omega)]
end
set_option linter.defProp false in
def GP := And.intro (And.intro (And.intro (And.intro (And.intro (And.intro @stop1 @Ja) (And.intro (And.intro @Jb @Dv) @Aw)) (And.intro (And.intro @Eo @Ep) (And.intro @Er @Et))) (And.intro (And.intro (And.intro @Gd @Eu) (And.intro @Da @wK)) (And.intro (And.intro @Db @Ay) (And.intro @qM @wL)))) (And.intro (And.intro (And.intro (And.intro @uH @yM) (And.intro @Ev @Ew)) (And.intro (And.intro @Gf @Ey) (And.intro @Ih @Dc))) (And.intro (And.intro (And.intro @AA @Df) (And.intro @AB @Gj)) (And.intro (And.intro @Ez @yN) (And.intro @yO @Gl))))) (And.intro (And.intro (And.intro (And.intro (And.intro @Dh @Gm) (And.intro @EA @Ij)) (And.intro (And.intro @EB @uI) (And.intro @Gn @EC))) (And.intro (And.intro (And.intro @yP @ED) (And.intro @Gp @AJ)) (And.intro (And.intro @pq @yQ) (And.intro @wM @EF)))) (And.intro (And.intro (And.intro (And.intro @wN @EG) (And.intro @wO @EH)) (And.intro (And.intro @AL @Gq) (And.intro @Di @Ik))) (And.intro (And.intro (And.intro @Il @Gr) (And.intro @Im @Io)) (And.intro (And.intro @EJ @CZ) (And.intro (And.intro @C8 @C9) @Ar)))))
set_option linter.defProp false in
def GQ := And.intro (And.intro (And.intro (And.intro (And.intro (And.intro @Dg @Dq) (And.intro @Dr @Bool.or_false)) (And.intro (And.intro @Bool.false_or @Ip) (And.intro @Iq (And.intro @Gs @Dl)))) (And.intro (And.intro (And.intro @Dm @Dn) (And.intro @yR (And.intro @Gt @Dp))) (And.intro (And.intro @Dt @Du) (And.intro @CW (And.intro @CX @CY))))) (And.intro (And.intro (And.intro (And.intro (And.intro @Dw @wR) @AP) (And.intro @AQ (And.intro @yS @uJ))) (And.intro (And.intro @wJ @uG) (And.intro @yK (And.intro @List.set_cons_zero.{0} @List.set_cons_succ.{0})))) (And.intro (And.intro (And.intro @List.getElem?_cons_zero.{0} @List.getElem?_cons_succ.{0}) (And.intro @Nat.zero_add (And.intro @List.size_toArray.{0} @List.length_cons.{0}))) (And.intro (And.intro @List.length_nil.{0} @List.all_cons.{0}) (And.intro @List.all_nil.{0} (And.intro @Bool.and_true @Bool.and_self)))))) (And.intro (And.intro (And.intro (And.intro (And.intro @true_and @and_true) (And.intro @Au (And.intro @Av @yL))) (And.intro (And.intro @EK @Jc) (And.intro @rZ (And.intro @Jd @List.map_cons.{0, 0})))) (And.intro (And.intro (And.intro @List.map_nil.{0, 0} @Option.map_some.{0, 0}) (And.intro @Option.map_none.{0, 0} (And.intro @Nat.add_zero @and_self))) (And.intro (And.intro @Option.bind_some.{0, 0} @List.getElem?_toArray.{0}) (And.intro @List.cons_append.{0} (And.intro @List.nil_append.{0} @List.append_nil.{0}))))) (And.intro (And.intro (And.intro (And.intro @Gg @Gh) (And.intro @Gi (And.intro @Az @Int.toNat_natCast))) (And.intro (And.intro @not_true_eq_false @not_false_eq_true) (And.intro @false_implies (And.intro @true_implies @Bool.not_true)))) (And.intro (And.intro (And.intro @Bool.not_false @Nat.mul_one) (And.intro @List.getElem?_map.{0, 0} (And.intro @Option.isNone_some.{0} @Option.isNone_none.{0}))) (And.intro (And.intro @bne_self_eq_false.{0} @beq_self_eq_true.{0}) (And.intro @Int.cast_ofNat_Int (And.intro @Nat.zero_mul @Nat.sub_zero))))))
set_option linter.defProp false in
def GM := And.intro (And.intro (And.intro @Dj @EI) (And.intro @wP @qN)) (And.intro @AO (And.intro @Dk @wQ))
end Go.Abs
