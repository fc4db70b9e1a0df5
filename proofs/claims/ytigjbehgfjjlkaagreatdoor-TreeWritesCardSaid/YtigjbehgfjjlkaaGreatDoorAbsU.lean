/- Rules for the walk over the abstract heap: what 'simp' is given. -/
import Derived.Test.YtigjbehgfjjlkaaGreatDoorAbsZ
set_option linter.unusedVariables false
set_option linter.unusedSimpArgs false
namespace Go.Abs
open Go.RowKit
inductive Tag {α : Sort _} (x : α) : Type | mk
def stop {α : Sort _} (x : α) (t : Tag x) : α := x
theorem stop1 {α β : Type} (f : α → β) (a : α) : stop f .mk a = f a := (rfl)
theorem H6 {α β γ : Type} (f : α → β → γ) (a : α) (b : β) : stop f .mk a b = f a b := (rfl)
theorem H7 {α β γ δ : Type} (f : α → β → γ → δ) (a : α) (b : β) (c : γ) : stop f .mk a b c = f a b c := (rfl)
def olet (x : Option Value) (f : Value → Prop) : Prop :=
  match x with
  | some v => f v
  | none => False
def slet (x : Option St) (f : St → Prop) : Prop :=
  match x with
  | some v => f v
  | none => False
theorem BU (v : Value) (f : Value → Prop) : olet (some v) f = f v := (rfl)
theorem BX (v : St) (f : St → Prop) : slet (some v) f = f v := (rfl)
theorem BZ (v : Value) (s : St) (f : Value → St → Prop) : alet (some (v, s)) f = f v s := (rfl)
theorem dw (x : Option Value) (st : St) (f : Value → St → Prop) : alet (x.map fun v => (v, st)) f = olet x fun v => f v st := by cases x <;> rfl
@[congr] theorem Gw {x y : Option Value} {f : Value → Prop} (h : x = y) : olet x f = olet y f := by rw [h]
@[congr] theorem Gx {x y : Option St} {f : St → Prop} (h : x = y) : slet x f = slet y f := by rw [h]
@[congr] theorem Gy {x y : Option (Value × St)} {f : Value → St → Prop} (h : x = y) : alet x f = alet y f := by rw [h]
@[congr] theorem F5 {v v' : Value} {b : Bool} {x y : Prop} (h : v = v') : gP v b x y = gP v' b x y := by rw [h]
@[congr] theorem EK {v v' : Value} {x y : Prop} (h : v = v') : bJ v x y = bJ v' x y := by rw [h]
@[congr] theorem EZ {cx : Cx} {f f' : Value} {args args' : List Value} {st : St} {k q : Value → St → Prop} (h : f = f') (h' : args = args') : fT cx f args st k q = fT cx f' args' st k q := by rw [h, h']
@[congr] theorem E5 {cx : Cx} {f : Nat} {args args' : List Value} {st : St} {k q : Value → St → Prop} (h' : args = args') : au cx f args st k q = au cx f args' st k q := by rw [h']
@[congr] theorem E8 {cx : Cx} {B : Nat} {args args' : List Value} {st : St} {k : Value → St → Prop} (h' : args = args') : j3 cx B args st k = j3 cx B args' st k := by rw [h']
@[congr] theorem E9 {cx : Cx} {g g' : Value} {ps : Array Nat} {x y : Code} {Q : Post} {q : dh} {ρ : Env} {st : St} (h : g = g') : iW cx g ps x y Q q ρ st = iW cx g' ps x y Q q ρ st := by rw [h]
@[congr] theorem Gz {cx : Cx} {ops : Array Oper} {l : List Oper} {Q : Post} {q : dh} {ρ : Env} {st : St} : aops cx ops l Q q ρ st = aops cx ops l Q q ρ st := (rfl)
@[congr] theorem Hw {cx : Cx} {c : Code} {Q : Post} {q : dh} {ρ : Env} {st : St} : awp cx c Q q ρ st = awp cx c Q q ρ st := (rfl)
@[congr] theorem Fa {cx : Cx} {o : Op} {k q : dh} {ρ : Env} {st : St} : abody cx o ρ st k q = abody cx o ρ st k q := (rfl)
@[congr] theorem F6 {recs : List (Nat × (St → Prop))} {l : List Nat} {st : St} {x : Prop} : iC recs l st x = iC recs l st x := (rfl)
@[congr] theorem F7 {cx : Cx} {ops : Array Oper} {π : Plan} {recs : List (Nat × (St → Prop))} {Q : Post} {q : dh} {ρ : Env} {st : St} : jI cx ops π recs Q q ρ st = jI cx ops π recs Q q ρ st := (rfl)
@[congr] theorem F8 {F : Post → Env → St → Prop} {Q : Post} {ρ : Env} {st : St} : qZ F Q ρ st = qZ F Q ρ st := (rfl)
@[congr] theorem F9 {cx : Cx} {ops : Array Oper} {Q : Post} {q : dh} {ρ : Env} {st : St} : bg cx ops Q q ρ st = bg cx ops Q q ρ st := (rfl)
section
variable {cx : Cx} {ρ : Env} {st : St} {k q : Value → St → Prop} {Q : Post} {qp : dh}
theorem Ca (b : Bool) (x y : Prop) : gP (.bool b) b (stop x .mk) y = x := by simp [gP, stop]
theorem Cb (x y : Prop) : gP (.bool true) false x (stop y .mk) = y := by simp [gP, stop]
theorem Cc (x y : Prop) : gP (.bool false) true x (stop y .mk) = y := by simp [gP, stop]
theorem zO (w : Bool) (x y : Prop) : gP mR w (stop x .mk) (stop y .mk) = y := by cases w <;> simp [gP, stop, mR]
theorem vO (x y : Prop) : bJ (.bool true) x y = x := by simp [bJ]
theorem tq (x y : Prop) : bJ (.bool false) x y = y := by simp [bJ]
theorem xS (p : Prop) [Decidable p] (x y : Prop) : bJ (.bool (decide p)) x y = ((p → x) ∧ (¬ p → y)) := by simp [bJ]
theorem zP (a b : Int) (x y : Prop) : bJ (.bool (a == b)) x y = ((a = b → x) ∧ (¬ a = b → y)) := by simp [bJ]
theorem zQ (a b : Int) (x y : Prop) : bJ (.bool (a != b)) x y = ((¬ a = b → x) ∧ (a = b → y)) := by simp [bJ]
theorem xU (b : Bool) (x y : Prop) : bJ (.bool (!b)) x y = bJ (.bool b) y x := by cases b <;> simp [bJ]
theorem bL {x : Int} (h : -9223372036854775808 ≤ x ∧ x ≤ 9223372036854775807) : IntKind.i64.wrap x = x := wrap_i64 h.1 h.2
theorem zR (i : Nat) (l : List Oper) : awp cx (.region i l.toArray false) Q qp ρ st = aops cx l.toArray l Q qp ρ st := (rfl)
theorem Dt (i : Nat) (ops : Array Oper) : awp cx (.region i ops true) Q qp ρ st = bg cx (stop ops .mk) (stop Q .mk) (stop qp .mk) ρ st := (rfl)
theorem aj (x y : Code) : awp cx (.seq x y) Q qp ρ st = awp cx x (nA (fun ρ st => awp cx y Q qp ρ st) Q) qp ρ st := (rfl)
theorem Du (c : Operand) (x y : Code) : awp cx (.cond c x y) Q qp ρ st = bJ (ev cx.G ρ c) (awp cx x Q qp ρ st) (awp cx y Q qp ρ st) := (rfl)
theorem ah (i : Nat) (c : Code) : awp cx (.block i c) Q qp ρ st = awp cx c (gH i Q) qp ρ st := (rfl)
theorem Dv (c : Code) : awp cx (.loop c) Q qp ρ st = qZ (stop (fun Q ρ st => awp cx c Q qp ρ st) .mk) (stop Q .mk) ρ st := (rfl)
theorem Dw (i : Nat) : awp cx (.exit i) Q qp ρ st = Q (.exit i) ρ st := (rfl)
theorem Fb : awp cx .ret Q qp ρ st = Q .ret ρ st := (rfl)
theorem Dx : awp cx .skip Q qp ρ st = Q .normal ρ st := (rfl)
theorem Ce (l : Nat) : awp cx (.label l) Q qp ρ st = Q .normal ρ st := (rfl)
theorem vP (n : Env → St → Prop) : nA n Q .normal ρ st = n ρ st := (rfl)
theorem Cg (n : Env → St → Prop) : nA n Q .ret ρ st = Q .ret ρ st := (rfl)
theorem zS (n : Env → St → Prop) (i : Nat) : nA n Q (.exit i) ρ st = Q (.exit i) ρ st := (rfl)
theorem qw (i : Nat) : gH i Q .normal ρ st = Q .normal ρ st := (rfl)
theorem vQ (i : Nat) : gH i Q .ret ρ st = Q .ret ρ st := (rfl)
theorem tu (i j : Nat) : gH i Q (.exit j) ρ st = if j = i then Q .normal ρ st else Q (.exit j) ρ st := (rfl)
theorem xV (P : Program) (rs : Array ResultVar) : retQ P rs k .normal ρ st = olet (ares P rs ρ st) (stop (fun v => k v st) .mk) := by
  unfold retQ olet; rfl
theorem Dy (P : Program) (rs : Array ResultVar) : retQ P rs k .ret ρ st = olet (ares P rs ρ st) (stop (fun v => k v st) .mk) := by
  unfold retQ olet; rfl
theorem Dz (ops : Array Oper) : aops cx ops [] Q qp ρ st = Q .normal ρ st := (rfl)
theorem Fe (ops : Array Oper) (d : Nat) (op : Op) (ty : TypeId) (pos : String) (aft : Array Edge) (r : List Oper) :
    aops cx ops (⟨some d, op, ty, pos, aft, none⟩ :: r) Q qp ρ st = abody cx op ρ st (fun V st' => aops cx ops r Q qp (put ρ d V) st') qp := (rfl)
theorem DC (ops : Array Oper) (op : Op) (ty : TypeId) (pos : String) (aft : Array Edge) (r : List Oper) :
    aops cx ops (⟨none, op, ty, pos, aft, none⟩ :: r) Q qp ρ st = abody cx op ρ st (fun V st' => aops cx ops r Q qp ρ st') qp := (rfl)
def gsl (ops : Array Oper) (g : Nat) : Option Nat := (ops[g]?).bind (·.dst)
theorem GA (ops : Array Oper) (d : Nat) (op : Op) (ty : TypeId) (pos : String) (aft : Array Edge) (g : Nat) (w : Bool) (r : List Oper) :
    aops cx ops (⟨some d, op, ty, pos, aft, some (g, w)⟩ :: r) Q qp ρ st = olet ((gsl ops g).map ρ) (stop (fun v => gP v w (stop (abody cx op ρ st (fun V st' => aops cx ops r Q qp (put ρ d V) st') qp) .mk) (stop (aops cx ops r Q qp (put ρ d mR) st) .mk)) .mk) := by
  show bQ cx ops _ ρ st _ qp = _
  unfold bQ kN gsl
  simp only
  cases (ops[g]?).bind (·.dst) <;> rfl
theorem xW (ops : Array Oper) (dst : Option Nat) (op : Op) (ty : TypeId) (pos : String) (aft : Array Edge) :
    bQ cx ops ⟨dst, op, ty, pos, aft, none⟩ ρ st k q = abody cx op ρ st k q := (rfl)
theorem xX (ops : Array Oper) (dst : Option Nat) (op : Op) (ty : TypeId) (pos : String) (aft : Array Edge) (g : Nat) (w : Bool) :
    bQ cx ops ⟨dst, op, ty, pos, aft, some (g, w)⟩ ρ st k q = olet (((ops[g]?).bind (·.dst)).map ρ) (stop (fun v => gP v w (stop (abody cx op ρ st k q) .mk) (stop (k mR st) .mk)) .mk) := by
  unfold bQ kN
  simp only
  cases (ops[g]?).bind (·.dst) <;> rfl
theorem Fg {c : Prop} [Decidable c] (x : Option Value) (f : Value → Prop) : olet (if c then x else none) f = (c ∧ olet x f) := by
  by_cases h : c <;> simp [h, olet]
theorem Fh {c : Prop} [Decidable c] (x : Option St) (f : St → Prop) : slet (if c then x else none) f = (c ∧ slet x f) := by
  by_cases h : c <;> simp [h, slet]
theorem Fj {c : Prop} [Decidable c] (x : Option (Value × St)) (f : Value → St → Prop) : alet (if c then x else none) f = (c ∧ alet x f) := by
  by_cases h : c <;> simp [h, alet]
theorem zT {c : Prop} [Decidable c] {α : Type} (x : Option α) (g : α → Value) (f : Value → Prop) : olet (Option.map g (if c then x else none)) f = (c ∧ olet (Option.map g x) f) := by
  by_cases h : c <;> simp [h, olet]
def atO (x : Option Oper) (f : Oper → Prop) : Prop :=
  match x with
  | none => False
  | some o => f o
@[congr] theorem Hy {x y : Option Oper} {f : Oper → Prop} (h : x = y) : atO x f = atO y f := by rw [h]
theorem DF (o : Oper) (f : Oper → Prop) : atO (some o) f = f o := (rfl)
theorem Ch (ops : Array Oper) (recs : List (Nat × (St → Prop))) : jI cx ops [] recs Q qp ρ st = Q .normal ρ st := (rfl)
theorem zU (ops : Array Oper) (i : Nat) (kp : Bool) (pd : List Nat) (π : Plan) (recs : List (Nat × (St → Prop))) :
    jI cx ops ((i, kp, pd) :: π) recs Q qp ρ st = atO (ops[i]?) fun o => bQ cx ops o ρ st (fun V st' => iC recs pd st' (jI cx ops π (bif kp then (i, yld cx ops o ρ V) :: recs else recs) Q qp (putO ρ o.dst V) st')) qp := by
  show (match ops[i]? with
    | none => False
    | some o => bQ cx ops o ρ st (fun V st' => iC recs pd st' (jI cx ops π (bif kp then (i, yld cx ops o ρ V) :: recs else recs) Q qp (putO ρ o.dst V) st')) qp) = _
  cases ops[i]? <;> rfl
theorem Ci (recs : List (Nat × (St → Prop))) (x : Prop) : iC recs [] st x = x := (rfl)
theorem zV (recs : List (Nat × (St → Prop))) (i : Nat) (r : List Nat) (x : Prop) : iC recs (i :: r) st x = (getR recs i st ∧ iC recs r st x) := (rfl)
theorem Cj (j : Nat) (p : St → Prop) (r : List (Nat × (St → Prop))) (i : Nat) : getR ((j, p) :: r) i = if i = j then p else getR r i := (rfl)
@[congr] theorem GD {recs : List (Nat × (St → Prop))} {i : Nat} {st : St} : getR recs i st = getR recs i st := (rfl)
theorem Fp (ops : Array Oper) (o : Oper) (V : Value) (s : St) : yld cx ops o ρ V s = bQ cx ops o ρ s (fun V' s' => V' = V ∧ s' = s) (fun _ _ => False) := (rfl)
@[congr] theorem Hz {ops : Array Oper} {o : Oper} {V : Value} {s : St} : yld cx ops o ρ V s = yld cx ops o ρ V s := (rfl)
@[congr] theorem Ga {ops : Array Oper} {o : Oper} : bQ cx ops o ρ st k q = bQ cx ops o ρ st k q := (rfl)
theorem bg.of {ops : Array Oper} (π : Plan) (ks : List Nat) (un : List (Nat × Nat)) (h : (Bp ops && (π.length == ops.size) && okGo cx.P ops ks un π (Array.replicate ops.size false)) = true) (k : jI cx ops π [] Q qp ρ st) : bg cx (stop ops .mk) (stop Q .mk) (stop qp .mk) ρ st := by
  simp only [Bool.and_eq_true, beq_iff_eq] at h
  have hA := oK h.1.1 π _ [] ρ st h.2 (fun j _ => rfl) k
  rw [h.1.2] at hA
  exact ⟨_, _, hA⟩
theorem Fq (x : Operand) : abody cx (.move x) ρ st k q = olet (some (ev cx.G ρ x)) (stop (fun v => k v st) .mk) := (rfl)
theorem Ck (x : Operand) : abody cx (.assign x) ρ st k q = olet (some (ev cx.G ρ x)) (stop (fun v => k v st) .mk) := (rfl)
theorem Fu (c a b : Operand) : abody cx (.pick c a b) ρ st k q = olet (qR (ev cx.G ρ c) (ev cx.G ρ a) (ev cx.G ρ b)) (stop (fun v => k v st) .mk) := dw _ _ _
theorem DI (t : TypeId) : abody cx (.alloc t) ρ st k q = alet (aZ cx.P st t) (stop k .mk) := (rfl)
theorem GH (t : TypeId) (x : Operand) : abody cx (.box t x) ρ st k q = alet (abox st t (ev cx.G ρ x)) (stop k .mk) := (rfl)
theorem DJ (t : TypeId) (ps : Array (Nat × Operand)) : abody cx (.build t ps) ρ st k q = olet (jv cx.P t (ps.toList.map fun p => (p.1, ev cx.G ρ p.2))) (stop (fun v => k v st) .mk) := dw _ _ _
theorem tC (t : TypeId) (n : Nat) (ps : Array (Nat × Operand)) : abody cx (.buildSlice t n ps) ρ st k q = alet (aK cx.P st t n (ps.toList.map fun p => (p.1, ev cx.G ρ p.2))) (stop k .mk) := (rfl)
theorem Fv (t : TypeId) (a : Operand) : abody cx (.load t a) ρ st k q = olet (jZ cx.P st t (ev cx.G ρ a)) (stop (fun v => k v st) .mk) := dw _ _ _
theorem DK (t : TypeId) (a x : Operand) : abody cx (.store t a x) ρ st k q = slet (ji cx.P st t (ev cx.G ρ a) (ev cx.G ρ x)) (stop (fun s => k undef s) .mk) := by
  show alet ((ji cx.P st t (ev cx.G ρ a) (ev cx.G ρ x)).map fun st' => (undef, st')) k = _
  cases ji cx.P st t (ev cx.G ρ a) (ev cx.G ρ x) <;> rfl
theorem xY (x : Operand) : abody cx (.nilCheck x) ρ st k q = olet (iT (ev cx.G ρ x)) (stop (fun v => k v st) .mk) := dw _ _ _
theorem DL (op : BinOp) (t : TypeId) (x y : Operand) (t2 : TypeId) : abody cx (.binOp op t x y t2) ρ st k q = olet (abin cx.P op t x y (ev cx.G ρ x) (ev cx.G ρ y)) (stop (fun v => k v st) .mk) := dw _ _ _
theorem Fw (op : UnOp) (t : TypeId) (x : Operand) : abody cx (.unOp op t x) ρ st k q = olet (aun op (ev cx.G ρ x)) (stop (fun v => k v st) .mk) := dw _ _ _
theorem zW (s d : TypeId) (x : Operand) : abody cx (.convert s d x) ρ st k q = alet (cZ cx.P st s d (ev cx.G ρ x)) (stop k .mk) := (rfl)
theorem oN (t : TypeId) (x : Operand) : abody cx (.makeInterface t x) ρ st k q = olet (qQ cx.P t (ev cx.G ρ x)) (stop (fun v => k v st) .mk) := dw _ _ _
theorem xZ (n : Nat) (a b : Array Operand) : abody cx (.makeFunc (.func n) a b) ρ st k q = k (.func (.func n) (a.map (ev cx.G ρ)) (b.map (ev cx.G ρ))) st := (rfl)
theorem vR (t : TypeId) (l c : Operand) : abody cx (.makeSlice t l c) ρ st k q = alet (ak cx.P st t (ev cx.G ρ l) (ev cx.G ρ c)) (stop k .mk) := (rfl)
theorem DN (t : TypeId) (x : Operand) (lo hi mx : Option Operand) : abody cx (.slice t x lo hi mx) ρ st k q = olet (aslice cx.P st t (ev cx.G ρ x) (lo.map (ev cx.G ρ)) (hi.map (ev cx.G ρ)) (mx.map (ev cx.G ρ))) (stop (fun v => k v st) .mk) := dw _ _ _
theorem vS (t : TypeId) (x : Operand) (f : Nat) : abody cx (.fieldAddr t x f) ρ st k q = olet (fO cx.P t (ev cx.G ρ x) f) (stop (fun v => k v st) .mk) := dw _ _ _
theorem DR (t : TypeId) (x : Operand) (f : Nat) : abody cx (.field t x f) ρ st k q = olet (oC cx.P t (ev cx.G ρ x) f) (stop (fun v => k v st) .mk) := dw _ _ _
theorem vT (t : TypeId) (x i : Operand) : abody cx (.indexAddr t x i) ρ st k q = olet (fP cx.P t (ev cx.G ρ x) (ev cx.G ρ i)) (stop (fun v => k v st) .mk) := dw _ _ _
theorem DT (t : TypeId) (x i : Operand) : abody cx (.index t x i) ρ st k q = olet (iU cx.P t (ev cx.G ρ x) (ev cx.G ρ i)) (stop (fun v => k v st) .mk) := dw _ _ _
theorem zX (x : Operand) (i : Nat) : abody cx (.extract x i) ρ st k q = olet (jH (ev cx.G ρ x) i) (stop (fun v => k v st) .mk) := dw _ _ _
theorem Fy (f : Operand) (args : Array Operand) (tys : Array TypeId) : abody cx (.call ⟨.value f, args, tys⟩) ρ st k q = fT cx (ev cx.G ρ f) (args.toList.map (ev cx.G ρ)) st (stop k .mk) (stop q .mk) := (rfl)
theorem GI (args : Array Operand) (tys : Array TypeId) : abody cx (.call ⟨.builtin .len, args, tys⟩) ρ st k q = alet (bX cx.P st .len tys (args.toList.map (ev cx.G ρ))) (stop k .mk) := (rfl)
theorem GJ (args : Array Operand) (tys : Array TypeId) : abody cx (.call ⟨.builtin .cap, args, tys⟩) ρ st k q = alet (bX cx.P st .cap tys (args.toList.map (ev cx.G ρ))) (stop k .mk) := (rfl)
theorem Fz (args : Array Operand) (tys : Array TypeId) : abody cx (.call ⟨.builtin .copy, args, tys⟩) ρ st k q = alet (bX cx.P st .copy tys (args.toList.map (ev cx.G ρ))) (stop k .mk) := (rfl)
theorem GK (args : Array Operand) (tys : Array TypeId) : abody cx (.call ⟨.builtin .max, args, tys⟩) ρ st k q = alet (bX cx.P st .max tys (args.toList.map (ev cx.G ρ))) (stop k .mk) := (rfl)
theorem GL (args : Array Operand) (tys : Array TypeId) : abody cx (.call ⟨.builtin .min, args, tys⟩) ρ st k q = alet (bX cx.P st .min tys (args.toList.map (ev cx.G ρ))) (stop k .mk) := (rfl)
theorem Cm (args : Array Operand) (t : TypeId) (l : List TypeId) (h : cx.ex t = false) : abody cx (.call ⟨.builtin .append, args, (t :: l).toArray⟩) ρ st k q = alet (bX cx.P st .append (t :: l).toArray (args.toList.map (ev cx.G ρ))) (stop k .mk) := by
  show ((cx.ex t = true ∧ tY (ni cx.P st (t :: l).toArray (args.toList.map (ev cx.G ρ))) st k) ∨ alet (bX cx.P st .append (t :: l).toArray (args.toList.map (ev cx.G ρ))) k) = _
  rw [h]
  simp [stop]
theorem Cn (args : Array Operand) (tys : Array TypeId) : abody cx (.call ⟨.builtin .delete, args, tys⟩) ρ st k q = alet (dU cx.P st .delete tys (args.toList.map (ev cx.G ρ))) (stop k .mk) := (rfl)
theorem DU (args : Array Operand) (tys : Array TypeId) : abody cx (.call ⟨.builtin .clear, args, tys⟩) ρ st k q = alet (dU cx.P st .clear tys (args.toList.map (ev cx.G ρ))) (stop k .mk) := (rfl)
theorem vU (args : Array Operand) (tys : Array TypeId) : abody cx (.call ⟨.builtin .unsafeSliceData, args, tys⟩) ρ st k q = alet (dU cx.P st .unsafeSliceData tys (args.toList.map (ev cx.G ρ))) (stop k .mk) := (rfl)
theorem qx (args : Array Operand) (tys : Array TypeId) : abody cx (.call ⟨.builtin .unsafeString, args, tys⟩) ρ st k q = alet (dU cx.P st .unsafeString tys (args.toList.map (ev cx.G ρ))) (stop k .mk) := (rfl)
theorem zY (t : TypeId) (r : Option Operand) : abody cx (.makeMap t r) ρ st k q = alet (jG cx.P st t (r.map (ev cx.G ρ))) (stop k .mk) := (rfl)
theorem Co (t : TypeId) (x i : Operand) (ok : Bool) : abody cx (.lookup t x i ok) ρ st k q = olet (mY cx.P st t (ev cx.G ρ x) (ev cx.G ρ i) ok) (stop (fun v => k v st) .mk) := dw _ _ _
theorem vV (t : TypeId) (m kk v : Operand) : abody cx (.mapUpdate t m kk v) ρ st k q = slet (d9 cx.P st t (ev cx.G ρ m) (ev cx.G ρ kk) (ev cx.G ρ v)) (stop (fun s => k undef s) .mk) := by
  show alet ((d9 cx.P st t (ev cx.G ρ m) (ev cx.G ρ kk) (ev cx.G ρ v)).map fun st' => (undef, st')) k = _
  cases d9 cx.P st t (ev cx.G ρ m) (ev cx.G ρ kk) (ev cx.G ρ v) <;> rfl
theorem DV (x : Operand) : abody cx (.panic x) ρ st k q = j4 (ev cx.G ρ x) st q := (rfl)
theorem GN (G t : Nat) : ev G ρ (.tmp t) = ρ t := (rfl)
theorem GR (G : Nat) (i : IntKind) (n : Int) : ev G ρ (.const (.int i n)) = .int i n := (rfl)
theorem FB (G : Nat) (b : Bool) : ev G ρ (.const (.bool b)) = .bool b := (rfl)
theorem Cq (G : Nat) (b : ByteArray) : ev G ρ (.const (.string b)) = .string b := (rfl)
theorem Cr (G : Nat) : ev G ρ (.const (.pointer none)) = .pointer none := (rfl)
theorem Ct (G : Nat) : ev G ρ (.const (.slice none 0 0)) = .slice none 0 0 := (rfl)
theorem yg (G : Nat) : ev G ρ (.const .nilIface) = .nilIface := (rfl)
theorem FC (G f : Nat) : ev G ρ (.func f) = .func (.func f) #[] #[] := (rfl)
theorem Cu (d : Nat) (v : Value) (t : Nat) : put ρ d v t = if t = d then v else ρ t := (rfl)
theorem Cv (d : Nat) (v : Value) : putO ρ (some d) v = put ρ d v := (rfl)
theorem Cw (v : Value) : putO ρ none v = ρ := (rfl)
theorem Cy (a : Value) (l : List Value) : env0 (a :: l) 0 = a := (rfl)
theorem Cz (a : Value) (l : List Value) (n : Nat) : env0 (a :: l) (n + 1) = env0 l n := (rfl)
theorem CB (g : Operand) (ps : Array Nat) (x y : Code) : awp cx (.rangeFunc g ps x y) Q qp ρ st = iW cx (ev cx.G ρ g) ps x y (stop Q .mk) (stop qp .mk) ρ st := (rfl)
theorem vW (B : Nat) (args : List Value) : fT cx (.func (.yield B) #[] #[]) args st k q = j3 cx B args st k := (rfl)
theorem iW.enter {n : Nat} {fn : Func} {first captured : Array Value} {ps : Array Nat} {x y : Code} (hf : cx.P.funcs[n]? = some fn) (hb : fn.body.isSome = true) (hn : (fn.name == "runtime.NumGoroutine") = false)
    (h : ay cx n (first.toList ++ [.func (.yield st.n) #[] #[]] ++ captured.toList) (st.new (.loop ⟨ρ, ps, x, y, .ready, none⟩)) (fun _ st' => aend st.n Q ρ st' (st'.H st.n)) qp) : iW cx (.func (.func n) first captured) ps x y Q qp ρ st := ⟨⟨fn, hf, hb, hn⟩, h⟩
theorem CF (n : Nat) (args : List Value) : fT cx (.func (.func n) #[] #[]) args st k q = au cx n args st k q := by
  show au cx n ([] ++ args ++ []) st k q = _
  simp
theorem au.enter {n : Nat} {fn : Func} {args : List Value} (hf : cx.P.funcs[n]? = some fn) (hb : fn.body.isSome = true) (hn : (fn.name == "runtime.NumGoroutine") = false) (h : ay cx n args st k q) : au cx n args st k q := .inl ⟨⟨fn, hf, hb, hn⟩, h⟩
theorem zZ (b : Bool) (x y : Value) : qR (.bool b) x y = some (bif b then x else y) := (rfl)
theorem Aa (P : Program) (t : TypeId) (B off : Nat) : jZ P st t (.pointer (some ⟨B, off, none⟩)) = xC P st t B off := (rfl)
theorem yh (P : Program) (t : TypeId) (B off : Nat) (x : Value) : ji P st t (.pointer (some ⟨B, off, none⟩)) x = qI P st t B off x := (rfl)
theorem tF (a : Addr) : iT (.pointer (some a)) = some (.pointer (some a)) := (rfl)
theorem DW (B : Nat) (o : Option Ob) (b : Nat) : (st.set B o).H b = if b = B then o else st.H b := (rfl)
theorem H8 (B : Nat) (o : Option Ob) : (st.set B o).n = st.n := (rfl)
theorem um (o : Ob) : (st.new o).n = st.n + 1 := (rfl)
theorem Ab (o : Ob) : (st.new o).H st.n = some o := by simp [St.new]
theorem Gb (o : Ob) (b : Nat) : (st.new o).H b = if b = st.n then some o else st.H b := (rfl)
theorem FD (o : Ob) {b : Nat} (h : b < st.n) : (st.new o).H b = st.H b := by
  show (if b = st.n then some o else st.H b) = _
  rw [if_neg (by omega)]
end
set_option linter.defProp false in
def GP := And.intro (And.intro (And.intro (And.intro (And.intro (And.intro @stop1 @H6) (And.intro (And.intro @H7 @CB) @zR)) (And.intro (And.intro @Dt @Du) (And.intro @Dv @Dw))) (And.intro (And.intro (And.intro @Fb @Dx) (And.intro @Ce @vP)) (And.intro (And.intro @Cg @zS) (And.intro @qw @vQ)))) (And.intro (And.intro (And.intro (And.intro @tu @xV) (And.intro @Dy @Dz)) (And.intro (And.intro @Fe @DC) (And.intro @GA @Ch))) (And.intro (And.intro (And.intro @zU @Ci) (And.intro @zV @Fp)) (And.intro (And.intro @DF @xW) (And.intro @xX @Fq))))) (And.intro (And.intro (And.intro (And.intro (And.intro @Ck @Fu) (And.intro @DI @GH)) (And.intro (And.intro @DJ @tC) (And.intro @Fv @DK))) (And.intro (And.intro (And.intro @xY @DL) (And.intro @Fw @zW)) (And.intro (And.intro @oN @xZ) (And.intro @vR @DN)))) (And.intro (And.intro (And.intro (And.intro @vS @DR) (And.intro @vT @DT)) (And.intro (And.intro @zX @Fy) (And.intro @Cm @GI))) (And.intro (And.intro (And.intro @GJ @Fz) (And.intro @GK @GL)) (And.intro (And.intro @DV @Ca) (And.intro (And.intro @Cb @Cc) @zO)))))
set_option linter.defProp false in
def GQ := And.intro (And.intro (And.intro (And.intro (And.intro (And.intro @Cj @Cv) (And.intro @Cw @Bool.or_false)) (And.intro (And.intro @Bool.false_or @GN) (And.intro @GR (And.intro @FB @Cq)))) (And.intro (And.intro (And.intro @Cr @Ct) (And.intro @yg (And.intro @FC @Cu))) (And.intro (And.intro @Cy @Cz) (And.intro @BU (And.intro @BX @BZ))))) (And.intro (And.intro (And.intro (And.intro (And.intro @CF @vW) @zZ) (And.intro @Aa (And.intro @yh @tF))) (And.intro (And.intro @vO @tq) (And.intro @xS (And.intro @List.set_cons_zero.{0} @List.set_cons_succ.{0})))) (And.intro (And.intro (And.intro @List.getElem?_cons_zero.{0} @List.getElem?_cons_succ.{0}) (And.intro @Nat.zero_add (And.intro @List.size_toArray.{0} @List.length_cons.{0}))) (And.intro (And.intro @List.length_nil.{0} @List.all_cons.{0}) (And.intro @List.all_nil.{0} (And.intro @Bool.and_true @Bool.and_self)))))) (And.intro (And.intro (And.intro (And.intro (And.intro @true_and @and_true) (And.intro @zP (And.intro @zQ @xU))) (And.intro (And.intro @DW @H8) (And.intro @um (And.intro @Gb @List.map_cons.{0, 0})))) (And.intro (And.intro (And.intro @List.map_nil.{0, 0} @Option.map_some.{0, 0}) (And.intro @Option.map_none.{0, 0} (And.intro @Nat.add_zero @and_self))) (And.intro (And.intro @Option.bind_some.{0, 0} @List.getElem?_toArray.{0}) (And.intro @List.cons_append.{0} (And.intro @List.nil_append.{0} @List.append_nil.{0}))))) (And.intro (And.intro (And.intro (And.intro @Fg @Fh) (And.intro @Fj (And.intro @zT @Int.toNat_natCast))) (And.intro (And.intro @not_true_eq_false @not_false_eq_true) (And.intro @false_implies (And.intro @true_implies @Bool.not_true)))) (And.intro (And.intro (And.intro @Bool.not_false @Nat.mul_one) (And.intro @List.getElem?_map.{0, 0} (And.intro @Option.isNone_some.{0} @Option.isNone_none.{0}))) (And.intro (And.intro @bne_self_eq_false.{0} @beq_self_eq_true.{0}) (And.intro @Int.cast_ofNat_Int (And.intro @Nat.zero_mul @Nat.sub_zero))))))
set_option linter.defProp false in
def GM := And.intro (And.intro (And.intro @Cn @DU) (And.intro @vU @qx)) (And.intro @zY (And.intro @Co @vV))
end Go.Abs
