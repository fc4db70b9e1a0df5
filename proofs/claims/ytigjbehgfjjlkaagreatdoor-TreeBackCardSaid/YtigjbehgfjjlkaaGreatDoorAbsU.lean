/- Rules for the walk over the abstract heap: what 'simp' is given. -/
import Derived.Test.YtigjbehgfjjlkaaGreatDoorAbsZ
set_option linter.unusedVariables false
set_option linter.unusedSimpArgs false
namespace Go.Abs
open Go.RowKit
inductive Tag {α : Sort _} (x : α) : Type | mk
def stop {α : Sort _} (x : α) (t : Tag x) : α := x
theorem stop1 {α β : Type} (f : α → β) (a : α) : stop f .mk a = f a := (rfl)
theorem LJ {α β γ : Type} (f : α → β → γ) (a : α) (b : β) : stop f .mk a b = f a b := (rfl)
theorem LK {α β γ δ : Type} (f : α → β → γ → δ) (a : α) (b : β) (c : γ) : stop f .mk a b c = f a b c := (rfl)
def olet (x : Option Value) (f : Value → Prop) : Prop :=
  match x with
  | some v => f v
  | none => False
def slet (x : Option St) (f : St → Prop) : Prop :=
  match x with
  | some v => f v
  | none => False
theorem E9 (v : Value) (f : Value → Prop) : olet (some v) f = f v := (rfl)
theorem Fa (v : St) (f : St → Prop) : slet (some v) f = f v := (rfl)
theorem Fb (v : Value) (s : St) (f : Value → St → Prop) : alet (some (v, s)) f = f v s := (rfl)
theorem dA (x : Option Value) (st : St) (f : Value → St → Prop) : alet (x.map fun v => (v, st)) f = olet x fun v => f v st := by cases x <;> rfl
@[congr] theorem KL {x y : Option Value} {f : Value → Prop} (h : x = y) : olet x f = olet y f := by rw [h]
@[congr] theorem KM {x y : Option St} {f : St → Prop} (h : x = y) : slet x f = slet y f := by rw [h]
@[congr] theorem KN {x y : Option (Value × St)} {f : Value → St → Prop} (h : x = y) : alet x f = alet y f := by rw [h]
@[congr] theorem Kc {v v' : Value} {b : Bool} {x y : Prop} (h : v = v') : iw v b x y = iw v' b x y := by rw [h]
@[congr] theorem I7 {v v' : Value} {x y : Prop} (h : v = v') : bN v x y = bN v' x y := by rw [h]
@[congr] theorem Jk {cx : Cx} {f f' : Value} {args args' : List Value} {st : St} {k q : Value → St → Prop} (h : f = f') (h' : args = args') : gq cx f args st k q = gq cx f' args' st k q := by rw [h, h']
@[congr] theorem Jl {cx : Cx} {f : Nat} {args args' : List Value} {st : St} {k q : Value → St → Prop} (h' : args = args') : au cx f args st k q = au cx f args' st k q := by rw [h']
@[congr] theorem Jm {cx : Cx} {B : Nat} {args args' : List Value} {st : St} {k : Value → St → Prop} (h' : args = args') : kW cx B args st k = kW cx B args' st k := by rw [h']
@[congr] theorem Jo {cx : Cx} {g g' : Value} {ps : Array Nat} {x y : Code} {Q : Post} {q : dz} {ρ : Env} {st : St} (h : g = g') : jw cx g ps x y Q q ρ st = jw cx g' ps x y Q q ρ st := by rw [h]
@[congr] theorem KO {cx : Cx} {ops : Array Oper} {l : List Oper} {Q : Post} {q : dz} {ρ : Env} {st : St} : aops cx ops l Q q ρ st = aops cx ops l Q q ρ st := (rfl)
@[congr] theorem LA {cx : Cx} {c : Code} {Q : Post} {q : dz} {ρ : Env} {st : St} : awp cx c Q q ρ st = awp cx c Q q ρ st := (rfl)
@[congr] theorem Jp {cx : Cx} {o : Op} {k q : dz} {ρ : Env} {st : St} : abody cx o ρ st k q = abody cx o ρ st k q := (rfl)
@[congr] theorem Ke {recs : List (Nat × (St → Prop))} {l : List Nat} {st : St} {x : Prop} : iL recs l st x = iL recs l st x := (rfl)
@[congr] theorem Kg {cx : Cx} {ops : Array Oper} {π : Plan} {recs : List (Nat × (St → Prop))} {Q : Post} {q : dz} {ρ : Env} {st : St} : kE cx ops π recs Q q ρ st = kE cx ops π recs Q q ρ st := (rfl)
@[congr] theorem Kh {F : Post → Env → St → Prop} {Q : Post} {ρ : Env} {st : St} : tO F Q ρ st = tO F Q ρ st := (rfl)
@[congr] theorem Ki {cx : Cx} {ops : Array Oper} {Q : Post} {q : dz} {ρ : Env} {st : St} : bG cx ops Q q ρ st = bG cx ops Q q ρ st := (rfl)
section
variable {cx : Cx} {ρ : Env} {st : St} {k q : Value → St → Prop} {Q : Post} {qp : dz}
theorem Fe (b : Bool) (x y : Prop) : iw (.bool b) b (stop x .mk) y = x := by simp [iw, stop]
theorem Fg (x y : Prop) : iw (.bool true) false x (stop y .mk) = y := by simp [iw, stop]
theorem Fh (x y : Prop) : iw (.bool false) true x (stop y .mk) = y := by simp [iw, stop]
theorem Co (w : Bool) (x y : Prop) : iw oJ w (stop x .mk) (stop y .mk) = y := by cases w <;> simp [iw, stop, oJ]
theorem yD (x y : Prop) : bN (.bool true) x y = x := by simp [bN]
theorem vU (x y : Prop) : bN (.bool false) x y = y := by simp [bN]
theorem Af (p : Prop) [Decidable p] (x y : Prop) : bN (.bool (decide p)) x y = ((p → x) ∧ (¬ p → y)) := by simp [bN]
theorem Cq (a b : Int) (x y : Prop) : bN (.bool (a == b)) x y = ((a = b → x) ∧ (¬ a = b → y)) := by simp [bN]
theorem Cr (a b : Int) (x y : Prop) : bN (.bool (a != b)) x y = ((¬ a = b → x) ∧ (a = b → y)) := by simp [bN]
theorem Ag (b : Bool) (x y : Prop) : bN (.bool (!b)) x y = bN (.bool b) y x := by cases b <;> simp [bN]
theorem cO {x : Int} (h : -9223372036854775808 ≤ x ∧ x ≤ 9223372036854775807) : IntKind.i64.wrap x = x := wrap_i64 h.1 h.2
theorem Ct (i : Nat) (l : List Oper) : awp cx (.region i l.toArray false) Q qp ρ st = aops cx l.toArray l Q qp ρ st := (rfl)
theorem GD (i : Nat) (ops : Array Oper) : awp cx (.region i ops true) Q qp ρ st = bG cx (stop ops .mk) (stop Q .mk) (stop qp .mk) ρ st := (rfl)
theorem aj (x y : Code) : awp cx (.seq x y) Q qp ρ st = awp cx x (oZ (fun ρ st => awp cx y Q qp ρ st) Q) qp ρ st := (rfl)
theorem GH (c : Operand) (x y : Code) : awp cx (.cond c x y) Q qp ρ st = bN (ev cx.G ρ c) (awp cx x Q qp ρ st) (awp cx y Q qp ρ st) := (rfl)
theorem ah (i : Nat) (c : Code) : awp cx (.block i c) Q qp ρ st = awp cx c (gP i Q) qp ρ st := (rfl)
theorem GI (c : Code) : awp cx (.loop c) Q qp ρ st = tO (stop (fun Q ρ st => awp cx c Q qp ρ st) .mk) (stop Q .mk) ρ st := (rfl)
theorem GJ (i : Nat) : awp cx (.exit i) Q qp ρ st = Q (.exit i) ρ st := (rfl)
theorem Jq : awp cx .ret Q qp ρ st = Q .ret ρ st := (rfl)
theorem GK : awp cx .skip Q qp ρ st = Q .normal ρ st := (rfl)
theorem Fj (l : Nat) : awp cx (.label l) Q qp ρ st = Q .normal ρ st := (rfl)
theorem yE (n : Env → St → Prop) : oZ n Q .normal ρ st = n ρ st := (rfl)
theorem Fp (n : Env → St → Prop) : oZ n Q .ret ρ st = Q .ret ρ st := (rfl)
theorem Cu (n : Env → St → Prop) (i : Nat) : oZ n Q (.exit i) ρ st = Q (.exit i) ρ st := (rfl)
theorem r9 (i : Nat) : gP i Q .normal ρ st = Q .normal ρ st := (rfl)
theorem yF (i : Nat) : gP i Q .ret ρ st = Q .ret ρ st := (rfl)
theorem vV (i j : Nat) : gP i Q (.exit j) ρ st = if j = i then Q .normal ρ st else Q (.exit j) ρ st := (rfl)
theorem Ah (P : Program) (rs : Array ResultVar) : retQ P rs k .normal ρ st = olet (ares P rs ρ st) (stop (fun v => k v st) .mk) := by
  unfold retQ olet; rfl
theorem GL (P : Program) (rs : Array ResultVar) : retQ P rs k .ret ρ st = olet (ares P rs ρ st) (stop (fun v => k v st) .mk) := by
  unfold retQ olet; rfl
theorem GN (ops : Array Oper) : aops cx ops [] Q qp ρ st = Q .normal ρ st := (rfl)
theorem Jr (ops : Array Oper) (d : Nat) (op : Op) (ty : TypeId) (pos : String) (aft : Array Edge) (r : List Oper) :
    aops cx ops (⟨some d, op, ty, pos, aft, none⟩ :: r) Q qp ρ st = abody cx op ρ st (fun V st' => aops cx ops r Q qp (put ρ d V) st') qp := (rfl)
theorem GR (ops : Array Oper) (op : Op) (ty : TypeId) (pos : String) (aft : Array Edge) (r : List Oper) :
    aops cx ops (⟨none, op, ty, pos, aft, none⟩ :: r) Q qp ρ st = abody cx op ρ st (fun V st' => aops cx ops r Q qp ρ st') qp := (rfl)
def gsl (ops : Array Oper) (g : Nat) : Option Nat := (ops[g]?).bind (·.dst)
theorem KP (ops : Array Oper) (d : Nat) (op : Op) (ty : TypeId) (pos : String) (aft : Array Edge) (g : Nat) (w : Bool) (r : List Oper) :
    aops cx ops (⟨some d, op, ty, pos, aft, some (g, w)⟩ :: r) Q qp ρ st = olet ((gsl ops g).map ρ) (stop (fun v => iw v w (stop (abody cx op ρ st (fun V st' => aops cx ops r Q qp (put ρ d V) st') qp) .mk) (stop (aops cx ops r Q qp (put ρ d oJ) st) .mk)) .mk) := by
  show bQ cx ops _ ρ st _ qp = _
  unfold bQ l6 gsl
  simp only
  cases (ops[g]?).bind (·.dst) <;> rfl
theorem Ai (ops : Array Oper) (dst : Option Nat) (op : Op) (ty : TypeId) (pos : String) (aft : Array Edge) :
    bQ cx ops ⟨dst, op, ty, pos, aft, none⟩ ρ st k q = abody cx op ρ st k q := (rfl)
theorem Aj (ops : Array Oper) (dst : Option Nat) (op : Op) (ty : TypeId) (pos : String) (aft : Array Edge) (g : Nat) (w : Bool) :
    bQ cx ops ⟨dst, op, ty, pos, aft, some (g, w)⟩ ρ st k q = olet (((ops[g]?).bind (·.dst)).map ρ) (stop (fun v => iw v w (stop (abody cx op ρ st k q) .mk) (stop (k oJ st) .mk)) .mk) := by
  unfold bQ l6
  simp only
  cases (ops[g]?).bind (·.dst) <;> rfl
theorem Js {c : Prop} [Decidable c] (x : Option Value) (f : Value → Prop) : olet (if c then x else none) f = (c ∧ olet x f) := by
  by_cases h : c <;> simp [h, olet]
theorem Jt {c : Prop} [Decidable c] (x : Option St) (f : St → Prop) : slet (if c then x else none) f = (c ∧ slet x f) := by
  by_cases h : c <;> simp [h, slet]
theorem Ju {c : Prop} [Decidable c] (x : Option (Value × St)) (f : Value → St → Prop) : alet (if c then x else none) f = (c ∧ alet x f) := by
  by_cases h : c <;> simp [h, alet]
theorem Cv {c : Prop} [Decidable c] {α : Type} (x : Option α) (g : α → Value) (f : Value → Prop) : olet (Option.map g (if c then x else none)) f = (c ∧ olet (Option.map g x) f) := by
  by_cases h : c <;> simp [h, olet]
def atO (x : Option Oper) (f : Oper → Prop) : Prop :=
  match x with
  | none => False
  | some o => f o
@[congr] theorem LB {x y : Option Oper} {f : Oper → Prop} (h : x = y) : atO x f = atO y f := by rw [h]
theorem GU (o : Oper) (f : Oper → Prop) : atO (some o) f = f o := (rfl)
theorem Fq (ops : Array Oper) (recs : List (Nat × (St → Prop))) : kE cx ops [] recs Q qp ρ st = Q .normal ρ st := (rfl)
theorem Cw (ops : Array Oper) (i : Nat) (kp : Bool) (pd : List Nat) (π : Plan) (recs : List (Nat × (St → Prop))) :
    kE cx ops ((i, kp, pd) :: π) recs Q qp ρ st = atO (ops[i]?) fun o => bQ cx ops o ρ st (fun V st' => iL recs pd st' (kE cx ops π (bif kp then (i, yld cx ops o ρ V) :: recs else recs) Q qp (putO ρ o.dst V) st')) qp := by
  show (match ops[i]? with
    | none => False
    | some o => bQ cx ops o ρ st (fun V st' => iL recs pd st' (kE cx ops π (bif kp then (i, yld cx ops o ρ V) :: recs else recs) Q qp (putO ρ o.dst V) st')) qp) = _
  cases ops[i]? <;> rfl
theorem Fu (recs : List (Nat × (St → Prop))) (x : Prop) : iL recs [] st x = x := (rfl)
theorem Cy (recs : List (Nat × (St → Prop))) (i : Nat) (r : List Nat) (x : Prop) : iL recs (i :: r) st x = (getR recs i st ∧ iL recs r st x) := (rfl)
theorem Fv (j : Nat) (p : St → Prop) (r : List (Nat × (St → Prop))) (i : Nat) : getR ((j, p) :: r) i = if i = j then p else getR r i := (rfl)
@[congr] theorem KQ {recs : List (Nat × (St → Prop))} {i : Nat} {st : St} : getR recs i st = getR recs i st := (rfl)
theorem Jv (ops : Array Oper) (o : Oper) (V : Value) (s : St) : yld cx ops o ρ V s = bQ cx ops o ρ s (fun V' s' => V' = V ∧ s' = s) (fun _ _ => False) := (rfl)
@[congr] theorem LC {ops : Array Oper} {o : Oper} {V : Value} {s : St} : yld cx ops o ρ V s = yld cx ops o ρ V s := (rfl)
@[congr] theorem Kj {ops : Array Oper} {o : Oper} : bQ cx ops o ρ st k q = bQ cx ops o ρ st k q := (rfl)
theorem bG.of {ops : Array Oper} (π : Plan) (ks : List Nat) (un : List (Nat × Nat)) (h : (Em ops && (π.length == ops.size) && okGo cx.P ops ks un π (Array.replicate ops.size false)) = true) (k : kE cx ops π [] Q qp ρ st) : bG cx (stop ops .mk) (stop Q .mk) (stop qp .mk) ρ st := by
  simp only [Bool.and_eq_true, beq_iff_eq] at h
  have hA := qH h.1.1 π _ [] ρ st h.2 (fun j _ => rfl) k
  rw [h.1.2] at hA
  exact ⟨_, _, hA⟩
theorem Jw (x : Operand) : abody cx (.move x) ρ st k q = olet (some (ev cx.G ρ x)) (stop (fun v => k v st) .mk) := (rfl)
theorem Fw (x : Operand) : abody cx (.assign x) ρ st k q = olet (some (ev cx.G ρ x)) (stop (fun v => k v st) .mk) := (rfl)
theorem Jy (c a b : Operand) : abody cx (.pick c a b) ρ st k q = olet (tF (ev cx.G ρ c) (ev cx.G ρ a) (ev cx.G ρ b)) (stop (fun v => k v st) .mk) := dA _ _ _
theorem GX (t : TypeId) : abody cx (.alloc t) ρ st k q = alet (bB cx.P st t) (stop k .mk) := (rfl)
theorem KS (t : TypeId) (x : Operand) : abody cx (.box t x) ρ st k q = alet (abox st t (ev cx.G ρ x)) (stop k .mk) := (rfl)
theorem GY (t : TypeId) (ps : Array (Nat × Operand)) : abody cx (.build t ps) ρ st k q = olet (jY cx.P t (ps.toList.map fun p => (p.1, ev cx.G ρ p.2))) (stop (fun v => k v st) .mk) := dA _ _ _
theorem vW (t : TypeId) (n : Nat) (ps : Array (Nat × Operand)) : abody cx (.buildSlice t n ps) ρ st k q = alet (aL cx.P st t n (ps.toList.map fun p => (p.1, ev cx.G ρ p.2))) (stop k .mk) := (rfl)
theorem Jz (t : TypeId) (a : Operand) : abody cx (.load t a) ρ st k q = olet (kV cx.P st t (ev cx.G ρ a)) (stop (fun v => k v st) .mk) := dA _ _ _
theorem GZ (t : TypeId) (a x : Operand) : abody cx (.store t a x) ρ st k q = slet (jP cx.P st t (ev cx.G ρ a) (ev cx.G ρ x)) (stop (fun s => k undef s) .mk) := by
  show alet ((jP cx.P st t (ev cx.G ρ a) (ev cx.G ρ x)).map fun st' => (undef, st')) k = _
  cases jP cx.P st t (ev cx.G ρ a) (ev cx.G ρ x) <;> rfl
theorem Ak (x : Operand) : abody cx (.nilCheck x) ρ st k q = olet (jl (ev cx.G ρ x)) (stop (fun v => k v st) .mk) := dA _ _ _
theorem G5 (op : BinOp) (t : TypeId) (x y : Operand) (t2 : TypeId) : abody cx (.binOp op t x y t2) ρ st k q = olet (abin cx.P op t x y (ev cx.G ρ x) (ev cx.G ρ y)) (stop (fun v => k v st) .mk) := dA _ _ _
theorem JA (op : UnOp) (t : TypeId) (x : Operand) : abody cx (.unOp op t x) ρ st k q = olet (aun op (ev cx.G ρ x)) (stop (fun v => k v st) .mk) := dA _ _ _
theorem Cz (s d : TypeId) (x : Operand) : abody cx (.convert s d x) ρ st k q = alet (dL cx.P st s d (ev cx.G ρ x)) (stop k .mk) := (rfl)
theorem qK (t : TypeId) (x : Operand) : abody cx (.makeInterface t x) ρ st k q = olet (tC cx.P t (ev cx.G ρ x)) (stop (fun v => k v st) .mk) := dA _ _ _
theorem Al (n : Nat) (a b : Array Operand) : abody cx (.makeFunc (.func n) a b) ρ st k q = k (.func (.func n) (a.map (ev cx.G ρ)) (b.map (ev cx.G ρ))) st := (rfl)
theorem yG (t : TypeId) (l c : Operand) : abody cx (.makeSlice t l c) ρ st k q = alet (ak cx.P st t (ev cx.G ρ l) (ev cx.G ρ c)) (stop k .mk) := (rfl)
theorem G6 (t : TypeId) (x : Operand) (lo hi mx : Option Operand) : abody cx (.slice t x lo hi mx) ρ st k q = olet (aslice cx.P st t (ev cx.G ρ x) (lo.map (ev cx.G ρ)) (hi.map (ev cx.G ρ)) (mx.map (ev cx.G ρ))) (stop (fun v => k v st) .mk) := dA _ _ _
theorem yH (t : TypeId) (x : Operand) (f : Nat) : abody cx (.fieldAddr t x f) ρ st k q = olet (fT cx.P t (ev cx.G ρ x) f) (stop (fun v => k v st) .mk) := dA _ _ _
theorem G7 (t : TypeId) (x : Operand) (f : Nat) : abody cx (.field t x f) ρ st k q = olet (qA cx.P t (ev cx.G ρ x) f) (stop (fun v => k v st) .mk) := dA _ _ _
theorem yI (t : TypeId) (x i : Operand) : abody cx (.indexAddr t x i) ρ st k q = olet (fU cx.P t (ev cx.G ρ x) (ev cx.G ρ i)) (stop (fun v => k v st) .mk) := dA _ _ _
theorem G8 (t : TypeId) (x i : Operand) : abody cx (.index t x i) ρ st k q = olet (jr cx.P t (ev cx.G ρ x) (ev cx.G ρ i)) (stop (fun v => k v st) .mk) := dA _ _ _
theorem CB (x : Operand) (i : Nat) : abody cx (.extract x i) ρ st k q = olet (kD (ev cx.G ρ x) i) (stop (fun v => k v st) .mk) := dA _ _ _
theorem JB (f : Operand) (args : Array Operand) (tys : Array TypeId) : abody cx (.call ⟨.value f, args, tys⟩) ρ st k q = gq cx (ev cx.G ρ f) (args.toList.map (ev cx.G ρ)) st (stop k .mk) (stop q .mk) := (rfl)
theorem KT (args : Array Operand) (tys : Array TypeId) : abody cx (.call ⟨.builtin .len, args, tys⟩) ρ st k q = alet (bW cx.P st .len tys (args.toList.map (ev cx.G ρ))) (stop k .mk) := (rfl)
theorem KU (args : Array Operand) (tys : Array TypeId) : abody cx (.call ⟨.builtin .cap, args, tys⟩) ρ st k q = alet (bW cx.P st .cap tys (args.toList.map (ev cx.G ρ))) (stop k .mk) := (rfl)
theorem JC (args : Array Operand) (tys : Array TypeId) : abody cx (.call ⟨.builtin .copy, args, tys⟩) ρ st k q = alet (bW cx.P st .copy tys (args.toList.map (ev cx.G ρ))) (stop k .mk) := (rfl)
theorem KW (args : Array Operand) (tys : Array TypeId) : abody cx (.call ⟨.builtin .max, args, tys⟩) ρ st k q = alet (bW cx.P st .max tys (args.toList.map (ev cx.G ρ))) (stop k .mk) := (rfl)
theorem KX (args : Array Operand) (tys : Array TypeId) : abody cx (.call ⟨.builtin .min, args, tys⟩) ρ st k q = alet (bW cx.P st .min tys (args.toList.map (ev cx.G ρ))) (stop k .mk) := (rfl)
theorem Fy (args : Array Operand) (t : TypeId) (l : List TypeId) (h : cx.ex t = false) : abody cx (.call ⟨.builtin .append, args, (t :: l).toArray⟩) ρ st k q = alet (bW cx.P st .append (t :: l).toArray (args.toList.map (ev cx.G ρ))) (stop k .mk) := by
  show ((cx.ex t = true ∧ wE (oU cx.P st (t :: l).toArray (args.toList.map (ev cx.G ρ))) st k) ∨ alet (bW cx.P st .append (t :: l).toArray (args.toList.map (ev cx.G ρ))) k) = _
  rw [h]
  simp [stop]
theorem Fz (args : Array Operand) (tys : Array TypeId) : abody cx (.call ⟨.builtin .delete, args, tys⟩) ρ st k q = alet (d9 cx.P st .delete tys (args.toList.map (ev cx.G ρ))) (stop k .mk) := (rfl)
theorem G9 (args : Array Operand) (tys : Array TypeId) : abody cx (.call ⟨.builtin .clear, args, tys⟩) ρ st k q = alet (d9 cx.P st .clear tys (args.toList.map (ev cx.G ρ))) (stop k .mk) := (rfl)
theorem yJ (args : Array Operand) (tys : Array TypeId) : abody cx (.call ⟨.builtin .unsafeSliceData, args, tys⟩) ρ st k q = alet (d9 cx.P st .unsafeSliceData tys (args.toList.map (ev cx.G ρ))) (stop k .mk) := (rfl)
theorem sj (args : Array Operand) (tys : Array TypeId) : abody cx (.call ⟨.builtin .unsafeString, args, tys⟩) ρ st k q = alet (d9 cx.P st .unsafeString tys (args.toList.map (ev cx.G ρ))) (stop k .mk) := (rfl)
theorem CF (t : TypeId) (r : Option Operand) : abody cx (.makeMap t r) ρ st k q = alet (kC cx.P st t (r.map (ev cx.G ρ))) (stop k .mk) := (rfl)
theorem FB (t : TypeId) (x i : Operand) (ok : Bool) : abody cx (.lookup t x i ok) ρ st k q = olet (oO cx.P st t (ev cx.G ρ x) (ev cx.G ρ i) ok) (stop (fun v => k v st) .mk) := dA _ _ _
theorem yK (t : TypeId) (m kk v : Operand) : abody cx (.mapUpdate t m kk v) ρ st k q = slet (eO cx.P st t (ev cx.G ρ m) (ev cx.G ρ kk) (ev cx.G ρ v)) (stop (fun s => k undef s) .mk) := by
  show alet ((eO cx.P st t (ev cx.G ρ m) (ev cx.G ρ kk) (ev cx.G ρ v)).map fun st' => (undef, st')) k = _
  cases eO cx.P st t (ev cx.G ρ m) (ev cx.G ρ kk) (ev cx.G ρ v) <;> rfl
theorem He (x : Operand) : abody cx (.panic x) ρ st k q = kX (ev cx.G ρ x) st q := (rfl)
theorem KY (G t : Nat) : ev G ρ (.tmp t) = ρ t := (rfl)
theorem KZ (G : Nat) (i : IntKind) (n : Int) : ev G ρ (.const (.int i n)) = .int i n := (rfl)
theorem JD (G : Nat) (b : Bool) : ev G ρ (.const (.bool b)) = .bool b := (rfl)
theorem FC (G : Nat) (b : ByteArray) : ev G ρ (.const (.string b)) = .string b := (rfl)
theorem FD (G : Nat) : ev G ρ (.const (.pointer none)) = .pointer none := (rfl)
theorem FE (G : Nat) : ev G ρ (.const (.slice none 0 0)) = .slice none 0 0 := (rfl)
theorem Am (G : Nat) : ev G ρ (.const .nilIface) = .nilIface := (rfl)
theorem JE (G f : Nat) : ev G ρ (.func f) = .func (.func f) #[] #[] := (rfl)
theorem FH (d : Nat) (v : Value) (t : Nat) : put ρ d v t = if t = d then v else ρ t := (rfl)
theorem FI (d : Nat) (v : Value) : putO ρ (some d) v = put ρ d v := (rfl)
theorem FJ (v : Value) : putO ρ none v = ρ := (rfl)
theorem FK (a : Value) (l : List Value) : env0 (a :: l) 0 = a := (rfl)
theorem FL (a : Value) (l : List Value) (n : Nat) : env0 (a :: l) (n + 1) = env0 l n := (rfl)
theorem FM (g : Operand) (ps : Array Nat) (x y : Code) : awp cx (.rangeFunc g ps x y) Q qp ρ st = jw cx (ev cx.G ρ g) ps x y (stop Q .mk) (stop qp .mk) ρ st := (rfl)
theorem yL (B : Nat) (args : List Value) : gq cx (.func (.yield B) #[] #[]) args st k q = kW cx B args st k := (rfl)
theorem jw.enter {n : Nat} {fn : Func} {first captured : Array Value} {ps : Array Nat} {x y : Code} (hf : cx.P.funcs[n]? = some fn) (hb : fn.body.isSome = true) (hn : (fn.name == "runtime.NumGoroutine") = false)
    (h : ay cx n (first.toList ++ [.func (.yield st.n) #[] #[]] ++ captured.toList) (st.new (.loop ⟨ρ, ps, x, y, .ready, none⟩)) (fun _ st' => aend st.n Q ρ st' (st'.H st.n)) qp) : jw cx (.func (.func n) first captured) ps x y Q qp ρ st := ⟨⟨fn, hf, hb, hn⟩, h⟩
theorem FN (n : Nat) (args : List Value) : gq cx (.func (.func n) #[] #[]) args st k q = au cx n args st k q := by
  show au cx n ([] ++ args ++ []) st k q = _
  simp
theorem au.enter {n : Nat} {fn : Func} {args : List Value} (hf : cx.P.funcs[n]? = some fn) (hb : fn.body.isSome = true) (hn : (fn.name == "runtime.NumGoroutine") = false) (h : ay cx n args st k q) : au cx n args st k q := .inl ⟨⟨fn, hf, hb, hn⟩, h⟩
theorem CG (b : Bool) (x y : Value) : tF (.bool b) x y = some (bif b then x else y) := (rfl)
theorem CJ (P : Program) (t : TypeId) (B off : Nat) : kV P st t (.pointer (some ⟨B, off, none⟩)) = zT P st t B off := (rfl)
theorem Ao (P : Program) (t : TypeId) (B off : Nat) (x : Value) : jP P st t (.pointer (some ⟨B, off, none⟩)) x = sQ P st t B off x := (rfl)
theorem vX (a : Addr) : jl (.pointer (some a)) = some (.pointer (some a)) := (rfl)
theorem Hf (B : Nat) (o : Option Ob) (b : Nat) : (st.set B o).H b = if b = B then o else st.H b := (rfl)
theorem LM (B : Nat) (o : Option Ob) : (st.set B o).n = st.n := (rfl)
theorem Eo (o : Ob) : (st.new o).n = st.n + 1 := (rfl)
theorem CK (o : Ob) : (st.new o).H st.n = some o := by simp [St.new]
theorem LP (o : Ob) (b : Nat) : (st.new o).H b = if b = st.n then some o else st.H b := (rfl)
theorem JF (o : Ob) {b : Nat} (h : b < st.n) : (st.new o).H b = st.H b := by
  show (if b = st.n then some o else st.H b) = _
  rw [if_neg (by omega)]
end
set_option linter.defProp false in
def GP := And.intro (And.intro (And.intro (And.intro (And.intro (And.intro @stop1 @LJ) (And.intro (And.intro @LK @FM) @Ct)) (And.intro (And.intro @GD @GH) (And.intro @GI @GJ))) (And.intro (And.intro (And.intro @Jq @GK) (And.intro @Fj @yE)) (And.intro (And.intro @Fp @Cu) (And.intro @r9 @yF)))) (And.intro (And.intro (And.intro (And.intro @vV @Ah) (And.intro @GL @GN)) (And.intro (And.intro @Jr @GR) (And.intro @KP @Fq))) (And.intro (And.intro (And.intro @Cw @Fu) (And.intro @Cy @Jv)) (And.intro (And.intro @GU @Ai) (And.intro @Aj @Jw))))) (And.intro (And.intro (And.intro (And.intro (And.intro @Fw @Jy) (And.intro @GX @KS)) (And.intro (And.intro @GY @vW) (And.intro @Jz @GZ))) (And.intro (And.intro (And.intro @Ak @G5) (And.intro @JA @Cz)) (And.intro (And.intro @qK @Al) (And.intro @yG @G6)))) (And.intro (And.intro (And.intro (And.intro @yH @G7) (And.intro @yI @G8)) (And.intro (And.intro @CB @JB) (And.intro @Fy @KT))) (And.intro (And.intro (And.intro @KU @JC) (And.intro @KW @KX)) (And.intro (And.intro @He @Fe) (And.intro (And.intro @Fg @Fh) @Co)))))
set_option linter.defProp false in
def GQ := And.intro (And.intro (And.intro (And.intro (And.intro (And.intro @Fv @FI) (And.intro @FJ @Bool.or_false)) (And.intro (And.intro @Bool.false_or @KY) (And.intro @KZ (And.intro @JD @FC)))) (And.intro (And.intro (And.intro @FD @FE) (And.intro @Am (And.intro @JE @FH))) (And.intro (And.intro @FK @FL) (And.intro @E9 (And.intro @Fa @Fb))))) (And.intro (And.intro (And.intro (And.intro (And.intro @FN @yL) @CG) (And.intro @CJ (And.intro @Ao @vX))) (And.intro (And.intro @yD @vU) (And.intro @Af (And.intro @List.set_cons_zero.{0} @List.set_cons_succ.{0})))) (And.intro (And.intro (And.intro @List.getElem?_cons_zero.{0} @List.getElem?_cons_succ.{0}) (And.intro @Nat.zero_add (And.intro @List.size_toArray.{0} @List.length_cons.{0}))) (And.intro (And.intro @List.length_nil.{0} @List.all_cons.{0}) (And.intro @List.all_nil.{0} (And.intro @Bool.and_true @Bool.and_self)))))) (And.intro (And.intro (And.intro (And.intro (And.intro @true_and @and_true) (And.intro @Cq (And.intro @Cr @Ag))) (And.intro (And.intro @Hf @LM) (And.intro @Eo (And.intro @LP @List.map_cons.{0, 0})))) (And.intro (And.intro (And.intro @List.map_nil.{0, 0} @Option.map_some.{0, 0}) (And.intro @Option.map_none.{0, 0} (And.intro @Nat.add_zero @and_self))) (And.intro (And.intro @Option.bind_some.{0, 0} @List.getElem?_toArray.{0}) (And.intro @List.cons_append.{0} (And.intro @List.nil_append.{0} @List.append_nil.{0}))))) (And.intro (And.intro (And.intro (And.intro @Js @Jt) (And.intro @Ju (And.intro @Cv @Int.toNat_natCast))) (And.intro (And.intro @not_true_eq_false @not_false_eq_true) (And.intro @false_implies (And.intro @true_implies @Bool.not_true)))) (And.intro (And.intro (And.intro @Bool.not_false @Nat.mul_one) (And.intro @List.getElem?_map.{0, 0} (And.intro @Option.isNone_some.{0} @Option.isNone_none.{0}))) (And.intro (And.intro @bne_self_eq_false.{0} @beq_self_eq_true.{0}) (And.intro @Int.cast_ofNat_Int (And.intro @Nat.zero_mul @Nat.sub_zero))))))
set_option linter.defProp false in
def GM := And.intro (And.intro (And.intro @Fz @G9) (And.intro @yJ @sj)) (And.intro @CF (And.intro @FB @yK))
end Go.Abs
