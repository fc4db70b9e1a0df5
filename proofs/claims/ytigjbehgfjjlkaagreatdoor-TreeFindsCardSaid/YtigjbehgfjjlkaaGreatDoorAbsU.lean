/- Rules for the walk over the abstract heap: what 'simp' is given. -/
import Derived.Test.YtigjbehgfjjlkaaGreatDoorAbsZ
set_option linter.unusedVariables false
set_option linter.unusedSimpArgs false
namespace Go.Abs
open Go.RowKit
inductive Tag {α : Sort _} (x : α) : Type | mk
def stop {α : Sort _} (x : α) (t : Tag x) : α := x
theorem stop1 {α β : Type} (f : α → β) (a : α) : stop f .mk a = f a := (rfl)
theorem IG {α β γ : Type} (f : α → β → γ) (a : α) (b : β) : stop f .mk a b = f a b := (rfl)
theorem II {α β γ δ : Type} (f : α → β → γ → δ) (a : α) (b : β) (c : γ) : stop f .mk a b c = f a b c := (rfl)
def olet (x : Option Value) (f : Value → Prop) : Prop :=
  match x with
  | some v => f v
  | none => False
def slet (x : Option St) (f : St → Prop) : Prop :=
  match x with
  | some v => f v
  | none => False
theorem Cu (v : Value) (f : Value → Prop) : olet (some v) f = f v := (rfl)
theorem Cv (v : St) (f : St → Prop) : slet (some v) f = f v := (rfl)
theorem Cw (v : Value) (s : St) (f : Value → St → Prop) : alet (some (v, s)) f = f v s := (rfl)
theorem dB (x : Option Value) (st : St) (f : Value → St → Prop) : alet (x.map fun v => (v, st)) f = olet x fun v => f v st := by cases x <;> rfl
@[congr] theorem Ho {x y : Option Value} {f : Value → Prop} (h : x = y) : olet x f = olet y f := by rw [h]
@[congr] theorem Hq {x y : Option St} {f : St → Prop} (h : x = y) : slet x f = slet y f := by rw [h]
@[congr] theorem Hr {x y : Option (Value × St)} {f : Value → St → Prop} (h : x = y) : alet x f = alet y f := by rw [h]
@[congr] theorem Gz {v v' : Value} {b : Bool} {x y : Prop} (h : v = v') : gU v b x y = gU v' b x y := by rw [h]
@[congr] theorem Fu {v v' : Value} {x y : Prop} (h : v = v') : bP v x y = bP v' x y := by rw [h]
@[congr] theorem FL {cx : Cx} {f f' : Value} {args args' : List Value} {st : St} {k q : Value → St → Prop} (h : f = f') (h' : args = args') : fQ cx f args st k q = fQ cx f' args' st k q := by rw [h, h']
@[congr] theorem FM {cx : Cx} {f : Nat} {args args' : List Value} {st : St} {k q : Value → St → Prop} (h' : args = args') : au cx f args st k q = au cx f args' st k q := by rw [h']
@[congr] theorem FN {cx : Cx} {B : Nat} {args args' : List Value} {st : St} {k : Value → St → Prop} (h' : args = args') : ko cx B args st k = ko cx B args' st k := by rw [h']
@[congr] theorem FP {cx : Cx} {g g' : Value} {ps : Array Nat} {x y : Code} {Q : Post} {q : dA} {ρ : Env} {st : St} (h : g = g') : iZ cx g ps x y Q q ρ st = iZ cx g' ps x y Q q ρ st := by rw [h]
@[congr] theorem Ht {cx : Cx} {ops : Array Oper} {l : List Oper} {Q : Post} {q : dA} {ρ : Env} {st : St} : aops cx ops l Q q ρ st = aops cx ops l Q q ρ st := (rfl)
@[congr] theorem Iw {cx : Cx} {c : Code} {Q : Post} {q : dA} {ρ : Env} {st : St} : awp cx c Q q ρ st = awp cx c Q q ρ st := (rfl)
@[congr] theorem FQ {cx : Cx} {o : Op} {k q : dA} {ρ : Env} {st : St} : abody cx o ρ st k q = abody cx o ρ st k q := (rfl)
@[congr] theorem GA {recs : List (Nat × (St → Prop))} {l : List Nat} {st : St} {x : Prop} : iH recs l st x = iH recs l st x := (rfl)
@[congr] theorem GD {cx : Cx} {ops : Array Oper} {π : Plan} {recs : List (Nat × (St → Prop))} {Q : Post} {q : dA} {ρ : Env} {st : St} : jM cx ops π recs Q q ρ st = jM cx ops π recs Q q ρ st := (rfl)
@[congr] theorem GH {F : Post → Env → St → Prop} {Q : Post} {ρ : Env} {st : St} : rF F Q ρ st = rF F Q ρ st := (rfl)
@[congr] theorem GI {cx : Cx} {ops : Array Oper} {Q : Post} {q : dA} {ρ : Env} {st : St} : bF cx ops Q q ρ st = bF cx ops Q q ρ st := (rfl)
section
variable {cx : Cx} {ρ : Env} {st : St} {k q : Value → St → Prop} {Q : Post} {qp : dA}
theorem Cy (b : Bool) (x y : Prop) : gU (.bool b) b (stop x .mk) y = x := by simp [gU, stop]
theorem Cz (x y : Prop) : gU (.bool true) false x (stop y .mk) = y := by simp [gU, stop]
theorem CB (x y : Prop) : gU (.bool false) true x (stop y .mk) = y := by simp [gU, stop]
theorem Aa (w : Bool) (x y : Prop) : gU ng w (stop x .mk) (stop y .mk) = y := by cases w <;> simp [gU, stop, ng]
theorem vX (x y : Prop) : bP (.bool true) x y = x := by simp [bP]
theorem tX (x y : Prop) : bP (.bool false) x y = y := by simp [bP]
theorem yh (p : Prop) [Decidable p] (x y : Prop) : bP (.bool (decide p)) x y = ((p → x) ∧ (¬ p → y)) := by simp [bP]
theorem Ab (a b : Int) (x y : Prop) : bP (.bool (a == b)) x y = ((a = b → x) ∧ (¬ a = b → y)) := by simp [bP]
theorem Ac (a b : Int) (x y : Prop) : bP (.bool (a != b)) x y = ((¬ a = b → x) ∧ (a = b → y)) := by simp [bP]
theorem yj (b : Bool) (x y : Prop) : bP (.bool (!b)) x y = bP (.bool b) y x := by cases b <;> simp [bP]
theorem bL {x : Int} (h : -9223372036854775808 ≤ x ∧ x ≤ 9223372036854775807) : IntKind.i64.wrap x = x := wrap_i64 h.1 h.2
theorem Ad (i : Nat) (l : List Oper) : awp cx (.region i l.toArray false) Q qp ρ st = aops cx l.toArray l Q qp ρ st := (rfl)
theorem DZ (i : Nat) (ops : Array Oper) : awp cx (.region i ops true) Q qp ρ st = bF cx (stop ops .mk) (stop Q .mk) (stop qp .mk) ρ st := (rfl)
theorem aj (x y : Code) : awp cx (.seq x y) Q qp ρ st = awp cx x (nK (fun ρ st => awp cx y Q qp ρ st) Q) qp ρ st := (rfl)
theorem D5 (c : Operand) (x y : Code) : awp cx (.cond c x y) Q qp ρ st = bP (ev cx.G ρ c) (awp cx x Q qp ρ st) (awp cx y Q qp ρ st) := (rfl)
theorem ah (i : Nat) (c : Code) : awp cx (.block i c) Q qp ρ st = awp cx c (gH i Q) qp ρ st := (rfl)
theorem D6 (c : Code) : awp cx (.loop c) Q qp ρ st = rF (stop (fun Q ρ st => awp cx c Q qp ρ st) .mk) (stop Q .mk) ρ st := (rfl)
theorem D7 (i : Nat) : awp cx (.exit i) Q qp ρ st = Q (.exit i) ρ st := (rfl)
theorem FR : awp cx .ret Q qp ρ st = Q .ret ρ st := (rfl)
theorem D8 : awp cx .skip Q qp ρ st = Q .normal ρ st := (rfl)
theorem CF (l : Nat) : awp cx (.label l) Q qp ρ st = Q .normal ρ st := (rfl)
theorem vY (n : Env → St → Prop) : nK n Q .normal ρ st = n ρ st := (rfl)
theorem CG (n : Env → St → Prop) : nK n Q .ret ρ st = Q .ret ρ st := (rfl)
theorem Ae (n : Env → St → Prop) (i : Nat) : nK n Q (.exit i) ρ st = Q (.exit i) ρ st := (rfl)
theorem qD (i : Nat) : gH i Q .normal ρ st = Q .normal ρ st := (rfl)
theorem vZ (i : Nat) : gH i Q .ret ρ st = Q .ret ρ st := (rfl)
theorem tY (i j : Nat) : gH i Q (.exit j) ρ st = if j = i then Q .normal ρ st else Q (.exit j) ρ st := (rfl)
theorem yt (P : Program) (rs : Array ResultVar) : retQ P rs k .normal ρ st = olet (ares P rs ρ st) (stop (fun v => k v st) .mk) := by
  unfold retQ olet; rfl
theorem D9 (P : Program) (rs : Array ResultVar) : retQ P rs k .ret ρ st = olet (ares P rs ρ st) (stop (fun v => k v st) .mk) := by
  unfold retQ olet; rfl
theorem Ea (ops : Array Oper) : aops cx ops [] Q qp ρ st = Q .normal ρ st := (rfl)
theorem FT (ops : Array Oper) (d : Nat) (op : Op) (ty : TypeId) (pos : String) (aft : Array Edge) (r : List Oper) :
    aops cx ops (⟨some d, op, ty, pos, aft, none⟩ :: r) Q qp ρ st = abody cx op ρ st (fun V st' => aops cx ops r Q qp (put ρ d V) st') qp := (rfl)
theorem Eb (ops : Array Oper) (op : Op) (ty : TypeId) (pos : String) (aft : Array Edge) (r : List Oper) :
    aops cx ops (⟨none, op, ty, pos, aft, none⟩ :: r) Q qp ρ st = abody cx op ρ st (fun V st' => aops cx ops r Q qp ρ st') qp := (rfl)
def gsl (ops : Array Oper) (g : Nat) : Option Nat := (ops[g]?).bind (·.dst)
theorem Hu (ops : Array Oper) (d : Nat) (op : Op) (ty : TypeId) (pos : String) (aft : Array Edge) (g : Nat) (w : Bool) (r : List Oper) :
    aops cx ops (⟨some d, op, ty, pos, aft, some (g, w)⟩ :: r) Q qp ρ st = olet ((gsl ops g).map ρ) (stop (fun v => gU v w (stop (abody cx op ρ st (fun V st' => aops cx ops r Q qp (put ρ d V) st') qp) .mk) (stop (aops cx ops r Q qp (put ρ d ng) st) .mk)) .mk) := by
  show bT cx ops _ ρ st _ qp = _
  unfold bT kT gsl
  simp only
  cases (ops[g]?).bind (·.dst) <;> rfl
theorem yu (ops : Array Oper) (dst : Option Nat) (op : Op) (ty : TypeId) (pos : String) (aft : Array Edge) :
    bT cx ops ⟨dst, op, ty, pos, aft, none⟩ ρ st k q = abody cx op ρ st k q := (rfl)
theorem yw (ops : Array Oper) (dst : Option Nat) (op : Op) (ty : TypeId) (pos : String) (aft : Array Edge) (g : Nat) (w : Bool) :
    bT cx ops ⟨dst, op, ty, pos, aft, some (g, w)⟩ ρ st k q = olet (((ops[g]?).bind (·.dst)).map ρ) (stop (fun v => gU v w (stop (abody cx op ρ st k q) .mk) (stop (k ng st) .mk)) .mk) := by
  unfold bT kT
  simp only
  cases (ops[g]?).bind (·.dst) <;> rfl
theorem FU {c : Prop} [Decidable c] (x : Option Value) (f : Value → Prop) : olet (if c then x else none) f = (c ∧ olet x f) := by
  by_cases h : c <;> simp [h, olet]
theorem FV {c : Prop} [Decidable c] (x : Option St) (f : St → Prop) : slet (if c then x else none) f = (c ∧ slet x f) := by
  by_cases h : c <;> simp [h, slet]
theorem FW {c : Prop} [Decidable c] (x : Option (Value × St)) (f : Value → St → Prop) : alet (if c then x else none) f = (c ∧ alet x f) := by
  by_cases h : c <;> simp [h, alet]
theorem Af {c : Prop} [Decidable c] {α : Type} (x : Option α) (g : α → Value) (f : Value → Prop) : olet (Option.map g (if c then x else none)) f = (c ∧ olet (Option.map g x) f) := by
  by_cases h : c <;> simp [h, olet]
def atO (x : Option Oper) (f : Oper → Prop) : Prop :=
  match x with
  | none => False
  | some o => f o
@[congr] theorem Iy {x y : Option Oper} {f : Oper → Prop} (h : x = y) : atO x f = atO y f := by rw [h]
theorem Ec (o : Oper) (f : Oper → Prop) : atO (some o) f = f o := (rfl)
theorem CJ (ops : Array Oper) (recs : List (Nat × (St → Prop))) : jM cx ops [] recs Q qp ρ st = Q .normal ρ st := (rfl)
theorem Ag (ops : Array Oper) (i : Nat) (kp : Bool) (pd : List Nat) (π : Plan) (recs : List (Nat × (St → Prop))) :
    jM cx ops ((i, kp, pd) :: π) recs Q qp ρ st = atO (ops[i]?) fun o => bT cx ops o ρ st (fun V st' => iH recs pd st' (jM cx ops π (bif kp then (i, yld cx ops o ρ V) :: recs else recs) Q qp (putO ρ o.dst V) st')) qp := by
  show (match ops[i]? with
    | none => False
    | some o => bT cx ops o ρ st (fun V st' => iH recs pd st' (jM cx ops π (bif kp then (i, yld cx ops o ρ V) :: recs else recs) Q qp (putO ρ o.dst V) st')) qp) = _
  cases ops[i]? <;> rfl
theorem CK (recs : List (Nat × (St → Prop))) (x : Prop) : iH recs [] st x = x := (rfl)
theorem Ah (recs : List (Nat × (St → Prop))) (i : Nat) (r : List Nat) (x : Prop) : iH recs (i :: r) st x = (getR recs i st ∧ iH recs r st x) := (rfl)
theorem CO (j : Nat) (p : St → Prop) (r : List (Nat × (St → Prop))) (i : Nat) : getR ((j, p) :: r) i = if i = j then p else getR r i := (rfl)
@[congr] theorem Hw {recs : List (Nat × (St → Prop))} {i : Nat} {st : St} : getR recs i st = getR recs i st := (rfl)
theorem FX (ops : Array Oper) (o : Oper) (V : Value) (s : St) : yld cx ops o ρ V s = bT cx ops o ρ s (fun V' s' => V' = V ∧ s' = s) (fun _ _ => False) := (rfl)
@[congr] theorem Iz {ops : Array Oper} {o : Oper} {V : Value} {s : St} : yld cx ops o ρ V s = yld cx ops o ρ V s := (rfl)
@[congr] theorem GJ {ops : Array Oper} {o : Oper} : bT cx ops o ρ st k q = bT cx ops o ρ st k q := (rfl)
theorem bF.of {ops : Array Oper} (π : Plan) (ks : List Nat) (un : List (Nat × Nat)) (h : (BM ops && (π.length == ops.size) && okGo cx.P ops ks un π (Array.replicate ops.size false)) = true) (k : jM cx ops π [] Q qp ρ st) : bF cx (stop ops .mk) (stop Q .mk) (stop qp .mk) ρ st := by
  simp only [Bool.and_eq_true, beq_iff_eq] at h
  have hA := oO h.1.1 π _ [] ρ st h.2 (fun j _ => rfl) k
  rw [h.1.2] at hA
  exact ⟨_, _, hA⟩
theorem FY (x : Operand) : abody cx (.move x) ρ st k q = olet (some (ev cx.G ρ x)) (stop (fun v => k v st) .mk) := (rfl)
theorem CP (x : Operand) : abody cx (.assign x) ρ st k q = olet (some (ev cx.G ρ x)) (stop (fun v => k v st) .mk) := (rfl)
theorem FZ (c a b : Operand) : abody cx (.pick c a b) ρ st k q = olet (ru (ev cx.G ρ c) (ev cx.G ρ a) (ev cx.G ρ b)) (stop (fun v => k v st) .mk) := dB _ _ _
theorem Ed (t : TypeId) : abody cx (.alloc t) ρ st k q = alet (aX cx.P st t) (stop k .mk) := (rfl)
theorem Hy (t : TypeId) (x : Operand) : abody cx (.box t x) ρ st k q = alet (abox st t (ev cx.G ρ x)) (stop k .mk) := (rfl)
theorem Ee (t : TypeId) (ps : Array (Nat × Operand)) : abody cx (.build t ps) ρ st k q = olet (jA cx.P t (ps.toList.map fun p => (p.1, ev cx.G ρ p.2))) (stop (fun v => k v st) .mk) := dB _ _ _
theorem tZ (t : TypeId) (n : Nat) (ps : Array (Nat × Operand)) : abody cx (.buildSlice t n ps) ρ st k q = alet (aO cx.P st t n (ps.toList.map fun p => (p.1, ev cx.G ρ p.2))) (stop k .mk) := (rfl)
theorem F3 (t : TypeId) (a : Operand) : abody cx (.load t a) ρ st k q = olet (kg cx.P st t (ev cx.G ρ a)) (stop (fun v => k v st) .mk) := dB _ _ _
theorem Ef (t : TypeId) (a x : Operand) : abody cx (.store t a x) ρ st k q = slet (jo cx.P st t (ev cx.G ρ a) (ev cx.G ρ x)) (stop (fun s => k undef s) .mk) := by
  show alet ((jo cx.P st t (ev cx.G ρ a) (ev cx.G ρ x)).map fun st' => (undef, st')) k = _
  cases jo cx.P st t (ev cx.G ρ a) (ev cx.G ρ x) <;> rfl
theorem yx (x : Operand) : abody cx (.nilCheck x) ρ st k q = olet (iW (ev cx.G ρ x)) (stop (fun v => k v st) .mk) := dB _ _ _
theorem Eh (op : BinOp) (t : TypeId) (x y : Operand) (t2 : TypeId) : abody cx (.binOp op t x y t2) ρ st k q = olet (abin cx.P op t x y (ev cx.G ρ x) (ev cx.G ρ y)) (stop (fun v => k v st) .mk) := dB _ _ _
theorem F4 (op : UnOp) (t : TypeId) (x : Operand) : abody cx (.unOp op t x) ρ st k q = olet (aun op (ev cx.G ρ x)) (stop (fun v => k v st) .mk) := dB _ _ _
theorem Ai (s d : TypeId) (x : Operand) : abody cx (.convert s d x) ρ st k q = alet (dH cx.P st s d (ev cx.G ρ x)) (stop k .mk) := (rfl)
theorem oU (t : TypeId) (x : Operand) : abody cx (.makeInterface t x) ρ st k q = olet (q9 cx.P t (ev cx.G ρ x)) (stop (fun v => k v st) .mk) := dB _ _ _
theorem yA (n : Nat) (a b : Array Operand) : abody cx (.makeFunc (.func n) a b) ρ st k q = k (.func (.func n) (a.map (ev cx.G ρ)) (b.map (ev cx.G ρ))) st := (rfl)
theorem wh (t : TypeId) (l c : Operand) : abody cx (.makeSlice t l c) ρ st k q = alet (ak cx.P st t (ev cx.G ρ l) (ev cx.G ρ c)) (stop k .mk) := (rfl)
theorem Ei (t : TypeId) (x : Operand) (lo hi mx : Option Operand) : abody cx (.slice t x lo hi mx) ρ st k q = olet (aslice cx.P st t (ev cx.G ρ x) (lo.map (ev cx.G ρ)) (hi.map (ev cx.G ρ)) (mx.map (ev cx.G ρ))) (stop (fun v => k v st) .mk) := dB _ _ _
theorem wm (t : TypeId) (x : Operand) (f : Nat) : abody cx (.fieldAddr t x f) ρ st k q = olet (fM cx.P t (ev cx.G ρ x) f) (stop (fun v => k v st) .mk) := dB _ _ _
theorem Ej (t : TypeId) (x : Operand) (f : Nat) : abody cx (.field t x f) ρ st k q = olet (oH cx.P t (ev cx.G ρ x) f) (stop (fun v => k v st) .mk) := dB _ _ _
theorem wo (t : TypeId) (x i : Operand) : abody cx (.indexAddr t x i) ρ st k q = olet (fO cx.P t (ev cx.G ρ x) (ev cx.G ρ i)) (stop (fun v => k v st) .mk) := dB _ _ _
theorem El (t : TypeId) (x i : Operand) : abody cx (.index t x i) ρ st k q = olet (iX cx.P t (ev cx.G ρ x) (ev cx.G ρ i)) (stop (fun v => k v st) .mk) := dB _ _ _
theorem Aj (x : Operand) (i : Nat) : abody cx (.extract x i) ρ st k q = olet (jL (ev cx.G ρ x) i) (stop (fun v => k v st) .mk) := dB _ _ _
theorem F5 (f : Operand) (args : Array Operand) (tys : Array TypeId) : abody cx (.call ⟨.value f, args, tys⟩) ρ st k q = fQ cx (ev cx.G ρ f) (args.toList.map (ev cx.G ρ)) st (stop k .mk) (stop q .mk) := (rfl)
theorem Hz (args : Array Operand) (tys : Array TypeId) : abody cx (.call ⟨.builtin .len, args, tys⟩) ρ st k q = alet (cu cx.P st .len tys (args.toList.map (ev cx.G ρ))) (stop k .mk) := (rfl)
theorem HV (args : Array Operand) (tys : Array TypeId) : abody cx (.call ⟨.builtin .cap, args, tys⟩) ρ st k q = alet (cu cx.P st .cap tys (args.toList.map (ev cx.G ρ))) (stop k .mk) := (rfl)
theorem F6 (args : Array Operand) (tys : Array TypeId) : abody cx (.call ⟨.builtin .copy, args, tys⟩) ρ st k q = alet (cu cx.P st .copy tys (args.toList.map (ev cx.G ρ))) (stop k .mk) := (rfl)
theorem HY (args : Array Operand) (tys : Array TypeId) : abody cx (.call ⟨.builtin .max, args, tys⟩) ρ st k q = alet (cu cx.P st .max tys (args.toList.map (ev cx.G ρ))) (stop k .mk) := (rfl)
theorem HZ (args : Array Operand) (tys : Array TypeId) : abody cx (.call ⟨.builtin .min, args, tys⟩) ρ st k q = alet (cu cx.P st .min tys (args.toList.map (ev cx.G ρ))) (stop k .mk) := (rfl)
theorem CQ (args : Array Operand) (t : TypeId) (l : List TypeId) (h : cx.ex t = false) : abody cx (.call ⟨.builtin .append, args, (t :: l).toArray⟩) ρ st k q = alet (cu cx.P st .append (t :: l).toArray (args.toList.map (ev cx.G ρ))) (stop k .mk) := by
  show ((cx.ex t = true ∧ uF (nH cx.P st (t :: l).toArray (args.toList.map (ev cx.G ρ))) st k) ∨ alet (cu cx.P st .append (t :: l).toArray (args.toList.map (ev cx.G ρ))) k) = _
  rw [h]
  simp [stop]
theorem CR (args : Array Operand) (tys : Array TypeId) : abody cx (.call ⟨.builtin .delete, args, tys⟩) ρ st k q = alet (dX cx.P st .delete tys (args.toList.map (ev cx.G ρ))) (stop k .mk) := (rfl)
theorem Em (args : Array Operand) (tys : Array TypeId) : abody cx (.call ⟨.builtin .clear, args, tys⟩) ρ st k q = alet (dX cx.P st .clear tys (args.toList.map (ev cx.G ρ))) (stop k .mk) := (rfl)
theorem wu (args : Array Operand) (tys : Array TypeId) : abody cx (.call ⟨.builtin .unsafeSliceData, args, tys⟩) ρ st k q = alet (dX cx.P st .unsafeSliceData tys (args.toList.map (ev cx.G ρ))) (stop k .mk) := (rfl)
theorem qE (args : Array Operand) (tys : Array TypeId) : abody cx (.call ⟨.builtin .unsafeString, args, tys⟩) ρ st k q = alet (dX cx.P st .unsafeString tys (args.toList.map (ev cx.G ρ))) (stop k .mk) := (rfl)
theorem Ak (t : TypeId) (r : Option Operand) : abody cx (.makeMap t r) ρ st k q = alet (jK cx.P st t (r.map (ev cx.G ρ))) (stop k .mk) := (rfl)
theorem CS (t : TypeId) (x i : Operand) (ok : Bool) : abody cx (.lookup t x i ok) ρ st k q = olet (nD cx.P st t (ev cx.G ρ x) (ev cx.G ρ i) ok) (stop (fun v => k v st) .mk) := dB _ _ _
theorem wz (t : TypeId) (m kk v : Operand) : abody cx (.mapUpdate t m kk v) ρ st k q = slet (eD cx.P st t (ev cx.G ρ m) (ev cx.G ρ kk) (ev cx.G ρ v)) (stop (fun s => k undef s) .mk) := by
  show alet ((eD cx.P st t (ev cx.G ρ m) (ev cx.G ρ kk) (ev cx.G ρ v)).map fun st' => (undef, st')) k = _
  cases eD cx.P st t (ev cx.G ρ m) (ev cx.G ρ kk) (ev cx.G ρ v) <;> rfl
theorem En (x : Operand) : abody cx (.panic x) ρ st k q = kr (ev cx.G ρ x) st q := (rfl)
theorem H6 (G t : Nat) : ev G ρ (.tmp t) = ρ t := (rfl)
theorem H7 (G : Nat) (i : IntKind) (n : Int) : ev G ρ (.const (.int i n)) = .int i n := (rfl)
theorem F7 (G : Nat) (b : Bool) : ev G ρ (.const (.bool b)) = .bool b := (rfl)
theorem CU (G : Nat) (b : ByteArray) : ev G ρ (.const (.string b)) = .string b := (rfl)
theorem CV (G : Nat) : ev G ρ (.const (.pointer none)) = .pointer none := (rfl)
theorem CW (G : Nat) : ev G ρ (.const (.slice none 0 0)) = .slice none 0 0 := (rfl)
theorem yB (G : Nat) : ev G ρ (.const .nilIface) = .nilIface := (rfl)
theorem F8 (G f : Nat) : ev G ρ (.func f) = .func (.func f) #[] #[] := (rfl)
theorem CX (d : Nat) (v : Value) (t : Nat) : put ρ d v t = if t = d then v else ρ t := (rfl)
theorem CY (d : Nat) (v : Value) : putO ρ (some d) v = put ρ d v := (rfl)
theorem CZ (v : Value) : putO ρ none v = ρ := (rfl)
theorem C8 (a : Value) (l : List Value) : env0 (a :: l) 0 = a := (rfl)
theorem C9 (a : Value) (l : List Value) (n : Nat) : env0 (a :: l) (n + 1) = env0 l n := (rfl)
theorem Da (g : Operand) (ps : Array Nat) (x y : Code) : awp cx (.rangeFunc g ps x y) Q qp ρ st = iZ cx (ev cx.G ρ g) ps x y (stop Q .mk) (stop qp .mk) ρ st := (rfl)
theorem wB (B : Nat) (args : List Value) : fQ cx (.func (.yield B) #[] #[]) args st k q = ko cx B args st k := (rfl)
theorem iZ.enter {n : Nat} {fn : Func} {first captured : Array Value} {ps : Array Nat} {x y : Code} (hf : cx.P.funcs[n]? = some fn) (hb : fn.body.isSome = true) (hn : (fn.name == "runtime.NumGoroutine") = false)
    (h : ay cx n (first.toList ++ [.func (.yield st.n) #[] #[]] ++ captured.toList) (st.new (.loop ⟨ρ, ps, x, y, .ready, none⟩)) (fun _ st' => aend st.n Q ρ st' (st'.H st.n)) qp) : iZ cx (.func (.func n) first captured) ps x y Q qp ρ st := ⟨⟨fn, hf, hb, hn⟩, h⟩
theorem Db (n : Nat) (args : List Value) : fQ cx (.func (.func n) #[] #[]) args st k q = au cx n args st k q := by
  show au cx n ([] ++ args ++ []) st k q = _
  simp
theorem au.enter {n : Nat} {fn : Func} {args : List Value} (hf : cx.P.funcs[n]? = some fn) (hb : fn.body.isSome = true) (hn : (fn.name == "runtime.NumGoroutine") = false) (h : ay cx n args st k q) : au cx n args st k q := .inl ⟨⟨fn, hf, hb, hn⟩, h⟩
theorem Al (b : Bool) (x y : Value) : ru (.bool b) x y = some (bif b then x else y) := (rfl)
theorem Am (P : Program) (t : TypeId) (B off : Nat) : kg P st t (.pointer (some ⟨B, off, none⟩)) = xM P st t B off := (rfl)
theorem yC (P : Program) (t : TypeId) (B off : Nat) (x : Value) : jo P st t (.pointer (some ⟨B, off, none⟩)) x = qR P st t B off x := (rfl)
theorem ug (a : Addr) : iW (.pointer (some a)) = some (.pointer (some a)) := (rfl)
theorem Eo (B : Nat) (o : Option Ob) (b : Nat) : (st.set B o).H b = if b = B then o else st.H b := (rfl)
theorem IJ (B : Nat) (o : Option Ob) : (st.set B o).n = st.n := (rfl)
theorem yD (o : Ob) : (st.new o).n = st.n + 1 := (rfl)
theorem Ao (o : Ob) : (st.new o).H st.n = some o := by simp [St.new]
theorem IK (o : Ob) (b : Nat) : (st.new o).H b = if b = st.n then some o else st.H b := (rfl)
theorem F9 (o : Ob) {b : Nat} (h : b < st.n) : (st.new o).H b = st.H b := by
  show (if b = st.n then some o else st.H b) = _
  rw [if_neg (by omega)]
end
set_option linter.defProp false in
def GP := And.intro (And.intro (And.intro (And.intro (And.intro (And.intro @stop1 @IG) (And.intro (And.intro @II @Da) @Ad)) (And.intro (And.intro @DZ @D5) (And.intro @D6 @D7))) (And.intro (And.intro (And.intro @FR @D8) (And.intro @CF @vY)) (And.intro (And.intro @CG @Ae) (And.intro @qD @vZ)))) (And.intro (And.intro (And.intro (And.intro @tY @yt) (And.intro @D9 @Ea)) (And.intro (And.intro @FT @Eb) (And.intro @Hu @CJ))) (And.intro (And.intro (And.intro @Ag @CK) (And.intro @Ah @FX)) (And.intro (And.intro @Ec @yu) (And.intro @yw @FY))))) (And.intro (And.intro (And.intro (And.intro (And.intro @CP @FZ) (And.intro @Ed @Hy)) (And.intro (And.intro @Ee @tZ) (And.intro @F3 @Ef))) (And.intro (And.intro (And.intro @yx @Eh) (And.intro @F4 @Ai)) (And.intro (And.intro @oU @yA) (And.intro @wh @Ei)))) (And.intro (And.intro (And.intro (And.intro @wm @Ej) (And.intro @wo @El)) (And.intro (And.intro @Aj @F5) (And.intro @CQ @Hz))) (And.intro (And.intro (And.intro @HV @F6) (And.intro @HY @HZ)) (And.intro (And.intro @En @Cy) (And.intro (And.intro @Cz @CB) @Aa)))))
set_option linter.defProp false in
def GQ := And.intro (And.intro (And.intro (And.intro (And.intro (And.intro @CO @CY) (And.intro @CZ @Bool.or_false)) (And.intro (And.intro @Bool.false_or @H6) (And.intro @H7 (And.intro @F7 @CU)))) (And.intro (And.intro (And.intro @CV @CW) (And.intro @yB (And.intro @F8 @CX))) (And.intro (And.intro @C8 @C9) (And.intro @Cu (And.intro @Cv @Cw))))) (And.intro (And.intro (And.intro (And.intro (And.intro @Db @wB) @Al) (And.intro @Am (And.intro @yC @ug))) (And.intro (And.intro @vX @tX) (And.intro @yh (And.intro @List.set_cons_zero.{0} @List.set_cons_succ.{0})))) (And.intro (And.intro (And.intro @List.getElem?_cons_zero.{0} @List.getElem?_cons_succ.{0}) (And.intro @Nat.zero_add (And.intro @List.size_toArray.{0} @List.length_cons.{0}))) (And.intro (And.intro @List.length_nil.{0} @List.all_cons.{0}) (And.intro @List.all_nil.{0} (And.intro @Bool.and_true @Bool.and_self)))))) (And.intro (And.intro (And.intro (And.intro (And.intro @true_and @and_true) (And.intro @Ab (And.intro @Ac @yj))) (And.intro (And.intro @Eo @IJ) (And.intro @yD (And.intro @IK @List.map_cons.{0, 0})))) (And.intro (And.intro (And.intro @List.map_nil.{0, 0} @Option.map_some.{0, 0}) (And.intro @Option.map_none.{0, 0} (And.intro @Nat.add_zero @and_self))) (And.intro (And.intro @Option.bind_some.{0, 0} @List.getElem?_toArray.{0}) (And.intro @List.cons_append.{0} (And.intro @List.nil_append.{0} @List.append_nil.{0}))))) (And.intro (And.intro (And.intro (And.intro @FU @FV) (And.intro @FW (And.intro @Af @Int.toNat_natCast))) (And.intro (And.intro @not_true_eq_false @not_false_eq_true) (And.intro @false_implies (And.intro @true_implies @Bool.not_true)))) (And.intro (And.intro (And.intro @Bool.not_false @Nat.mul_one) (And.intro @List.getElem?_map.{0, 0} (And.intro @Option.isNone_some.{0} @Option.isNone_none.{0}))) (And.intro (And.intro @bne_self_eq_false.{0} @beq_self_eq_true.{0}) (And.intro @Int.cast_ofNat_Int (And.intro @Nat.zero_mul @Nat.sub_zero))))))
set_option linter.defProp false in
def GM := And.intro (And.intro (And.intro @CR @Em) (And.intro @wu @qE)) (And.intro @Ak (And.intro @CS @wz))
end Go.Abs
