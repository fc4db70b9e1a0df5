/- Rules for the walk over the abstract heap: what 'simp' is given. -/
import Derived.Test.YtohgmkjhbacmpaaGreatDoorAbsZ
set_option linter.unusedVariables false
set_option linter.unusedSimpArgs false
namespace Go.Abs
open Go.RowKit
inductive Tag {α : Sort _} (x : α) : Type | mk
def stop {α : Sort _} (x : α) (t : Tag x) : α := x
theorem stop1 {α β : Type} (f : α → β) (a : α) : stop f .mk a = f a := (rfl)
theorem KC {α β γ : Type} (f : α → β → γ) (a : α) (b : β) : stop f .mk a b = f a b := (rfl)
theorem KD {α β γ δ : Type} (f : α → β → γ → δ) (a : α) (b : β) (c : γ) : stop f .mk a b c = f a b c := (rfl)
def olet (x : Option Value) (f : Value → Prop) : Prop :=
  match x with
  | some v => f v
  | none => False
def slet (x : Option St) (f : St → Prop) : Prop :=
  match x with
  | some v => f v
  | none => False
theorem D5 (v : Value) (f : Value → Prop) : olet (some v) f = f v := (rfl)
theorem D6 (v : St) (f : St → Prop) : slet (some v) f = f v := (rfl)
theorem D7 (v : Value) (s : St) (f : Value → St → Prop) : alet (some (v, s)) f = f v s := (rfl)
theorem dh (x : Option Value) (st : St) (f : Value → St → Prop) : alet (x.map fun v => (v, st)) f = olet x fun v => f v st := by cases x <;> rfl
@[congr] theorem JI {x y : Option Value} {f : Value → Prop} (h : x = y) : olet x f = olet y f := by rw [h]
@[congr] theorem JJ {x y : Option St} {f : St → Prop} (h : x = y) : slet x f = slet y f := by rw [h]
@[congr] theorem JK {x y : Option (Value × St)} {f : Value → St → Prop} (h : x = y) : alet x f = alet y f := by rw [h]
@[congr] theorem Jh {v v' : Value} {b : Bool} {x y : Prop} (h : v = v') : dP v b x y = dP v' b x y := by rw [h]
@[congr] theorem Hl {v v' : Value} {x y : Prop} (h : v = v') : bG v x y = bG v' x y := by rw [h]
@[congr] theorem H7 {cx : Cx} {f f' : Value} {args args' : List Value} {st : St} {k q : Value → St → Prop} (h : f = f') (h' : args = args') : fD cx f args st k q = fD cx f' args' st k q := by rw [h, h']
@[congr] theorem H8 {cx : Cx} {f : Nat} {args args' : List Value} {st : St} {k q : Value → St → Prop} (h' : args = args') : au cx f args st k q = au cx f args' st k q := by rw [h']
@[congr] theorem H9 {cx : Cx} {B : Nat} {args args' : List Value} {st : St} {k : Value → St → Prop} (h' : args = args') : jM cx B args st k = jM cx B args' st k := by rw [h']
@[congr] theorem Ia {cx : Cx} {g g' : Value} {ps : Array Nat} {x y : Code} {Q : Post} {q : cZ} {ρ : Env} {st : St} (h : g = g') : iI cx g ps x y Q q ρ st = iI cx g' ps x y Q q ρ st := by rw [h]
@[congr] theorem JL {cx : Cx} {ops : Array Oper} {l : List Oper} {Q : Post} {q : cZ} {ρ : Env} {st : St} : aops cx ops l Q q ρ st = aops cx ops l Q q ρ st := (rfl)
@[congr] theorem Ku {cx : Cx} {c : Code} {Q : Post} {q : cZ} {ρ : Env} {st : St} : awp cx c Q q ρ st = awp cx c Q q ρ st := (rfl)
@[congr] theorem Ib {cx : Cx} {o : Op} {k q : cZ} {ρ : Env} {st : St} : abody cx o ρ st k q = abody cx o ρ st k q := (rfl)
@[congr] theorem Ji {recs : List (Nat × (St → Prop))} {l : List Nat} {st : St} {x : Prop} : gQ recs l st x = gQ recs l st x := (rfl)
@[congr] theorem Jj {cx : Cx} {ops : Array Oper} {π : Plan} {recs : List (Nat × (St → Prop))} {Q : Post} {q : cZ} {ρ : Env} {st : St} : jy cx ops π recs Q q ρ st = jy cx ops π recs Q q ρ st := (rfl)
@[congr] theorem Jk {F : Post → Env → St → Prop} {Q : Post} {ρ : Env} {st : St} : rM F Q ρ st = rM F Q ρ st := (rfl)
@[congr] theorem Jl {cx : Cx} {ops : Array Oper} {Q : Post} {q : cZ} {ρ : Env} {st : St} : bI cx ops Q q ρ st = bI cx ops Q q ρ st := (rfl)
section
variable {cx : Cx} {ρ : Env} {st : St} {k q : Value → St → Prop} {Q : Post} {qp : cZ}
theorem D8 (b : Bool) (x y : Prop) : dP (.bool b) b (stop x .mk) y = x := by simp [dP, stop]
theorem D9 (x y : Prop) : dP (.bool true) false x (stop y .mk) = y := by simp [dP, stop]
theorem Ea (x y : Prop) : dP (.bool false) true x (stop y .mk) = y := by simp [dP, stop]
theorem Bl (w : Bool) (x y : Prop) : dP mP w (stop x .mk) (stop y .mk) = y := by cases w <;> simp [dP, stop, mP]
theorem wX (x y : Prop) : bG (.bool true) x y = x := by simp [bG]
theorem uN (x y : Prop) : bG (.bool false) x y = y := by simp [bG]
theorem zq (p : Prop) [Decidable p] (x y : Prop) : bG (.bool (decide p)) x y = ((p → x) ∧ (¬ p → y)) := by simp [bG]
theorem Bn (a b : Int) (x y : Prop) : bG (.bool (a == b)) x y = ((a = b → x) ∧ (¬ a = b → y)) := by simp [bG]
theorem Bo (a b : Int) (x y : Prop) : bG (.bool (a != b)) x y = ((¬ a = b → x) ∧ (a = b → y)) := by simp [bG]
theorem zu (b : Bool) (x y : Prop) : bG (.bool (!b)) x y = bG (.bool b) y x := by cases b <;> simp [bG]
theorem aS {x : Int} (h : -9223372036854775808 ≤ x ∧ x ≤ 9223372036854775807) : IntKind.i64.wrap x = x := wrap_i64 h.1 h.2
theorem Bp (i : Nat) (l : List Oper) : awp cx (.region i l.toArray false) Q qp ρ st = aops cx l.toArray l Q qp ρ st := (rfl)
theorem FI (i : Nat) (ops : Array Oper) : awp cx (.region i ops true) Q qp ρ st = bI cx (stop ops .mk) (stop Q .mk) (stop qp .mk) ρ st := (rfl)
theorem aj (x y : Code) : awp cx (.seq x y) Q qp ρ st = awp cx x (nu (fun ρ st => awp cx y Q qp ρ st) Q) qp ρ st := (rfl)
theorem FJ (c : Operand) (x y : Code) : awp cx (.cond c x y) Q qp ρ st = bG (ev cx.G ρ c) (awp cx x Q qp ρ st) (awp cx y Q qp ρ st) := (rfl)
theorem ah (i : Nat) (c : Code) : awp cx (.block i c) Q qp ρ st = awp cx c (fQ i Q) qp ρ st := (rfl)
theorem FK (c : Code) : awp cx (.loop c) Q qp ρ st = rM (stop (fun Q ρ st => awp cx c Q qp ρ st) .mk) (stop Q .mk) ρ st := (rfl)
theorem FL (i : Nat) : awp cx (.exit i) Q qp ρ st = Q (.exit i) ρ st := (rfl)
theorem Ic : awp cx .ret Q qp ρ st = Q .ret ρ st := (rfl)
theorem FM : awp cx .skip Q qp ρ st = Q .normal ρ st := (rfl)
theorem Eb (l : Nat) : awp cx (.label l) Q qp ρ st = Q .normal ρ st := (rfl)
theorem wY (n : Env → St → Prop) : nu n Q .normal ρ st = n ρ st := (rfl)
theorem Ec (n : Env → St → Prop) : nu n Q .ret ρ st = Q .ret ρ st := (rfl)
theorem Bq (n : Env → St → Prop) (i : Nat) : nu n Q (.exit i) ρ st = Q (.exit i) ρ st := (rfl)
theorem qF (i : Nat) : fQ i Q .normal ρ st = Q .normal ρ st := (rfl)
theorem wZ (i : Nat) : fQ i Q .ret ρ st = Q .ret ρ st := (rfl)
theorem uO (i j : Nat) : fQ i Q (.exit j) ρ st = if j = i then Q .normal ρ st else Q (.exit j) ρ st := (rfl)
theorem zw (P : Program) (rs : Array ResultVar) : retQ P rs k .normal ρ st = olet (ares P rs ρ st) (stop (fun v => k v st) .mk) := by
  unfold retQ olet; rfl
theorem FN (P : Program) (rs : Array ResultVar) : retQ P rs k .ret ρ st = olet (ares P rs ρ st) (stop (fun v => k v st) .mk) := by
  unfold retQ olet; rfl
theorem FP (ops : Array Oper) : aops cx ops [] Q qp ρ st = Q .normal ρ st := (rfl)
theorem Ie (ops : Array Oper) (d : Nat) (op : Op) (ty : TypeId) (pos : String) (aft : Array Edge) (r : List Oper) :
    aops cx ops (⟨some d, op, ty, pos, aft, none⟩ :: r) Q qp ρ st = abody cx op ρ st (fun V st' => aops cx ops r Q qp (put ρ d V) st') qp := (rfl)
theorem FQ (ops : Array Oper) (op : Op) (ty : TypeId) (pos : String) (aft : Array Edge) (r : List Oper) :
    aops cx ops (⟨none, op, ty, pos, aft, none⟩ :: r) Q qp ρ st = abody cx op ρ st (fun V st' => aops cx ops r Q qp ρ st') qp := (rfl)
def gsl (ops : Array Oper) (g : Nat) : Option Nat := (ops[g]?).bind (·.dst)
theorem JM (ops : Array Oper) (d : Nat) (op : Op) (ty : TypeId) (pos : String) (aft : Array Edge) (g : Nat) (w : Bool) (r : List Oper) :
    aops cx ops (⟨some d, op, ty, pos, aft, some (g, w)⟩ :: r) Q qp ρ st = olet ((gsl ops g).map ρ) (stop (fun v => dP v w (stop (abody cx op ρ st (fun V st' => aops cx ops r Q qp (put ρ d V) st') qp) .mk) (stop (aops cx ops r Q qp (put ρ d mP) st) .mk)) .mk) := by
  show bQ cx ops _ ρ st _ qp = _
  unfold bQ kD gsl
  simp only
  cases (ops[g]?).bind (·.dst) <;> rfl
theorem zx (ops : Array Oper) (dst : Option Nat) (op : Op) (ty : TypeId) (pos : String) (aft : Array Edge) :
    bQ cx ops ⟨dst, op, ty, pos, aft, none⟩ ρ st k q = abody cx op ρ st k q := (rfl)
theorem zy (ops : Array Oper) (dst : Option Nat) (op : Op) (ty : TypeId) (pos : String) (aft : Array Edge) (g : Nat) (w : Bool) :
    bQ cx ops ⟨dst, op, ty, pos, aft, some (g, w)⟩ ρ st k q = olet (((ops[g]?).bind (·.dst)).map ρ) (stop (fun v => dP v w (stop (abody cx op ρ st k q) .mk) (stop (k mP st) .mk)) .mk) := by
  unfold bQ kD
  simp only
  cases (ops[g]?).bind (·.dst) <;> rfl
theorem Ig {c : Prop} [Decidable c] (x : Option Value) (f : Value → Prop) : olet (if c then x else none) f = (c ∧ olet x f) := by
  by_cases h : c <;> simp [h, olet]
theorem Ih {c : Prop} [Decidable c] (x : Option St) (f : St → Prop) : slet (if c then x else none) f = (c ∧ slet x f) := by
  by_cases h : c <;> simp [h, slet]
theorem Ii {c : Prop} [Decidable c] (x : Option (Value × St)) (f : Value → St → Prop) : alet (if c then x else none) f = (c ∧ alet x f) := by
  by_cases h : c <;> simp [h, alet]
theorem Br {c : Prop} [Decidable c] {α : Type} (x : Option α) (g : α → Value) (f : Value → Prop) : olet (Option.map g (if c then x else none)) f = (c ∧ olet (Option.map g x) f) := by
  by_cases h : c <;> simp [h, olet]
def atO (x : Option Oper) (f : Oper → Prop) : Prop :=
  match x with
  | none => False
  | some o => f o
@[congr] theorem Kv {x y : Option Oper} {f : Oper → Prop} (h : x = y) : atO x f = atO y f := by rw [h]
theorem FR (o : Oper) (f : Oper → Prop) : atO (some o) f = f o := (rfl)
theorem Ed (ops : Array Oper) (recs : List (Nat × (St → Prop))) : jy cx ops [] recs Q qp ρ st = Q .normal ρ st := (rfl)
theorem Bu (ops : Array Oper) (i : Nat) (kp : Bool) (pd : List Nat) (π : Plan) (recs : List (Nat × (St → Prop))) :
    jy cx ops ((i, kp, pd) :: π) recs Q qp ρ st = atO (ops[i]?) fun o => bQ cx ops o ρ st (fun V st' => gQ recs pd st' (jy cx ops π (bif kp then (i, yld cx ops o ρ V) :: recs else recs) Q qp (putO ρ o.dst V) st')) qp := by
  show (match ops[i]? with
    | none => False
    | some o => bQ cx ops o ρ st (fun V st' => gQ recs pd st' (jy cx ops π (bif kp then (i, yld cx ops o ρ V) :: recs else recs) Q qp (putO ρ o.dst V) st')) qp) = _
  cases ops[i]? <;> rfl
theorem Ee (recs : List (Nat × (St → Prop))) (x : Prop) : gQ recs [] st x = x := (rfl)
theorem Bv (recs : List (Nat × (St → Prop))) (i : Nat) (r : List Nat) (x : Prop) : gQ recs (i :: r) st x = (getR recs i st ∧ gQ recs r st x) := (rfl)
theorem Ef (j : Nat) (p : St → Prop) (r : List (Nat × (St → Prop))) (i : Nat) : getR ((j, p) :: r) i = if i = j then p else getR r i := (rfl)
@[congr] theorem JN {recs : List (Nat × (St → Prop))} {i : Nat} {st : St} : getR recs i st = getR recs i st := (rfl)
theorem Ij (ops : Array Oper) (o : Oper) (V : Value) (s : St) : yld cx ops o ρ V s = bQ cx ops o ρ s (fun V' s' => V' = V ∧ s' = s) (fun _ _ => False) := (rfl)
@[congr] theorem Kw {ops : Array Oper} {o : Oper} {V : Value} {s : St} : yld cx ops o ρ V s = yld cx ops o ρ V s := (rfl)
@[congr] theorem Jm {ops : Array Oper} {o : Oper} : bQ cx ops o ρ st k q = bQ cx ops o ρ st k q := (rfl)
theorem bI.of {ops : Array Oper} (π : Plan) (ks : List Nat) (un : List (Nat × Nat)) (h : (C9 ops && (π.length == ops.size) && okGo cx.P ops ks un π (Array.replicate ops.size false)) = true) (k : jy cx ops π [] Q qp ρ st) : bI cx (stop ops .mk) (stop Q .mk) (stop qp .mk) ρ st := by
  simp only [Bool.and_eq_true, beq_iff_eq] at h
  have hA := oK h.1.1 π _ [] ρ st h.2 (fun j _ => rfl) k
  rw [h.1.2] at hA
  exact ⟨_, _, hA⟩
theorem Ik (x : Operand) : abody cx (.move x) ρ st k q = olet (some (ev cx.G ρ x)) (stop (fun v => k v st) .mk) := (rfl)
theorem Eh (x : Operand) : abody cx (.assign x) ρ st k q = olet (some (ev cx.G ρ x)) (stop (fun v => k v st) .mk) := (rfl)
theorem Il (c a b : Operand) : abody cx (.pick c a b) ρ st k q = olet (rD (ev cx.G ρ c) (ev cx.G ρ a) (ev cx.G ρ b)) (stop (fun v => k v st) .mk) := dh _ _ _
theorem FT (t : TypeId) : abody cx (.alloc t) ρ st k q = alet (bV cx.P st t) (stop k .mk) := (rfl)
theorem JO (t : TypeId) (x : Operand) : abody cx (.box t x) ρ st k q = alet (abox st t (ev cx.G ρ x)) (stop k .mk) := (rfl)
theorem FU (t : TypeId) (ps : Array (Nat × Operand)) : abody cx (.build t ps) ρ st k q = olet (jh cx.P t (ps.toList.map fun p => (p.1, ev cx.G ρ p.2))) (stop (fun v => k v st) .mk) := dh _ _ _
theorem uP (t : TypeId) (n : Nat) (ps : Array (Nat × Operand)) : abody cx (.buildSlice t n ps) ρ st k q = alet (aG cx.P st t n (ps.toList.map fun p => (p.1, ev cx.G ρ p.2))) (stop k .mk) := (rfl)
theorem Im (t : TypeId) (a : Operand) : abody cx (.load t a) ρ st k q = olet (jL cx.P st t (ev cx.G ρ a)) (stop (fun v => k v st) .mk) := dh _ _ _
theorem FV (t : TypeId) (a x : Operand) : abody cx (.store t a x) ρ st k q = slet (jc cx.P st t (ev cx.G ρ a) (ev cx.G ρ x)) (stop (fun s => k undef s) .mk) := by
  show alet ((jc cx.P st t (ev cx.G ρ a) (ev cx.G ρ x)).map fun st' => (undef, st')) k = _
  cases jc cx.P st t (ev cx.G ρ a) (ev cx.G ρ x) <;> rfl
theorem zA (x : Operand) : abody cx (.nilCheck x) ρ st k q = olet (iA (ev cx.G ρ x)) (stop (fun v => k v st) .mk) := dh _ _ _
theorem FW (op : BinOp) (t : TypeId) (x y : Operand) (t2 : TypeId) : abody cx (.binOp op t x y t2) ρ st k q = olet (abin cx.P op t x y (ev cx.G ρ x) (ev cx.G ρ y)) (stop (fun v => k v st) .mk) := dh _ _ _
theorem Io (op : UnOp) (t : TypeId) (x : Operand) : abody cx (.unOp op t x) ρ st k q = olet (aun op (ev cx.G ρ x)) (stop (fun v => k v st) .mk) := dh _ _ _
theorem Bw (s d : TypeId) (x : Operand) : abody cx (.convert s d x) ρ st k q = alet (bA cx.P st s d (ev cx.G ρ x)) (stop k .mk) := (rfl)
theorem oN (t : TypeId) (x : Operand) : abody cx (.makeInterface t x) ρ st k q = olet (rC cx.P t (ev cx.G ρ x)) (stop (fun v => k v st) .mk) := dh _ _ _
theorem zB (n : Nat) (a b : Array Operand) : abody cx (.makeFunc (.func n) a b) ρ st k q = k (.func (.func n) (a.map (ev cx.G ρ)) (b.map (ev cx.G ρ))) st := (rfl)
theorem w9 (t : TypeId) (l c : Operand) : abody cx (.makeSlice t l c) ρ st k q = alet (ak cx.P st t (ev cx.G ρ l) (ev cx.G ρ c)) (stop k .mk) := (rfl)
theorem FX (t : TypeId) (x : Operand) (lo hi mx : Option Operand) : abody cx (.slice t x lo hi mx) ρ st k q = olet (aslice cx.P st t (ev cx.G ρ x) (lo.map (ev cx.G ρ)) (hi.map (ev cx.G ρ)) (mx.map (ev cx.G ρ))) (stop (fun v => k v st) .mk) := dh _ _ _
theorem xg (t : TypeId) (x : Operand) (f : Nat) : abody cx (.fieldAddr t x f) ρ st k q = olet (fA cx.P t (ev cx.G ρ x) f) (stop (fun v => k v st) .mk) := dh _ _ _
theorem FY (t : TypeId) (x : Operand) (f : Nat) : abody cx (.field t x f) ρ st k q = olet (oC cx.P t (ev cx.G ρ x) f) (stop (fun v => k v st) .mk) := dh _ _ _
theorem xk (t : TypeId) (x i : Operand) : abody cx (.indexAddr t x i) ρ st k q = olet (fB cx.P t (ev cx.G ρ x) (ev cx.G ρ i)) (stop (fun v => k v st) .mk) := dh _ _ _
theorem FZ (t : TypeId) (x i : Operand) : abody cx (.index t x i) ρ st k q = olet (iE cx.P t (ev cx.G ρ x) (ev cx.G ρ i)) (stop (fun v => k v st) .mk) := dh _ _ _
theorem Bz (x : Operand) (i : Nat) : abody cx (.extract x i) ρ st k q = olet (jw (ev cx.G ρ x) i) (stop (fun v => k v st) .mk) := dh _ _ _
theorem Ip (f : Operand) (args : Array Operand) (tys : Array TypeId) : abody cx (.call ⟨.value f, args, tys⟩) ρ st k q = fD cx (ev cx.G ρ f) (args.toList.map (ev cx.G ρ)) st (stop k .mk) (stop q .mk) := (rfl)
theorem JQ (args : Array Operand) (tys : Array TypeId) : abody cx (.call ⟨.builtin .len, args, tys⟩) ρ st k q = alet (bW cx.P st .len tys (args.toList.map (ev cx.G ρ))) (stop k .mk) := (rfl)
theorem JR (args : Array Operand) (tys : Array TypeId) : abody cx (.call ⟨.builtin .cap, args, tys⟩) ρ st k q = alet (bW cx.P st .cap tys (args.toList.map (ev cx.G ρ))) (stop k .mk) := (rfl)
theorem Iq (args : Array Operand) (tys : Array TypeId) : abody cx (.call ⟨.builtin .copy, args, tys⟩) ρ st k q = alet (bW cx.P st .copy tys (args.toList.map (ev cx.G ρ))) (stop k .mk) := (rfl)
theorem JU (args : Array Operand) (tys : Array TypeId) : abody cx (.call ⟨.builtin .max, args, tys⟩) ρ st k q = alet (bW cx.P st .max tys (args.toList.map (ev cx.G ρ))) (stop k .mk) := (rfl)
theorem JV (args : Array Operand) (tys : Array TypeId) : abody cx (.call ⟨.builtin .min, args, tys⟩) ρ st k q = alet (bW cx.P st .min tys (args.toList.map (ev cx.G ρ))) (stop k .mk) := (rfl)
theorem Ei (args : Array Operand) (t : TypeId) (l : List TypeId) (h : cx.ex t = false) : abody cx (.call ⟨.builtin .append, args, (t :: l).toArray⟩) ρ st k q = alet (bW cx.P st .append (t :: l).toArray (args.toList.map (ev cx.G ρ))) (stop k .mk) := by
  show ((cx.ex t = true ∧ vk (mZ cx.P st (t :: l).toArray (args.toList.map (ev cx.G ρ))) st k) ∨ alet (bW cx.P st .append (t :: l).toArray (args.toList.map (ev cx.G ρ))) k) = _
  rw [h]
  simp [stop]
theorem Ej (args : Array Operand) (tys : Array TypeId) : abody cx (.call ⟨.builtin .delete, args, tys⟩) ρ st k q = alet (dN cx.P st .delete tys (args.toList.map (ev cx.G ρ))) (stop k .mk) := (rfl)
theorem F3 (args : Array Operand) (tys : Array TypeId) : abody cx (.call ⟨.builtin .clear, args, tys⟩) ρ st k q = alet (dN cx.P st .clear tys (args.toList.map (ev cx.G ρ))) (stop k .mk) := (rfl)
theorem xq (args : Array Operand) (tys : Array TypeId) : abody cx (.call ⟨.builtin .unsafeSliceData, args, tys⟩) ρ st k q = alet (dN cx.P st .unsafeSliceData tys (args.toList.map (ev cx.G ρ))) (stop k .mk) := (rfl)
theorem qG (args : Array Operand) (tys : Array TypeId) : abody cx (.call ⟨.builtin .unsafeString, args, tys⟩) ρ st k q = alet (dN cx.P st .unsafeString tys (args.toList.map (ev cx.G ρ))) (stop k .mk) := (rfl)
theorem BA (t : TypeId) (r : Option Operand) : abody cx (.makeMap t r) ρ st k q = alet (jv cx.P st t (r.map (ev cx.G ρ))) (stop k .mk) := (rfl)
theorem El (t : TypeId) (x i : Operand) (ok : Bool) : abody cx (.lookup t x i ok) ρ st k q = olet (mW cx.P st t (ev cx.G ρ x) (ev cx.G ρ i) ok) (stop (fun v => k v st) .mk) := dh _ _ _
theorem xu (t : TypeId) (m kk v : Operand) : abody cx (.mapUpdate t m kk v) ρ st k q = slet (dU cx.P st t (ev cx.G ρ m) (ev cx.G ρ kk) (ev cx.G ρ v)) (stop (fun s => k undef s) .mk) := by
  show alet ((dU cx.P st t (ev cx.G ρ m) (ev cx.G ρ kk) (ev cx.G ρ v)).map fun st' => (undef, st')) k = _
  cases dU cx.P st t (ev cx.G ρ m) (ev cx.G ρ kk) (ev cx.G ρ v) <;> rfl
theorem F4 (x : Operand) : abody cx (.panic x) ρ st k q = jN (ev cx.G ρ x) st q := (rfl)
theorem JW (G t : Nat) : ev G ρ (.tmp t) = ρ t := (rfl)
theorem JX (G : Nat) (i : IntKind) (n : Int) : ev G ρ (.const (.int i n)) = .int i n := (rfl)
theorem Ir (G : Nat) (b : Bool) : ev G ρ (.const (.bool b)) = .bool b := (rfl)
theorem Em (G : Nat) (b : ByteArray) : ev G ρ (.const (.string b)) = .string b := (rfl)
theorem En (G : Nat) : ev G ρ (.const (.pointer none)) = .pointer none := (rfl)
theorem Eo (G : Nat) : ev G ρ (.const (.slice none 0 0)) = .slice none 0 0 := (rfl)
theorem zC (G : Nat) : ev G ρ (.const .nilIface) = .nilIface := (rfl)
theorem Iu (G f : Nat) : ev G ρ (.func f) = .func (.func f) #[] #[] := (rfl)
theorem Ep (d : Nat) (v : Value) (t : Nat) : put ρ d v t = if t = d then v else ρ t := (rfl)
theorem Er (d : Nat) (v : Value) : putO ρ (some d) v = put ρ d v := (rfl)
theorem Et (v : Value) : putO ρ none v = ρ := (rfl)
theorem Eu (a : Value) (l : List Value) : env0 (a :: l) 0 = a := (rfl)
theorem Ev (a : Value) (l : List Value) (n : Nat) : env0 (a :: l) (n + 1) = env0 l n := (rfl)
theorem Ew (g : Operand) (ps : Array Nat) (x y : Code) : awp cx (.rangeFunc g ps x y) Q qp ρ st = iI cx (ev cx.G ρ g) ps x y (stop Q .mk) (stop qp .mk) ρ st := (rfl)
theorem xw (B : Nat) (args : List Value) : fD cx (.func (.yield B) #[] #[]) args st k q = jM cx B args st k := (rfl)
theorem iI.enter {n : Nat} {fn : Func} {first captured : Array Value} {ps : Array Nat} {x y : Code} (hf : cx.P.funcs[n]? = some fn) (hb : fn.body.isSome = true) (hn : (fn.name == "runtime.NumGoroutine") = false)
    (h : ay cx n (first.toList ++ [.func (.yield st.n) #[] #[]] ++ captured.toList) (st.new (.loop ⟨ρ, ps, x, y, .ready, none⟩)) (fun _ st' => aend st.n Q ρ st' (st'.H st.n)) qp) : iI cx (.func (.func n) first captured) ps x y Q qp ρ st := ⟨⟨fn, hf, hb, hn⟩, h⟩
theorem Ey (n : Nat) (args : List Value) : fD cx (.func (.func n) #[] #[]) args st k q = au cx n args st k q := by
  show au cx n ([] ++ args ++ []) st k q = _
  simp
theorem au.enter {n : Nat} {fn : Func} {args : List Value} (hf : cx.P.funcs[n]? = some fn) (hb : fn.body.isSome = true) (hn : (fn.name == "runtime.NumGoroutine") = false) (h : ay cx n args st k q) : au cx n args st k q := .inl ⟨⟨fn, hf, hb, hn⟩, h⟩
theorem BD (b : Bool) (x y : Value) : rD (.bool b) x y = some (bif b then x else y) := (rfl)
theorem BF (P : Program) (t : TypeId) (B off : Nat) : jL P st t (.pointer (some ⟨B, off, none⟩)) = yY P st t B off := (rfl)
theorem zD (P : Program) (t : TypeId) (B off : Nat) (x : Value) : jc P st t (.pointer (some ⟨B, off, none⟩)) x = qX P st t B off x := (rfl)
theorem uQ (a : Addr) : iA (.pointer (some a)) = some (.pointer (some a)) := (rfl)
theorem F5 (B : Nat) (o : Option Ob) (b : Nat) : (st.set B o).H b = if b = B then o else st.H b := (rfl)
theorem KE (B : Nat) (o : Option Ob) : (st.set B o).n = st.n := (rfl)
theorem KF (o : Ob) : (st.new o).n = st.n + 1 := (rfl)
theorem BG (o : Ob) : (st.new o).H st.n = some o := by simp [St.new]
theorem KG (o : Ob) (b : Nat) : (st.new o).H b = if b = st.n then some o else st.H b := (rfl)
theorem Iw (o : Ob) {b : Nat} (h : b < st.n) : (st.new o).H b = st.H b := by
  show (if b = st.n then some o else st.H b) = _
  rw [if_neg (by omega)]
end
set_option linter.defProp false in
def GP := And.intro (And.intro (And.intro (And.intro (And.intro (And.intro @stop1 @KC) (And.intro (And.intro @KD @Ew) @Bp)) (And.intro (And.intro @FI @FJ) (And.intro @FK @FL))) (And.intro (And.intro (And.intro @Ic @FM) (And.intro @Eb @wY)) (And.intro (And.intro @Ec @Bq) (And.intro @qF @wZ)))) (And.intro (And.intro (And.intro (And.intro @uO @zw) (And.intro @FN @FP)) (And.intro (And.intro @Ie @FQ) (And.intro @JM @Ed))) (And.intro (And.intro (And.intro @Bu @Ee) (And.intro @Bv @Ij)) (And.intro (And.intro @FR @zx) (And.intro @zy @Ik))))) (And.intro (And.intro (And.intro (And.intro (And.intro @Eh @Il) (And.intro @FT @JO)) (And.intro (And.intro @FU @uP) (And.intro @Im @FV))) (And.intro (And.intro (And.intro @zA @FW) (And.intro @Io @Bw)) (And.intro (And.intro @oN @zB) (And.intro @w9 @FX)))) (And.intro (And.intro (And.intro (And.intro @xg @FY) (And.intro @xk @FZ)) (And.intro (And.intro @Bz @Ip) (And.intro @Ei @JQ))) (And.intro (And.intro (And.intro @JR @Iq) (And.intro @JU @JV)) (And.intro (And.intro @F4 @D8) (And.intro (And.intro @D9 @Ea) @Bl)))))
set_option linter.defProp false in
def GQ := And.intro (And.intro (And.intro (And.intro (And.intro (And.intro @Ef @Er) (And.intro @Et @Bool.or_false)) (And.intro (And.intro @Bool.false_or @JW) (And.intro @JX (And.intro @Ir @Em)))) (And.intro (And.intro (And.intro @En @Eo) (And.intro @zC (And.intro @Iu @Ep))) (And.intro (And.intro @Eu @Ev) (And.intro @D5 (And.intro @D6 @D7))))) (And.intro (And.intro (And.intro (And.intro (And.intro @Ey @xw) @BD) (And.intro @BF (And.intro @zD @uQ))) (And.intro (And.intro @wX @uN) (And.intro @zq (And.intro @List.set_cons_zero.{0} @List.set_cons_succ.{0})))) (And.intro (And.intro (And.intro @List.getElem?_cons_zero.{0} @List.getElem?_cons_succ.{0}) (And.intro @Nat.zero_add (And.intro @List.size_toArray.{0} @List.length_cons.{0}))) (And.intro (And.intro @List.length_nil.{0} @List.all_cons.{0}) (And.intro @List.all_nil.{0} (And.intro @Bool.and_true @Bool.and_self)))))) (And.intro (And.intro (And.intro (And.intro (And.intro @true_and @and_true) (And.intro @Bn (And.intro @Bo @zu))) (And.intro (And.intro @F5 @KE) (And.intro @KF (And.intro @KG @List.map_cons.{0, 0})))) (And.intro (And.intro (And.intro @List.map_nil.{0, 0} @Option.map_some.{0, 0}) (And.intro @Option.map_none.{0, 0} (And.intro @Nat.add_zero @and_self))) (And.intro (And.intro @Option.bind_some.{0, 0} @List.getElem?_toArray.{0}) (And.intro @List.cons_append.{0} (And.intro @List.nil_append.{0} @List.append_nil.{0}))))) (And.intro (And.intro (And.intro (And.intro @Ig @Ih) (And.intro @Ii (And.intro @Br @Int.toNat_natCast))) (And.intro (And.intro @not_true_eq_false @not_false_eq_true) (And.intro @false_implies (And.intro @true_implies @Bool.not_true)))) (And.intro (And.intro (And.intro @Bool.not_false @Nat.mul_one) (And.intro @List.getElem?_map.{0, 0} (And.intro @Option.isNone_some.{0} @Option.isNone_none.{0}))) (And.intro (And.intro @bne_self_eq_false.{0} @beq_self_eq_true.{0}) (And.intro @Int.cast_ofNat_Int (And.intro @Nat.zero_mul @Nat.sub_zero))))))
set_option linter.defProp false in
def GM := And.intro (And.intro (And.intro @Ej @F3) (And.intro @xq @qG)) (And.intro @BA (And.intro @El @xu))
end Go.Abs
