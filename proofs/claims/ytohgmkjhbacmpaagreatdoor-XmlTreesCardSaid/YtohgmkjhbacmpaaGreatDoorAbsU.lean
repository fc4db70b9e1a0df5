/- Rules for the walk over the abstract heap: what 'simp' is given. -/
import Derived.Test.YtohgmkjhbacmpaaGreatDoorAbsZ
set_option linter.unusedVariables false
set_option linter.unusedSimpArgs false
namespace Go.Abs
open Go.RowKit

/-- What simp is not to look into: a type that hangs on it stands behind it. -/
inductive Tag {α : Sort _} (x : α) : Type | mk
def stop {α : Sort _} (x : α) (t : Tag x) : α := x
theorem stop1 {α β : Type} (f : α → β) (a : α) : stop f .mk a = f a := (rfl)
theorem stop2 {α β γ : Type} (f : α → β → γ) (a : α) (b : β) : stop f .mk a b = f a b := (rfl)
theorem stop3 {α β γ δ : Type} (f : α → β → γ → δ) (a : α) (b : β) (c : γ) : stop f .mk a b c = f a b c := (rfl)
def olet (x : Option Value) (f : Value → Prop) : Prop :=
  match x with
  | some v => f v
  | none => False
def slet (x : Option St) (f : St → Prop) : Prop :=
  match x with
  | some v => f v
  | none => False
theorem olet_some (v : Value) (f : Value → Prop) : olet (some v) f = f v := (rfl)
theorem slet_some (v : St) (f : St → Prop) : slet (some v) f = f v := (rfl)
theorem alet_some (v : Value) (s : St) (f : Value → St → Prop) : alet (some (v, s)) f = f v s := (rfl)
theorem alet_map (x : Option Value) (st : St) (f : Value → St → Prop) : alet (x.map fun v => (v, st)) f = olet x fun v => f v st := by cases x <;> rfl
@[congr] theorem olet_congr {x y : Option Value} {f : Value → Prop} (h : x = y) : olet x f = olet y f := by rw [h]
@[congr] theorem slet_congr {x y : Option St} {f : St → Prop} (h : x = y) : slet x f = slet y f := by rw [h]
@[congr] theorem alet_congr {x y : Option (Value × St)} {f : Value → St → Prop} (h : x = y) : alet x f = alet y f := by rw [h]
@[congr] theorem acond_congr {v v' : Value} {b : Bool} {x y : Prop} (h : v = v') : acond v b x y = acond v' b x y := by rw [h]
@[congr] theorem abranch_congr {v v' : Value} {x y : Prop} (h : v = v') : abranch v x y = abranch v' x y := by rw [h]
@[congr] theorem acallV_congr {cx : Cx} {f f' : Value} {args args' : List Value} {st : St} {k q : Value → St → Prop} (h : f = f') (h' : args = args') : acallV cx f args st k q = acallV cx f' args' st k q := by rw [h, h']
@[congr] theorem ACallF_congr {cx : Cx} {f : Nat} {args args' : List Value} {st : St} {k q : Value → St → Prop} (h' : args = args') : ACallF cx f args st k q = ACallF cx f args' st k q := by rw [h']
@[congr] theorem AYield_congr {cx : Cx} {B : Nat} {args args' : List Value} {st : St} {k : Value → St → Prop} (h' : args = args') : AYield cx B args st k = AYield cx B args' st k := by rw [h']
@[congr] theorem arange_congr {cx : Cx} {g g' : Value} {ps : Array Nat} {x y : Code} {Q : Post} {q : PostP} {ρ : Env} {st : St} (h : g = g') : arange cx g ps x y Q q ρ st = arange cx g' ps x y Q q ρ st := by rw [h]
@[congr] theorem aops_congr {cx : Cx} {ops : Array Oper} {l : List Oper} {Q : Post} {q : PostP} {ρ : Env} {st : St} : aops cx ops l Q q ρ st = aops cx ops l Q q ρ st := (rfl)
@[congr] theorem awp_congr {cx : Cx} {c : Code} {Q : Post} {q : PostP} {ρ : Env} {st : St} : awp cx c Q q ρ st = awp cx c Q q ρ st := (rfl)
@[congr] theorem abody_congr' {cx : Cx} {o : Op} {k q : PostP} {ρ : Env} {st : St} : abody cx o ρ st k q = abody cx o ρ st k q := (rfl)
@[congr] theorem apend_congr {recs : List (Nat × (St → Prop))} {l : List Nat} {st : St} {x : Prop} : apend recs l st x = apend recs l st x := (rfl)
@[congr] theorem adraw_congr {cx : Cx} {ops : Array Oper} {π : Plan} {recs : List (Nat × (St → Prop))} {Q : Post} {q : PostP} {ρ : Env} {st : St} : adraw cx ops π recs Q q ρ st = adraw cx ops π recs Q q ρ st := (rfl)
@[congr] theorem ALoop_congr {F : Post → Env → St → Prop} {Q : Post} {ρ : Env} {st : St} : ALoop F Q ρ st = ALoop F Q ρ st := (rfl)
@[congr] theorem ADraw_congr {cx : Cx} {ops : Array Oper} {Q : Post} {q : PostP} {ρ : Env} {st : St} : ADraw cx ops Q q ρ st = ADraw cx ops Q q ρ st := (rfl)

section
variable {cx : Cx} {ρ : Env} {st : St} {k q : Value → St → Prop} {Q : Post} {qp : PostP}

theorem acond_yes (b : Bool) (x y : Prop) : acond (.bool b) b (stop x .mk) y = x := by simp [acond, stop]
theorem acond_no1 (x y : Prop) : acond (.bool true) false x (stop y .mk) = y := by simp [acond, stop]
theorem acond_no2 (x y : Prop) : acond (.bool false) true x (stop y .mk) = y := by simp [acond, stop]
theorem acond_skip (w : Bool) (x y : Prop) : acond skipV w (stop x .mk) (stop y .mk) = y := by cases w <;> simp [acond, stop, skipV]
theorem acond_dec (p : Prop) [Decidable p] (x y : Prop) : acond (.bool (decide p)) true (stop x .mk) (stop y .mk) = ((p → x) ∧ (¬ p → y)) := by simp [acond, stop]
theorem acond_decn (p : Prop) [Decidable p] (x y : Prop) : acond (.bool (decide p)) false (stop x .mk) (stop y .mk) = ((¬ p → x) ∧ (p → y)) := by simp [acond, stop]
theorem acond_eq (a b : Int) (x y : Prop) : acond (.bool (a == b)) true (stop x .mk) (stop y .mk) = ((a = b → x) ∧ (¬ a = b → y)) := by simp [acond, stop]
theorem acond_eqn (a b : Int) (x y : Prop) : acond (.bool (a == b)) false (stop x .mk) (stop y .mk) = ((¬ a = b → x) ∧ (a = b → y)) := by simp [acond, stop]
theorem acond_ne (a b : Int) (x y : Prop) : acond (.bool (a != b)) true (stop x .mk) (stop y .mk) = ((¬ a = b → x) ∧ (a = b → y)) := by simp [acond, stop]
theorem acond_nen (a b : Int) (x y : Prop) : acond (.bool (a != b)) false (stop x .mk) (stop y .mk) = ((a = b → x) ∧ (¬ a = b → y)) := by simp [acond, stop]
theorem abranch_true (x y : Prop) : abranch (.bool true) x y = x := by simp [abranch]
theorem abranch_false (x y : Prop) : abranch (.bool false) x y = y := by simp [abranch]
theorem abranch_dec (p : Prop) [Decidable p] (x y : Prop) : abranch (.bool (decide p)) x y = ((p → x) ∧ (¬ p → y)) := by simp [abranch]
theorem abranch_eq (a b : Int) (x y : Prop) : abranch (.bool (a == b)) x y = ((a = b → x) ∧ (¬ a = b → y)) := by simp [abranch]
theorem abranch_ne (a b : Int) (x y : Prop) : abranch (.bool (a != b)) x y = ((¬ a = b → x) ∧ (a = b → y)) := by simp [abranch]
theorem abranch_not (b : Bool) (x y : Prop) : abranch (.bool (!b)) x y = abranch (.bool b) y x := by cases b <;> simp [abranch]
theorem w_i64 {x : Int} (h : -9223372036854775808 ≤ x ∧ x ≤ 9223372036854775807) : IntKind.i64.wrap x = x := wrap_i64 h.1 h.2
theorem w_u8 {x : Int} (h : 0 ≤ x ∧ x ≤ 255) : IntKind.u8.wrap x = x := by
  simp [IntKind.wrap, IntKind.bits, IntKind.signed]; omega
theorem w_u32 {x : Int} (h : 0 ≤ x ∧ x ≤ 4294967295) : IntKind.u32.wrap x = x := by
  simp [IntKind.wrap, IntKind.bits, IntKind.signed]; omega
theorem abranch_of {b : Bool} {x y : Prop} (h1 : b = true → x) (h2 : b = false → y) : abranch (.bool b) x y := ⟨h1, h2⟩
theorem acond_of {b w : Bool} {x y : Prop} (h1 : b = w → x) (h2 : b = !w → y) : acond (.bool b) w x y := ⟨h1, h2⟩

theorem awp_region (i : Nat) (l : List Oper) : awp cx (.region i l.toArray false) Q qp ρ st = aops cx l.toArray l Q qp ρ st := (rfl)
theorem awp_draw (i : Nat) (ops : Array Oper) : awp cx (.region i ops true) Q qp ρ st = ADraw cx (stop ops .mk) (stop Q .mk) (stop qp .mk) ρ st := (rfl)
theorem awp_seq (x y : Code) : awp cx (.seq x y) Q qp ρ st = awp cx x (thenQ (fun ρ st => awp cx y Q qp ρ st) Q) qp ρ st := (rfl)
theorem awp_cond (c : Operand) (x y : Code) : awp cx (.cond c x y) Q qp ρ st = abranch (ev cx.G ρ c) (awp cx x Q qp ρ st) (awp cx y Q qp ρ st) := (rfl)
theorem awp_block (i : Nat) (c : Code) : awp cx (.block i c) Q qp ρ st = awp cx c (inBlockQ i Q) qp ρ st := (rfl)
theorem awp_loop (c : Code) : awp cx (.loop c) Q qp ρ st = ALoop (stop (fun Q ρ st => awp cx c Q qp ρ st) .mk) (stop Q .mk) ρ st := (rfl)
theorem awp_exit (i : Nat) : awp cx (.exit i) Q qp ρ st = Q (.exit i) ρ st := (rfl)
theorem awp_ret : awp cx .ret Q qp ρ st = Q .ret ρ st := (rfl)
theorem awp_skip : awp cx .skip Q qp ρ st = Q .normal ρ st := (rfl)
theorem awp_label (l : Nat) : awp cx (.label l) Q qp ρ st = Q .normal ρ st := (rfl)
theorem thenQ_normal (n : Env → St → Prop) : thenQ n Q .normal ρ st = n ρ st := (rfl)
theorem thenQ_ret (n : Env → St → Prop) : thenQ n Q .ret ρ st = Q .ret ρ st := (rfl)
theorem thenQ_exit (n : Env → St → Prop) (i : Nat) : thenQ n Q (.exit i) ρ st = Q (.exit i) ρ st := (rfl)
theorem inBlockQ_normal (i : Nat) : inBlockQ i Q .normal ρ st = Q .normal ρ st := (rfl)
theorem inBlockQ_ret (i : Nat) : inBlockQ i Q .ret ρ st = Q .ret ρ st := (rfl)
theorem inBlockQ_exit (i j : Nat) : inBlockQ i Q (.exit j) ρ st = if j = i then Q .normal ρ st else Q (.exit j) ρ st := (rfl)
theorem retQ_normal (P : Program) (rs : Array ResultVar) : retQ P rs k .normal ρ st = olet (ares P rs ρ st) (stop (fun v => k v st) .mk) := by
  unfold retQ olet; rfl
theorem retQ_ret (P : Program) (rs : Array ResultVar) : retQ P rs k .ret ρ st = olet (ares P rs ρ st) (stop (fun v => k v st) .mk) := by
  unfold retQ olet; rfl
theorem aops_nil (ops : Array Oper) : aops cx ops [] Q qp ρ st = Q .normal ρ st := (rfl)
theorem aops_cons (ops : Array Oper) (o : Oper) (r : List Oper) : aops cx ops (o :: r) Q qp ρ st = aexec cx ops o ρ st (fun V st' => aops cx ops r Q qp (putO ρ o.dst V) st') qp := (rfl)
theorem aops_op (ops : Array Oper) (d : Nat) (op : Op) (ty : TypeId) (pos : String) (aft : Array Edge) (r : List Oper) :
    aops cx ops (⟨some d, op, ty, pos, aft, none⟩ :: r) Q qp ρ st = abody cx op ρ st (fun V st' => aops cx ops r Q qp (put ρ d V) st') qp := (rfl)
theorem aops_op0 (ops : Array Oper) (op : Op) (ty : TypeId) (pos : String) (aft : Array Edge) (r : List Oper) :
    aops cx ops (⟨none, op, ty, pos, aft, none⟩ :: r) Q qp ρ st = abody cx op ρ st (fun V st' => aops cx ops r Q qp ρ st') qp := (rfl)
/-- The slot that an operation's guard looks at. -/
def gsl (ops : Array Oper) (g : Nat) : Option Nat := (ops[g]?).bind (·.dst)
theorem aops_g (ops : Array Oper) (d : Nat) (op : Op) (ty : TypeId) (pos : String) (aft : Array Edge) (g : Nat) (w : Bool) (r : List Oper) :
    aops cx ops (⟨some d, op, ty, pos, aft, some (g, w)⟩ :: r) Q qp ρ st = olet ((gsl ops g).map ρ) (stop (fun v => acond v w (stop (abody cx op ρ st (fun V st' => aops cx ops r Q qp (put ρ d V) st') qp) .mk) (stop (aops cx ops r Q qp (put ρ d skipV) st) .mk)) .mk) := by
  show aexec cx ops _ ρ st _ qp = _
  unfold aexec aguard gsl
  simp only
  cases (ops[g]?).bind (·.dst) <;> rfl
theorem aexec_plain (ops : Array Oper) (dst : Option Nat) (op : Op) (ty : TypeId) (pos : String) (aft : Array Edge) :
    aexec cx ops ⟨dst, op, ty, pos, aft, none⟩ ρ st k q = abody cx op ρ st k q := (rfl)
theorem aexec_guard (ops : Array Oper) (dst : Option Nat) (op : Op) (ty : TypeId) (pos : String) (aft : Array Edge) (g : Nat) (w : Bool) :
    aexec cx ops ⟨dst, op, ty, pos, aft, some (g, w)⟩ ρ st k q = olet (((ops[g]?).bind (·.dst)).map ρ) (stop (fun v => acond v w (stop (abody cx op ρ st k q) .mk) (stop (k skipV st) .mk)) .mk) := by
  unfold aexec aguard
  simp only
  cases (ops[g]?).bind (·.dst) <;> rfl

theorem olet_if {c : Prop} [Decidable c] (x : Option Value) (f : Value → Prop) : olet (if c then x else none) f = (c ∧ olet x f) := by
  by_cases h : c <;> simp [h, olet]
theorem slet_if {c : Prop} [Decidable c] (x : Option St) (f : St → Prop) : slet (if c then x else none) f = (c ∧ slet x f) := by
  by_cases h : c <;> simp [h, slet]
theorem alet_if {c : Prop} [Decidable c] (x : Option (Value × St)) (f : Value → St → Prop) : alet (if c then x else none) f = (c ∧ alet x f) := by
  by_cases h : c <;> simp [h, alet]
theorem olet_mapif {c : Prop} [Decidable c] {α : Type} (x : Option α) (g : α → Value) (f : Value → Prop) : olet (Option.map g (if c then x else none)) f = (c ∧ olet (Option.map g x) f) := by
  by_cases h : c <;> simp [h, olet]
/-- What lies at a place. -/
def atO (x : Option Oper) (f : Oper → Prop) : Prop :=
  match x with
  | none => False
  | some o => f o
@[congr] theorem atO_congr {x y : Option Oper} {f : Oper → Prop} (h : x = y) : atO x f = atO y f := by rw [h]
theorem atO_some (o : Oper) (f : Oper → Prop) : atO (some o) f = f o := (rfl)
theorem adraw_nil (ops : Array Oper) (recs : List (Nat × (St → Prop))) : adraw cx ops [] recs Q qp ρ st = Q .normal ρ st := (rfl)
theorem adraw_cons (ops : Array Oper) (i : Nat) (kp : Bool) (pd : List Nat) (π : Plan) (recs : List (Nat × (St → Prop))) :
    adraw cx ops ((i, kp, pd) :: π) recs Q qp ρ st = atO (ops[i]?) fun o => aexec cx ops o ρ st (fun V st' => apend recs pd st' (adraw cx ops π (bif kp then (i, yld cx ops o ρ V) :: recs else recs) Q qp (putO ρ o.dst V) st')) qp := by
  show (match ops[i]? with
    | none => False
    | some o => aexec cx ops o ρ st (fun V st' => apend recs pd st' (adraw cx ops π (bif kp then (i, yld cx ops o ρ V) :: recs else recs) Q qp (putO ρ o.dst V) st')) qp) = _
  cases ops[i]? <;> rfl
theorem apend_nil (recs : List (Nat × (St → Prop))) (x : Prop) : apend recs [] st x = x := (rfl)
theorem apend_cons (recs : List (Nat × (St → Prop))) (i : Nat) (r : List Nat) (x : Prop) : apend recs (i :: r) st x = (getR recs i st ∧ apend recs r st x) := (rfl)
theorem getR_cons (j : Nat) (p : St → Prop) (r : List (Nat × (St → Prop))) (i : Nat) : getR ((j, p) :: r) i = if i = j then p else getR r i := (rfl)
@[congr] theorem getR_congr {recs : List (Nat × (St → Prop))} {i : Nat} {st : St} : getR recs i st = getR recs i st := (rfl)
theorem yld_def (ops : Array Oper) (o : Oper) (V : Value) (s : St) : yld cx ops o ρ V s = aexec cx ops o ρ s (fun V' s' => V' = V ∧ s' = s) (fun _ _ => False) := (rfl)
@[congr] theorem yld_congr {ops : Array Oper} {o : Oper} {V : Value} {s : St} : yld cx ops o ρ V s = yld cx ops o ρ V s := (rfl)
@[congr] theorem aexec_congr {ops : Array Oper} {o : Oper} : aexec cx ops o ρ st k q = aexec cx ops o ρ st k q := (rfl)
theorem ADraw.of {ops : Array Oper} (π : Plan) (ks : List Nat) (un : List (Nat × Nat)) (h : (noSel ops && (π.length == ops.size) && okGo cx.P ops ks un π (Array.replicate ops.size false)) = true) (k : adraw cx ops π [] Q qp ρ st) : ADraw cx (stop ops .mk) (stop Q .mk) (stop qp .mk) ρ st := by
  simp only [Bool.and_eq_true, beq_iff_eq] at h
  have hA := adraw_any h.1.1 π _ [] ρ st h.2 (fun j _ => rfl) k
  rw [h.1.2] at hA
  exact ⟨_, _, hA⟩

theorem ab_move (x : Operand) : abody cx (.move x) ρ st k q = olet (some (ev cx.G ρ x)) (stop (fun v => k v st) .mk) := (rfl)
theorem ab_assign (x : Operand) : abody cx (.assign x) ρ st k q = olet (some (ev cx.G ρ x)) (stop (fun v => k v st) .mk) := (rfl)
theorem ab_pick (c a b : Operand) : abody cx (.pick c a b) ρ st k q = olet (apick (ev cx.G ρ c) (ev cx.G ρ a) (ev cx.G ρ b)) (stop (fun v => k v st) .mk) := alet_map _ _ _
theorem ab_alloc (t : TypeId) : abody cx (.alloc t) ρ st k q = alet (aalloc cx.P st t) (stop k .mk) := (rfl)
theorem ab_box (t : TypeId) (x : Operand) : abody cx (.box t x) ρ st k q = alet (abox st t (ev cx.G ρ x)) (stop k .mk) := (rfl)
theorem ab_build (t : TypeId) (ps : Array (Nat × Operand)) : abody cx (.build t ps) ρ st k q = olet (abuild cx.P t (ps.toList.map fun p => (p.1, ev cx.G ρ p.2))) (stop (fun v => k v st) .mk) := alet_map _ _ _
theorem ab_buildSlice (t : TypeId) (n : Nat) (ps : Array (Nat × Operand)) : abody cx (.buildSlice t n ps) ρ st k q = alet (abuildSlice cx.P st t n (ps.toList.map fun p => (p.1, ev cx.G ρ p.2))) (stop k .mk) := (rfl)
theorem ab_load (t : TypeId) (a : Operand) : abody cx (.load t a) ρ st k q = olet (aloadV cx.P st t (ev cx.G ρ a)) (stop (fun v => k v st) .mk) := alet_map _ _ _
theorem ab_store (t : TypeId) (a x : Operand) : abody cx (.store t a x) ρ st k q = slet (astoreV cx.P st t (ev cx.G ρ a) (ev cx.G ρ x)) (stop (fun s => k undef s) .mk) := by
  show alet ((astoreV cx.P st t (ev cx.G ρ a) (ev cx.G ρ x)).map fun st' => (undef, st')) k = _
  cases astoreV cx.P st t (ev cx.G ρ a) (ev cx.G ρ x) <;> rfl
theorem ab_nilCheck (x : Operand) : abody cx (.nilCheck x) ρ st k q = olet (anilCheck (ev cx.G ρ x)) (stop (fun v => k v st) .mk) := alet_map _ _ _
theorem ab_binOp (op : BinOp) (t : TypeId) (x y : Operand) (t2 : TypeId) : abody cx (.binOp op t x y t2) ρ st k q = olet (abin cx.P op t x y (ev cx.G ρ x) (ev cx.G ρ y)) (stop (fun v => k v st) .mk) := alet_map _ _ _
theorem ab_unOp (op : UnOp) (t : TypeId) (x : Operand) : abody cx (.unOp op t x) ρ st k q = olet (aun op (ev cx.G ρ x)) (stop (fun v => k v st) .mk) := alet_map _ _ _
theorem ab_convert (s d : TypeId) (x : Operand) : abody cx (.convert s d x) ρ st k q = alet (aconv cx.P st s d (ev cx.G ρ x)) (stop k .mk) := (rfl)
theorem ab_makeInterface (t : TypeId) (x : Operand) : abody cx (.makeInterface t x) ρ st k q = olet (aiface cx.P t (ev cx.G ρ x)) (stop (fun v => k v st) .mk) := alet_map _ _ _
theorem ab_makeFunc (n : Nat) (a b : Array Operand) : abody cx (.makeFunc (.func n) a b) ρ st k q = k (.func (.func n) (a.map (ev cx.G ρ)) (b.map (ev cx.G ρ))) st := (rfl)
theorem ab_makeSlice (t : TypeId) (l c : Operand) : abody cx (.makeSlice t l c) ρ st k q = alet (amake cx.P st t (ev cx.G ρ l) (ev cx.G ρ c)) (stop k .mk) := (rfl)
theorem ab_slice (t : TypeId) (x : Operand) (lo hi mx : Option Operand) : abody cx (.slice t x lo hi mx) ρ st k q = olet (aslice cx.P st t (ev cx.G ρ x) (lo.map (ev cx.G ρ)) (hi.map (ev cx.G ρ)) (mx.map (ev cx.G ρ))) (stop (fun v => k v st) .mk) := alet_map _ _ _
theorem ab_fieldAddr (t : TypeId) (x : Operand) (f : Nat) : abody cx (.fieldAddr t x f) ρ st k q = olet (afieldAddr cx.P t (ev cx.G ρ x) f) (stop (fun v => k v st) .mk) := alet_map _ _ _
theorem ab_field (t : TypeId) (x : Operand) (f : Nat) : abody cx (.field t x f) ρ st k q = olet (afield cx.P t (ev cx.G ρ x) f) (stop (fun v => k v st) .mk) := alet_map _ _ _
theorem ab_indexAddr (t : TypeId) (x i : Operand) : abody cx (.indexAddr t x i) ρ st k q = olet (aindexAddr cx.P t (ev cx.G ρ x) (ev cx.G ρ i)) (stop (fun v => k v st) .mk) := alet_map _ _ _
theorem ab_index (t : TypeId) (x i : Operand) : abody cx (.index t x i) ρ st k q = olet (aindex cx.P t (ev cx.G ρ x) (ev cx.G ρ i)) (stop (fun v => k v st) .mk) := alet_map _ _ _
theorem ab_extract (x : Operand) (i : Nat) : abody cx (.extract x i) ρ st k q = olet (aextract (ev cx.G ρ x) i) (stop (fun v => k v st) .mk) := alet_map _ _ _
theorem ab_call (f : Operand) (args : Array Operand) (tys : Array TypeId) : abody cx (.call ⟨.value f, args, tys⟩) ρ st k q = acallV cx (ev cx.G ρ f) (args.toList.map (ev cx.G ρ)) st (stop k .mk) (stop q .mk) := (rfl)
theorem ab_len (args : Array Operand) (tys : Array TypeId) : abody cx (.call ⟨.builtin .len, args, tys⟩) ρ st k q = alet (abuiltin cx.P st .len tys (args.toList.map (ev cx.G ρ))) (stop k .mk) := (rfl)
theorem ab_cap (args : Array Operand) (tys : Array TypeId) : abody cx (.call ⟨.builtin .cap, args, tys⟩) ρ st k q = alet (abuiltin cx.P st .cap tys (args.toList.map (ev cx.G ρ))) (stop k .mk) := (rfl)
theorem ab_copy (args : Array Operand) (tys : Array TypeId) : abody cx (.call ⟨.builtin .copy, args, tys⟩) ρ st k q = alet (abuiltin cx.P st .copy tys (args.toList.map (ev cx.G ρ))) (stop k .mk) := (rfl)
theorem ab_max (args : Array Operand) (tys : Array TypeId) : abody cx (.call ⟨.builtin .max, args, tys⟩) ρ st k q = alet (abuiltin cx.P st .max tys (args.toList.map (ev cx.G ρ))) (stop k .mk) := (rfl)
theorem ab_min (args : Array Operand) (tys : Array TypeId) : abody cx (.call ⟨.builtin .min, args, tys⟩) ρ st k q = alet (abuiltin cx.P st .min tys (args.toList.map (ev cx.G ρ))) (stop k .mk) := (rfl)
theorem ab_append (args : Array Operand) (t : TypeId) (l : List TypeId) (h : cx.ex t = false) : abody cx (.call ⟨.builtin .append, args, (t :: l).toArray⟩) ρ st k q = alet (abuiltin cx.P st .append (t :: l).toArray (args.toList.map (ev cx.G ρ))) (stop k .mk) := by
  show ((cx.ex t = true ∧ aroom (agrownL cx.P st (t :: l).toArray (args.toList.map (ev cx.G ρ))) st k) ∨ alet (abuiltin cx.P st .append (t :: l).toArray (args.toList.map (ev cx.G ρ))) k) = _
  rw [h]
  simp [stop]
theorem ab_appendX (args : Array Operand) (t : TypeId) (l : List TypeId) (h : cx.ex t = true) : abody cx (.call ⟨.builtin .append, args, (t :: l).toArray⟩) ρ st k q = (aroom (agrownL cx.P st (t :: l).toArray (args.toList.map (ev cx.G ρ))) st (stop k .mk) ∨ alet (abuiltin cx.P st .append (t :: l).toArray (args.toList.map (ev cx.G ρ))) (stop k .mk)) := by
  show ((cx.ex t = true ∧ aroom (agrownL cx.P st (t :: l).toArray (args.toList.map (ev cx.G ρ))) st k) ∨ alet (abuiltin cx.P st .append (t :: l).toArray (args.toList.map (ev cx.G ρ))) k) = _
  rw [h]
  simp [stop]
theorem aroom_some (e : TypeId) (need : Nat) (cs z : List Value) (f : Value → St → Prop) : aroom (some (e, need, cs, z)) st (stop f .mk) = ∀ c, need ≤ c → f (.slice (some ⟨st.n, 0, none⟩) need c) (st.new (.cells (cs ++ zeros z (c - need)) e true)) := (rfl)
theorem ab_delete (args : Array Operand) (tys : Array TypeId) : abody cx (.call ⟨.builtin .delete, args, tys⟩) ρ st k q = alet (abuiltinX cx.P st .delete tys (args.toList.map (ev cx.G ρ))) (stop k .mk) := (rfl)
theorem ab_clear (args : Array Operand) (tys : Array TypeId) : abody cx (.call ⟨.builtin .clear, args, tys⟩) ρ st k q = alet (abuiltinX cx.P st .clear tys (args.toList.map (ev cx.G ρ))) (stop k .mk) := (rfl)
theorem ab_sliceData (args : Array Operand) (tys : Array TypeId) : abody cx (.call ⟨.builtin .unsafeSliceData, args, tys⟩) ρ st k q = alet (abuiltinX cx.P st .unsafeSliceData tys (args.toList.map (ev cx.G ρ))) (stop k .mk) := (rfl)
theorem ab_unsafeString (args : Array Operand) (tys : Array TypeId) : abody cx (.call ⟨.builtin .unsafeString, args, tys⟩) ρ st k q = alet (abuiltinX cx.P st .unsafeString tys (args.toList.map (ev cx.G ρ))) (stop k .mk) := (rfl)
theorem ab_makeMap (t : TypeId) (r : Option Operand) : abody cx (.makeMap t r) ρ st k q = alet (amakeMap cx.P st t (r.map (ev cx.G ρ))) (stop k .mk) := (rfl)
theorem ab_lookup (t : TypeId) (x i : Operand) (ok : Bool) : abody cx (.lookup t x i ok) ρ st k q = olet (alookup cx.P st t (ev cx.G ρ x) (ev cx.G ρ i) ok) (stop (fun v => k v st) .mk) := alet_map _ _ _
theorem ab_mapUpdate (t : TypeId) (m kk v : Operand) : abody cx (.mapUpdate t m kk v) ρ st k q = slet (amapUpdate cx.P st t (ev cx.G ρ m) (ev cx.G ρ kk) (ev cx.G ρ v)) (stop (fun s => k undef s) .mk) := by
  show alet ((amapUpdate cx.P st t (ev cx.G ρ m) (ev cx.G ρ kk) (ev cx.G ρ v)).map fun st' => (undef, st')) k = _
  cases amapUpdate cx.P st t (ev cx.G ρ m) (ev cx.G ρ kk) (ev cx.G ρ v) <;> rfl
theorem ab_panic (x : Operand) : abody cx (.panic x) ρ st k q = apanic (ev cx.G ρ x) st q := (rfl)

theorem ev_tmp (G t : Nat) : ev G ρ (.tmp t) = ρ t := (rfl)
theorem ev_int (G : Nat) (i : IntKind) (n : Int) : ev G ρ (.const (.int i n)) = .int i n := (rfl)
theorem ev_bool (G : Nat) (b : Bool) : ev G ρ (.const (.bool b)) = .bool b := (rfl)
theorem ev_string (G : Nat) (b : ByteArray) : ev G ρ (.const (.string b)) = .string b := (rfl)
theorem ev_nilptr (G : Nat) : ev G ρ (.const (.pointer none)) = .pointer none := (rfl)
theorem ev_nilslc (G : Nat) : ev G ρ (.const (.slice none 0 0)) = .slice none 0 0 := (rfl)
theorem ev_nilIface (G : Nat) : ev G ρ (.const .nilIface) = .nilIface := (rfl)
theorem ev_func (G f : Nat) : ev G ρ (.func f) = .func (.func f) #[] #[] := (rfl)
theorem put_apply (d : Nat) (v : Value) (t : Nat) : put ρ d v t = if t = d then v else ρ t := (rfl)
theorem putO_some (d : Nat) (v : Value) : putO ρ (some d) v = put ρ d v := (rfl)
theorem putO_none (v : Value) : putO ρ none v = ρ := (rfl)
theorem env0_zero (a : Value) (l : List Value) : env0 (a :: l) 0 = a := (rfl)
theorem env0_succ (a : Value) (l : List Value) (n : Nat) : env0 (a :: l) (n + 1) = env0 l n := (rfl)
theorem awp_range (g : Operand) (ps : Array Nat) (x y : Code) : awp cx (.rangeFunc g ps x y) Q qp ρ st = arange cx (ev cx.G ρ g) ps x y (stop Q .mk) (stop qp .mk) ρ st := (rfl)
theorem acallV_yield (B : Nat) (args : List Value) : acallV cx (.func (.yield B) #[] #[]) args st k q = AYield cx B args st k := (rfl)
theorem arange.enter {n : Nat} {fn : Func} {first captured : Array Value} {ps : Array Nat} {x y : Code} (hf : cx.P.funcs[n]? = some fn) (hb : fn.body.isSome = true) (hn : (fn.name == "runtime.NumGoroutine") = false)
    (h : ACall cx n (first.toList ++ [.func (.yield st.n) #[] #[]] ++ captured.toList) (st.new (.loop ⟨ρ, ps, x, y, .ready, none⟩)) (fun _ st' => aend st.n Q ρ st' (st'.H st.n)) qp) : arange cx (.func (.func n) first captured) ps x y Q qp ρ st := ⟨⟨fn, hf, hb, hn⟩, h⟩
theorem acallV_fn (n : Nat) (args : List Value) : acallV cx (.func (.func n) #[] #[]) args st k q = ACallF cx n args st k q := by
  show ACallF cx n ([] ++ args ++ []) st k q = _
  simp
theorem ACallF.enter {n : Nat} {fn : Func} {args : List Value} (hf : cx.P.funcs[n]? = some fn) (hb : fn.body.isSome = true) (hn : (fn.name == "runtime.NumGoroutine") = false) (h : ACall cx n args st k q) : ACallF cx n args st k q := .inl ⟨⟨fn, hf, hb, hn⟩, h⟩

theorem apick_bool (b : Bool) (x y : Value) : apick (.bool b) x y = some (bif b then x else y) := (rfl)
theorem aloadV_ptr (P : Program) (t : TypeId) (B off : Nat) : aloadV P st t (.pointer (some ⟨B, off, none⟩)) = aload P st t B off := (rfl)
theorem astoreV_ptr (P : Program) (t : TypeId) (B off : Nat) (x : Value) : astoreV P st t (.pointer (some ⟨B, off, none⟩)) x = astore P st t B off x := (rfl)
theorem anilCheck_ptr (a : Addr) : anilCheck (.pointer (some a)) = some (.pointer (some a)) := (rfl)
theorem set_H (B : Nat) (o : Option Ob) (b : Nat) : (st.set B o).H b = if b = B then o else st.H b := (rfl)
theorem set_n (B : Nat) (o : Option Ob) : (st.set B o).n = st.n := (rfl)
theorem new_n (o : Ob) : (st.new o).n = st.n + 1 := (rfl)
theorem new_at (o : Ob) : (st.new o).H st.n = some o := by simp [St.new]
theorem new_H (o : Ob) (b : Nat) : (st.new o).H b = if b = st.n then some o else st.H b := (rfl)
theorem new_old (o : Ob) {b : Nat} (h : b < st.n) : (st.new o).H b = st.H b := by
  show (if b = st.n then some o else st.H b) = _
  rw [if_neg (by omega)]
theorem u8_wrap {x : Int} (h : 0 ≤ x) (h' : x ≤ 255) : IntKind.u8.wrap x = x := by
  simp [IntKind.wrap, IntKind.bits, IntKind.signed]; omega
end

/-- What a program's types are, as the walk asks it. -/
structure Ty (P : Program) (t : TypeId) (d : TypeDesc) (n b : Nat) (z : List Value) : Prop where
  u : P.underlying t = some d
  s : asz P t = some n
  b : abytes P t = some b
  z : azc P t = some z
-- What a walk rewrites with, ahead of what lies within.
set_option linter.defProp false in
def GP := And.intro (And.intro (And.intro (And.intro (And.intro (And.intro @stop1 @stop2) (And.intro (And.intro @stop3 @awp_range) @awp_region)) (And.intro (And.intro @awp_draw @awp_cond) (And.intro @awp_loop @awp_exit))) (And.intro (And.intro (And.intro @awp_ret @awp_skip) (And.intro @awp_label @thenQ_normal)) (And.intro (And.intro @thenQ_ret @thenQ_exit) (And.intro @inBlockQ_normal @inBlockQ_ret)))) (And.intro (And.intro (And.intro (And.intro @inBlockQ_exit @retQ_normal) (And.intro @retQ_ret @aops_nil)) (And.intro (And.intro @aops_op @aops_op0) (And.intro @aops_g @adraw_nil))) (And.intro (And.intro (And.intro @adraw_cons @apend_nil) (And.intro @apend_cons @yld_def)) (And.intro (And.intro @atO_some @aexec_plain) (And.intro @aexec_guard @ab_move))))) (And.intro (And.intro (And.intro (And.intro (And.intro @ab_assign @ab_pick) (And.intro @ab_alloc @ab_box)) (And.intro (And.intro @ab_build @ab_buildSlice) (And.intro @ab_load @ab_store))) (And.intro (And.intro (And.intro @ab_nilCheck @ab_binOp) (And.intro @ab_unOp @ab_convert)) (And.intro (And.intro @ab_makeInterface @ab_makeFunc) (And.intro @ab_makeSlice @ab_slice)))) (And.intro (And.intro (And.intro (And.intro @ab_fieldAddr @ab_field) (And.intro @ab_indexAddr @ab_index)) (And.intro (And.intro @ab_extract @ab_call) (And.intro @ab_append @ab_len))) (And.intro (And.intro (And.intro @ab_cap @ab_copy) (And.intro @ab_max @ab_min)) (And.intro (And.intro @ab_panic @acond_yes) (And.intro (And.intro @acond_no1 @acond_no2) @acond_skip)))))
-- .. and behind it.
set_option linter.defProp false in
def GQ := And.intro (And.intro (And.intro (And.intro (And.intro (And.intro @getR_cons @putO_some) (And.intro @putO_none @Bool.or_false)) (And.intro (And.intro @Bool.false_or @ev_tmp) (And.intro @ev_int (And.intro @ev_bool @ev_string)))) (And.intro (And.intro (And.intro @ev_nilptr @ev_nilslc) (And.intro @ev_nilIface (And.intro @ev_func @put_apply))) (And.intro (And.intro @env0_zero @env0_succ) (And.intro @olet_some (And.intro @slet_some @alet_some))))) (And.intro (And.intro (And.intro (And.intro (And.intro @acallV_fn @acallV_yield) @apick_bool) (And.intro @aloadV_ptr (And.intro @astoreV_ptr @anilCheck_ptr))) (And.intro (And.intro @abranch_true @abranch_false) (And.intro @abranch_dec (And.intro @List.set_cons_zero.{0} @List.set_cons_succ.{0})))) (And.intro (And.intro (And.intro @List.getElem?_cons_zero.{0} @List.getElem?_cons_succ.{0}) (And.intro @Nat.zero_add (And.intro @List.size_toArray.{0} @List.length_cons.{0}))) (And.intro (And.intro @List.length_nil.{0} @List.all_cons.{0}) (And.intro @List.all_nil.{0} (And.intro @Bool.and_true @Bool.and_self)))))) (And.intro (And.intro (And.intro (And.intro (And.intro @true_and @and_true) (And.intro @abranch_eq (And.intro @abranch_ne @abranch_not))) (And.intro (And.intro @set_H @set_n) (And.intro @new_n (And.intro @new_H @List.map_cons.{0, 0})))) (And.intro (And.intro (And.intro @List.map_nil.{0, 0} @Option.map_some.{0, 0}) (And.intro @Option.map_none.{0, 0} (And.intro @Nat.add_zero @and_self))) (And.intro (And.intro @Option.bind_some.{0, 0} @List.getElem?_toArray.{0}) (And.intro @List.cons_append.{0} (And.intro @List.nil_append.{0} @List.append_nil.{0}))))) (And.intro (And.intro (And.intro (And.intro @olet_if @slet_if) (And.intro @alet_if (And.intro @olet_mapif @Int.toNat_natCast))) (And.intro (And.intro @not_true_eq_false @not_false_eq_true) (And.intro @false_implies (And.intro @true_implies @Bool.not_true)))) (And.intro (And.intro (And.intro @Bool.not_false @Nat.mul_one) (And.intro @List.getElem?_map.{0, 0} (And.intro @Option.isNone_some.{0} @Option.isNone_none.{0}))) (And.intro (And.intro @bne_self_eq_false.{0} @beq_self_eq_true.{0}) (And.intro @Int.cast_ofNat_Int (And.intro @Nat.zero_mul @Nat.sub_zero))))))
-- .. of maps and texts.
set_option linter.defProp false in
def GM := And.intro (And.intro (And.intro @ab_delete @ab_clear) (And.intro @ab_sliceData @ab_unsafeString)) (And.intro @ab_makeMap (And.intro @ab_lookup @ab_mapUpdate))
end Go.Abs
