/- Regions whose order is open: one order is enough. -/
import Derived.Test.YtigjbehgfjjlkaaGreatDoorAbsW
set_option linter.unusedVariables false
set_option linter.unusedSimpArgs false
namespace Go.Abs
open Go.RowKit
def isR (P : Program) : Op → Bool
  | .move _ | .assign _ | .pick .. | .build .. | .load .. | .nilCheck _ | .binOp .. | .unOp .. | .makeInterface .. | .makeFunc .. | .slice .. | .fieldAddr .. | .field .. | .indexAddr .. | .index .. | .extract .. | .lookup .. => true
  | .call { callee := .builtin b, .. } => match b with
    | .len | .cap | .max | .min => true
    | _ => false
  | .convert _ d _ => match P.underlying d with
    | some (.slice _) => false
    | _ => true
  | _ => false
def isH (P : Program) : Op → Bool
  | .load .. | .slice .. | .lookup .. => true
  | .call _ => true
  | .convert s _ _ => match P.underlying s with
    | some (.slice _) | some (.pointer _) | some .unsafePointer => true
    | _ => false
  | _ => false
theorem Jg {P : Program} {ρ : Operand → Value} {st st' : St} {o : Op} {V : Value} (hr : isR P o = true) (h : aop P ρ st o = some (V, st')) : st' = st := by
  cases o with
  | call c =>
    obtain ⟨cal, args, tys⟩ := c
    cases cal with
    | builtin b =>
      have h' : bW P st b tys (args.toList.map ρ) = some (V, st') := by
        cases b <;> first | exact h | (cases hr; done)
      unfold bW at h'
      split at h'
      · split at h'
        · exact (aY h').2.symm
        · cases h'
      · split at h'
        · exact (aY h').2.symm
        · cases h'
      · cases hr
      · cases hr
      · exact (aY h').2.symm
      · exact (aY h').2.symm
      · cases h'
    | value f => cases hr
    | invoke a b => cases hr
  | move x => have e : (ρ x, st) = (V, st') := Option.some.inj h; simp at e; exact e.2.symm
  | assign x => have e : (ρ x, st) = (V, st') := Option.some.inj h; simp at e; exact e.2.symm
  | pick c a b => exact (aY (f := tF (ρ c) (ρ a) (ρ b)) h).2.symm
  | build t ps => exact (aY (f := jY P t (ps.toList.map fun (p : Nat × Operand) => (p.1, ρ p.2))) h).2.symm
  | load t a => exact (aY (f := kV P st t (ρ a)) h).2.symm
  | nilCheck x => exact (aY (f := jl (ρ x)) h).2.symm
  | binOp op t x y t2 => exact (aY (f := abin P op t x y (ρ x) (ρ y)) h).2.symm
  | unOp op t x => exact (aY (f := aun op (ρ x)) h).2.symm
  | makeInterface t x => exact (aY (f := tC P t (ρ x)) h).2.symm
  | convert s d x =>
    have h' : dL P st s d (ρ x) = some (V, st') := h
    unfold dL at h'
    split at h'
    · injection h' with h'; simp at h'; exact h'.2.symm
    · injection h' with h'; simp at h'; exact h'.2.symm
    · injection h' with h'; simp at h'; exact h'.2.symm
    · split at h'
      · split at h'
        · rename_i Cs _
          cases hc : u8s Cs with
          | none => simp [hc] at h'
          | some ns => simp [hc] at h'; exact h'.2.symm
        · cases h'
      · cases h'
    · rename_i hu _
      simp only [isR, hu] at hr
      cases hr
    · rename_i hu _
      simp only [isR, hu] at hr
      cases hr
    · split at h'
      · split at h'
        · injection h' with h'; simp at h'; exact h'.2.symm
        · cases h'
      · cases h'
    · split at h'
      · split at h'
        · injection h' with h'; simp at h'; exact h'.2.symm
        · cases h'
      · cases h'
    · cases h'
  | makeFunc fn a b =>
    have h' : (bif gK fn then some (Value.func fn (a.map ρ) (b.map ρ), st) else none) = some (V, st') := h
    cases hp : gK fn with
    | false => rw [hp] at h'; cases h'
    | true => rw [hp] at h'; have e : (Value.func fn (a.map ρ) (b.map ρ), st) = (V, st') := Option.some.inj h'; simp at e; exact e.2.symm
  | slice t x lo hi mx => exact (aY (f := aslice P st t (ρ x) (lo.map ρ) (hi.map ρ) (mx.map ρ)) h).2.symm
  | fieldAddr t x f => exact (aY (f := fT P t (ρ x) f) h).2.symm
  | field t x f => exact (aY (f := qA P t (ρ x) f) h).2.symm
  | indexAddr t x i => exact (aY (f := fU P t (ρ x) (ρ i)) h).2.symm
  | index t x i => exact (aY (f := jr P t (ρ x) (ρ i)) h).2.symm
  | extract x i => exact (aY (f := kD (ρ x) i) h).2.symm
  | lookup t x i ok => exact (aY (f := oO P st t (ρ x) (ρ i) ok) h).2.symm
  | _ => cases hr
theorem KH {P : Program} {ρ : Operand → Value} {st st' s : St} {o : Op} {V : Value} (hr : isR P o = true) (hh : isH P o = false) (h : aop P ρ st o = some (V, st')) : aop P ρ s o = some (V, s) := by
  have fin : ∀ f : Option Value, f.map (fun v => (v, st)) = some (V, st') → f.map (fun v => (v, s)) = some (V, s) := fun f hf => by
    obtain ⟨h1, _⟩ := aY hf
    rw [h1]; rfl
  cases o with
  | call c => cases hh
  | load t a => cases hh
  | slice t x lo hi mx => cases hh
  | move x => have e : (ρ x, st) = (V, st') := Option.some.inj h; simp at e; rw [← e.1]; rfl
  | assign x => have e : (ρ x, st) = (V, st') := Option.some.inj h; simp at e; rw [← e.1]; rfl
  | pick c a b => exact fin (tF (ρ c) (ρ a) (ρ b)) h
  | build t ps => exact fin (jY P t (ps.toList.map fun (p : Nat × Operand) => (p.1, ρ p.2))) h
  | nilCheck x => exact fin (jl (ρ x)) h
  | binOp op t x y t2 => exact fin (abin P op t x y (ρ x) (ρ y)) h
  | unOp op t x => exact fin (aun op (ρ x)) h
  | convert sr d x =>
    have h' : dL P st sr d (ρ x) = some (V, st') := h
    show dL P s sr d (ρ x) = some (V, s)
    unfold dL at h' ⊢
    split at h'
    · rename_i h1 h2 h3; injection h' with h'; simp at h'; simp [h1, h2, h3, h'.1]
    · rename_i h1 h2 h3; injection h' with h'; simp at h'; simp [h1, h2, h3, h'.1]
    · rename_i h1 h2 h3; injection h' with h'; simp at h'; simp [h1, h2, h3, h'.1]
    · rename_i hu _ _; simp [isH, hu] at hh
    · rename_i hu _; simp [isR, hu] at hr
    · rename_i hu _; simp [isR, hu] at hr
    · rename_i hu _ _; simp [isH, hu] at hh
    · rename_i hu _ _; simp [isH, hu] at hh
    · cases h'
  | makeInterface t x => exact fin (tC P t (ρ x)) h
  | makeFunc fn a b =>
    have h' : (bif gK fn then some (Value.func fn (a.map ρ) (b.map ρ), st) else none) = some (V, st') := h
    show (bif gK fn then some (Value.func fn (a.map ρ) (b.map ρ), s) else none) = some (V, s)
    cases hp : gK fn with
    | false => rw [hp] at h'; cases h'
    | true => rw [hp] at h'; have e : (Value.func fn (a.map ρ) (b.map ρ), st) = (V, st') := Option.some.inj h'; simp at e; rw [← e.1]; rfl
  | fieldAddr t x f => exact fin (fT P t (ρ x) f) h
  | field t x f => exact fin (qA P t (ρ x) f) h
  | indexAddr t x i => exact fin (fU P t (ρ x) (ρ i)) h
  | index t x i => exact fin (jr P t (ρ x) (ρ i)) h
  | extract x i => exact fin (kD (ρ x) i) h
  | lookup t x i ok => cases hh
  | _ => cases hr
theorem l9 {ρ ρ' : Operand → Value} : ∀ l : List (Nat × Operand), (∀ p ∈ l, ρ p.2 = ρ' p.2) → (l.map fun p => (p.1, ρ p.2)) = l.map fun p => (p.1, ρ' p.2)
  | [], _ => rfl
  | p :: l, h => by simp only [List.map_cons]; rw [h p (by simp), l9 l fun q hq => h q (by simp [hq])]
theorem Ae {cx : Cx} {ρ ρ' : Env} {st : St} {o : Op} (hs : ∀ cs b, o ≠ .select cs b) {k q : Value → St → Prop} (h : ∀ x ∈ o.operands, ev cx.G ρ x = ev cx.G ρ' x) : abody cx o ρ st k q = abody cx o ρ' st k q := by
  have gen : aop cx.P (ev cx.G ρ) st o = aop cx.P (ev cx.G ρ') st o → alet (aop cx.P (ev cx.G ρ) st o) k = alet (aop cx.P (ev cx.G ρ') st o) k := fun e => by rw [e]
  cases o <;> simp only [Op.operands] at h
  case select cs b => exact absurd rfl (hs cs b)
  case call c =>
    obtain ⟨cal, args, tys⟩ := c
    have ha : args.toList.map (ev cx.G ρ) = args.toList.map (ev cx.G ρ') := List.map_congr_left fun x hx => h x (by simp [Call.operands]; exact .inr (by simpa using hx))
    cases cal with
    | value f =>
      have hf : ev cx.G ρ f = ev cx.G ρ' f := h f (by simp [Call.operands])
      show gq cx (ev cx.G ρ f) (args.toList.map (ev cx.G ρ)) st k q = gq cx (ev cx.G ρ' f) (args.toList.map (ev cx.G ρ')) st k q
      rw [hf, ha]
    | builtin b =>
      have hab : ∀ b, aop cx.P (ev cx.G ρ) st (.call ⟨.builtin b, args, tys⟩) = aop cx.P (ev cx.G ρ') st (.call ⟨.builtin b, args, tys⟩) := fun b => by
        show d9 cx.P st b tys (args.toList.map (ev cx.G ρ)) = d9 cx.P st b tys (args.toList.map (ev cx.G ρ'))
        rw [ha]
      cases b
      case append =>
        show (_ ∨ alet (bW cx.P st .append tys (args.toList.map (ev cx.G ρ))) k) = (_ ∨ alet (bW cx.P st .append tys (args.toList.map (ev cx.G ρ'))) k)
        rw [ha]
      all_goals exact gen (hab _)
    | invoke a b => rfl
  case panic x =>
    have hx : ev cx.G ρ x = ev cx.G ρ' x := h x (by simp)
    show kX (ev cx.G ρ x) st q = kX (ev cx.G ρ' x) st q
    rw [hx]
  case build t ps =>
    refine gen ?_
    show (jY cx.P t (ps.toList.map fun p => (p.1, ev cx.G ρ p.2))).map _ = (jY cx.P t (ps.toList.map fun p => (p.1, ev cx.G ρ' p.2))).map _
    rw [l9 ps.toList fun p hp => h p.2 (by simp; exact ⟨p.1, by simpa using hp⟩)]
  case buildSlice t n ps =>
    refine gen ?_
    show aL cx.P st t n (ps.toList.map fun p => (p.1, ev cx.G ρ p.2)) = aL cx.P st t n (ps.toList.map fun p => (p.1, ev cx.G ρ' p.2))
    rw [l9 ps.toList fun p hp => h p.2 (by simp; exact ⟨p.1, by simpa using hp⟩)]
  case makeFunc fn first captured =>
    refine gen ?_
    show (bif gK fn then some (Value.func fn (first.map (ev cx.G ρ)) (captured.map (ev cx.G ρ)), st) else none) = (bif gK fn then some (Value.func fn (first.map (ev cx.G ρ')) (captured.map (ev cx.G ρ')), st) else none)
    rw [Array.map_congr_left (xs := first) fun x hx => h x (by simp [hx]), Array.map_congr_left (xs := captured) fun x hx => h x (by simp [hx])]
  case slice t x lo hi mx =>
    refine gen ?_
    show (aslice cx.P st t (ev cx.G ρ x) (lo.map (ev cx.G ρ)) (hi.map (ev cx.G ρ)) (mx.map (ev cx.G ρ))).map _ = (aslice cx.P st t (ev cx.G ρ' x) (lo.map (ev cx.G ρ')) (hi.map (ev cx.G ρ')) (mx.map (ev cx.G ρ'))).map _
    cases lo <;> cases hi <;> cases mx <;> simp_all
  case makeMap t r =>
    refine gen ?_
    show kC cx.P st t (r.map (ev cx.G ρ)) = kC cx.P st t (r.map (ev cx.G ρ'))
    cases r <;> simp_all
  all_goals first
    | rfl
    | (refine gen ?_; simp only [aop]; simp_all; done)
section
variable {cx : Cx} {ops : Array Oper}
theorem Jh {G : Nat} {ρ : Env} {d : Option Nat} {V : Value} {x : Operand} (h : ∀ t, d = some t → x ≠ .tmp t) : ev G (putO ρ d V) x = ev G ρ x := by
  cases d with
  | none => rfl
  | some d =>
    cases x with
    | tmp t =>
      have hne : t ≠ d := fun e => h d rfl (by rw [e])
      simp [ev, putO, put, hne]
    | _ => rfl
theorem EY {ρ : Env} {x y : Option Nat} (V U : Value) (h : ∀ d, x = some d → y ≠ some d) : putO (putO ρ x V) y U = putO (putO ρ y U) x V := by
  cases x with
  | none => rfl
  | some d =>
    cases y with
    | none => rfl
    | some e =>
      have hne : d ≠ e := fun he => h d rfl (by rw [he])
      funext t
      simp only [putO, put]
      by_cases h1 : t = e
      · have : t ≠ d := fun h2 => hne (h2 ▸ h1)
        simp [h1, Ne.symm hne]
      · simp [h1]
theorem wG {ρ : Env} {st : St} {o : Oper} (hs : ∀ cs b, o.op ≠ .select cs b) {k q : Value → St → Prop} {d : Option Nat} {V : Value} (h : ∀ t, d = some t → t ∉ o.looksAt ops) :
    bQ cx ops o (putO ρ d V) st k q = bQ cx ops o ρ st k q := by
  have h1 : abody cx o.op (putO ρ d V) st k q = abody cx o.op ρ st k q := Ae hs fun x hx => Jh fun t ht hxt => h t ht (by
    subst hxt
    exact List.mem_append_left _ (List.mem_filterMap.2 ⟨.tmp t, by simpa using hx, rfl⟩))
  unfold bQ l6
  rw [h1]
  cases hg : o.guard with
  | none => rfl
  | some gw =>
    obtain ⟨g, want⟩ := gw
    simp only
    cases hd : (ops[g]?).bind (·.dst) with
    | none => rfl
    | some t =>
      have hne : ∀ u, d = some u → t ≠ u := fun u hu e => h u hu (by subst e; simp [Oper.looksAt, hg, hd])
      simp only
      cases d with
      | none => rfl
      | some u => simp [putO, put, hne u rfl]
theorem EZ {x : Option (Value × St)} {k k' : Value → St → Prop} (h : alet x k) (hk : ∀ V s, x = some (V, s) → k V s → k' V s) : alet x k' := by
  unfold alet at *
  split at h
  · exact hk _ _ rfl h
  · exact h.elim
theorem tJ {o : Op} {ρ : Env} {st : St} {k q k' q' : Value → St → Prop} (h : abody cx o ρ st k q) (hk : ∀ V s, k V s → k' V s) (hq : ∀ V s, q V s → q' V s) : abody cx o ρ st k' q' := by
  have gen : alet (aop cx.P (ev cx.G ρ) st o) k → alet (aop cx.P (ev cx.G ρ) st o) k' := fun h => EZ h fun V s _ => hk V s
  cases o with
  | call c =>
    obtain ⟨cal, args, tys⟩ := c
    cases cal with
    | value f =>
      have h' : gq cx (ev cx.G ρ f) (args.toList.map (ev cx.G ρ)) st k q := h
      show gq cx (ev cx.G ρ f) (args.toList.map (ev cx.G ρ)) st k' q'
      unfold gq at *
      split at h'
      · exact h'.mono hk hq
      · exact h'.mono hk
      · exact h'.elim
    | builtin b =>
      cases b
      case append =>
        rcases (show (cx.ex (tys.getD 0 0) = true ∧ wE (oU cx.P st tys (args.toList.map (ev cx.G ρ))) st k) ∨ alet (aop cx.P (ev cx.G ρ) st (.call ⟨.builtin .append, args, tys⟩)) k from h) with ⟨h1, hg⟩ | hg
        · refine .inl ⟨h1, ?_⟩
          unfold wE at *
          split at hg
          · exact fun c hc => hk _ _ (hg c hc)
          · exact hg.elim
        · exact .inr (gen hg)
      all_goals exact gen h
    | invoke a b => exact gen h
  | panic x =>
    have h' : kX (ev cx.G ρ x) st q := h
    show kX (ev cx.G ρ x) st q'
    unfold kX at *
    split at h'
    · exact hq _ _ h'
    · exact h'.elim
  | _ => exact gen h
theorem tK {v : Value} {want : Bool} {x y x' y' : Prop} (h : iw v want x y) (hx : x → x') (hy : y → y') : iw v want x' y' := by
  unfold iw at *
  split at h
  · exact ⟨fun e => hx (h.1 e), fun e => hy (h.2 e)⟩
  · exact ⟨h.1, hy h.2⟩
  · exact h.elim
theorem dV {o : Oper} {ρ : Env} {st : St} {k q k' q' : Value → St → Prop} (h : bQ cx ops o ρ st k q) (hk : ∀ V s, k V s → k' V s) (hq : ∀ V s, q V s → q' V s) : bQ cx ops o ρ st k' q' := by
  unfold bQ l6 at *
  split at h
  · exact tJ h hk hq
  · split at h
    · exact tK h (fun h => tJ h hk hq) (hk _ _)
    · exact h.elim
def yld (cx : Cx) (ops : Array Oper) (o : Oper) (ρ : Env) (V : Value) (s : St) : Prop := bQ cx ops o ρ s (fun V' s' => V' = V ∧ s' = s) (fun _ _ => False)
theorem tL {o : Op} (hr : isR cx.P o = true) (ρ : Env) (st : St) (k q : Value → St → Prop) : abody cx o ρ st k q = alet (aop cx.P (ev cx.G ρ) st o) k := by
  cases o with
  | call c =>
    obtain ⟨cal, args, tys⟩ := c
    cases cal with
    | builtin b => cases b <;> first | rfl | cases hr
    | value f => cases hr
    | invoke a b => cases hr
  | panic x => cases hr
  | _ => rfl
theorem reads {o : Oper} (hr : isR cx.P o.op = true) {ρ : Env} {st : St} {k q : Value → St → Prop} (h : bQ cx ops o ρ st k q) : ∃ V, yld cx ops o ρ V st ∧ k V st := by
  unfold yld
  have body : abody cx o.op ρ st k q → ∃ V, abody cx o.op ρ st (fun V' s' => V' = V ∧ s' = st) (fun _ _ => False) ∧ k V st := by
    intro hb
    rw [tL hr] at hb
    unfold alet at hb
    split at hb
    · rename_i V s hop
      obtain rfl := Jg hr hop
      refine ⟨V, ?_, hb⟩
      rw [tL hr, hop]
      exact ⟨rfl, rfl⟩
    · exact hb.elim
  unfold bQ l6 at *
  cases hg : o.guard with
  | none => rw [hg] at h; exact body h
  | some gw =>
    obtain ⟨g, want⟩ := gw
    rw [hg] at h
    simp only at h ⊢
    cases hd : (ops[g]?).bind (·.dst) with
    | none => rw [hd] at h; exact h.elim
    | some d =>
      rw [hd] at h
      simp only [iw] at h ⊢
      split at h
      · rename_i b hv
        by_cases e : b = want
        · obtain ⟨V, h1, h2⟩ := body (h.1 e)
          exact ⟨V, ⟨fun _ => h1, fun e' => absurd (e ▸ e') (by cases want <;> simp)⟩, h2⟩
        · have e2 : b = !want := by cases b <;> cases want <;> simp_all
          exact ⟨oJ, ⟨fun e' => absurd e' e, fun _ => ⟨rfl, by trivial⟩⟩, h.2 e2⟩
      · exact ⟨oJ, ⟨h.1, rfl, by trivial⟩, h.2⟩
      · exact h.elim
theorem Ji {o : Oper} (hr : isR cx.P o.op = true) (hh : isH cx.P o.op = false) {ρ : Env} {V : Value} {s s' : St} (h : yld cx ops o ρ V s) : yld cx ops o ρ V s' := by
  unfold yld at *
  have body : abody cx o.op ρ s (fun V' s' => V' = V ∧ s' = s) (fun _ _ => False) → abody cx o.op ρ s' (fun V' s'' => V' = V ∧ s'' = s') (fun _ _ => False) := by
    intro h
    rw [tL hr] at *
    unfold alet at h
    split at h
    · rename_i V1 s1 hop
      obtain ⟨rfl, rfl⟩ := h
      rw [KH (s := s') hr hh hop]
      exact ⟨rfl, by trivial⟩
    · exact h.elim
  unfold bQ l6 at *
  split at h
  · exact body h
  · split at h
    · exact tK h body fun e => ⟨e.1, by trivial⟩
    · exact h.elim
theorem El {o : Oper} (hs : ∀ cs b, o.op ≠ .select cs b) {ρ : Env} {V U : Value} {d : Option Nat} (h : ∀ t, d = some t → t ∉ o.looksAt ops) (s : St) : yld cx ops o (putO ρ d U) V s = yld cx ops o ρ V s := wG hs h
def recT (ks : Nat → Bool) (cx : Cx) (ops : Array Oper) (recs : Nat → St → Prop) (j : Nat) (o : Oper) (ρ : Env) (V : Value) : Nat → St → Prop :=
  fun i => if i = j then (bif ks j then yld cx ops o ρ V else fun _ => True) else recs i
def AAny (cx : Cx) (ops : Array Oper) (ks : Nat → Bool) (un : Nat → Nat → Bool) (Q : Post) (q : dz) : Nat → Array Bool → (Nat → St → Prop) → Env → St → Prop
  | 0, listed, _, ρ, st => Region.ready .any ops listed = [] ∧ Q .normal ρ st
  | n + 1, listed, recs, ρ, st => (Region.ready .any ops listed = [] → Q .normal ρ st) ∧ ∀ j ∈ Region.ready .any ops listed, ∃ o, ops[j]? = some o ∧
      bQ cx ops o ρ st (fun V st' => (isR cx.P o.op = false → ∀ i, un i j = true → recs i st') ∧ AAny cx ops ks un Q q n (listed.setIfInBounds j true) (recT ks cx ops recs j o ρ V) (putO ρ o.dst V) st') q
theorem E5 {ks : Nat → Bool} {recs : Nat → St → Prop} {i j : Nat} {oi oj : Oper} {ρ ρ1 ρ2 : Env} {V U : Value} (hij : i ≠ j) (h1 : yld cx ops oj ρ1 U = yld cx ops oj ρ U) (h2 : yld cx ops oi ρ2 V = yld cx ops oi ρ V) :
    recT ks cx ops (recT ks cx ops recs i oi ρ V) j oj ρ1 U = recT ks cx ops (recT ks cx ops recs j oj ρ U) i oi ρ2 V := by
  funext k
  unfold recT
  by_cases e1 : k = j
  · have : k ≠ i := fun e => hij (e ▸ e1)
    simp [e1, Ne.symm hij, h1]
  · by_cases e2 : k = i
    · simp [e2, hij, h2]
    · simp [e1, e2]
theorem tN {ks : Nat → Bool} {un : Nat → Nat → Bool} {Q : Post} {q : dz} {i : Nat} {oi : Oper} (hi : ops[i]? = some oi) (hsel : ∀ (j : Nat) (o : Oper) cs b, ops[j]? = some o → o.op ≠ .select cs b) (hri : isR cx.P oi.op = true) :
    ∀ (D : Nat → Bool), (∀ j oj, ops[j]? = some oj → D j = true → ∃ e ∈ oj.after, Region.binds .any e = true ∧ (e.on = i ∨ D e.on = true)) →
    ∀ (n : Nat) (listed : Array Bool) (recs : Nat → St → Prop) (ρ : Env) (st : St) (V : Value),
      (∀ j, D j = true → listed.getD j true = false) →
      (∀ j oj, ops[j]? = some oj → j ≠ i → listed.getD j true = false → D j = false → (∀ e ∈ oj.after, Region.binds .any e = true → e.on ≠ i) → oi.apart ops oj = true ∧ (isR cx.P oj.op = false → isH cx.P oi.op = true → ks i = true ∧ un i j = true)) →
      (∀ j, listed.getD j true = false → recs j = fun _ => True) →
      i ∈ Region.ready .any ops listed → yld cx ops oi ρ V st →
      AAny cx ops ks un Q q n (listed.setIfInBounds i true) (recT ks cx ops recs i oi ρ V) (putO ρ oi.dst V) st → AAny cx ops ks un Q q (n + 1) listed recs ρ st := by
  intro D hDe n
  induction n with
  | zero =>
    intro listed recs ρ st V hD hfree hrec hr hy H
    refine ⟨fun h => (by rw [h] at hr; cases hr), fun j hj => ?_⟩
    by_cases hji : j = i
    · subst hji
      refine ⟨oi, hi, dV hy (fun V' s' hk => ?_) (fun _ _ h => h.elim)⟩
      obtain ⟨rfl, rfl⟩ := hk
      exact ⟨fun h => absurd hri (by rw [h]; simp), H⟩
    · have := ready_mono hj hji
      rw [H.1] at this
      cases this
  | succ n ih =>
    intro listed recs ρ st V hD hfree hrec hr hy H
    refine ⟨fun h => (by rw [h] at hr; cases hr), fun j hj => ?_⟩
    by_cases hji : j = i
    · subst hji
      refine ⟨oi, hi, dV hy (fun V' s' hk => ?_) (fun _ _ h => h.elim)⟩
      obtain ⟨rfl, rfl⟩ := hk
      exact ⟨fun h => absurd hri (by rw [h]; simp), H⟩
    · obtain ⟨oj, hoj, hex⟩ := H.2 j (ready_mono hj hji)
      obtain ⟨hjun, oj', hoj', hall⟩ := mem_ready.1 hj
      rw [hoj] at hoj'; injection hoj' with e0; subst e0
      have hiun : listed.getD i true = false := (mem_ready.1 hr).1
      have hnot : ∀ e ∈ oj.after, Region.binds .any e = true → e.on ≠ i := fun e he hb heq => by
        have h1 := hall e he hb
        rw [heq] at h1
        rcases Nat.lt_or_ge i listed.size with h' | h'
        · simp [h'] at hiun h1; rw [hiun] at h1; cases h1
        · simp [Array.getElem?_eq_none h'] at h1
      have hDj : D j = false := by
        cases hd : D j with
        | false => rfl
        | true =>
          obtain ⟨e, he, hb, heq | hde⟩ := hDe j oj hoj hd
          · exact absurd heq (hnot e he hb)
          · have h1 := hall e he hb
            have h2 := hD _ hde
            rcases Nat.lt_or_ge e.on listed.size with h' | h'
            · simp [h'] at h1 h2; rw [h1] at h2; cases h2
            · simp [Array.getElem?_eq_none h'] at h2
      have hD' : ∀ k, D k = true → (listed.setIfInBounds j true).getD k true = false := fun k hk => by
        have hkj : j ≠ k := fun e => by rw [e] at hDj; rw [hDj] at hk; cases hk
        rw [getD_set_ne true hkj]
        exact hD k hk
      obtain ⟨hap, hst⟩ := hfree j oj hoj hji hjun hDj hnot
      obtain ⟨a1, a2, a3⟩ := Oper.apart_spec hap
      have hsi := fun cs b => hsel i oi cs b hi
      have hsj := fun cs b => hsel j oj cs b hoj
      rw [wG hsj a1] at hex
      have hfree' : ∀ k ok, ops[k]? = some ok → k ≠ i → (listed.setIfInBounds j true).getD k true = false → D k = false → (∀ e ∈ ok.after, Region.binds .any e = true → e.on ≠ i) → oi.apart ops ok = true ∧ (isR cx.P ok.op = false → isH cx.P oi.op = true → ks i = true ∧ un i k = true) := fun k ok hk hki hun hdk hno => by
        refine hfree k ok hk hki ?_ hdk hno
        by_cases hjk : j = k
        · subst hjk; exact hjun
        · rw [getD_set_ne true hjk] at hun; exact hun
      have step : ∀ (U : Value) (s' : St), yld cx ops oi ρ V s' → AAny cx ops ks un Q q n ((listed.setIfInBounds i true).setIfInBounds j true) (recT ks cx ops (recT ks cx ops recs i oi ρ V) j oj (putO ρ oi.dst V) U) (putO (putO ρ oi.dst V) oj.dst U) s' →
          AAny cx ops ks un Q q (n + 1) (listed.setIfInBounds j true) (recT ks cx ops recs j oj ρ U) (putO ρ oj.dst U) s' := by
        intro U s' hy' hA
        have e1 : ∀ W, yld cx ops oj (putO ρ oi.dst V) W = yld cx ops oj ρ W := fun W => by funext s; exact El hsj a1 s
        have e2 : ∀ W, yld cx ops oi (putO ρ oj.dst U) W = yld cx ops oi ρ W := fun W => by funext s; exact El hsi a3 s
        refine ih (listed.setIfInBounds j true) _ _ s' V hD' hfree' (fun k hk => ?_) (ready_mono hr (Ne.symm hji)) (by rw [e2]; exact hy') ?_
        · have hkj : k ≠ j := fun e => by
            subst e
            rcases Nat.lt_or_ge k listed.size with h' | h'
            · simp [h'] at hk
            · simp [Array.getElem?_eq_none h'] at hk
          rw [getD_set_ne true (Ne.symm hkj)] at hk
          unfold recT
          rw [if_neg hkj]
          exact hrec k hk
        · rw [Array.setIfInBounds_comm _ _ (Ne.symm hji), E5 (Ne.symm hji) (e1 U) (e2 V), EY V U a2] at hA
          exact hA
      cases hrj : isR cx.P oj.op with
      | true =>
        obtain ⟨U, hyj, hk⟩ := reads hrj hex
        refine ⟨oj, hoj, dV hyj (fun V' s' hk' => ?_) (fun _ _ h => h.elim)⟩
        obtain ⟨rfl, rfl⟩ := hk'
        exact ⟨fun h => absurd hrj (by rw [h]; simp), step V' s' hy hk.2⟩
      | false =>
        refine ⟨oj, hoj, dV hex (fun U s' hk => ?_) (fun _ _ h => h)⟩
        refine ⟨fun _ k hk' => ?_, step U s' ?_ hk.2⟩
        · have := hk.1 hrj k hk'
          unfold recT at this
          by_cases e : k = i
          · subst e; rw [hrec k hiun]; trivial
          · rw [if_neg e] at this; exact this
        · cases hhi : isH cx.P oi.op with
          | false => exact Ji hri hhi hy
          | true =>
            obtain ⟨hks, hun⟩ := hst hrj hhi
            have := hk.1 hrj i hun
            unfold recT at this
            rw [if_pos rfl, hks] at this
            exact this
abbrev Plan := List (Nat × Bool × List Nat)
def getR : List (Nat × (St → Prop)) → Nat → St → Prop
  | [], _ => fun _ => True
  | (j, p) :: r, i => if i = j then p else getR r i
def iL (recs : List (Nat × (St → Prop))) : List Nat → St → Prop → Prop
  | [], _, x => x
  | i :: r, st, x => getR recs i st ∧ iL recs r st x
def kE (cx : Cx) (ops : Array Oper) : Plan → List (Nat × (St → Prop)) → Post → dz → Env → St → Prop
  | [], _, Q, _, ρ, st => Q .normal ρ st
  | (i, kp, pd) :: π, recs, Q, q, ρ, st => match ops[i]? with
    | none => False
    | some o => bQ cx ops o ρ st (fun V st' => iL recs pd st' (kE cx ops π (bif kp then (i, yld cx ops o ρ V) :: recs else recs) Q q (putO ρ o.dst V) st')) q
theorem iB {recs : List (Nat × (St → Prop))} : ∀ {pd : List Nat} {st : St} {x : Prop}, iL recs pd st x → (∀ i ∈ pd, getR recs i st) ∧ x
  | [], _, _, h => ⟨by simp, h⟩
  | i :: r, st, x, h => by
    obtain ⟨h1, h2⟩ := h
    obtain ⟨h3, h4⟩ := iB h2
    exact ⟨by simpa using ⟨h1, h3⟩, h4⟩
def Em (ops : Array Oper) : Bool := ops.all fun o => match o.op with | .select .. => false | _ => true
def down (ops : Array Oper) (i : Nat) : List Nat :=
  (List.range ops.size).foldl (fun acc j => if (match ops[j]? with | some o => o.after.any fun e => Region.binds .any e && (e.on == i || acc.contains e.on) | none => false) then j :: acc else acc) []
def dcl (ops : Array Oper) (listed : Array Bool) (i : Nat) : List Nat :=
  let d := down ops i
  if d.all (fun j => !(listed.getD j true) && (match ops[j]? with | some o => o.after.any fun e => Region.binds .any e && (e.on == i || d.contains e.on) | none => true)) then d else []
theorem oW (ops : Array Oper) (listed : Array Bool) (i : Nat) : (∀ j, (dcl ops listed i).contains j = true → listed.getD j true = false) ∧
    (∀ j oj, ops[j]? = some oj → (dcl ops listed i).contains j = true → ∃ e ∈ oj.after, Region.binds .any e = true ∧ (e.on = i ∨ (dcl ops listed i).contains e.on = true)) := by
  unfold dcl
  simp only
  generalize down ops i = d
  split
  · rename_i h
    refine ⟨fun j hj => ?_, fun j oj ho hj => ?_⟩
    · have := List.all_eq_true.1 h j (by simpa using hj)
      simp only [Bool.and_eq_true, Bool.not_eq_true'] at this
      exact this.1
    · have := List.all_eq_true.1 h j (by simpa using hj)
      simp only [Bool.and_eq_true, ho] at this
      obtain ⟨e, he1, he2⟩ := Array.any_eq_true'.1 this.2
      simp only [Bool.and_eq_true, Bool.or_eq_true, beq_iff_eq] at he2
      exact ⟨e, he1, he2.1, he2.2⟩
  · exact ⟨fun j hj => by simp at hj, fun j oj ho hj => by simp at hj⟩
def okGo (P : Program) (ops : Array Oper) (ks : List Nat) (un : List (Nat × Nat)) : Plan → Array Bool → Bool
  | [], listed => (Region.ready .any ops listed).isEmpty
  | (i, kp, pd) :: π, listed => match ops[i]? with
    | none => false
    | some o => (Region.ready .any ops listed).contains i && (kp == ks.contains i) &&
        (if isR P o.op then (List.range ops.size).all fun j => j == i || listed.getD j true || (match ops[j]? with
            | none => true
            | some oj => (oj.after.any fun e => Region.binds .any e && e.on == i) || (o.apart ops oj && (isR P oj.op || !isH P o.op || (kp && un.contains (i, j)))) || (dcl ops listed i).contains j)
          else (Region.ready .any ops listed == [i]) && un.all fun p => p.2 != i || pd.contains p.1) &&
        okGo P ops ks un π (listed.setIfInBounds i true)
theorem qH {ks : List Nat} {un : List (Nat × Nat)} {Q : Post} {q : dz} (hsel : Em ops = true) : ∀ (π : Plan) (listed : Array Bool) (recs : List (Nat × (St → Prop))) (ρ : Env) (st : St),
    okGo cx.P ops ks un π listed = true → (∀ j, listed.getD j true = false → getR recs j = fun _ => True) → kE cx ops π recs Q q ρ st →
    AAny cx ops (fun i => ks.contains i) (fun i j => un.contains (i, j)) Q q π.length listed (getR recs) ρ st
  | [], listed, recs, ρ, st, hok, hrec, h => ⟨by simpa [okGo] using hok, h⟩
  | (i, kp, pd) :: π, listed, recs, ρ, st, hok, hrec, h => by
    have hsel' : ∀ (j : Nat) (o : Oper) cs b, ops[j]? = some o → o.op ≠ .select cs b := fun j o cs b hj e => by
      have hlt := (Array.getElem?_eq_some_iff.1 hj).1
      have := Array.all_eq_true.1 hsel j hlt
      rw [(Array.getElem?_eq_some_iff.1 hj).2, e] at this
      cases this
    unfold kE at h
    unfold okGo at hok
    cases ho : ops[i]? with
    | none => rw [ho] at h; exact h.elim
    | some o =>
      rw [ho] at h hok
      simp only [Bool.and_eq_true, List.contains_eq_mem, decide_eq_true_eq, beq_iff_eq] at hok
      obtain ⟨⟨⟨hr, hkp⟩, hcond⟩, hgo⟩ := hok
      have hrecs : ∀ V, getR (bif kp then (i, yld cx ops o ρ V) :: recs else recs) = recT (fun i => ks.contains i) cx ops (getR recs) i o ρ V := fun V => by
        have hiun : listed.getD i true = false := (mem_ready.1 hr).1
        funext k
        unfold recT
        cases hk : kp with
        | true =>
          rw [hk] at hkp
          simp only [cond_true, getR]
          have : (ks.contains i) = true := by simp; exact (of_decide_eq_true hkp.symm)
          rw [this]
          simp
        | false =>
          rw [hk] at hkp
          simp only [cond_false]
          have : (ks.contains i) = false := by simp; exact (of_decide_eq_false hkp.symm)
          rw [this]
          by_cases e : k = i
          · subst e; simp [hrec k hiun]
          · simp [e]
      have hrec' : ∀ V j, (listed.setIfInBounds i true).getD j true = false → getR (bif kp then (i, yld cx ops o ρ V) :: recs else recs) j = fun _ => True := fun V j hj => by
        have hji : j ≠ i := fun e => by
          subst e
          rcases Nat.lt_or_ge j listed.size with h' | h'
          · simp [h'] at hj
          · simp [Array.getElem?_eq_none h'] at hj
        rw [getD_set_ne true (Ne.symm hji)] at hj
        cases kp with
        | true => simp [getR, hji, hrec j hj]
        | false => simp [hrec j hj]
      have next : ∀ V st', kE cx ops π (bif kp then (i, yld cx ops o ρ V) :: recs else recs) Q q (putO ρ o.dst V) st' →
          AAny cx ops (fun i => ks.contains i) (fun i j => un.contains (i, j)) Q q π.length (listed.setIfInBounds i true) (recT (fun i => ks.contains i) cx ops (getR recs) i o ρ V) (putO ρ o.dst V) st' := fun V st' h' => by
        rw [← hrecs V]
        exact qH hsel π _ _ _ st' hgo (hrec' V) h'
      cases hR : isR cx.P o.op with
      | true =>
        rw [hR] at hcond
        simp only [if_true] at hcond
        obtain ⟨V, hy, hk⟩ := reads hR h
        refine tN ho hsel' hR (fun j => (dcl ops listed i).contains j) (oW ops listed i).2 π.length listed (getR recs) ρ st V (oW ops listed i).1 (fun j oj hj hji hun hdj hno => ?_) hrec hr hy (next V st (iB hk).2)
        have hlt := (Array.getElem?_eq_some_iff.1 hj).1
        have := List.all_eq_true.1 hcond j (by simpa using hlt)
        have hdj' : decide (j ∈ dcl ops listed i) = false := by
          have h : (dcl ops listed i).contains j = false := hdj
          rw [List.contains_eq_mem] at h
          exact h
        rw [hdj'] at this
        simp only [hj, hun, Bool.or_false, Bool.or_eq_true, beq_iff_eq, hji, false_or, Bool.and_eq_true, Bool.not_eq_true'] at this
        rcases this with hw | ⟨h1, h2⟩
        · obtain ⟨e, he1, he2⟩ := Array.any_eq_true'.1 hw
          simp only [Bool.and_eq_true, beq_iff_eq] at he2
          exact absurd he2.2 (hno e he1 he2.1)
        · refine ⟨h1, fun e1 e2 => ?_⟩
          rcases h2 with (h2 | h2) | h2
          · rw [e1] at h2; cases h2
          · rw [e2] at h2; cases h2
          · exact ⟨by simp; exact of_decide_eq_true (hkp.symm.trans h2.1), by simpa using h2.2⟩
      | false =>
        rw [hR] at hcond
        simp only [Bool.false_eq_true, if_false, Bool.and_eq_true, beq_iff_eq] at hcond
        refine ⟨fun e => (by rw [hcond.1] at e; cases e), fun j hj => ?_⟩
        rw [hcond.1] at hj
        simp only [List.mem_singleton] at hj
        subst hj
        refine ⟨o, ho, dV h (fun V st' hk => ?_) (fun _ _ h => h)⟩
        obtain ⟨hp, hk⟩ := iB hk
        refine ⟨fun _ i' hi' => hp i' ?_, next V st' hk⟩
        have := List.all_eq_true.1 hcond.2 (i', j) (by simpa using hi')
        simpa using this
theorem qI {ks : Nat → Bool} {un : Nat → Nat → Bool} {Q Q' : Post} {q : dz} (h : ∀ e ρ st, Q e ρ st → Q' e ρ st) : ∀ (n : Nat) (listed : Array Bool) (recs : Nat → St → Prop) (ρ : Env) (st : St),
    AAny cx ops ks un Q q n listed recs ρ st → AAny cx ops ks un Q' q n listed recs ρ st
  | 0, _, _, _, _, hA => ⟨hA.1, h _ _ _ hA.2⟩
  | n + 1, listed, recs, ρ, st, hA => ⟨fun hr => h _ _ _ (hA.1 hr), fun j hj => by
    obtain ⟨o, ho, hex⟩ := hA.2 j hj
    exact ⟨o, ho, dV hex (fun V s hk => ⟨hk.1, qI h n _ _ _ _ hk.2⟩) fun _ _ hq => hq⟩⟩
end
end Go.Abs
