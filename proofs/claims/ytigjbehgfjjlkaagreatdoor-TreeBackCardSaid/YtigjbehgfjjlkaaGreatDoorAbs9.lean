/- Regions whose order is open, with two operations ready at the same time that do not only read: an order that branches. -/
import Derived.Test.YtigjbehgfjjlkaaGreatDoorAbs8
set_option linter.unusedVariables false
set_option linter.unusedSimpArgs false
namespace Go.Abs
open Go.RowKit
inductive PT where
  | lin (π : Plan)
  | step (i : Nat) (kp : Bool) (pd : List Nat) (t : PT)
  | two (i : Nat) (pi : List Nat) (t : PT) (j : Nat) (pj : List Nat) (u : PT)
def PT.dep : PT → Nat
  | .lin π => π.length
  | .step _ _ _ t => t.dep + 1
  | .two _ _ t _ _ _ => t.dep + 1
def fK (cx : Cx) (ops : Array Oper) : PT → List (Nat × (St → Prop)) → Post → dz → Env → St → Prop
  | .lin π, recs, Q, q, ρ, st => kE cx ops π recs Q q ρ st
  | .step i kp pd t, recs, Q, q, ρ, st => atO (ops[i]?) fun o => bQ cx ops o ρ st (fun V st' => iL recs pd st' (fK cx ops t (bif kp then (i, yld cx ops o ρ V) :: recs else recs) Q q (putO ρ o.dst V) st')) q
  | .two i pi t j pj u, recs, Q, q, ρ, st => (atO (ops[i]?) fun o => bQ cx ops o ρ st (fun V st' => iL recs pi st' (fK cx ops t recs Q q (putO ρ o.dst V) st')) q) ∧
      (atO (ops[j]?) fun o => bQ cx ops o ρ st (fun V st' => iL recs pj st' (fK cx ops u recs Q q (putO ρ o.dst V) st')) q)
def okT (P : Program) (ops : Array Oper) (ks : List Nat) (un : List (Nat × Nat)) : PT → Array Bool → Bool
  | .lin π, listed => okGo P ops ks un π listed
  | .step i kp pd t, listed => (match ops[i]? with
    | none => false
    | some o => (Region.ready .any ops listed).contains i && (kp == ks.contains i) &&
        (if isR P o.op then (List.range ops.size).all fun j => j == i || listed.getD j true || (match ops[j]? with
            | none => true
            | some oj => (oj.after.any fun e => Region.binds .any e && e.on == i) || (o.apart ops oj && (isR P oj.op || !isH P o.op || (kp && un.contains (i, j)))) || (dcl ops listed i).contains j)
          else (Region.ready .any ops listed == [i]) && un.all fun p => p.2 != i || pd.contains p.1)) &&
        okT P ops ks un t (listed.setIfInBounds i true)
  | .two i pi t j pj u, listed => (match ops[i]?, ops[j]? with
    | some oi, some oj => !isR P oi.op && !isR P oj.op
    | _, _ => false) && (Region.ready .any ops listed == [i, j]) && !ks.contains i && !ks.contains j && (un.all fun p => p.2 != i || pi.contains p.1) && (un.all fun p => p.2 != j || pj.contains p.1) && (t.dep == u.dep) &&
      okT P ops ks un t (listed.setIfInBounds i true) && okT P ops ks un u (listed.setIfInBounds j true)
theorem y5 {x : Option Oper} {f : Oper → Prop} (h : atO x f) : ∃ o, x = some o ∧ f o := by
  cases x with
  | none => exact h.elim
  | some o => exact ⟨o, rfl, h⟩
theorem AX {listed : Array Bool} {i j : Nat} (hij : j ≠ i) : (listed.setIfInBounds i true).getD j true = listed.getD j true := getD_set_ne true (Ne.symm hij)
theorem AY {listed : Array Bool} {i : Nat} (h : (listed.setIfInBounds i true).getD i true = false) : False := by
  rcases Nat.lt_or_ge i listed.size with h' | h'
  · simp [h'] at h
  · simp [Array.getElem?_eq_none h'] at h
theorem lF {cx : Cx} {ops : Array Oper} {ks : List Nat} {un : List (Nat × Nat)} {Q : Post} {q : dz} (hsel : Em ops = true) : ∀ (π : PT) (listed : Array Bool) (recs : List (Nat × (St → Prop))) (ρ : Env) (st : St),
    okT cx.P ops ks un π listed = true → (∀ j, listed.getD j true = false → getR recs j = fun _ => True) → fK cx ops π recs Q q ρ st →
    AAny cx ops (fun i => ks.contains i) (fun i j => un.contains (i, j)) Q q π.dep listed (getR recs) ρ st
  | .lin π, listed, recs, ρ, st, hok, hrec, h => qH hsel π listed recs ρ st hok hrec h
  | .step i kp pd t, listed, recs, ρ, st, hok, hrec, h => by
    have hsel' : ∀ (j : Nat) (o : Oper) cs b, ops[j]? = some o → o.op ≠ .select cs b := fun j o cs b hj e => by
      have hlt := (Array.getElem?_eq_some_iff.1 hj).1
      have := Array.all_eq_true.1 hsel j hlt
      rw [(Array.getElem?_eq_some_iff.1 hj).2, e] at this
      cases this
    unfold fK at h
    unfold okT at hok
    obtain ⟨o, ho, h⟩ := y5 h
    rw [ho] at hok
    simp only [Bool.and_eq_true, List.contains_eq_mem, decide_eq_true_eq, beq_iff_eq] at hok
    obtain ⟨⟨⟨hr, hkp⟩, hcond⟩, hgo⟩ := hok
    have hrecs : ∀ V, getR (bif kp then (i, yld cx ops o ρ V) :: recs else recs) = recT (fun i => ks.contains i) cx ops (getR recs) i o ρ V := fun V => by
      have hiun : listed.getD i true = false := (mem_ready.1 hr).1
      funext k
      unfold recT
      cases hk : kp with
      | true =>
        rw [hk] at hkp
        simp only [cond_true, getR]
        have : (ks.contains i) = true := by simp; exact (of_decide_eq_true hkp.symm)
        rw [this]
        simp
      | false =>
        rw [hk] at hkp
        simp only [cond_false]
        have : (ks.contains i) = false := by simp; exact (of_decide_eq_false hkp.symm)
        rw [this]
        by_cases e : k = i
        · subst e; simp [hrec k hiun]
        · simp [e]
    have hrec' : ∀ V j, (listed.setIfInBounds i true).getD j true = false → getR (bif kp then (i, yld cx ops o ρ V) :: recs else recs) j = fun _ => True := fun V j hj => by
      have hji : j ≠ i := fun e => by subst e; exact AY hj
      rw [AX hji] at hj
      cases kp with
      | true => simp [getR, hji, hrec j hj]
      | false => simp [hrec j hj]
    have next : ∀ V st', fK cx ops t (bif kp then (i, yld cx ops o ρ V) :: recs else recs) Q q (putO ρ o.dst V) st' →
        AAny cx ops (fun i => ks.contains i) (fun i j => un.contains (i, j)) Q q t.dep (listed.setIfInBounds i true) (recT (fun i => ks.contains i) cx ops (getR recs) i o ρ V) (putO ρ o.dst V) st' := fun V st' h' => by
      rw [← hrecs V]
      exact lF hsel t _ _ _ st' hgo (hrec' V) h'
    cases hR : isR cx.P o.op with
    | true =>
      rw [hR] at hcond
      simp only [if_true] at hcond
      obtain ⟨V, hy, hk⟩ := reads hR h
      refine tN ho hsel' hR (fun j => (dcl ops listed i).contains j) (oW ops listed i).2 t.dep listed (getR recs) ρ st V (oW ops listed i).1 (fun j oj hj hji hun hdj hno => ?_) hrec hr hy (next V st (iB hk).2)
      have hlt := (Array.getElem?_eq_some_iff.1 hj).1
      have := List.all_eq_true.1 hcond j (by simpa using hlt)
      have hdj' : decide (j ∈ dcl ops listed i) = false := by
        have h : (dcl ops listed i).contains j = false := hdj
        rw [List.contains_eq_mem] at h
        exact h
      rw [hdj'] at this
      simp only [hj, hun, Bool.or_false, Bool.or_eq_true, beq_iff_eq, hji, false_or, Bool.and_eq_true, Bool.not_eq_true'] at this
      rcases this with hw | ⟨h1, h2⟩
      · obtain ⟨e, he1, he2⟩ := Array.any_eq_true'.1 hw
        simp only [Bool.and_eq_true, beq_iff_eq] at he2
        exact absurd he2.2 (hno e he1 he2.1)
      · refine ⟨h1, fun e1 e2 => ?_⟩
        rcases h2 with (h2 | h2) | h2
        · rw [e1] at h2; cases h2
        · rw [e2] at h2; cases h2
        · exact ⟨by simp; exact of_decide_eq_true (hkp.symm.trans h2.1), by simpa using h2.2⟩
    | false =>
      rw [hR] at hcond
      simp only [Bool.false_eq_true, if_false, Bool.and_eq_true, beq_iff_eq] at hcond
      refine ⟨fun e => (by rw [hcond.1] at e; cases e), fun j hj => ?_⟩
      rw [hcond.1] at hj
      simp only [List.mem_singleton] at hj
      subst hj
      refine ⟨o, ho, dV h (fun V st' hk => ?_) (fun _ _ h => h)⟩
      obtain ⟨hp, hk⟩ := iB hk
      refine ⟨fun _ i' hi' => hp i' ?_, next V st' hk⟩
      have := List.all_eq_true.1 hcond.2 (i', j) (by simpa using hi')
      simpa using this
  | .two i pi t j pj u, listed, recs, ρ, st, hok, hrec, h => by
    unfold fK at h
    unfold okT at hok
    obtain ⟨h1, h2⟩ := h
    obtain ⟨oi, hoi, g1⟩ := y5 h1
    obtain ⟨oj, hoj, g2⟩ := y5 h2
    clear h1 h2
    rw [hoi, hoj] at hok
    simp only [Bool.and_eq_true, Bool.not_eq_true', beq_iff_eq] at hok
    obtain ⟨⟨⟨⟨⟨⟨⟨⟨⟨hRi, hRj⟩, hrd⟩, hki⟩, hkj⟩, hui⟩, huj⟩, hdep⟩, hgi⟩, hgj⟩ := hok
    have one : ∀ (x : Nat) (o : Oper) (px : List Nat) (t' : PT), ops[x]? = some o → x ∈ Region.ready .any ops listed → ks.contains x = false → (un.all fun p => p.2 != x || px.contains p.1) = true → okT cx.P ops ks un t' (listed.setIfInBounds x true) = true →
        bQ cx ops o ρ st (fun V st' => iL recs px st' (fK cx ops t' recs Q q (putO ρ o.dst V) st')) q → t'.dep = t.dep →
        (∀ V st', fK cx ops t' recs Q q (putO ρ o.dst V) st' → AAny cx ops (fun i => ks.contains i) (fun i j => un.contains (i, j)) Q q t'.dep (listed.setIfInBounds x true) (getR recs) (putO ρ o.dst V) st') →
        ∃ o, ops[x]? = some o ∧ bQ cx ops o ρ st (fun V st' => (isR cx.P o.op = false → ∀ i, un.contains (i, x) = true → getR recs i st') ∧ AAny cx ops (fun i => ks.contains i) (fun i j => un.contains (i, j)) Q q t.dep (listed.setIfInBounds x true) (recT (fun i => ks.contains i) cx ops (getR recs) x o ρ V) (putO ρ o.dst V) st') q := by
      intro x o px t' hx hrx hkx hux hgx hex hdx hnext
      refine ⟨o, hx, dV hex (fun V st' hk => ?_) (fun _ _ h => h)⟩
      obtain ⟨hp, hk⟩ := iB hk
      have hxun : listed.getD x true = false := (mem_ready.1 hrx).1
      refine ⟨fun _ i' hi' => hp i' ?_, ?_⟩
      · have := List.all_eq_true.1 hux (i', x) (by simpa using hi')
        simpa using this
      · have e : recT (fun i => ks.contains i) cx ops (getR recs) x o ρ V = getR recs := by
          funext k
          unfold recT
          by_cases e : k = x
          · subst e
            rw [if_pos rfl]
            show (bif ks.contains k then _ else fun _ => True) = _
            rw [hkx, hrec k hxun]
            rfl
          · rw [if_neg e]
        rw [e, ← hdx]
        exact hnext V st' hk
    have hrec' : ∀ x y, (listed.setIfInBounds x true).getD y true = false → getR recs y = fun _ => True := fun x y hy => by
      by_cases e : y = x
      · subst e; exact (AY hy).elim
      · rw [AX e] at hy; exact hrec y hy
    refine ⟨fun e => (by rw [hrd] at e; cases e), fun x hx => ?_⟩
    have hx0 := hx
    rw [hrd] at hx
    rcases List.mem_cons.1 hx with rfl | hx
    · exact one x oi pi t hoi hx0 hki hui hgi g1 rfl fun V st' h' => lF hsel t _ _ _ st' hgi (fun y hy => hrec' x y hy) h'
    · rw [List.mem_singleton] at hx
      subst hx
      exact one x oj pj u hoj hx0 hkj huj hgj g2 hdep.symm fun V st' h' => lF hsel u _ _ _ st' hgj (fun y hy => hrec' x y hy) h'
section
variable {cx : Cx} {Q : Post} {qp : dz} {ρ : Env} {st : St}
theorem jE (ops : Array Oper) (π : Plan) (recs : List (Nat × (St → Prop))) : fK cx ops (.lin π) recs Q qp ρ st = kE cx ops π recs Q qp ρ st := (rfl)
theorem iT (ops : Array Oper) (i : Nat) (kp : Bool) (pd : List Nat) (t : PT) (recs : List (Nat × (St → Prop))) :
    fK cx ops (.step i kp pd t) recs Q qp ρ st = atO (ops[i]?) fun o => bQ cx ops o ρ st (fun V st' => iL recs pd st' (fK cx ops t (bif kp then (i, yld cx ops o ρ V) :: recs else recs) Q qp (putO ρ o.dst V) st')) qp := (rfl)
theorem jF (ops : Array Oper) (i : Nat) (pi : List Nat) (t : PT) (j : Nat) (pj : List Nat) (u : PT) (recs : List (Nat × (St → Prop))) :
    fK cx ops (.two i pi t j pj u) recs Q qp ρ st = ((atO (ops[i]?) fun o => bQ cx ops o ρ st (fun V st' => iL recs pi st' (fK cx ops t recs Q qp (putO ρ o.dst V) st')) qp) ∧
      (atO (ops[j]?) fun o => bQ cx ops o ρ st (fun V st' => iL recs pj st' (fK cx ops u recs Q qp (putO ρ o.dst V) st')) qp)) := (rfl)
theorem bG.ofT {ops : Array Oper} (π : PT) (ks : List Nat) (un : List (Nat × Nat)) (h : (Em ops && (π.dep == ops.size) && okT cx.P ops ks un π (Array.replicate ops.size false)) = true) (k : fK cx ops π [] Q qp ρ st) : bG cx (stop ops .mk) (stop Q .mk) (stop qp .mk) ρ st := by
  simp only [Bool.and_eq_true, beq_iff_eq] at h
  have hA := lF h.1.1 π _ [] ρ st h.2 (fun j _ => rfl) k
  rw [h.1.2] at hA
  exact ⟨_, _, hA⟩
theorem bG.mid {ops : Array Oper} (I : Env → St → Prop) (h : bG cx (stop ops .mk) (stop (fun e ρ st => e = .normal ∧ I ρ st) .mk) (stop qp .mk) ρ st) (k : ∀ ρ' st', I ρ' st' → Q .normal ρ' st') : bG cx (stop ops .mk) (stop Q .mk) (stop qp .mk) ρ st := by
  obtain ⟨ks, un, hA⟩ := h
  exact ⟨ks, un, qI (fun e ρ' st' ⟨he, hi⟩ => by subst he; exact k ρ' st' hi) _ _ _ _ _ hA⟩
end
end Go.Abs
