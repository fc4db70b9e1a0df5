/- Regions whose order is open, by what each operation yields. -/
import Derived.Test.YtohgmkjhbacmpaaGreatDoorAbsV
set_option linter.unusedVariables false
set_option linter.unusedSimpArgs false
namespace Go.Abs
open Go.RowKit

/-- What is known of a value, while blocks only come: the blocks that are its own; those that all may read. -/
structure Fact where
  is : Hp → Hp → Value → Prop
  up : ∀ h R R' V, (∀ e ∈ R, e ∈ R') → is h R V → is h R' V
def Fact.any : Fact := ⟨fun _ _ _ => True, fun _ _ _ _ _ h => h⟩
def Fact.eq (x : Value) : Fact := ⟨fun h _ V => h = [] ∧ V = x, fun _ _ _ _ _ h => h⟩
/-- The table: the slots that are written; what stands ahead of each operation; whose blocks it takes. -/
def okTbl (ops : Array Oper) (ds : List (Option Nat)) (tbl cl : List (List Nat)) : Bool :=
  (ds == ops.toList.map (·.dst)) && (tbl.length == ops.size) &&
  ((List.range ops.size).all fun i => match ops[i]? with
    | none => true
    | some o => (o.after.all fun e => !(Region.binds .any e) || decide (e.on < i)) && (tbl.getD i []).all fun j => o.after.any fun e => Region.binds .any e && (e.on == j || (tbl.getD e.on []).contains j)) &&
  ((List.range ops.size).all fun i => (List.range ops.size).all fun j => i == j || ((ds.getD i none == none || ds.getD i none != ds.getD j none) && (cl.getD i []).all fun k => !((cl.getD j []).contains k))) &&
  ((List.range ops.size).all fun i => (cl.getD i []).all (fun j => (tbl.getD i []).contains j) && decide (cl.getD i []).Nodup) && (cl.length == ops.size)
/-- Is a slot still as it was when operation i comes? -/
def baseB (ds : List (Option Nat)) (tbl : List (List Nat)) (i t : Nat) : Bool :=
  (List.range ds.length).all fun j => ds.getD j none != some t || j == i || (tbl.getD j []).contains i
/-- Is what operation j yielded not taken by another when operation i comes? -/
def liveB (tbl cl : List (List Nat)) (i j : Nat) : Bool :=
  (List.range cl.length).all fun k => !((cl.getD k []).contains j) || k == i || (tbl.getD k []).contains i
def Gives (R X : Hp) (F : Fact) (V : Value) (s : St) : Prop := ∃ h l, Own s (h ++ (l ++ X)) ∧ F.is h (l ++ R) V
theorem Gives.here {R X : Hp} {F : Fact} {V : Value} {s : St} (hO : Own s X) (h : F.is [] R V) : Gives R X F V s := ⟨[], [], hO, h⟩
theorem Gives.own {R X : Hp} {F : Fact} {V : Value} {s : St} (h : Hp) (hO : Own s (h ++ X)) (hF : F.is h R V) : Gives R X F V s := ⟨h, [], hO, hF⟩
theorem Gives.all {R X : Hp} {F : Fact} {V : Value} {s : St} (l : Hp) (hO : Own s (l ++ X)) (hF : F.is [] (l ++ R) V) : Gives R X F V s := ⟨[], l, hO, hF⟩
def StepAt (cx : Cx) (ops : Array Oper) (ds : List (Option Nat)) (tbl cl : List (List Nat)) (Fs : List Fact) (ρ0 : Env) (r : Hp) (q : PostP) (i : Nat) : Prop :=
  ∀ ρ s hs R X, (∀ t, baseB ds tbl i t = true → ρ t = ρ0 t) → (∀ j t, ((tbl.getD i []).contains j && liveB tbl cl i j) = true → ds.getD j none = some t → (Fs.getD j .any).is (hs j) R (ρ t)) →
    (∀ j, ((tbl.getD i []).contains j && liveB tbl cl i j && !((cl.getD i []).contains j)) = true → ∀ e ∈ (hs j : Hp), e ∈ X) → Own s ((cl.getD i []).flatMap hs ++ X) → (∀ e ∈ R, e ∈ X) → (∀ e ∈ r, e ∈ R) →
    atO (ops[i]?) fun o => aexec cx ops o ρ s (fun V s' => Gives R X (Fs.getD i .any) V s') q
def Steps (cx : Cx) (ops : Array Oper) (ds : List (Option Nat)) (tbl cl : List (List Nat)) (Fs : List Fact) (ρ0 : Env) (r : Hp) (q : PostP) (n i : Nat) : Prop :=
  ∀ k, i ≤ k → k < i + n → StepAt cx ops ds tbl cl Fs ρ0 r q k
/-- The blocks of those that are so. -/
def own1 (a : Nat → Bool) (hs : Nat → Hp) (l : List Nat) : Hp := l.flatMap fun j => bif a j then hs j else []
theorem own1_split {a b c : Nat → Bool} {hs : Nat → Hp} (h1 : ∀ j, a j = (b j || c j)) (h2 : ∀ j, (b j && c j) = false) : ∀ l, (own1 a hs l).Perm (own1 b hs l ++ own1 c hs l)
  | [] => .refl _
  | j :: l => by
    have ih := own1_split h1 h2 (hs := hs) l
    have e : ∀ a : Nat → Bool, own1 a hs (j :: l) = (bif a j then hs j else []) ++ own1 a hs l := fun a => rfl
    rw [e, e, e, h1 j]
    have h2j := h2 j
    cases hb : b j with
    | true =>
      rw [hb] at h2j
      cases hc : c j with
      | true => rw [hc] at h2j; cases h2j
      | false =>
        simp only [Bool.or_false, cond_true, cond_false, List.nil_append, List.append_assoc]
        exact List.Perm.append_left _ ih
    | false =>
      cases hc : c j with
      | true =>
        simp only [Bool.or_true, cond_true, cond_false, List.nil_append]
        exact (List.Perm.append_left _ ih).trans (perm_swap _ _ _)
      | false =>
        simp only [Bool.or_false, cond_false, List.nil_append]
        exact ih
theorem own1_none {a : Nat → Bool} {hs : Nat → Hp} : ∀ l, (∀ j ∈ l, a j = false) → own1 a hs l = []
  | [], _ => rfl
  | j :: l, h => by
    show (bif a j then hs j else []) ++ own1 a hs l = []
    rw [h j (List.mem_cons_self ..), own1_none l fun k hk => h k (List.mem_cons_of_mem _ hk)]
    rfl
theorem own1_one {hs : Nat → Hp} {i : Nat} : ∀ l : List Nat, l.Nodup → i ∈ l → own1 (fun j => j == i) hs l = hs i
  | [], _, h => by cases h
  | j :: l, hn, h => by
    show (bif j == i then hs j else []) ++ own1 (fun j => j == i) hs l = hs i
    obtain ⟨h1, h2⟩ := List.nodup_cons.1 hn
    by_cases e : j = i
    · subst e
      rw [own1_none l fun k hk => by
        have : k ≠ j := fun e => h1 (e ▸ hk)
        simpa using this]
      simp
    · rcases List.mem_cons.1 h with h | h
      · exact absurd h.symm e
      · rw [own1_one l h2 h, show (j == i) = false by simpa using e]
        rfl
theorem own1_list {hs : Nat → Hp} {l : List Nat} (hn : l.Nodup) : ∀ cs : List Nat, cs.Nodup → (∀ c ∈ cs, c ∈ l) → (own1 (fun j => cs.contains j) hs l).Perm (cs.flatMap hs)
  | [], _, _ => by
    rw [own1_none l fun j _ => by simp]
    exact .refl _
  | c :: cs, h, hm => by
    obtain ⟨h1, h2⟩ := List.nodup_cons.1 h
    refine (own1_split (b := fun j => j == c) (c := fun j => cs.contains j) (fun j => ?_) (fun j => ?_) l).trans ?_
    · rw [List.contains_cons]
    · by_cases e : j = c
      · subst e; simpa using h1
      · simp [e]
    · rw [own1_one l hn (hm c (List.mem_cons_self ..)), List.flatMap_cons]
      exact List.Perm.append_left _ (own1_list hn cs h2 fun x hx => hm x (List.mem_cons_of_mem _ hx))
theorem own1_congr {a b : Nat → Bool} {hs hs' : Nat → Hp} : ∀ l : List Nat, (∀ j ∈ l, a j = b j) → (∀ j ∈ l, a j = true → hs j = hs' j) → own1 a hs l = own1 b hs' l
  | [], _, _ => rfl
  | j :: l, h1, h2 => by
    show (bif a j then hs j else []) ++ own1 a hs l = (bif b j then hs' j else []) ++ own1 b hs' l
    rw [own1_congr l (fun k hk => h1 k (List.mem_cons_of_mem _ hk)) fun k hk => h2 k (List.mem_cons_of_mem _ hk), ← h1 j (List.mem_cons_self ..)]
    cases h : a j with
    | true => rw [h2 j (List.mem_cons_self ..) h]
    | false => rfl
/-- Back to the frame. -/
theorem Own.back {st s0 : St} {a R r : Hp} (h : Own st (a ++ R)) (hr : ∀ e ∈ r, e ∈ R) (h0 : Own s0 r) : Own st (a ++ r) :=
  own_append.2 ⟨h.left, ⟨fun e he => h.right.1 e (hr e he), h0.2⟩, fun e he f hf => (own_append.1 h).2.2 e he f (hr f hf)⟩
section
variable {cx : Cx} {ops : Array Oper} {ds : List (Option Nat)} {tbl cl : List (List Nat)} {Fs : List Fact} {ρ0 : Env} {r : Hp}
theorem Steps.nil {q : PostP} {i : Nat} : Steps cx ops ds tbl cl Fs ρ0 r q 0 i := fun k h1 h2 => absurd h2 (by omega)
theorem Steps.cons {q : PostP} {n i : Nat} (h : StepAt cx ops ds tbl cl Fs ρ0 r q i) (t : Steps cx ops ds tbl cl Fs ρ0 r q n (i + 1)) : Steps cx ops ds tbl cl Fs ρ0 r q (n + 1) i := fun k h1 h2 => by
  by_cases e : k = i
  · rw [e]; exact h
  · exact t k (by omega) (by omega)
theorem getD_ds {i t : Nat} (h : ds = ops.toList.map (·.dst)) : ds.getD i none = some t ↔ ∃ o, ops[i]? = some o ∧ o.dst = some t := by
  subst h
  rw [List.getD_eq_getElem?_getD, List.getElem?_map, Array.getElem?_toList]
  cases ops[i]? with
  | none => simp
  | some o => simp
/-- Whose blocks are still there. -/
def liveL (cl : List (List Nat)) (listed : Array Bool) (j : Nat) : Bool := listed.getD j false && (List.range cl.length).all fun k => !((cl.getD k []).contains j) || !(listed.getD k false)
/-- Every order serves, where each operation yields what is said of it, whatever else was done. -/
theorem AAny_facts {Q : Post} {q : PostP} {s0 : St} (fl : List Nat) (hO : Own s0 r) (hk : okTbl ops ds tbl cl = true) (hfl : (fl.all (fun f => decide (f < ops.size) && liveB tbl cl ops.size f) && decide fl.Nodup) = true) (hstep : ∀ i, i < ops.size → StepAt cx ops ds tbl cl Fs ρ0 r q i)
    (hend : ∀ ρ s hs R, (∀ t, baseB ds tbl ops.size t = true → ρ t = ρ0 t) → (∀ j t, liveB tbl cl ops.size j = true → ds.getD j none = some t → (Fs.getD j .any).is (hs j) R (ρ t)) → Own s (fl.flatMap hs ++ R) → (∀ e ∈ r, e ∈ R) → Q .normal ρ s) :
    AAny cx ops (fun _ => false) (fun _ _ => false) Q q ops.size (Array.replicate ops.size false) (fun _ _ => True) ρ0 s0 := by
  unfold okTbl at hk
  simp only [Bool.and_eq_true, beq_iff_eq] at hk
  obtain ⟨⟨⟨⟨⟨hds, hlen⟩, hanc⟩, hdis⟩, hcl0⟩, hcll⟩ := hk
  have hnl : ∀ (listed : Array Bool) j, listed.size = ops.size → listed.getD j true = false → listed.getD j false = true → False := fun listed j hsz h1 h2 => by
    rcases Nat.lt_or_ge j listed.size with h | h
    · simp [h] at h1 h2; rw [h1] at h2; cases h2
    · simp [Array.getElem?_eq_none h] at h2
  have hafter : ∀ i o, ops[i]? = some o → ∀ e ∈ o.after, Region.binds .any e = true → e.on < i := fun i o ho e he hb => by
    have hlt := (Array.getElem?_eq_some_iff.1 ho).1
    have h1 := List.all_eq_true.1 hanc i (List.mem_range.2 hlt)
    rw [ho] at h1
    simp only [Bool.and_eq_true] at h1
    have h4 := Array.all_eq_true'.1 h1.1 e he
    simpa only [hb, Bool.not_true, Bool.false_or, decide_eq_true_eq] using h4
  have hanc' : ∀ i o j, ops[i]? = some o → (tbl.getD i []).contains j = true → ∃ e ∈ o.after, Region.binds .any e = true ∧ (e.on = j ∨ (tbl.getD e.on []).contains j = true) := fun i o j ho hj => by
    have hlt := (Array.getElem?_eq_some_iff.1 ho).1
    have h1 := List.all_eq_true.1 hanc i (List.mem_range.2 hlt)
    rw [ho] at h1
    simp only [Bool.and_eq_true] at h1
    have h2 := List.all_eq_true.1 h1.2 j (by simpa using hj)
    obtain ⟨e, he, h3⟩ := Array.any_eq_true'.1 h2
    simp only [Bool.and_eq_true, Bool.or_eq_true, beq_iff_eq] at h3
    exact ⟨e, he, h3.1, h3.2⟩
  have htin : ∀ i j, (tbl.getD i []).contains j = true → i < ops.size := fun i j h => by
    rcases Nat.lt_or_ge i ops.size with h' | h'
    · exact h'
    · rw [List.getD_eq_getElem?_getD, List.getElem?_eq_none (by omega)] at h
      simp at h
  have htlt : ∀ n j, (tbl.getD n []).contains j = true → j < n := by
    intro n
    induction n using Nat.strongRecOn with
    | _ n ih =>
      intro j hj
      have hlt := htin n j hj
      obtain ⟨e, he, hb, h1⟩ := hanc' n ops[n] j (Array.getElem?_eq_getElem hlt) hj
      have h4 := hafter n ops[n] (Array.getElem?_eq_getElem hlt) e he hb
      rcases h1 with h1 | h1
      · omega
      · exact Nat.lt_trans (ih e.on h4 j h1) h4
  have hcin : ∀ i j, (cl.getD i []).contains j = true → i < ops.size := fun i j h => by
    rcases Nat.lt_or_ge i ops.size with h' | h'
    · exact h'
    · rw [List.getD_eq_getElem?_getD, List.getElem?_eq_none (by omega)] at h
      simp at h
  have hct : ∀ i j, (cl.getD i []).contains j = true → (tbl.getD i []).contains j = true := fun i j h => by
    have h1 := List.all_eq_true.1 hcl0 i (List.mem_range.2 (hcin i j h))
    simp only [Bool.and_eq_true] at h1
    exact List.all_eq_true.1 h1.1 j (by simpa using h)
  have hcn : ∀ i, i < ops.size → (cl.getD i []).Nodup := fun i h => by
    have h1 := List.all_eq_true.1 hcl0 i (List.mem_range.2 h)
    simp only [Bool.and_eq_true, decide_eq_true_eq] at h1
    exact h1.2
  have hcd : ∀ i j k, (cl.getD i []).contains k = true → (cl.getD j []).contains k = true → i = j := fun i j k h1 h2 => by
    have h3 := List.all_eq_true.1 (List.all_eq_true.1 hdis i (List.mem_range.2 (hcin i k h1))) j (List.mem_range.2 (hcin j k h2))
    simp only [Bool.or_eq_true, beq_iff_eq, Bool.and_eq_true] at h3
    rcases h3 with h3 | h3
    · exact h3
    · have h4 := List.all_eq_true.1 h3.2 k (by simpa using h1)
      rw [h2] at h4
      cases h4
  have hlive : ∀ (listed : Array Bool) j, liveL cl listed j = true ↔ (listed.getD j false = true ∧ ∀ k, (cl.getD k []).contains j = true → listed.getD k false = false) := fun listed j => by
    unfold liveL
    rw [Bool.and_eq_true, List.all_eq_true]
    refine and_congr_right fun _ => ⟨fun h k hk => ?_, fun h k hk => ?_⟩
    · have := h k (List.mem_range.2 (by rw [hcll]; exact hcin k j hk))
      rw [hk] at this
      simpa using this
    · cases hc : (cl.getD k []).contains j with
      | false => rfl
      | true => rw [h k hc]; rfl
  refine AAny_inv (fun listed ρ s => (∀ i j, listed.getD i false = true → (tbl.getD i []).contains j = true → listed.getD j false = true) ∧
      (∀ t, (∀ j, ds.getD j none = some t → listed.getD j false = false) → ρ t = ρ0 t) ∧
      ∃ hs R, Own s (own1 (liveL cl listed) hs (List.range ops.size) ++ R) ∧ (∀ e ∈ r, e ∈ R) ∧ ∀ j t, ds.getD j none = some t → liveL cl listed j = true → (Fs.getD j .any).is (hs j) R (ρ t)) ?_ ?_ _ _ _ _ _ (by simp) ?_ ?_ (fun _ _ => trivial)
  · rintro listed ρ s i o hsz hi ho ⟨hcl, hbase, hs, R, hOR, hrR, hF⟩
    obtain ⟨hun, o', ho', hall⟩ := mem_ready.1 hi
    rw [ho] at ho'; injection ho' with e0; subst e0
    have hlt := (Array.getElem?_eq_some_iff.1 ho).1
    have hani : ∀ k, (tbl.getD i []).contains k = true → listed.getD k false = true := fun k hk => by
      obtain ⟨e, he, hb, h1 | h1⟩ := hanc' i o k ho hk
      · rw [← h1]; exact hall e he hb
      · exact hcl _ _ (hall e he hb) h1
    have huni : listed.getD i false = false := by
      cases h : listed.getD i false with
      | false => rfl
      | true => exact (hnl listed i hsz hun h).elim
    have hafi : ∀ k, (tbl.getD k []).contains i = true → listed.getD k false = false := fun k hk => by
      cases h : listed.getD k false with
      | false => rfl
      | true => rw [hcl k i h hk] at huni; cases huni
    have hlv : ∀ j, ((tbl.getD i []).contains j && liveB tbl cl i j) = true → liveL cl listed j = true := fun j hj => by
      rw [Bool.and_eq_true] at hj
      refine (hlive listed j).2 ⟨hani j hj.1, fun k hk => ?_⟩
      have h1 := List.all_eq_true.1 hj.2 k (List.mem_range.2 (by rw [hcll]; exact hcin k j hk))
      rw [hk] at h1
      simp only [Bool.not_true, Bool.false_or, Bool.or_eq_true, beq_iff_eq] at h1
      rcases h1 with h1 | h1
      · rw [h1]; exact huni
      · exact hafi k h1
    have hcv : ∀ j, (cl.getD i []).contains j = true → liveL cl listed j = true := fun j hj =>
      (hlive listed j).2 ⟨hani j (hct i j hj), fun k hk => by rw [← hcd i k j hj hk]; exact huni⟩
    have hlin : liveL cl listed i = false := by
      cases h : liveL cl listed i with
      | false => rfl
      | true => rw [((hlive listed i).1 h).1] at huni; cases huni
    have hp1 : (own1 (liveL cl listed) hs (List.range ops.size)).Perm ((cl.getD i []).flatMap hs ++ own1 (fun j => liveL cl listed j && !((cl.getD i []).contains j)) hs (List.range ops.size)) := by
      refine (own1_split (b := fun j => (cl.getD i []).contains j) (c := fun j => liveL cl listed j && !((cl.getD i []).contains j)) (fun j => ?_) (fun j => ?_) _).trans (List.Perm.append_right _ (own1_list List.nodup_range _ (hcn i hlt) fun c hc => ?_))
      · cases h : (cl.getD i []).contains j with
        | true => rw [hcv j h]; rfl
        | false => cases liveL cl listed j <;> rfl
      · cases (cl.getD i []).contains j <;> cases liveL cl listed j <;> rfl
      · have := htlt i c (hct i c (by simpa using hc))
        exact List.mem_range.2 (by omega)
    have hO1 : Own s ((cl.getD i []).flatMap hs ++ (own1 (fun j => liveL cl listed j && !((cl.getD i []).contains j)) hs (List.range ops.size) ++ R)) := hOR.perm (by
      rw [← List.append_assoc]
      exact List.Perm.append_right _ hp1)
    have hset : ∀ k, k ≠ i → (listed.setIfInBounds i true).getD k false = listed.getD k false := fun k hk => getD_set_ne false (Ne.symm hk)
    have hseti : (listed.setIfInBounds i true).getD i false = true := by simp [hsz, hlt]
    have hst := hstep i hlt ρ s hs R _ (fun t ht => hbase t fun k hk => ?_) (fun k t hk ht => hF k t ht (hlv k hk)) (fun j hj e he => ?_) hO1 (fun e he => List.mem_append_right _ he) hrR
    · rw [ho, atO_some] at hst
      refine aexec_mono hst (fun V s' hg => ?_) fun _ _ h => h
      obtain ⟨h, l, hO', hV⟩ := hg
      have hlv' : ∀ j, liveL cl (listed.setIfInBounds i true) j = (j == i || (liveL cl listed j && !((cl.getD i []).contains j))) := fun j => by
        rw [Bool.eq_iff_iff, hlive, Bool.or_eq_true, Bool.and_eq_true, hlive, beq_iff_eq]
        constructor
        · rintro ⟨h1, h2⟩
          by_cases e : j = i
          · exact .inl e
          · rw [hset j e] at h1
            refine .inr ⟨⟨h1, fun k hk => ?_⟩, ?_⟩
            · cases hk2 : listed.getD k false with
              | false => rfl
              | true => rw [← h2 k hk, getD_set_true hk2]
            · cases hc : (cl.getD i []).contains j with
              | false => rfl
              | true => have := h2 i hc; rw [hseti] at this; cases this
        · rintro (e | ⟨⟨h1, h2⟩, h3⟩)
          · subst e
            refine ⟨hseti, fun k hk => ?_⟩
            have h5 := htlt k j (hct k j hk)
            rw [hset k (by omega)]
            exact hafi k (hct k j hk)
          · refine ⟨getD_set_true h1, fun k hk => ?_⟩
            have : k ≠ i := fun e => by rw [e] at hk; rw [hk] at h3; cases h3
            rw [hset k this]
            exact h2 k hk
      refine ⟨fun i2 k hi2 hk => ?_, fun t ht => ?_, fun j => if j = i then h else hs j, l ++ R, ?_, fun e he => List.mem_append_right _ (hrR e he), fun k t hk hl => ?_⟩
      · by_cases e : i2 = i
        · subst e; exact getD_set_true (hani k hk)
        · rw [hset i2 e] at hi2; exact getD_set_true (hcl i2 k hi2 hk)
      · have hne : ∀ u, o.dst = some u → t ≠ u := fun u hu e => by
          subst e
          have := ht i ((getD_ds hds).2 ⟨o, ho, hu⟩)
          rw [hseti] at this
          cases this
        have e1 : putO ρ o.dst V t = ρ t := by
          cases hd : o.dst with
          | none => rfl
          | some u => simp [putO, put, hne u hd]
        rw [e1]
        refine hbase t fun k hk => ?_
        cases h : listed.getD k false with
        | false => rfl
        | true => have := ht k hk; rw [getD_set_true h] at this; cases this
      · refine hO'.perm ?_
        refine List.Perm.trans (List.Perm.append_left _ (perm_swap _ _ _)) ?_
        rw [← List.append_assoc]
        refine List.Perm.append_right _ (List.Perm.symm ?_)
        refine (own1_split hlv' (fun j => ?_) _).trans ?_
        · by_cases e : j = i
          · subst e; rw [hlin]; simp
          · simp [e]
        · rw [own1_one _ List.nodup_range (List.mem_range.2 hlt), if_pos rfl]
          refine List.Perm.append_left _ (List.Perm.of_eq (own1_congr _ (fun _ _ => rfl) fun j _ hj => ?_))
          have : j ≠ i := fun e => by subst e; rw [hlin] at hj; simp at hj
          rw [if_neg this]
      · rw [hlv' k] at hl
        by_cases e : k = i
        · subst e
          obtain ⟨o2, ho2, hd⟩ := (getD_ds hds).1 hk
          rw [ho] at ho2; injection ho2 with e0; subst e0
          rw [hd]
          simpa [putO, put] using hV
        · have hl' : liveL cl listed k = true := by
            simp only [e, Bool.or_eq_true, beq_iff_eq, false_or, Bool.and_eq_true] at hl
            exact hl.1
          have hne : ∀ u, o.dst = some u → t ≠ u := fun u hu e2 => by
            subst e2
            have h1 := (getD_ds hds).2 ⟨o, ho, hu⟩
            obtain ⟨o2, ho2, _⟩ := (getD_ds hds).1 hk
            have hkl := (Array.getElem?_eq_some_iff.1 ho2).1
            have := List.all_eq_true.1 (List.all_eq_true.1 hdis k (List.mem_range.2 hkl)) i (List.mem_range.2 hlt)
            rw [hk, h1] at this
            simp [e] at this
          have e1 : putO ρ o.dst V t = ρ t := by
            cases hd : o.dst with
            | none => rfl
            | some u => simp [putO, put, hne u hd]
          rw [e1]
          show (Fs.getD k .any).is (if k = i then h else hs k) (l ++ R) (ρ t)
          rw [if_neg e]
          exact (Fs.getD k .any).up _ R _ _ (fun e he => List.mem_append_right _ he) (hF k t hk hl')
    · unfold baseB at ht
      obtain ⟨o2, ho2, _⟩ := (getD_ds hds).1 hk
      have hkl := (Array.getElem?_eq_some_iff.1 ho2).1
      have hlen2 : ds.length = ops.size := by rw [hds]; simp
      have h1 := List.all_eq_true.1 ht k (List.mem_range.2 (by rw [hlen2]; exact hkl))
      simp only [Bool.or_eq_true, bne_iff_ne, beq_iff_eq, hk, ne_eq, not_true_eq_false, false_or] at h1
      rcases h1 with h1 | h1
      · rw [h1]; exact huni
      · exact hafi k h1
    · rw [Bool.and_eq_true] at hj
      have hj1 := hlv j hj.1
      rw [Bool.and_eq_true] at hj
      have hjlt := htlt i j hj.1.1
      refine List.mem_append_left _ (List.mem_flatMap.2 ⟨j, List.mem_range.2 (by omega), ?_⟩)
      show e ∈ bif (liveL cl listed j && !((cl.getD i []).contains j)) then hs j else []
      rw [hj1, hj.2]
      exact he
  · rintro listed ρ s hsz hr ⟨hcl, hbase, hs, R, hOR, hrR, hF⟩
    have hallL : ∀ n i, i < n → i < ops.size → listed.getD i false = true := by
      intro n
      induction n with
      | zero => intro i h; exact absurd h (by omega)
      | succ n ih =>
        intro i hi hlt
        cases h : listed.getD i false with
        | true => rfl
        | false =>
          have ho : ops[i]? = some ops[i] := Array.getElem?_eq_getElem hlt
          have hm : i ∈ Region.ready .any ops listed := mem_ready.2 ⟨by simp [hsz, hlt] at h ⊢; exact h, ops[i], ho, fun e he hb => by
            have h2 := hafter i ops[i] ho e he hb
            exact ih e.on (by omega) (by omega)⟩
          rw [hr] at hm
          cases hm
    have hlv : ∀ j, j < ops.size → liveB tbl cl ops.size j = true → liveL cl listed j = true := fun j hj h => by
      refine (hlive listed j).2 ⟨hallL _ j (Nat.lt_succ_self _) hj, fun k hk => ?_⟩
      have hkl := hcin k j hk
      have h1 := List.all_eq_true.1 h k (List.mem_range.2 (by rw [hcll]; exact hkl))
      rw [hk] at h1
      simp only [Bool.not_true, Bool.false_or, Bool.or_eq_true, beq_iff_eq] at h1
      rcases h1 with h1 | h1
      · omega
      · have := htlt k _ h1
        omega
    simp only [Bool.and_eq_true, decide_eq_true_eq] at hfl
    have hflv : ∀ f ∈ fl, f < ops.size ∧ liveB tbl cl ops.size f = true := fun f hf => by
      have := List.all_eq_true.1 hfl.1 f hf
      simpa only [Bool.and_eq_true, decide_eq_true_eq] using this
    have hp1 : (own1 (liveL cl listed) hs (List.range ops.size)).Perm (fl.flatMap hs ++ own1 (fun j => liveL cl listed j && !(fl.contains j)) hs (List.range ops.size)) := by
      refine (own1_split (b := fun j => fl.contains j) (c := fun j => liveL cl listed j && !(fl.contains j)) (fun j => ?_) (fun j => ?_) _).trans (List.Perm.append_right _ (own1_list List.nodup_range _ hfl.2 fun c hc => List.mem_range.2 (hflv c hc).1))
      · cases h : fl.contains j with
        | true =>
          have hm := hflv j (by simpa using h)
          rw [hlv j hm.1 hm.2]; rfl
        | false => cases liveL cl listed j <;> rfl
      · cases fl.contains j <;> cases liveL cl listed j <;> rfl
    have hOf : Own s (fl.flatMap hs ++ R) := by
      have h1 := hOR.perm (List.Perm.append_right R hp1)
      rw [List.append_assoc] at h1
      exact h1.sub (List.Sublist.append_left (List.sublist_append_right _ _) _)
    refine hend ρ s hs R (fun t ht => hbase t fun j hj => ?_) (fun j t hj ht => ?_) hOf hrR
    · obtain ⟨o, ho, _⟩ := (getD_ds hds).1 hj
      have hlt := (Array.getElem?_eq_some_iff.1 ho).1
      unfold baseB at ht
      have hlen2 : ds.length = ops.size := by rw [hds]; simp
      have h1 := List.all_eq_true.1 ht j (List.mem_range.2 (by rw [hlen2]; exact hlt))
      simp only [Bool.or_eq_true, bne_iff_ne, beq_iff_eq, hj, ne_eq, not_true_eq_false, false_or] at h1
      rcases h1 with h1 | h1
      · omega
      · have := htlt j _ h1
        omega
    · obtain ⟨o, ho, _⟩ := (getD_ds hds).1 ht
      have hlt := (Array.getElem?_eq_some_iff.1 ho).1
      exact hF j t ht (hlv j hlt hj)
  · exact Nat.le_trans (List.length_filter_le _ _) (by simp)
  · have hno : ∀ j, (Array.replicate ops.size false).getD j false = false := fun j => by
      simp only [Array.getD_eq_getD_getElem?, Array.getElem?_replicate]
      split <;> rfl
    have hln : ∀ j, liveL cl (Array.replicate ops.size false) j = false := fun j => by
      unfold liveL
      rw [hno j]
      rfl
    refine ⟨fun i j h _ => ?_, fun t _ => rfl, fun _ => [], r, ?_, fun _ h => h, fun j t _ h => ?_⟩
    · rw [hno i] at h; cases h
    · rw [own1_none _ fun j _ => hln j]
      exact hO
    · rw [hln j] at h; cases h
theorem ADraw.facts {Q : Post} {qp : PostP} {s0 : St} (ds : List (Option Nat)) (tbl cl : List (List Nat)) (Fs : List Fact) (fl : List Nat) (hO : Own s0 r)
    (hk : (okTbl ops ds tbl cl && (fl.all (fun f => decide (f < ops.size) && liveB tbl cl ops.size f) && decide fl.Nodup)) = true) (hs : Steps cx ops ds tbl cl Fs ρ0 r qp ops.size 0)
    (hend : ∀ ρ s hs R, (∀ t, baseB ds tbl ops.size t = true → ρ t = ρ0 t) → (∀ j t, liveB tbl cl ops.size j = true → ds.getD j none = some t → (Fs.getD j .any).is (hs j) R (ρ t)) → Own s (fl.flatMap hs ++ R) → (∀ e ∈ r, e ∈ R) → Q .normal ρ s) :
    ADraw cx (stop ops .mk) (stop Q .mk) (stop qp .mk) ρ0 s0 := by
  rw [Bool.and_eq_true] at hk
  exact ⟨_, _, AAny_facts fl hO hk.1 hk.2 (fun i hi => hs i (Nat.zero_le _) (by rw [Nat.zero_add]; exact hi)) hend⟩
end
end Go.Abs
