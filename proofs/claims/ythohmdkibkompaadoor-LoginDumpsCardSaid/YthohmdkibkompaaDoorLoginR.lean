/- A desk that is made of what a desk dumps. No conditions. -/
import Derived.Test.YthohmdkibkompaaDoorLoginQ
import Derived.Test.YthohmdkibkompaaDoorLoginI
set_option linter.unusedVariables false
set_option linter.unusedSimpArgs false
namespace Go.Proofs.YthohmdkibkompaaDoor
open Go Go.Abs Go.RowKit

theorem mput_mem {a : List Nat} {v : Int × Int} : ∀ {F : Fails} {x : List Nat × Int × Int}, x ∈ mput a v F → x = (a, v) ∨ x ∈ F
  | [], x, h => by simp [mput] at h; exact .inl h
  | (b, u) :: F, x, h => by
    unfold mput at h
    split at h
    · rcases List.mem_cons.1 h with h | h
      · exact .inl h
      · exact .inr (List.mem_cons_of_mem _ h)
    · rcases List.mem_cons.1 h with h | h
      · exact .inr (h ▸ List.mem_cons_self ..)
      · rcases mput_mem h with h | h
        · exact .inl h
        · exact .inr (List.mem_cons_of_mem _ h)
theorem mdel_ne {a : List Nat} : ∀ {F : Fails}, (F.map (·.1)).Nodup → ∀ x ∈ mdel a F, x.1 ≠ a
  | [], _, x, h => by simp [mdel] at h
  | (b, u) :: F, hn, x, h => by
    rw [List.map_cons, List.nodup_cons] at hn
    unfold mdel at h
    split at h
    · rename_i e
      subst e
      intro e
      have := List.mem_map_of_mem (f := fun x : List Nat × Int × Int => x.1) h
      exact hn.1 (e ▸ this)
    · rename_i e
      rcases List.mem_cons.1 h with h | h
      · rw [h]; exact e
      · exact mdel_ne hn.2 x h
theorem mput_new {a : List Nat} {v : Int × Int} : ∀ {F : Fails}, a ∉ F.map (·.1) → mput a v F = F ++ [(a, v)]
  | [], _ => rfl
  | (b, u) :: F, h => by
    rw [List.map_cons, List.mem_cons, not_or] at h
    unfold mput
    rw [if_neg (fun e => h.1 e.symm), mput_new h.2]
    rfl
theorem mget_some {a : List Nat} : ∀ {F : Fails}, a ∈ F.map (·.1) → (a, gF F a) ∈ F
  | [], h => by cases h
  | (b, u) :: F, h => by
    unfold gF mget
    split
    · rename_i e
      subst e
      exact List.mem_cons_self ..
    · rename_i e
      rw [List.map_cons, List.mem_cons] at h
      rcases h with h | h
      · exact absurd h.symm e
      · exact List.mem_cons_of_mem _ (mget_some h)
theorem mget_none {a : List Nat} : ∀ {F : Fails}, a ∉ F.map (·.1) → gF F a = (0, 0)
  | [], h => rfl
  | (b, u) :: F, h => by
    rw [List.map_cons, List.mem_cons, not_or] at h
    unfold gF mget
    rw [if_neg (fun e => h.1 e.symm)]
    exact mget_none h.2
theorem gF_map (g : List Nat → Int × Int) (a : List Nat) : ∀ K : List (List Nat), a ∈ K → gF (K.map fun b => (b, g b)) a = g a
  | [], h => by cases h
  | b :: K, h => by
    unfold gF
    rw [List.map_cons]
    unfold mget
    by_cases e : b = a
    · rw [if_pos e, e]; rfl
    · rw [if_neg e]
      rcases List.mem_cons.1 h with h | h
      · exact absurd h.symm e
      · exact gF_map g a K h
/-- What holds of a desk that has been made by changes. -/
structure DI (d : DS) : Prop where
  keys : (d.F.map (·.1)).Nodup
  each : ∀ x ∈ d.F, x.2.1 ≠ 0 ∧ Bt x.1 ∧ x.1.length ≤ 200
  ids : (d.L.map Ses.id).Nodup
  ses : ∀ s ∈ d.L, s.ok
theorem DI.nil (c : Int) : DI ⟨c, [], []⟩ := ⟨List.nodup_nil, fun x hx => (by cases hx), List.nodup_nil, fun x hx => (by cases hx)⟩
theorem DI.apF {d : DS} {x : Chg} (h : DI d) (hx : x.ok) (hl : x.a.length ≤ 200) : DI (apF d x) := by
  obtain ⟨h1, h2, h3, h4⟩ := h
  obtain ⟨o1, o2, o3, o4, o5, o6⟩ := hx
  unfold Go.Proofs.YthohmdkibkompaaDoor.apF
  split
  · exact ⟨h1, h2, h3, h4⟩
  split
  · have hp : ((mput x.a (x.n, x.m) d.F).map (·.1)).Nodup := mput_nodup h1
    by_cases hn : x.n = 0
    · refine ⟨?_, ?_, h3, h4⟩
      · show ((if x.n = 0 then mdel x.a (mput x.a (x.n, x.m) d.F) else _).map (·.1)).Nodup
        rw [if_pos hn]
        exact mdel_nodup hp
      · show ∀ y ∈ (if x.n = 0 then mdel x.a (mput x.a (x.n, x.m) d.F) else _), _
        rw [if_pos hn]
        intro y hy
        rcases mput_mem (mdel_mem y hy) with e | e
        · exact absurd (congrArg (·.1) e) (mdel_ne hp y hy)
        · exact h2 y e
    · refine ⟨?_, ?_, h3, h4⟩
      · show ((if x.n = 0 then _ else mput x.a (x.n, x.m) d.F).map (·.1)).Nodup
        rw [if_neg hn]
        exact hp
      · show ∀ y ∈ (if x.n = 0 then _ else mput x.a (x.n, x.m) d.F), _
        rw [if_neg hn]
        intro y hy
        rcases mput_mem hy with e | e
        · rw [e]; exact ⟨hn, o1, hl⟩
        · exact h2 y e
  split
  · refine ⟨h1, h2, ?_, ?_⟩
    · show (((d.L.filter fun s => !isId x.a s) ++ [(⟨x.a, x.b, x.n⟩ : Ses)]).map Ses.id).Nodup
      rw [List.map_append, List.nodup_append]
      refine ⟨h3.sublist ((List.filter_sublist).map _), by simp, fun a ha b hb e => ?_⟩
      simp at hb
      subst hb
      subst e
      obtain ⟨s, hs, e⟩ := List.mem_map.1 ha
      have := (List.mem_filter.1 hs).2
      simp [isId, e] at this
    · intro s hs
      rcases List.mem_append.1 hs with hs | hs
      · exact h4 s (List.mem_filter.1 hs).1
      · rw [List.mem_singleton.1 hs]
        exact ⟨o1, o2, o3, o4⟩
  split
  · exact ⟨h1, h2, h3.sublist ((List.filter_sublist).map _), fun s hs => h4 s (List.mem_filter.1 hs).1⟩
  · exact ⟨h1, h2, h3, h4⟩
theorem DI.apL {cs : List Chg} : ∀ {d : DS}, DI d → (∀ x ∈ cs, x.ok ∧ x.a.length ≤ 200) → DI (apL d cs) := by
  induction cs with
  | nil => exact fun h _ => h
  | cons x cs ih => exact fun h hc => ih (h.apF (hc x (by simp)).1 (hc x (by simp)).2) fun y hy => hc y (by simp [hy])
theorem apL_ok {cs : List Chg} : ∀ {d : DS}, d.ok → (∀ x ∈ cs, x.ok) → (apL d cs).ok := by
  induction cs with
  | nil => exact fun h _ => h
  | cons x cs ih => exact fun h hc => ih (apF_ok h (hc x (by simp))) fun y hy => hc y (by simp [hy])
theorem apL_len {cs : List Chg} : ∀ {d : DS}, (apL d cs).L.length ≤ d.L.length + cs.length := by
  induction cs with
  | nil => exact Nat.le_refl _
  | cons x cs ih =>
    intro d
    have h1 := apF_len (d := d) (x := x)
    have h2 := ih (d := apF d x)
    show (apL (apF d x) cs).L.length ≤ d.L.length + (cs.length + 1)
    omega
theorem mput_len {a : List Nat} {v : Int × Int} (F : Fails) : (mput a v F).length ≤ F.length + 1 := by
  have h := congrArg List.length (mput_keys (k := a) (v := v) F)
  rw [List.length_map] at h
  rw [h]
  split <;> simp
theorem apF_lenF {d : DS} {x : Chg} : (apF d x).F.length ≤ d.F.length + 1 := by
  unfold apF
  split
  · simp
  split
  · have := mput_len (a := x.a) (v := (x.n, x.m)) d.F
    show (if x.n = 0 then _ else _ : Fails).length ≤ _
    split
    · exact Nat.le_trans (mdel_sub _).length_le this
    · exact this
  split
  · simp
  split <;> simp
theorem apL_lenF {cs : List Chg} : ∀ {d : DS}, (apL d cs).F.length ≤ d.F.length + cs.length := by
  induction cs with
  | nil => exact Nat.le_refl _
  | cons x cs ih =>
    intro d
    have h1 := apF_lenF (d := d) (x := x)
    have h2 := ih (d := apF d x)
    show (apL (apF d x) cs).F.length ≤ d.F.length + (cs.length + 1)
    omega
theorem apL_app (d : DS) (a b : List Chg) : apL d (a ++ b) = apL (apL d a) b := List.foldl_append
theorem ap_fails (F : Fails) (c : Int) : ∀ (K : List (List Nat)) (acc : Fails), (acc.map (·.1) ++ K).Nodup → (∀ a ∈ K, (gF F a).1 ≠ 0) → apL ⟨c, acc, []⟩ (K.map (failM F)) = ⟨c, acc ++ K.map fun a => (a, gF F a), []⟩
  | [], acc, _, _ => by simp [apL]
  | a :: K, acc, hn, hz => by
    have h1 : apF ⟨c, acc, []⟩ (failM F a) = ⟨c, acc ++ [(a, gF F a)], []⟩ := by
      show (⟨c, if (gF F a).1 = 0 then _ else mput a (gF F a) acc, []⟩ : DS) = _
      rw [if_neg (hz a (by simp)), mput_new]
      rw [List.nodup_append] at hn
      exact fun h => hn.2.2 a h a (by simp) rfl
    show apL (apF ⟨c, acc, []⟩ (failM F a)) (K.map (failM F)) = _
    rw [h1, ap_fails F c K _ (by simpa using hn) (fun b hb => hz b (by simp [hb]))]
    simp
theorem ap_ses (c : Int) (F : Fails) : ∀ (L acc : List Ses), ((acc ++ L).map Ses.id).Nodup → apL ⟨c, F, acc⟩ (L.map sesM) = ⟨c, F, acc ++ L⟩
  | [], acc, _ => by simp [apL]
  | s :: L, acc, hn => by
    have h1 : apF ⟨c, F, acc⟩ (sesM s) = ⟨c, F, acc ++ [s]⟩ := by
      show (⟨c, F, (acc.filter fun t => !isId s.id t) ++ [s]⟩ : DS) = _
      rw [List.filter_eq_self.2 fun t ht => ?_]
      rw [List.map_append, List.nodup_append] at hn
      have := hn.2.2 t.id (List.mem_map_of_mem ht) s.id (by simp)
      simp [isId, this]
    show apL (apF ⟨c, F, acc⟩ (sesM s)) (L.map sesM) = _
    rw [h1, ap_ses c F L _ (by simpa using hn)]
    simp
/-- The desk made again. -/
def again (d : DS) (K : List (List Nat)) : DS := ⟨d.c, K.map fun a => (a, gF d.F a), d.L⟩
theorem KeysOf.nodup {d : DS} (h : DI d) {K : List (List Nat)} (hK : KeysOf K d.F) : K.Nodup := (hK.1.nodup_iff).2 h.keys
theorem KeysOf.bt {d : DS} (h : DI d) {K : List (List Nat)} (hK : KeysOf K d.F) : ∀ a ∈ K, (gF d.F a).1 ≠ 0 ∧ Bt a ∧ a.length ≤ 200 := fun a ha => by
  have := h.each _ (mget_some (hK.1.mem_iff.1 ha))
  exact this
theorem apL_dump {d : DS} (h : DI d) {K : List (List Nat)} (hK : KeysOf K d.F) : apL ⟨0, [], []⟩ (dumpL d K) = again d K := by
  unfold dumpL
  rw [apL_app, apL_app]
  have h1 : apL ⟨0, [], []⟩ (preL d.c) = ⟨d.c, [], []⟩ := by
    unfold preL
    split
    · rename_i e
      rw [e]; rfl
    · rfl
  rw [h1, ap_fails d.F d.c K [] (by simpa using hK.nodup h) (fun a ha => (hK.bt h a ha).1), ap_ses _ _ d.L [] (by simpa using h.ids)]
  rfl
theorem again_gF {d : DS} {K : List (List Nat)} (hK : KeysOf K d.F) (a : List Nat) : gF (again d K).F a = gF d.F a := by
  by_cases h : a ∈ K
  · exact gF_map (gF d.F) a K h
  · rw [mget_none (F := d.F) (fun e => h (hK.1.mem_iff.2 e)), mget_none]
    show a ∉ (K.map fun a => (a, gF d.F a)).map (·.1)
    rw [List.map_map]
    simpa using h
theorem again_keys {d : DS} (h : DI d) {K K' : List (List Nat)} (hK : KeysOf K d.F) (hK' : KeysOf K' (again d K).F) : K' = K := by
  have hp : K'.Perm K := by
    have := hK'.1
    rw [show (again d K).F.map (·.1) = K by show (K.map fun a => (a, gF d.F a)).map (·.1) = K; rw [List.map_map]; simp [Function.comp_def]] at this
    exact this
  have e : K'.map b8 = K.map b8 := List.Perm.eq_of_pairwise (le := fun a b => a ≤ b) (fun a b _ _ h1 h2 => List.le_antisymm h1 h2) hK'.2 hK.2 (hp.map _)
  have inv : ∀ L : List (List Nat), (∀ a ∈ L, Bt a) → (L.map b8).map (fun s => s.map UInt8.toNat) = L := fun L hL => by
    rw [List.map_map]
    conv => rhs; rw [← List.map_id L]
    apply List.map_congr_left
    intro a ha
    exact b8_inv (hL a ha)
  rw [← inv K' (fun a ha => (hK.bt h a (hp.mem_iff.1 ha)).2.1), ← inv K (fun a ha => (hK.bt h a ha).2.1), e]
theorem again_dump {d : DS} {K : List (List Nat)} (hK : KeysOf K d.F) : dumpL (again d K) K = dumpL d K := by
  unfold dumpL
  congr 2
  apply List.map_congr_left
  intro a _
  unfold failM
  rw [again_gF hK]
theorem again_try {U : Rul} {key : List Nat} {d : DS} {K : List (List Nat)} (hK : KeysOf K d.F) {name : List Nat} {good : Bool} {now : Int} :
    tryF U key (again d K).c (again d K).F (again d K).L name good now = tryF U key d.c d.F d.L name good now := by
  unfold tryF
  rw [again_gF hK]
  rfl
theorem dump_my (d : DS) (K : List (List Nat)) : myN (dumpL d K) = (dumpL d K).length := by
  unfold myN
  rw [List.filter_eq_self.2]
  intro x hx
  unfold dumpL preL at hx
  simp only [List.mem_append, List.mem_map] at hx
  rcases hx with (hx | ⟨a, _, rfl⟩) | ⟨s, _, rfl⟩
  · split at hx
    · cases hx
    · rw [List.mem_singleton.1 hx]; rfl
  · rfl
  · rfl
theorem dump_ok {d : DS} (hd : d.ok) (h : DI d) {K : List (List Nat)} (hK : KeysOf K d.F) : ∀ x ∈ dumpL d K, x.ok := by
  intro x hx
  unfold dumpL preL at hx
  simp only [List.mem_append, List.mem_map] at hx
  rcases hx with (hx | ⟨a, ha, rfl⟩) | ⟨s, hs, rfl⟩
  · split at hx
    · cases hx
    · rw [List.mem_singleton.1 hx]
      exact ⟨Bt.nil, Bt.nil, hd.2.1, hd.2.2, by show (-9223372036854775808 : Int) ≤ 0; decide, by show (0 : Int) ≤ 9223372036854775807; decide⟩
  · have := hd.1 _ (mget_some (hK.1.mem_iff.1 ha))
    exact ⟨(hK.bt h a ha).2.1, Bt.nil, this.1, this.2.1, this.2.2.1, this.2.2.2⟩
  · have := h.ses s hs
    exact ⟨this.1, this.2.1, this.2.2.1, this.2.2.2, by show (-9223372036854775808 : Int) ≤ 0; decide, by show (0 : Int) ≤ 9223372036854775807; decide⟩
theorem dump_len {d : DS} {K : List (List Nat)} (hK : KeysOf K d.F) : (dumpL d K).length ≤ 1 + d.F.length + d.L.length := by
  have := hK.1.length_eq
  rw [List.length_map] at this
  unfold dumpL preL
  simp only [List.length_append, List.length_map]
  split <;> simp <;> omega
end Go.Proofs.YthohmdkibkompaaDoor
