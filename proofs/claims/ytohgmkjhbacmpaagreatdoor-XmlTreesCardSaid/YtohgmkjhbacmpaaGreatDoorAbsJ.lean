/- Contracts of the library whose calls make a block, or sort a slice in place. -/
import Derived.Test.YtohgmkjhbacmpaaGreatDoorAbsI
import Derived.Test.YtohgmkjhbacmpaaGreatDoorAbsQ
import Derived.Maps.Own
import Derived.Sort.KeysCollected
import Derived.Laws.AppendOwn
set_option linter.unusedVariables false
set_option linter.unusedSimpArgs false
namespace Go.Abs
open Go.RowKit

/-- A new block, somewhere behind what was there. -/
theorem HR.grow {cx : Cx} {φ : Emb} {st : St} {w w' : World} (h : HR cx φ st w) (hb : Below w.heap.size w w') (o : Ob) (p : Pl) (hp : w.heap.size ≤ p.blk)
    (ho : ObR cx (φ.ins st.n p) p w' o) : HR cx (φ.ins st.n p) (st.new o) w' where
  below := h.below.trans (hb.mono h.size)
  size := Nat.le_trans h.size hb.size
  glob := h.glob
  ident := fun g hg => let ⟨q, a, b⟩ := h.ident g hg; ⟨q, h.ins_le p _ _ a, b⟩
  dom := fun B q hq => by
    unfold Emb.ins at hq
    show B < st.n + 1
    split at hq
    · omega
    · exact Nat.lt_succ_of_lt (h.dom B q hq)
  live := fun B o' hB => by
    by_cases e : B = st.n
    · subst e
      simp [St.new] at hB
      subst hB
      exact ⟨p, by simp [Emb.ins], ho⟩
    · simp [St.new, e] at hB
      obtain ⟨q, hq, hoq⟩ := h.live B o' hB
      exact ⟨q, h.ins_le p _ _ hq, hoq.mono (h.ins_le p) (hb.block _ hoq.lt)⟩
  dis := fun B1 B2 o1 o2 p1 p2 hne h1 h2 k1 k2 q1 q2 => by
    by_cases e1 : B1 = st.n
    · have e2 : B2 ≠ st.n := fun e => hne (e1.trans e.symm)
      simp [St.new, e2] at h2
      simp [Emb.ins, e1] at q1
      simp [Emb.ins, e2] at q2
      obtain ⟨q, hq, hoq⟩ := h.live B2 o2 h2
      rw [hq] at q2; injection q2 with q2; subst q2 q1
      have := hoq.lt; omega
    · simp [St.new, e1] at h1
      simp [Emb.ins, e1] at q1
      by_cases e2 : B2 = st.n
      · simp [Emb.ins, e2] at q2
        obtain ⟨q, hq, hoq⟩ := h.live B1 o1 h1
        rw [hq] at q1; injection q1 with q1; subst q1 q2
        have := hoq.lt; omega
      · simp [St.new, e2] at h2
        simp [Emb.ins, e2] at q2
        exact h.dis B1 B2 o1 o2 p1 p2 hne h1 h2 k1 k2 q1 q2
  kept := fun d hd => ⟨(h.kept d hd).1, (hb.block _ (Array.getElem?_eq_some_iff.1 (h.kept d hd).2).1).trans (h.kept d hd).2⟩
/-- A call that boxes a map for an iterator. -/
theorem ACallF.boxMap {cx : Cx} {f g : Nat} {fn : Func} {M : Nat} {ty : TypeId} {st : St} {k q : Value → St → Prop} (hf : cx.P.funcs[f]? = some fn) (hb : fn.body.isSome = true) (hn : (fn.name == "runtime.NumGoroutine") = false)
    (hc : ∀ (mb : Option Nat) w, Calls cx.P f #[.map mb] w fun e w' => e = .returned (.func (.func g) #[] #[.pointer (some ⟨w.heap.size, 0, none⟩)]) ∧ w' = w.alloc (.cells #[.map mb] ty))
    (hk : k (.func (.func g) #[] #[.pointer (some ⟨st.n, 0, none⟩)]) (st.new (.mbox (.map (some M)) ty))) : ACallF cx f [.map (some M)] st k q := by
  refine .inl ⟨⟨fn, hf, hb, hn⟩, fun kd φ w vals h hv => ?_⟩
  obtain ⟨vals⟩ := vals
  obtain ⟨x, r, e1, hx, hr⟩ := hv.uncons
  have : r = [] := List.eq_nil_of_length_eq_zero (by have := hr.1; simpa using this.symm)
  subst this
  simp only at e1
  subst e1
  obtain ⟨p, hp, rfl⟩ := hx.map_inv
  refine (hc (some p.blk) w).mono fun e w' ⟨he, hw⟩ => ?_
  subst he hw
  have hle := h.ins_le ⟨w.heap.size, 0, 1, 1⟩
  refine ⟨_, _, _, hle, ?_, h.new (.mbox (.map (some M)) ty) (.cells #[.map (some p.blk)] ty) ⟨w.heap.size, 0, 1, 1⟩ rfl ?_, hk⟩
  · refine .func _ rfl rfl (fun i h1 h2 => absurd h1 (Nat.not_lt_zero _)) rfl fun i h1 h2 => ?_
    have : i = 0 := by simp at h1; exact h1
    subst this
    exact VR.ptr (p := ⟨w.heap.size, 0, 1, 1⟩) (by simp [Emb.ins])
  · exact ⟨.map (some p.blk), by show (w.heap.push _)[w.heap.size]? = _; exact Array.getElem?_push_size, h.size, rfl, rfl, .map (hle _ _ hp)⟩
theorem MRel.keys {α : Type} {f : α → Value} : ∀ {es : List MapEntry} {F : List (List Nat × α)}, MRel f es F → es.map (·.key) = F.map (fun x => Value.string (str x.1)) ∧ ∀ x ∈ F, Bt x.1
  | [], [], _ => ⟨rfl, fun x hx => by cases hx⟩
  | [], _ :: _, h => h.elim
  | _ :: _, [], h => h.elim
  | e :: es, (a, u) :: r, ⟨h1, h2, h3, h4⟩ => by
    obtain ⟨i1, i2⟩ := MRel.keys h4
    refine ⟨by rw [List.map_cons, List.map_cons, i1, h1], fun x hx => ?_⟩
    rcases List.mem_cons.1 hx with rfl | hx
    · exact h3
    · exact i2 x hx
theorem EntL.keys {φ : Emb} : ∀ {Es : List MapEntry} {es : List MapEntry}, EntL φ Es es → (∀ x ∈ Es, lf x.key = true) → es.map (·.key) = Es.map (·.key) ∧ es.map (·.born) = Es.map (·.born) := by
  intro Es es h hl
  have hlen : Es.length = es.length := h.1
  have hi : ∀ i, i < Es.length → (es[i]?).map (·.key) = (Es[i]?).map (·.key) ∧ (es[i]?).map (·.born) = (Es[i]?).map (·.born) := fun i hi => by
    obtain ⟨e, h1, h2⟩ := h.2 i _ (List.getElem?_eq_getElem hi)
    rw [h1, List.getElem?_eq_getElem hi]
    exact ⟨congrArg some (h2.key.lf_inv (hl _ (List.getElem_mem hi))), congrArg some h2.born.symm⟩
  constructor
  · apply List.ext_getElem?
    intro i
    rw [List.getElem?_map, List.getElem?_map]
    by_cases h' : i < Es.length
    · exact (hi i h').1
    · rw [List.getElem?_eq_none (by omega), List.getElem?_eq_none (by omega)]
  · apply List.ext_getElem?
    intro i
    rw [List.getElem?_map, List.getElem?_map]
    by_cases h' : i < Es.length
    · exact (hi i h').2
    · rw [List.getElem?_eq_none (by omega), List.getElem?_eq_none (by omega)]
abbrev b8 (a : List Nat) : List UInt8 := a.map UInt8.ofNat
theorem b8_inv {a : List Nat} (h : Bt a) : (b8 a).map UInt8.toNat = a := by
  rw [b8, List.map_map]
  conv => rhs; rw [← List.map_id a]
  apply List.map_congr_left
  intro x hx
  have := h x hx
  simp; omega
theorem b8_of (a : List UInt8) : b8 (a.map UInt8.toNat) = a := by
  rw [b8, List.map_map, show (UInt8.ofNat ∘ UInt8.toNat) = id from funext fun x => by simp, List.map_id]
theorem str_data (a : List Nat) : (str a).data.toList = b8 a := by simp [str, b8]
theorem encStr_str (a : List Nat) : Go.Proofs.encStr (b8 a) = .string (str a) := by simp [Go.Proofs.encStr, str, b8]
/-- slices.Sorted at a map's keys. -/
theorem ACallF.sortedKeys {cx : Cx} {f g : Nat} {fn : Func} {B M kt ty clk : Nat} {α : Type} {fv : α → Value} {es : List MapEntry} {F : List (List Nat × α)} {st : St} {k q : Value → St → Prop} (hf : cx.P.funcs[f]? = some fn) (hb : fn.body.isSome = true) (hn : (fn.name == "runtime.NumGoroutine") = false)
    (hkt : cx.P.underlying kt = some .string) (hkc : cx.P.cellsOf kt = 1) (hB : st.H B = some (.mbox (.map (some M)) ty)) (hM : st.H M = some (.map es clk)) (hF : MRelS fv es clk F) (hlen : F.length ≤ 100000) (hkl : ∀ x ∈ F, x.1.length ≤ 100000)
    (hc : ∀ (b nn Bm : Nat) (D0 : DataW Unit) (R : Value → Option (DataW Unit × List MemPlace)) (w : World), Bm < w.heap.size → w.cell? ⟨Bm, 0, none⟩ = some (.map (some b)) → w.ownsMap cx.P kt R b nn D0 → Maps.size D0 ≤ maxLen → Maps.size D0 * 16 ≤ 140737488355328 →
      Calls cx.P f #[.func (.func g) #[] #[.pointer (some ⟨Bm, 0, none⟩)]] w fun e w' => ∃ (v : Value) (ss : List (List UInt8)), e = .returned v ∧ ss.Perm (strKeys D0) ∧
        w'.ownsRow w.heap.size kt 1 v ss.length ((ss.mergeSort (fun x y => decide (x ≤ y))).map Go.Proofs.encStr) ∧ (v = .slice none 0 0 ↔ ss = []) ∧ Below w.heap.size w w')
    (hk : ∀ (K : List (List Nat)) v h st', K.Perm (F.map (·.1)) → (K.map fun a => a.map UInt8.ofNat).Pairwise (fun x y => x ≤ y) → (∀ r, Own st r → Own st' (h ++ r)) → Rws h v 1 (K.map fun a => [.string (str a)]) → k v st') :
    ACallF cx f [.func (.func g) #[] #[.pointer (some ⟨B, 0, none⟩)]] st k q := by
  refine .inl ⟨⟨fn, hf, hb, hn⟩, fun kd φ w vals h hv => ?_⟩
  obtain ⟨vals⟩ := vals
  obtain ⟨x, r, e1, hx, hr⟩ := hv.uncons
  have : r = [] := List.eq_nil_of_length_eq_zero (by have := hr.1; simpa using this.symm)
  subst this
  simp only at e1
  subst e1
  obtain ⟨as, bs, rfl, ha, hbs⟩ : ∃ as bs, x = .func (.func g) as bs ∧ as = #[] ∧ ∃ b, bs = #[b] ∧ VR φ (.pointer (some ⟨B, 0, none⟩)) b := by
    cases hx with
    | func fn hf ha hA hb hB' =>
      rename_i as bs
      refine ⟨as, bs, rfl, Array.eq_empty_of_size_eq_zero ha.symm, ?_⟩
      obtain ⟨bs⟩ := bs
      match bs, hb with
      | [b], _ => exact ⟨b, rfl, hB' 0 (Nat.zero_lt_one) (by simp)⟩
  subst ha
  obtain ⟨b, rfl, hb'⟩ := hbs
  obtain ⟨pB, hpB, v0, g1, g2, g3, g4, g5⟩ := h.live B _ hB
  obtain ⟨pM, ces, hpM, m1, m2, m3, m4, m5⟩ := h.map hM
  obtain ⟨pM', hpM', rfl⟩ := g5.map_inv
  rw [hpM] at hpM'; injection hpM' with hpM'; subst hpM'
  obtain ⟨pB', hpB', rfl⟩ : ∃ p, φ B = some p ∧ b = .pointer (some ⟨p.blk, p.off + 0, none⟩) := by
    cases hb' with
    | ptr h => exact ⟨_, h, rfl⟩
  rw [hpB] at hpB'; injection hpB' with hpB'; subst hpB'
  rw [g3, Nat.zero_add]
  obtain ⟨hF1, hF2, hF3⟩ := hF
  obtain ⟨k1, k2⟩ := hF1.keys
  obtain ⟨q1, q2⟩ := m5.keys (fun x hx => by
    have : x.key ∈ es.map (·.key) := List.mem_map_of_mem hx
    rw [k1] at this
    obtain ⟨y, _, e⟩ := List.mem_map.1 this
    rw [← e]; rfl)
  have hcl : ces.toList.length = F.length := by
    have := congrArg List.length (q1.trans k1)
    simpa using this
  have hkey : ∀ x ∈ ces.toList, ∃ y ∈ F, x.key = .string (str y.1) := fun x hx => by
    have : x.key ∈ ces.toList.map (·.key) := List.mem_map_of_mem hx
    rw [q1, k1] at this
    obtain ⟨y, hy, e⟩ := List.mem_map.1 this
    exact ⟨y, hy, e.symm⟩
  let Rr : Value → Option (DataW Unit × List MemPlace) := fun _ => some (.nil, [])
  have hko : ∀ y ∈ F, keyOf cx.P kt (.string (str y.1)) = some (.string (b8 y.1)) := fun y hy => by
    have hs : (str y.1).size ≤ maxLen := by rw [str_size]; exact Nat.le_trans (hkl y hy) (by decide)
    have hs' : (str y.1).data.size ≤ maxLen := hs
    simp [keyOf, hkt, mapKey, hs, str_data]
  have hFit : WideElems.Fit cx.P kt Rr ces clk := {
    size := by rw [← Array.length_toList, hcl]; exact Nat.le_trans hlen (by decide)
    stamped := by
      refine ⟨fun x hx => ?_, by rw [q2]; exact hF2.2, ?_⟩
      · have : x.born ∈ ces.toList.map (·.born) := List.mem_map_of_mem hx
        rw [q2] at this
        obtain ⟨y, hy, e⟩ := List.mem_map.1 this
        rw [← e]
        exact hF2.1 y hy
      · rw [q1, k1]
        rw [List.nodup_iff_pairwise_ne] at hF3 ⊢
        rw [List.pairwise_map] at hF3 ⊢
        refine hF3.imp_of_mem fun {x y} hx hy hne e => hne (str_inj (k2 x hx) (k2 y hy) ?_)
        injection e
    reads := fun x hx => by
      obtain ⟨y, hy, e⟩ := hkey x hx
      exact ⟨_, by unfold WideElems.rd; rw [e, hko y hy]; rfl⟩ }
  have hrg : (ces.toList.map (WideElems.rg cx.P kt Rr)).map (fun p => Go.strOf p.1) = F.map (fun x => b8 x.1) := by
    have e1 : (ces.toList.map (WideElems.rg cx.P kt Rr)).map (fun p => Go.strOf p.1) = (ces.toList.map (·.key)).map (fun v => Go.strOf ((keyOf cx.P kt v).getD (.bool false))) := by
      rw [List.map_map, List.map_map]
      apply List.map_congr_left
      intro x hx
      obtain ⟨y, hy, e⟩ := hkey x hx
      simp only [Function.comp, WideElems.rg, WideElems.rd, e, hko y hy]
      rfl
    rw [e1, q1, k1, List.map_map]
    apply List.map_congr_left
    intro y hy
    simp only [Function.comp, hko y hy]
    rfl
  have hown : w.ownsMap cx.P kt Rr pM.blk ces.size (.map ((ces.toList.map (WideElems.rg cx.P kt Rr)).foldr DataW.insert [])) := ⟨ces, clk, m1, hFit, Nat.le_refl _, rfl⟩
  have hsz : Maps.size (DataW.map ((ces.toList.map (WideElems.rg cx.P kt Rr)).foldr DataW.insert []) : DataW Unit) = F.length := by
    show ((ces.toList.map (WideElems.rg cx.P kt Rr)).foldr DataW.insert []).length = _
    rw [(WideShapes.sorted_perm _).length_eq, List.length_map, hcl]
  have hcell : w.cell? ⟨pB.blk, 0, none⟩ = some (.map (some pM.blk)) := by simp [World.cell?, g1]
  refine (hc _ _ pB.blk _ _ w (Array.getElem?_eq_some_iff.1 g1).1 hcell hown (by rw [hsz]; exact Nat.le_trans hlen (by decide)) (by rw [hsz]; omega)).mono fun e w' he => ?_
  obtain ⟨v, ss, rfl, hp, hrow, hnil, hbel⟩ := he
  have hpk : ss.Perm (F.map fun x => b8 x.1) := by
    rw [← hrg]
    exact hp.trans ((WideShapes.sorted_perm _).map _)
  rcases hrow.2 with ⟨rfl, hz⟩ | ⟨gb, cap, cur, rfl, hbase, hgb, r1, r2, r3, r4⟩
  · have hss : ss = [] := hnil.1 rfl
    subst hss
    have hFn : F.map (·.1) = [] := by
      have := hpk.length_eq
      simp at this
      exact List.eq_nil_of_length_eq_zero (by rw [List.length_map]; exact this.symm)
    exact ⟨φ, .slice none 0 0, st, Emb.le_refl _, .nilslc, h.of_below hbel, hk [] _ [] st (by rw [hFn]) List.Pairwise.nil (fun r hr => hr) (.inl ⟨rfl, .inl rfl⟩)⟩
  · have tr : ∀ a b c : List UInt8, leB a b = true → leB b c = true → leB a c = true := fun a b c h1 h2 => by simp only [leB, decide_eq_true_eq] at *; exact List.le_trans h1 h2
    have to : ∀ a b : List UInt8, (leB a b || leB b a) = true := fun a b => by simp only [leB, Bool.or_eq_true, decide_eq_true_eq]; exact List.le_total a b
    have hsort := List.pairwise_mergeSort tr to ss
    have hmp : (ss.mergeSort leB).Perm (F.map fun x => b8 x.1) := (List.mergeSort_perm ss leB).trans hpk
    have hml : (ss.mergeSort leB).length = ss.length := (List.mergeSort_perm ss leB).length_eq
    change cur.toList.take (ss.length * 1) = (ss.mergeSort leB).map Go.Proofs.encStr at r4
    generalize ss.mergeSort leB = S at *
    let K := S.map fun s => s.map UInt8.toNat
    have hKl : K.length = ss.length := by simp [K, hml]
    have hKS : K.map (fun a => b8 a) = S := by
      simp only [K, List.map_map]
      conv => rhs; rw [← List.map_id S]
      apply List.map_congr_left
      intro x _
      exact b8_of x
    have hKp : K.Perm (F.map (·.1)) := by
      have := hmp.map (fun s => s.map UInt8.toNat)
      rw [List.map_map] at this
      have e : F.map ((fun s => List.map UInt8.toNat s) ∘ fun x => b8 x.1) = F.map (·.1) := by
        apply List.map_congr_left
        intro x hx
        exact b8_inv (k2 x hx)
      rwa [e] at this
    have hcs : cur.toList.take (ss.length * 1) = K.map fun a => .string (str a) := by
      rw [r4, ← hKS, List.map_map]
      apply List.map_congr_left
      intro a _
      exact encStr_str a
    let o : Ob := .cells (K.map fun a => .string (str a)) kt true
    have hO := h.grow hbel o ⟨gb, 0, cap, 1⟩ hbase ⟨cur, (0, 0), hgb, by simp [hKl]; exact r1, by show 0 + cap ≤ cur.size; omega, fun i V hi => ?_, (fun e => by cases e), fun _ => ⟨Nat.le_trans h.size hbase, ⟨hkc, Nat.zero_mod _⟩, .inl rfl⟩⟩
    · refine ⟨_, .slice (some ⟨st.n, 0, some 0⟩) ss.length ss.length, _, h.ins_le _, ?_, hO, hk K _ [(st.n, o)] _ hKp ?_ (fun r hr => hr.new o) ?_⟩
      · exact VR.slcO (p := ⟨gb, 0, cap, 1⟩) (by simp [Emb.ins]) (Nat.le_refl _) r1 (.inr (.inr (by show 0 + cap * 1 ≤ cap; omega))) (.inl rfl)
      · rw [show K.map (fun a => a.map UInt8.ofNat) = S from hKS]
        refine hsort.imp fun {x y} hxy => ?_
        simpa [leB] using hxy
      · refine .inr ⟨st.n, 0, some 0, ss.length, _, kt, true, by rw [List.length_map, hKl], List.mem_cons_self .., fun i l hi => ?_⟩
        rw [List.getElem?_map] at hi
        obtain ⟨a, ha, rfl⟩ := Option.map_eq_some_iff.1 hi
        have hlt := (List.getElem?_eq_some_iff.1 ha).1
        unfold cut
        rw [if_pos (by rw [List.length_map]; omega)]
        congr 1
        apply List.ext_getElem?
        intro j
        cases j with
        | zero => simp [ha]
        | succ j => simp; omega
    · rw [← hcs, List.getElem?_take] at hi
      split at hi
      · refine ⟨V, by simpa using hi, ?_⟩
        have : V ∈ K.map fun a => Value.string (str a) := by
          rw [← hcs]
          exact List.mem_iff_getElem?.2 ⟨i, by rw [List.getElem?_take, if_pos (by assumption)]; exact hi⟩
        obtain ⟨a, _, rfl⟩ := List.mem_map.1 this
        exact .string _
      · cases hi
end Go.Abs
