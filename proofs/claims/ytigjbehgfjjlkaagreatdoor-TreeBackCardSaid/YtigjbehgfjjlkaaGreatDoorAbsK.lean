/- Maps: what an operation on one does to the abstract heap; that the model's does the same. -/
import Derived.Test.YtigjbehgfjjlkaaGreatDoorAbsG
import Derived.Lib.UnsafeStr
set_option linter.unusedVariables false
set_option linter.unusedSimpArgs false
namespace Go.Abs
open Go.RowKit
def sZ : TypeDesc → Bool
  | .string | .int _ | .bool => true
  | _ => false
def azv (P : Program) (t : TypeId) : Option Value :=
  match (P.info? t).bind (·.zero) with
  | some z => bif cst z then some z else none
  | none => none
def Ab (P : Program) (t : TypeId) : Option (TypeDesc × TypeId) :=
  match P.underlying t with
  | some (.map kt et) => match P.underlying kt with
    | some d => bif sZ d then some (d, et) else none
    | none => none
  | _ => none
def sG (ok : Bool) (v : Value) (b : Bool) : Value := bif ok then .tuple #[v, .bool b] else v
def oO (P : Program) (st : St) (t : TypeId) (X I : Value) (ok : Bool) : Option Value :=
  match Ab P t with
  | some (d, et) => match azv P et with
    | some z => match X with
      | .map none => some (sG ok z false)
      | .map (some B) => match st.H B with
        | some (.map es _) => match Instr.findNow d I es 0 with
          | some (some (_, v)) => some (sG ok v true)
          | some none => some (sG ok z false)
          | none => none
        | _ => none
      | _ => none
    | none => none
  | none => none
def eO (P : Program) (st : St) (t : TypeId) (X K V : Value) : Option St :=
  match Ab P t with
  | some (d, _) => match X with
    | .map (some B) => match st.H B with
      | some (.map es clock) => match Instr.findNow d K es 0 with
        | some (some (i, _)) => some (st.set B (some (.map (es.modify i fun e => { e with key := K, val := V }) clock)))
        | some none => some (st.set B (some (.map (es ++ [{ key := K, val := V, born := clock }]) (clock + 1))))
        | none => none
      | _ => none
    | _ => none
  | none => none
def sH (P : Program) (st : St) (t : TypeId) (X K : Value) : Option St :=
  match Ab P t with
  | some (d, _) => match X with
    | .map none => some st
    | .map (some B) => match st.H B with
      | some (.map es clock) => match Instr.findNow d K es 0 with
        | some (some (i, _)) => some (st.set B (some (.map (es.eraseIdx i) clock)))
        | some none => some (st.set B (some (.map es clock)))
        | none => none
      | _ => none
    | _ => none
  | none => none
def kC (P : Program) (st : St) (t : TypeId) (r : Option Value) : Option (Value × St) :=
  match r with
  | none => some (.map (some st.n), st.new (.map [] 0))
  | some (.int _ _) => match P.underlying t with
    | some (.map _ _) => some (.map (some st.n), st.new (.map [] 0))
    | _ => none
  | _ => none
section
variable {cx : Cx} {φ : Emb} {st : St} {w : World}
theorem Gx {P : Program} {t : TypeId} {z : Value} (h : azv P t = some z) : ∃ i, P.info? t = some i ∧ i.zero = some z ∧ cst z = true := by
  unfold azv at h
  cases hi : P.info? t with
  | none => simp [hi] at h
  | some i =>
    simp [hi] at h
    cases hz : i.zero with
    | none => simp [hz] at h
    | some v =>
      cases hc : cst v with
      | false => simp [hz, hc] at h
      | true => simp [hz, hc] at h; subst h; exact ⟨i, rfl, hz, hc⟩
theorem nQ {P : Program} {t : TypeId} {d : TypeDesc} {et : TypeId} (h : Ab P t = some (d, et)) : ∃ kt, P.underlying t = some (.map kt et) ∧ P.underlying kt = some d ∧ sZ d = true := by
  unfold Ab at h
  split at h
  · rename_i kt et' hu
    split at h
    · rename_i d' hd
      cases hk : sZ d' with
      | false => simp [hk] at h
      | true => simp [hk] at h; obtain ⟨rfl, rfl⟩ := h; exact ⟨kt, hu, hd, hk⟩
    · cases h
  · cases h
theorem run_checkKey {P : Program} {kt : TypeId} {d : TypeDesc} (hd : P.underlying kt = some d) (hk : sZ d = true) (e : Bool) (n : Nat) (k : Value) (w : World) : (Instr.checkKey e (n + 1) kt k).run P w = .ok () w := by
  unfold Instr.checkKey
  cases d <;> simp [sZ] at hk <;> simp [run_underlying hd]
def EntL (φ : Emb) (Es es : List MapEntry) : Prop := Es.length = es.length ∧ ∀ (i : Nat) (E : MapEntry), Es[i]? = some E → ∃ e, es[i]? = some e ∧ EntR φ E e
theorem EntL.bO {E : MapEntry} {Es es : List MapEntry} (h : EntL φ (E :: Es) es) : ∃ e es', es = e :: es' ∧ EntR φ E e ∧ EntL φ Es es' := by
  cases es with
  | nil => have := h.1; simp at this
  | cons e es' =>
    refine ⟨e, es', rfl, ?_, by have := h.1; simpa using this, fun i W hi => ?_⟩
    · obtain ⟨u, hu, hr⟩ := h.2 0 E rfl
      simp at hu; subst hu; exact hr
    · simpa using h.2 (i + 1) W (by simpa using hi)
theorem Ac {d : TypeDesc} {K E k e : Value} {b : Bool} (h : Instr.sameNow d K E = some b) (hk : VR φ K k) (he : VR φ E e) : Instr.sameNow d k e = some b ∧ K = k ∧ E = e := by
  unfold Instr.sameNow at h
  split at h
  · cases hk; cases he
    exact ⟨by simpa [Instr.sameNow] using h, rfl, rfl⟩
  · cases hk; cases he
    exact ⟨by simpa [Instr.sameNow] using h, rfl, rfl⟩
  · cases hk; cases he
    exact ⟨by simpa [Instr.sameNow] using h, rfl, rfl⟩
  · cases h
theorem eP {d : TypeDesc} {K k : Value} (hk : VR φ K k) : ∀ (Es es : List MapEntry) (i : Nat) (r : Option (Nat × Value)), EntL φ Es es → Instr.findNow d K Es i = some r →
    match r with
    | none => Instr.findNow d k es i = some none
    | some (j, V) => ∃ v e, Instr.findNow d k es i = some (some (j, v)) ∧ VR φ V v ∧ i ≤ j ∧ es[j - i]? = some e ∧ Instr.sameNow d k e.key = some true
  | [], es, i, r, hl, h => by
    have : es = [] := List.eq_nil_of_length_eq_zero (by have := hl.1; simpa using this.symm)
    subst this
    simp [Instr.findNow] at h
    subst h
    rfl
  | E :: Es, es, i, r, hl, h => by
    obtain ⟨e, es', rfl, hE, hl'⟩ := hl.bO
    rw [Instr.findNow] at h
    cases hs : Instr.sameNow d K E.key with
    | none => simp [hs] at h
    | some b =>
      have hs' := (Ac hs hk hE.key).1
      cases b with
      | true =>
        simp [hs] at h
        subst h
        exact ⟨e.val, e, by simp [Instr.findNow, hs'], hE.val, Nat.le_refl _, by simp, hs'⟩
      | false =>
        simp [hs] at h
        have ih := eP hk Es es' (i + 1) r hl' h
        cases r with
        | none => simpa [Instr.findNow, hs'] using ih
        | some x =>
          obtain ⟨j, V⟩ := x
          obtain ⟨v, e', h1, h2, h3, h4, h5⟩ := ih
          refine ⟨v, e', by simpa [Instr.findNow, hs'] using h1, h2, by omega, ?_, h5⟩
          rw [show j - i = (j - (i + 1)) + 1 by omega]
          simpa using h4
theorem run_findKey {P : Program} {kt : TypeId} {d : TypeDesc} {k : Value} {es : List MapEntry} {r : Option (Nat × Value)} (hd : P.underlying kt = some d) (h : Instr.findNow d k es 0 = some r) (w : World) : (Instr.findKey kt k es).run P w = .ok r w := by
  simp [Instr.findKey, run_underlying hd, h]
theorem HR.map (h : HR cx φ st w) {B : Nat} {es : List MapEntry} {c : Nat} (hB : st.H B = some (.map es c)) : ∃ p ces, φ B = some p ∧ w.heap[p.blk]? = some (.map ces c) ∧ cx.base ≤ p.blk ∧ p.off = 0 ∧ p.ext = 1 ∧ EntL φ es ces.toList := by
  obtain ⟨p, hp, ces, h1, h2, h3, h4, h5, h6⟩ := h.live B _ hB
  exact ⟨p, ces, hp, h1, h2, h3, h4, by simpa using h5, fun i E hi => by simpa using h6 i E hi⟩
theorem HR.yh (h : HR cx φ st w) {B : Nat} {es es' : List MapEntry} {c c' : Nat} {p : Pl} {ces ces' : Array MapEntry} (hB : st.H B = some (.map es c)) (hp : φ B = some p) (hw : w.heap[p.blk]? = some (.map ces c)) (he : EntL φ es' ces'.toList) :
    HR cx φ (st.set B (some (.map es' c'))) { w with heap := w.heap.setIfInBounds p.blk (.map ces' c') } := by
  obtain ⟨p0, hp0, ces0, h1, h2, h3, h4, h5, h6⟩ := h.live B _ hB
  rw [hp] at hp0; injection hp0 with hp0; subst hp0
  have hlt := (Array.getElem?_eq_some_iff.1 hw).1
  refine h.turn hB hp rfl rfl ⟨rfl, rfl, rfl, by simp, fun k hk => ?_⟩ (fun g hg => ?_) ?_ ?_
  · show (w.heap.setIfInBounds p.blk _)[k]? = _
    rw [Array.getElem?_setIfInBounds_ne (by omega)]
  · show (w.heap.setIfInBounds p.blk _)[g]? = _
    rw [Array.getElem?_setIfInBounds_ne (fun e => hg e.symm)]
  · intro q hqb _ o1 ho1 hown _
    refine ho1.mono (Emb.le_refl _) ?_
    show (w.heap.setIfInBounds p.blk _)[q.blk]? = _
    rw [Array.getElem?_setIfInBounds_ne (fun e => hqb e.symm)]
  · refine ⟨ces', ?_, h2, h3, h4, by simpa using he.1, fun i E hi => by simpa using he.2 i E hi⟩
    show (w.heap.setIfInBounds p.blk _)[p.blk]? = _
    rw [Array.getElem?_setIfInBounds_self_of_lt hlt]
theorem VR.yj {B : Nat} {v : Value} (h : VR φ (.map (some B)) v) : ∃ p, φ B = some p ∧ v = .map (some p.blk) := by
  cases h with
  | map h => exact ⟨_, h, rfl⟩
theorem VR.tq {v : Value} (h : VR φ (.map none) v) : v = .map none := by cases h; rfl
theorem nR {P : Program} {b : Nat} {ces : Array MapEntry} {c : Nat} (h : w.heap[b]? = some (.map ces c)) : (getObj b).run P w = .ok (.map ces c) w := by
  simp [getObj, Sem.run, h]
theorem kU {P : Program} {b : Nat} {ces : Array MapEntry} {c : Nat} (h : w.heap[b]? = some (.map ces c)) (o : Obj) : (setObj b o).run P w = .ok () { w with heap := w.heap.setIfInBounds b o } := by
  simp [setObj, Sem.run, h]
theorem VR.Ch {V v : Value} (h : VR φ V v) (ok b : Bool) : VR φ (sG ok V b) (if ok then .tuple #[v, .bool b] else v) := by
  cases ok with
  | false => exact h
  | true =>
    refine .tuple rfl fun i h1 h2 => ?_
    match i, h1 with
    | 0, _ => exact h
    | 1, _ => exact .bool b
theorem vO (h : HR cx φ st w) {t : TypeId} {X x I i V : Value} {ok : Bool} (hx : VR φ X x) (hi : VR φ I i) (ha : oO cx.P st t X I ok = some V) :
    ∃ v, (Instr.lookup t x i ok).run cx.P w = .ok v w ∧ VR φ V v := by
  unfold oO at ha
  split at ha
  · rename_i d et hm
    obtain ⟨kt, hu, hd, hk⟩ := nQ hm
    split at ha
    · rename_i z hz
      obtain ⟨ti, hti, hzv, hc⟩ := Gx hz
      have hzr := aV hti hzv
      split at ha
      · obtain rfl := hx.tq
        injection ha with ha
        subst ha
        refine ⟨_, ?_, (VR.cst hc).Ch ok false⟩
        have hf : (Instr.findKey kt i []).run cx.P w = .ok none w := run_findKey hd rfl w
        simp [Instr.lookup, run_underlying hu, run_checkKey hd hk, hf, hzr w]
      · rename_i B
        obtain ⟨p, hp, rfl⟩ := hx.yj
        split at ha
        · rename_i es c hB
          obtain ⟨p', ces, hp', hw, _, _, _, hE⟩ := h.map hB
          rw [hp] at hp'; injection hp' with hp'; subst hp'
          have hg := nR (P := cx.P) hw
          split at ha
          · rename_i j v hf
            obtain ⟨v', e, h1, h2, _⟩ := eP hi es ces.toList 0 _ hE hf
            injection ha with ha
            subst ha
            refine ⟨_, ?_, h2.Ch ok true⟩
            have hfk := run_findKey (P := cx.P) hd h1 w
            simp [Instr.lookup, run_underlying hu, run_checkKey hd hk, hg, hfk]
          · rename_i hf
            have h1 := eP hi es ces.toList 0 none hE hf
            injection ha with ha
            subst ha
            refine ⟨_, ?_, (VR.cst hc).Ch ok false⟩
            have hfk := run_findKey (P := cx.P) hd h1 w
            simp [Instr.lookup, run_underlying hu, run_checkKey hd hk, hg, hfk, hzr w]
          · cases ha
        · cases ha
      · cases ha
    · cases ha
  · cases ha
theorem yt {d : TypeDesc} {a b : Value} (h : Instr.sameNow d a b = some true) : Instr.sameBits 10000 b a = true := by
  unfold Instr.sameNow at h
  split at h
  · rename_i k a k' b
    split at h
    · rename_i hk
      subst hk
      simp at h
      subst h
      simp [Instr.sameBits]
    · cases h
  · rename_i a b
    injection h with h
    have e : a.data = b.data := eq_of_beq h
    show (b.data == a.data) = true
    rw [e]
    exact beq_self_eq_true _
  · simp at h; subst h; simp [Instr.sameBits]
  · cases h
theorem EntL.modify {Es es : List MapEntry} (h : EntL φ Es es) {K k V v : Value} (hk : VR φ K k) (hv : VR φ V v) (i : Nat) : EntL φ (Es.modify i fun e => { e with key := K, val := V }) (es.modify i fun e => { e with key := k, val := v }) := by
  refine ⟨by simpa using h.1, fun j E hj => ?_⟩
  rw [List.getElem?_modify] at hj
  cases hE : Es[j]? with
  | none => simp [hE] at hj
  | some E0 =>
    obtain ⟨e0, he0, hr⟩ := h.2 j E0 hE
    rw [hE] at hj
    injection hj with hj
    refine ⟨if i = j then { e0 with key := k, val := v } else e0, by rw [List.getElem?_modify, he0]; rfl, ?_⟩
    subst hj
    by_cases e : i = j
    · simp only [if_pos e]; exact ⟨hk, hv, hr.born⟩
    · simp only [if_neg e]; exact hr
theorem EntL.push {Es es : List MapEntry} (h : EntL φ Es es) {K k V v : Value} (hk : VR φ K k) (hv : VR φ V v) (b : Nat) : EntL φ (Es ++ [{ key := K, val := V, born := b }]) (es ++ [{ key := k, val := v, born := b }]) := by
  refine ⟨by simp [h.1], fun j E hj => ?_⟩
  by_cases hl : j < Es.length
  · rw [List.getElem?_append_left hl] at hj
    obtain ⟨e, a, b⟩ := h.2 j E hj
    exact ⟨e, by rw [List.getElem?_append_left (by rw [← h.1]; exact hl)]; exact a, b⟩
  · rw [List.getElem?_append_right (by omega)] at hj
    have hj0 : j - Es.length = 0 := by
      rcases Nat.eq_zero_or_pos (j - Es.length) with e | e
      · exact e
      · rw [List.getElem?_eq_none (by simp; omega)] at hj; cases hj
    rw [hj0] at hj
    simp at hj
    subst hj
    exact ⟨{ key := k, val := v, born := b }, by rw [List.getElem?_append_right (by rw [← h.1]; omega), ← h.1, hj0]; rfl, hk, hv, rfl⟩
theorem EntL.erase {Es es : List MapEntry} (h : EntL φ Es es) (i : Nat) : EntL φ (Es.eraseIdx i) (es.eraseIdx i) := by
  refine ⟨by rw [List.length_eraseIdx, List.length_eraseIdx, h.1], fun j E hj => ?_⟩
  rw [List.getElem?_eraseIdx] at hj ⊢
  split at hj
  · obtain ⟨e, a, b⟩ := h.2 j E hj
    exact ⟨e, by rw [if_pos (by assumption)]; exact a, b⟩
  · obtain ⟨e, a, b⟩ := h.2 (j + 1) E hj
    exact ⟨e, by rw [if_neg (by assumption)]; exact a, b⟩
theorem qD (h : HR cx φ st w) {t : TypeId} {X x K k V v : Value} {st' : St} (hx : VR φ X x) (hk : VR φ K k) (hv : VR φ V v) (ha : eO cx.P st t X K V = some st') :
    ∃ w', (Instr.mapUpdate t x k v).run cx.P w = .ok () w' ∧ HR cx φ st' w' := by
  unfold eO at ha
  split at ha
  · rename_i d et hm
    obtain ⟨kt, hu, hd, hok⟩ := nQ hm
    split at ha
    · rename_i B
      obtain ⟨p, hp, rfl⟩ := hx.yj
      split at ha
      · rename_i es c hB
        obtain ⟨p', ces, hp', hw, _, _, _, hE⟩ := h.map hB
        rw [hp] at hp'; injection hp' with hp'; subst hp'
        have hg := nR (P := cx.P) hw
        split at ha
        · rename_i j u hf
          obtain ⟨v', e, h1, h2, _, h4, h5⟩ := eP hk es ces.toList 0 _ hE hf
          injection ha with ha
          subst ha
          have hfk := run_findKey (P := cx.P) hd h1 w
          have h4' : ces[j]? = some e := by simpa using h4
          have hkt : ∀ w, (Instr.keyThatStays e.key k).run cx.P w = .ok k w := fun w => by simp [Instr.keyThatStays, yt h5]
          refine ⟨{ w with heap := w.heap.setIfInBounds p.blk (.map (ces.modify j fun e => { e with key := k, val := v }) c) }, ?_, h.yh hB hp hw ?_⟩
          · simp [Instr.mapUpdate, run_underlying hu, run_checkKey hd hok, hg, hfk, h4', hkt, kU hw]
          · rw [Array.toList_modify]
            exact hE.modify hk hv j
        · rename_i hf
          have h1 := eP hk es ces.toList 0 none hE hf
          injection ha with ha
          subst ha
          have hfk := run_findKey (P := cx.P) hd h1 w
          refine ⟨{ w with heap := w.heap.setIfInBounds p.blk (.map (ces.push { key := k, val := v, born := c }) (c + 1)) }, ?_, h.yh hB hp hw ?_⟩
          · simp [Instr.mapUpdate, run_underlying hu, run_checkKey hd hok, hg, hfk, kU hw]
          · rw [Array.toList_push]
            exact hE.push hk hv c
        · cases ha
      · cases ha
    · cases ha
  · cases ha
theorem vP (h : HR cx φ st w) {t : TypeId} {X x K k : Value} {st' : St} {tys : Array TypeId} {ty : TypeId} (hx : VR φ X x) (hk : VR φ K k) (ht : tys[0]? = some t) (ha : sH cx.P st t X K = some st') :
    ∃ w', (Builtin.delete_ tys ty #[x, k]).run cx.P w = .ok (.tuple #[]) w' ∧ HR cx φ st' w' := by
  unfold sH at ha
  split at ha
  · rename_i d et hm
    obtain ⟨kt, hu, hd, hok⟩ := nQ hm
    split at ha
    · obtain rfl := hx.tq
      injection ha with ha
      subst ha
      exact ⟨w, by simp [Builtin.delete_, ht, run_underlying hu, run_checkKey hd hok], h⟩
    · rename_i B
      obtain ⟨p, hp, rfl⟩ := hx.yj
      split at ha
      · rename_i es c hB
        obtain ⟨p', ces, hp', hw, _, _, _, hE⟩ := h.map hB
        rw [hp] at hp'; injection hp' with hp'; subst hp'
        have hg := nR (P := cx.P) hw
        split at ha
        · rename_i j u hf
          obtain ⟨v', e, h1, h2, _, h4, h5⟩ := eP hk es ces.toList 0 _ hE hf
          injection ha with ha
          subst ha
          have hfk := run_findKey (P := cx.P) hd h1 w
          refine ⟨{ w with heap := w.heap.setIfInBounds p.blk (.map (ces.eraseIdxIfInBounds j) c) }, ?_, h.yh hB hp hw ?_⟩
          · simp [Builtin.delete_, ht, run_underlying hu, run_checkKey hd hok, hg, hfk, kU hw]
          · rw [Array.toList_eraseIdxIfInBounds]
            exact hE.erase j
        · rename_i hf
          have h1 := eP hk es ces.toList 0 none hE hf
          injection ha with ha
          subst ha
          have hfk := run_findKey (P := cx.P) hd h1 w
          refine ⟨{ w with heap := w.heap.setIfInBounds p.blk (.map ces c) }, ?_, h.yh hB hp hw hE⟩
          simp [Builtin.delete_, ht, run_underlying hu, run_checkKey hd hok, hg, hfk, kU hw]
        · cases ha
      · cases ha
    · cases ha
  · cases ha
theorem tu (h : HR cx φ st w) {t : TypeId} {R r : Option Value} {V : Value} {st' : St} (hr : match R, r with | none, none => True | some X, some x => VR φ X x | _, _ => False) (ha : kC cx.P st t R = some (V, st')) :
    Out cx φ V st' ((Instr.makeMap t r).run cx.P w) := by
  have key : HR cx (φ.ins st.n ⟨w.heap.size, 0, 1, 0⟩) (st.new (.map [] 0)) (w.alloc (.map #[] 0)) := h.new _ _ _ rfl ⟨#[], heap_alloc_new _ _, h.size, rfl, rfl, rfl, fun i E hi => by simp at hi⟩
  have hle := h.fQ ⟨w.heap.size, 0, 1, 0⟩
  have fin : ∀ s : Sem Value, s.run cx.P w = .ok (.map (some w.heap.size)) (w.alloc (.map #[] 0)) → Out cx φ (.map (some st.n)) (st.new (.map [] 0)) (s.run cx.P w) := fun s hs =>
    ⟨_, .map (some w.heap.size), _, hs, hle, .map (p := ⟨w.heap.size, 0, 1, 0⟩) (by simp [Emb.ins]), key⟩
  unfold kC at ha
  cases R with
  | none =>
    cases r with
    | some x => exact hr.elim
    | none =>
      injection ha with ha
      injection ha with h1 h2
      subst h1 h2
      exact fin _ (by simp [Instr.makeMap])
  | some X =>
    cases r with
    | none => exact hr.elim
    | some x =>
      have hr : VR φ X x := hr
      cases X <;> simp at ha
      cases hr
      split at ha
      · rename_i kt et hu
        injection ha with ha
        injection ha with h1 h2
        subst h1 h2
        exact fin _ (by simp [Instr.makeMap, run_underlying hu, asInt, asIntOf])
      · cases ha
end
end Go.Abs
namespace Go.Abs
open Go.RowKit
def iA : Value → Option Value
  | .slice (some ⟨B, off, _⟩) (_ + 1) _ => some (.pointer (some ⟨B, off, none⟩))
  | .slice none 0 0 => some (.pointer none)
  | _ => none
def jv (P : Program) (st : St) (tys : Array TypeId) (x n : Value) : Option (Value × St) :=
  match x, n with
  | .pointer none, .int .i64 0 => some (.string ⟨#[]⟩, st)
  | .pointer (some ⟨B, off, none⟩), .int .i64 (Int.ofNat (k + 1)) => match st.H B, tys[0]? with
    | some (.cells cs ty true), some pt => match P.underlying pt with
      | some (.pointer e) => if P.cellsOf ty = 1 ∧ e = ty ∧ k + 1 ≤ 9223372036854775807 then match cut cs off (k + 1) with
          | some Cs => (u8s Cs).map fun ns => (.string (strOf ns), st.set B none)
          | none => none
        else none
      | _ => none
    | _, _ => none
  | _, _ => none
def yu (P : Program) (st : St) (t : TypeId) (x : Value) : Option St :=
  match P.underlying t, x with
  | some (.slice _), .slice none _ _ => some st
  | some (.slice _), .slice _ 0 _ => some st
  | some (.slice e), .slice (some ⟨B, off, _⟩) (n + 1) _ => match azc P e, st.H B with
    | some z, some (.cells cs ty true) => if z.all one = true ∧ off + (n + 1) * z.length ≤ cs.length then some (st.set B (some (.cells (setL cs off (zeros z (n + 1))) ty true))) else none
    | _, _ => none
  | _, _ => none
section
variable {cx : Cx} {φ : Emb} {st : St} {w : World}
theorem VR.oP {B off n c : Nat} {sp : Option Nat} {v : Value} (h : VR φ (.slice (some ⟨B, off, sp⟩) (n + 1) c) v) : ∃ p c', φ B = some p ∧ v = .slice (some ⟨p.blk, p.off + off, none⟩) (n + 1) c' ∧ c' ≠ 0 := by
  cases h with
  | @slcX _ _ _ _ a p hp hl ha =>
    rcases ha with rfl | ha
    · exact ⟨p, c, hp, rfl, by omega⟩
    · omega
  | @slcO _ _ _ _ c' a p hp hl hc hw ha =>
    rcases ha with rfl | ha
    · exact ⟨p, c', hp, rfl, by omega⟩
    · omega
theorem qE {X x V : Value} {tys : Array TypeId} {ty : TypeId} (hx : VR φ X x) (ha : iA X = some V) : ∃ v, (Builtin.unsafeSliceData_ tys ty #[x]).run cx.P w = .ok v w ∧ VR φ V v := by
  unfold iA at ha
  split at ha
  · rename_i B off sp n c
    injection ha with ha
    subst ha
    obtain ⟨p, c', hp, rfl, hc⟩ := hx.oP
    exact ⟨_, Go.Lib.run_unsafeSliceData_row w tys ty _ _ _ hc, .ptr hp⟩
  · injection ha with ha
    subst ha
    cases hx
    exact ⟨.pointer none, rfl, .nilptr⟩
  · cases ha
theorem Ci {P : Program} {e : TypeId} (hc : P.cellsOf e = 1) (count off n : Nat) (hn : off + n ≤ count) : liesAt P P.depth e count off e n = true := by
  have hd : P.depth = (2 * (P.types.size + Made.depth) + 1) + 1 := rfl
  rw [hd]
  simp only [liesAt, Bool.or_eq_true]
  left
  rw [hd]
  simp [rowAt, hc, hn, sameLayout, Nat.mod_one]
theorem HR.Cj (h : HR cx φ st w) {B : Nat} {cs : List Value} {ty : TypeId} {p : Pl} (hB : st.H B = some (.cells cs ty true)) (hp : φ B = some p) (off n : Nat) : HR cx φ (st.set B none) (w.freeze ⟨p.blk, off, none⟩ n) := by
  obtain ⟨p0, hp0, hop⟩ := h.live B _ hB
  rw [hp] at hp0; injection hp0 with hp0; subst hp0
  obtain ⟨ccs, fz, h1, h2, h3, h4, h5, h6⟩ := hop
  have hoth : ∀ g, g ≠ p.blk → (w.freeze ⟨p.blk, off, none⟩ n).heap[g]? = w.heap[g]? := fun g hg => by
    unfold World.freeze
    split
    · rfl
    · simp [Array.getElem?_modify, Ne.symm hg]
  have hk := h.kill B
  refine ⟨h.below.trans (Go.Lib.below_freeze (Below.refl _ _) (h6 rfl).1 n), ?_, h.glob, h.ident, h.dom, fun B' o hB' => ?_, hk.dis, fun d hd => ?_⟩
  · have := h.size
    unfold World.freeze
    split
    · exact this
    · simpa using this
  · obtain ⟨q, hq, hoq⟩ := hk.live B' o hB'
    refine ⟨q, hq, ?_⟩
    have hne : B' ≠ B := fun e => by subst e; simp [St.set] at hB'
    have hB2 : st.H B' = some o := by simpa [St.set, hne] using hB'
    refine hoq.mono (Emb.le_refl _) (hoth _ ?_)
    by_cases ho : o.own = true
    · exact h.dis B' B o _ q p hne hB2 hB ho rfl hq hp
    · cases o with
      | cells cs1 ty1 own1 =>
        obtain ⟨_, _, _, _, _, _, g5, _⟩ := hoq
        have := (g5 (by simpa [Ob.own] using ho)).1
        have := (h6 rfl).1
        omega
      | map es clock => simp [Ob.own] at ho
      | siter s pos => simp [Ob.own] at ho
      | mbox V ty => simp [Ob.own] at ho
      | loop r => simp [Ob.own] at ho
  · obtain ⟨g1, g2⟩ := h.kept d hd
    refine ⟨g1, ?_⟩
    rw [hoth d fun e => ?_]
    · exact g2
    · subst e
      rw [h1] at g2
      cases g2
theorem lZ {P : Program} {w : World} : ∀ (l : List Int) (a : Addr) (acc : ByteArray), (∀ (j : Nat) (x : Int), l[j]? = some x → w.cell? (a.add j) = some (.int .u8 x)) →
    (loadBytes a acc l.length).run P w = .ok ⟨acc.data ++ (l.map fun n => UInt8.ofNat n.toNat).toArray⟩ w
  | [], a, acc, _ => by simp [loadBytes]
  | x :: l, a, acc, h => by
    have h0 : w.cell? a = some (.int .u8 x) := by
      have := h 0 x rfl
      simpa [Addr.add] using this
    have ih := lZ (P := P) l (a.add 1) (acc.push (UInt8.ofNat x.toNat)) (fun j y hy => by
      have := h (j + 1) y (by simpa using hy)
      have e : (a.add 1).add j = a.add (j + 1) := by
        unfold Addr.add
        by_cases hj : j = 0
        · subst hj; simp
        · simp [hj]; omega
      rw [e]; exact this)
    simp only [List.length_cons, loadBytes, Sem.run_bind, run_load, h0, Result.andThen]
    have e : x.toNat.toUInt8 = UInt8.ofNat x.toNat := rfl
    rw [e, ih]
    congr 1
    apply ByteArray.ext
    simp [ByteArray.push]
theorem vQ {P : Program} {w : World} (pt it ty e : TypeId) (hp : P.underlying pt = some (.pointer e)) (hc : P.cellsOf e = 1) (a : Addr) (cells : Nat) (hsh : w.shape? a.block = some (e, cells)) (l : List Int) (h0 : l ≠ []) (hn : a.off + l.length ≤ cells) (h63 : l.length ≤ 9223372036854775807)
    (hcell : ∀ (j : Nat) (x : Int), l[j]? = some x → w.cell? (a.add j) = some (.int .u8 x)) :
    (Builtin.unsafeString_ #[pt, it] ty #[.pointer (some a), .int .i64 l.length]).run P w = .ok (.string (strOf l)) (w.freeze a l.length) := by
  have hl : l.length ≠ 0 := by simpa using h0
  have hlb := lZ (P := P) l a .empty hcell
  have hlies := Ci (P := P) hc (cells / P.cellsOf e) a.off l.length (by rw [hc]; simpa using hn)
  have h63' : ¬ (9223372036854775807 : Int) < (l.length : Int) := by omega
  have hdef : Builtin.unsafeString_ #[pt, it] ty #[.pointer (some a), .int .i64 l.length] =
      (do
        let n ← asInt (.int .i64 l.length)
        if n < 0 then runtimePanic (.error "unsafe.String: len out of range")
        if n > IntKind.i64.max then unsupported (.unsafePointer "String: a length above the largest int")
        if n = 0 then pure (.string .empty)
        else if ← variablesAt a (← elemOf pt) n.toNat then do
          let s ← loadBytes a .empty n.toNat
          freeze a n.toNat
          pure (.string s)
        else unsupported (.unsafePointer "String: not so many bytes at ptr")) := rfl
  rw [hdef]
  have hmax : IntKind.i64.max = 9223372036854775807 := rfl
  have hneg : ¬ (l.length : Int) < 0 := by omega
  have he : (ByteArray.empty.data ++ (l.map fun n => UInt8.ofNat n.toNat).toArray) = (l.map fun n => UInt8.ofNat n.toNat).toArray := by
    show (#[] : Array UInt8) ++ _ = _
    simp
  rw [he] at hlb
  simp [asInt, asIntOf, hmax, h63', hneg, hl, variablesAt, hsh, elemOf, run_underlying hp, hlies, hlb, strOf]
theorem qF (h : HR cx φ st w) {tys : Array TypeId} {ty : TypeId} {X x N n V : Value} {st' : St} (h2t : tys.size = 2) (hx : VR φ X x) (hn : VR φ N n) (ha : jv cx.P st tys X N = some (V, st')) :
    ∃ v w', (Builtin.unsafeString_ tys ty #[x, n]).run cx.P w = .ok v w' ∧ VR φ V v ∧ HR cx φ st' w' := by
  unfold jv at ha
  split at ha
  · injection ha with ha
    simp only [Prod.mk.injEq] at ha
    obtain ⟨rfl, rfl⟩ := ha
    cases hx
    cases hn
    obtain ⟨tys⟩ := tys
    match tys, h2t with
    | [a, b], _ => exact ⟨.string .empty, w, rfl, .string _, h⟩
  · rename_i B off k
    split at ha
    · rename_i cs bt pt hB htys
      split at ha
      · rename_i e he
        split at ha
        · rename_i hc
          obtain ⟨hc1, rfl, hk⟩ := hc
          split at ha
          · rename_i Cs hcut
            cases hu : u8s Cs with
            | none => simp [hu] at ha
            | some ns =>
              simp [hu] at ha
              obtain ⟨rfl, rfl⟩ := ha
              cases hx with
              | @ptr _ _ p hp =>
                cases hn
                obtain ⟨p0, hp0, hop⟩ := h.live B _ hB
                rw [hp] at hp0; injection hp0 with hp0; subst hp0
                have hop' := hop
                obtain ⟨ccs, fz, h1, h2, h3, h4, h5, h6⟩ := hop
                have hle : off + (k + 1) ≤ cs.length := by
                  unfold cut at hcut
                  split at hcut
                  · assumption
                  · cases hcut
                have hCs : Cs = (cs.drop off).take (k + 1) := by
                  unfold cut at hcut
                  rw [if_pos hle] at hcut
                  exact (Option.some.inj hcut).symm
                have hCl : Cs.length = k + 1 := by rw [hCs, List.length_take, List.length_drop]; omega
                have hmap := yg hu
                have hnl : ns.length = k + 1 := by rw [← hCl, hmap, List.length_map]
                have htwo : ∃ it, tys = #[pt, it] := by
                  obtain ⟨tys⟩ := tys
                  match tys, h2t, htys with
                  | [a, b], _, ht => simp at ht; subst ht; exact ⟨b, rfl⟩
                obtain ⟨it, rfl⟩ := htwo
                have hns : ns ≠ [] := fun e => by rw [e] at hnl; simp at hnl
                have hcells : ∀ (j : Nat) (x : Int), ns[j]? = some x → w.cell? ((⟨p.blk, p.off + off, none⟩ : Addr).add j) = some (.int .u8 x) := fun j x hj => by
                  have hj' : Cs[j]? = some (.int .u8 x) := by rw [hmap, List.getElem?_map, hj]; rfl
                  have hjl : j < k + 1 := by rw [← hnl]; exact (List.getElem?_eq_some_iff.1 hj).1
                  rw [hCs, List.getElem?_take, if_pos hjl, List.getElem?_drop] at hj'
                  obtain ⟨v, hv, hr⟩ := h.load hB hp hj'
                  obtain rfl := hr.bA
                  rw [dM, Nat.add_assoc]
                  exact hv
                have hrun := vQ (P := cx.P) pt it ty e he hc1 ⟨p.blk, p.off + off, none⟩ ccs.size (by simp [World.shape?, h1]) ns hns (by rw [hnl]; simp; omega) (by rw [hnl]; exact hk) hcells
                rw [hnl] at hrun
                exact ⟨_, _, hrun, .string _, h.Cj hB hp _ _⟩
          · cases ha
        · cases ha
      · cases ha
    · cases ha
  · cases ha
theorem yw {z : List Value} (hz : z.all one = true) (n : Nat) : (zeros z n).all one = true := List.all_eq_true.2 fun v hv => by
  obtain ⟨l, hl, hv⟩ := List.mem_flatten.1 hv
  rw [List.eq_of_mem_replicate hl] at hv
  exact List.all_eq_true.1 hz v hv
theorem wD {z : List Value} (hz : VRL φ z z) : ∀ n, VRL φ (zeros z n) (zeros z n)
  | 0 => VRL.nil
  | n + 1 => by
    have e : zeros z (n + 1) = z ++ zeros z n := by simp [zeros, List.replicate_succ]
    rw [e]
    exact hz.append (wD hz n)
theorem yx (h : HR cx φ st w) {tys : Array TypeId} {t ty : TypeId} {X x : Value} {st' : St} (ht : tys[0]? = some t) (hx : VR φ X x) (ha : yu cx.P st t X = some st') :
    ∃ w', (Builtin.clear_ tys ty #[x]).run cx.P w = .ok (.tuple #[]) w' ∧ HR cx φ st' w' := by
  unfold yu at ha
  split at ha
  · rename_i e n c hu
    injection ha with ha; subst ha
    cases hx
    exact ⟨w, by simp [Builtin.clear_, ht, run_underlying hu], h⟩
  · rename_i e a c hu
    injection ha with ha; subst ha
    refine ⟨w, ?_, h⟩
    cases hx <;> simp [Builtin.clear_, ht, run_underlying hu]
  · rename_i e B off sp n c hu
    split at ha
    · rename_i z cs ct hz hB
      split at ha
      · rename_i hc
        injection ha with ha; subst ha
        obtain ⟨i, zv, hi, hzv, hcst, rfl, hzs⟩ := fM hz
        obtain ⟨p, c', hp, rfl, hc0⟩ := hx.oP
        have hzr := aV hi hzv
        have hvz : VRL φ (zeros zv.cells.toList (n + 1)) (Builtin.zeroCells zv.cells (n + 1)).toList := by
          rw [fB]
          exact wD (fA hcst) (n + 1)
        obtain ⟨w', hrun, hh⟩ := HR.stores _ _ h hB hp off 0 hvz (yw hc.1 _) (by rw [zeros_length]; omega)
        refine ⟨w', ?_, by simpa using hh⟩
        simp [Builtin.clear_, ht, run_underlying hu, hzr w, hrun]
      · cases ha
    · cases ha
  · cases ha
end
end Go.Abs
namespace Go.Abs
open Go.RowKit
def d9 (P : Program) (st : St) (b : Builtin) (tys : Array TypeId) (xs : List Value) : Option (Value × St) :=
  match b with
  | .delete => match xs, tys[0]? with
    | [m, k], some t => (sH P st t m k).map fun s => (.tuple #[], s)
    | _, _ => none
  | .clear => match xs, tys[0]? with
    | [x], some t => (yu P st t x).map fun s => (.tuple #[], s)
    | _, _ => none
  | .unsafeSliceData => match xs with
    | [x] => (iA x).map fun v => (v, st)
    | _ => none
  | .unsafeString => match xs with
    | [p, n] => if tys.size = 2 then jv P st tys p n else none
    | _ => none
  | b => bW P st b tys xs
theorem rZ {cx : Cx} {φ : Emb} {st : St} {w : World} (h : HR cx φ st w) {b : Builtin} {tys : Array TypeId} {ty : TypeId} {cs : Array Bool} {Xs : List Value} {xs : Array Value} {V : Value} {st' : St} (hx : VRL φ Xs xs.toList) (ha : d9 cx.P st b tys Xs = some (V, st')) :
    ∃ φ' v w', (builtin b tys ty cs xs).run cx.P w = .ok (.value v) w' ∧ φ.le φ' ∧ VR φ' V v ∧ HR cx φ' st' w' := by
  have one : ∀ X, Xs = [X] → ∃ x, xs = #[x] ∧ VR φ X x := fun X e => by
    subst e
    obtain ⟨x, r, hr, hx1, hx2⟩ := hx.bO
    have : r = [] := List.eq_nil_of_length_eq_zero (by have := hx2.1; simpa using this.symm)
    subst this
    exact ⟨x, Array.ext' hr, hx1⟩
  have two : ∀ X Y, Xs = [X, Y] → ∃ x y, xs = #[x, y] ∧ VR φ X x ∧ VR φ Y y := fun X Y e => by
    subst e
    obtain ⟨x, r, hr, hx1, hx2⟩ := hx.bO
    obtain ⟨y, r', rfl, hy1, hy2⟩ := hx2.bO
    have : r' = [] := List.eq_nil_of_length_eq_zero (by have := hy2.1; simpa using this.symm)
    subst this
    exact ⟨x, y, Array.ext' hr, hx1, hy1⟩
  unfold d9 at ha
  split at ha
  · split at ha
    · rename_i m k t ht
      obtain ⟨x, y, rfl, hx1, hy1⟩ := two _ _ rfl
      cases hd : sH cx.P st t m k with
      | none => simp [hd] at ha
      | some s =>
        simp [hd] at ha
        obtain ⟨rfl, rfl⟩ := ha
        obtain ⟨w', h1, h2⟩ := vP (ty := ty) h hx1 hy1 ht hd
        exact ⟨φ, .tuple #[], w', by simp [builtin, h1], Emb.le_refl _, .junk _, h2⟩
    · cases ha
  · split at ha
    · rename_i m t ht
      obtain ⟨x, rfl, hx1⟩ := one _ rfl
      cases hd : yu cx.P st t m with
      | none => simp [hd] at ha
      | some s =>
        simp [hd] at ha
        obtain ⟨rfl, rfl⟩ := ha
        obtain ⟨w', h1, h2⟩ := yx (ty := ty) h ht hx1 hd
        exact ⟨φ, .tuple #[], w', by simp [builtin, h1], Emb.le_refl _, .junk _, h2⟩
    · cases ha
  · split at ha
    · rename_i m
      obtain ⟨x, rfl, hx1⟩ := one _ rfl
      cases hd : iA m with
      | none => simp [hd] at ha
      | some v =>
        simp [hd] at ha
        obtain ⟨rfl, rfl⟩ := ha
        obtain ⟨v', h1, h2⟩ := qE (cx := cx) (w := w) (tys := tys) (ty := ty) hx1 hd
        exact ⟨φ, _, w, by simp [builtin, h1], Emb.le_refl _, h2, h⟩
    · cases ha
  · split at ha
    · rename_i m n
      obtain ⟨x, y, rfl, hx1, hy1⟩ := two _ _ rfl
      split at ha
      · rename_i h2t
        obtain ⟨v, w', h1, h2, h3⟩ := qF (ty := ty) h h2t hx1 hy1 ha
        exact ⟨φ, _, w', by simp [builtin, h1], Emb.le_refl _, h2, h3⟩
      · cases ha
    · cases ha
  · exact sW h hx ha
end Go.Abs
