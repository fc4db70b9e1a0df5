/- append, copy: what they do to the abstract heap. -/
import Derived.Test.YtigjbehgfjjlkaaGreatDoorAbsD
set_option linter.unusedVariables false
set_option linter.unusedSimpArgs false
namespace Go.Abs
open Go.RowKit
section
variable {cx : Cx} {φ : Emb} {st : St} {w : World}
def acut (st : St) (B off n : Nat) : Option (List Value) :=
  match st.H B with
  | some (.cells cs _ _) => cut cs off n
  | _ => none
def asrc (st : St) (n : Nat) (x : Value) : Option (Nat × List Value) :=
  match x with
  | .slice none 0 0 => some (0, [])
  | .slice (some ⟨B, off, _⟩) m _ => match acut st B off (m * n) with
    | some l => some (m, l)
    | none => if m = 0 then some (0, []) else none
  | .string s => if n = 1 then some (s.size, s.data.toList.map fun b => .int .u8 b.toNat) else none
  | _ => none
theorem VRL.take {As as : List Value} (h : VRL φ As as) (k : Nat) : VRL φ (As.take k) (as.take k) := by
  refine ⟨by simp [h.1], fun i V hi => ?_⟩
  rw [List.getElem?_take] at hi ⊢
  split at hi
  · rename_i hk; rw [if_pos hk]; exact h.2 i V hi
  · cases hi
theorem fZ (h : HR cx φ st w) {n m : Nat} {X x : Value} {Cs : List Value} (hx : VR φ X x) (ha : asrc st n X = some (m, Cs)) :
    Cs.length = m * n ∧ (Builtin.lenOf x).run cx.P w = .ok m w ∧ ∀ k, k ≤ m → ∃ cs, VRL φ (Cs.take (k * n)) cs ∧ ∀ w', w'.heap = w.heap → (Builtin.firstCells n k x).run cx.P w' = .ok cs.toArray w' := by
  unfold asrc at ha
  split at ha
  · injection ha with ha
    simp only [Prod.mk.injEq] at ha
    obtain ⟨rfl, rfl⟩ := ha
    cases hx with
    | nilslc => exact ⟨by simp, rfl, fun k hk => ⟨[], by simpa using VRL.nil, fun w' _ => rfl⟩⟩
  · rename_i B off sp m' cap
    split at ha
    · rename_i l hl
      unfold acut at hl
      split at hl
      · rename_i cs ty own hB
        unfold cut at hl
        split at hl
        case isFalse => cases hl
        rename_i hlen
        injection hl with hl
        subst hl
        simp at ha
        obtain ⟨rfl, rfl⟩ := ha
        have key : ∀ (p : Pl) (a : Addr) (cap' : Nat), φ B = some p → m' ≤ cap' → (a = ⟨p.blk, p.off + off, none⟩ ∨ cap' = 0) →
            (Builtin.lenOf (.slice (some a) m' cap')).run cx.P w = .ok m' w ∧ ∀ k, k ≤ m' → ∃ vs, VRL φ (((cs.drop off).take (m' * n)).take (k * n)) vs ∧
              ∀ w', w'.heap = w.heap → (Builtin.firstCells n k (.slice (some a) m' cap')).run cx.P w' = .ok vs.toArray w' := by
          intro p a cap' hp hmc ha'
          refine ⟨rfl, fun k hk => ?_⟩
          have hkn : k * n ≤ m' * n := Nat.mul_le_mul_right _ hk
          obtain ⟨vs, hvl, hr, hc⟩ := h.loads hB hp (off := off) (n := k * n) (by omega)
          refine ⟨vs, by rw [List.take_take, Nat.min_eq_left hkn]; exact hr, fun w' hw => ?_⟩
          have hc' : ∀ (j : Nat) (v : Value), vs[j]? = some v → w'.cell? ⟨p.blk, p.off + off + j, none⟩ = some v := fun j v hj => by
            rw [← hc j v hj]; simp [World.cell?, hw]
          rcases ha' with ha' | ha'
          · subst ha'
            have hld := run_loadCells_list (P := cx.P) (w := w') ⟨p.blk, p.off + off, none⟩ vs (fun j v hj => by rw [dM]; exact hc' j v hj)
            rw [hvl] at hld
            exact hld
          · have hk0 : k = 0 := by omega
            subst hk0
            have : vs = [] := List.eq_nil_of_length_eq_zero (by simpa using hvl)
            subst this
            simp [Builtin.firstCells, loadCells, loadCellsFrom]
        refine ⟨by simp; omega, ?_⟩
        cases hx with
        | slcX hp hl ha' => exact key _ _ _ hp hl ha'
        | slcO hp hl hc hw ha' => exact key _ _ _ hp (by omega) ha'
      · cases hl
    · split at ha
      · rename_i hm
        subst hm
        simp at ha
        obtain ⟨rfl, rfl⟩ := ha
        have hz : ∀ k, k ≤ 0 → ∀ (a' : Option Addr) (cap' : Nat), ∃ cs, VRL φ (([] : List Value).take (k * n)) cs ∧ ∀ w', w'.heap = w.heap → (Builtin.firstCells n k (.slice a' 0 cap')).run cx.P w' = .ok cs.toArray w' := fun k hk a' cap' => by
          have hk0 : k = 0 := by omega
          subst hk0
          exact ⟨[], by simpa using VRL.nil, fun w' _ => by cases a' <;> simp [Builtin.firstCells, loadCells, loadCellsFrom]⟩
        refine ⟨by simp, ?_⟩
        cases hx with
        | slcX hp hl ha' => exact ⟨rfl, fun k hk => hz k hk _ _⟩
        | slcO hp hl hc hw ha' => exact ⟨rfl, fun k hk => hz k hk _ _⟩
      · cases ha
  · rename_i s
    split at ha
    · rename_i hn
      injection ha with ha
      simp only [Prod.mk.injEq] at ha
      obtain ⟨rfl, rfl⟩ := ha
      obtain rfl := hx.bS
      subst hn
      refine ⟨by simp, rfl, fun k hk => ⟨(s.data.toList.map fun b => .int .u8 b.toNat).take k, ?_, fun w' _ => ?_⟩⟩
      · rw [Nat.mul_one]
        refine ⟨rfl, fun i V hi => ⟨V, hi, ?_⟩⟩
        rw [List.getElem?_take] at hi
        split at hi
        · rw [List.getElem?_map] at hi
          cases hb : s.data.toList[i]? with
          | none => rw [hb] at hi; cases hi
          | some b => rw [hb] at hi; injection hi with hi; subst hi; exact .int _ _
        · cases hi
      · simp only [Builtin.firstCells, Sem.run_pure]
        congr 1
        apply Array.ext'
        simp [ByteArray.data_extract, List.map_take]
    · cases ha
  · cases ha
theorem HR.pad (h : HR cx φ st w) {B : Nat} {cs : List Value} {ty : TypeId} {p : Pl} (hB : st.H B = some (.cells cs ty true)) (hp : φ B = some p) (k : Nat) (hk : cs.length + k ≤ p.ext) :
    HR cx φ (st.set B (some (.cells (cs ++ List.replicate k (.tuple #[])) ty true))) w := by
  obtain ⟨p0, hp0, hop⟩ := h.live B _ hB
  rw [hp] at hp0; injection hp0 with hp0; subst hp0
  refine h.turn hB hp rfl rfl (Below.refl _ _) (fun _ _ => rfl) (fun q _ _ o1 ho1 _ _ => ho1) ?_
  obtain ⟨ccs, fz, h1, h2, h3, h4, h5, h6⟩ := hop
  refine ⟨ccs, fz, h1, by simpa using hk, h3, fun i V hi => ?_, h5, h6⟩
  by_cases hl : i < cs.length
  · rw [List.getElem?_append_left hl] at hi
    exact h4 i V hi
  · rw [List.getElem?_append_right (by omega)] at hi
    have hi2 : i - cs.length < k := by have := (List.getElem?_eq_some_iff.1 hi).1; simpa using this
    rw [List.getElem?_replicate, if_pos hi2] at hi
    injection hi with hi
    subst hi
    exact ⟨ccs[p.off + i]'(by omega), by simp <;> omega, .junk _⟩
theorem HR.rename (h : HR cx φ st w) {B : Nat} {D : List Value} {ty : TypeId} {p : Pl} (hB : st.H B = some (.cells D ty true)) (hp : φ B = some p) (off k : Nat) (hk : off + k ≤ D.length) (hoff : off ≤ p.ext) (hal : off % p.sz = 0) :
    ∃ φ' : Emb, φ.le φ' ∧ φ' st.n = some ⟨p.blk, p.off + off, p.ext - off, p.sz⟩ ∧ HR cx φ' ((st.set B none).new (.cells ((D.drop off).take k) ty true)) w := by
  obtain ⟨p0, hp0, hop⟩ := h.live B _ hB
  rw [hp] at hp0; injection hp0 with hp0; subst hp0
  have hle := h.fQ ⟨p.blk, p.off + off, p.ext - off, p.sz⟩
  have hop' := hop
  obtain ⟨ccs, fz, h1, h2, h3, h4, h5, h6⟩ := hop
  have hne : B ≠ st.n := Nat.ne_of_lt (h.dom B p hp)
  have hob : ObR cx (φ.ins st.n ⟨p.blk, p.off + off, p.ext - off, p.sz⟩) ⟨p.blk, p.off + off, p.ext - off, p.sz⟩ w (.cells ((D.drop off).take k) ty true) := by
    refine ⟨ccs, fz, h1, by simp <;> omega, by simp <;> omega, fun i V hi => ?_, (fun e => by cases e), (fun _ => ⟨(h6 rfl).1, ⟨(h6 rfl).2.1.1, by show (p.off + off) % p.sz = 0; rw [Nat.add_mod, (h6 rfl).2.1.2, hal]; exact Nat.zero_mod _⟩, (h6 rfl).2.2⟩)⟩
    · rw [List.getElem?_take] at hi
      split at hi
      · rw [List.getElem?_drop] at hi
        obtain ⟨v, a, b⟩ := h4 _ V hi
        exact ⟨v, by rw [← a]; congr 1; simp <;> omega, b.mono hle⟩
      · cases hi
  refine ⟨φ.ins st.n ⟨p.blk, p.off + off, p.ext - off, p.sz⟩, hle, by simp [Emb.ins], ?_⟩
  constructor
  · exact h.below
  · exact h.size
  · exact h.glob
  · exact fun g hg => let ⟨q, a, b⟩ := h.ident g hg; ⟨q, hle _ _ a, b⟩
  · intro B' q hq
    unfold Emb.ins at hq
    show B' < st.n + 1
    split at hq
    · omega
    · exact Nat.lt_succ_of_lt (h.dom B' q hq)
  · intro B' o hB'
    by_cases e : B' = st.n
    · subst e
      simp [St.new, St.set] at hB'
      subst hB'
      exact ⟨_, by simp [Emb.ins], hob⟩
    · have e2 : B' ≠ B := fun e2 => by simp [St.new, St.set, e, e2] at hB'; exact absurd hB' (by simp [hne])
      have hB2 : st.H B' = some o := by simpa [St.new, St.set, e, e2] using hB'
      obtain ⟨q, hq, hoq⟩ := h.live B' o hB2
      exact ⟨q, hle _ _ hq, hoq.mono hle rfl⟩
  rotate_left
  · exact h.kept
  · have old : ∀ B' o, ((st.set B none).new (.cells ((D.drop off).take k) ty true)).H B' = some o → B' ≠ st.n → B' ≠ B ∧ st.H B' = some o := by
      intro B' o hB' e
      by_cases e2 : B' = B
      · subst e2; simp [St.new, St.set, e] at hB'
      · exact ⟨e2, by simpa [St.new, St.set, e, e2] using hB'⟩
    intro B1 B2 o1 o2 p1 p2 hne' h1' h2' k1 k2 q1 q2
    by_cases e1 : B1 = st.n
    · have e2 : B2 ≠ st.n := fun e => hne' (e1.trans e.symm)
      obtain ⟨e3, hB2⟩ := old B2 o2 h2' e2
      simp [Emb.ins, e1] at q1
      simp [Emb.ins, e2] at q2
      subst q1
      exact h.dis B B2 _ o2 p p2 (Ne.symm e3) hB hB2 rfl k2 hp q2
    · obtain ⟨e3, hB1⟩ := old B1 o1 h1' e1
      simp [Emb.ins, e1] at q1
      by_cases e2 : B2 = st.n
      · simp [Emb.ins, e2] at q2
        subst q2
        exact h.dis B1 B o1 _ p1 p e3 hB1 hB k1 rfl q1 hp
      · obtain ⟨e4, hB2⟩ := old B2 o2 h2' e2
        simp [Emb.ins, e2] at q2
        exact h.dis B1 B2 o1 o2 p1 p2 hne' hB1 hB2 k1 k2 q1 q2
def bK : Option TypeDesc → Option Bool
  | some (.slice _) | some .string => some false
  | some (.int _) => some true
  | _ => none
def J7 (P : Program) (st : St) (t' : TypeId) (n : Nat) (z : List Value) (x : Value) : Option (Nat × List Value) :=
  match bK (P.underlying t') with
  | some false => asrc st n x
  | some true => match x with
    | .int _ l => if 0 ≤ l ∧ l ≤ 140737488355328 then some (l.toNat, zeros z l.toNat) else none
    | _ => none
  | none => none
def sU (P : Program) (st : St) (tys : Array TypeId) (s x : Value) : Option (TypeId × Nat × List Value × List Value) :=
  match tys[0]?, tys[1]? with
  | some t, some t' => match P.underlying t with
    | some (.slice e) => match asz P e, azc P e, bq P e with
      | some (n + 1), some z, some (b + 1) => match J7 P st t' (n + 1) z x with
        | some (m, Cs) => match s with
            | .slice none 0 0 => if 0 < m ∧ (0 + m) * (b + 1) ≤ 140737488355328 then some (e, 0 + m, [] ++ Cs, z) else none
            | .slice (some ⟨B, off, none⟩) len cap => match acut st B off (len * (n + 1)) with
              | some old => if cap < len + m ∧ (len + m) * (b + 1) ≤ 140737488355328 then some (e, len + m, old ++ Cs, z) else none
              | none => none
            | _ => none
        | none => none
      | _, _, _ => none
    | _ => none
  | _, _ => none
def J8 (st : St) (x : Option (TypeId × Nat × List Value × List Value)) : Option (Value × St) :=
  match x with
  | some (e, need, cs, _) => some (.slice (some ⟨st.n, 0, some 0⟩) need need, st.new (.cells cs e true))
  | none => none
def isZ : Value → Bool
  | .int _ l => l == 0
  | _ => false
def fits : Value → Bool
  | .slice none 0 0 => true
  | .slice (some ⟨_, _, none⟩) len cap => decide (len ≤ cap)
  | _ => false
def zapp (P : Program) (st : St) (tys : Array TypeId) (s : Value) : Option (Value × St) :=
  match tys[0]?, tys[1]? with
  | some t, some t' => match P.underlying t, bK (P.underlying t') with
    | some (.slice e), some true => match asz P e, azc P e, bq P e with
      | some (_ + 1), some _, some (_ + 1) => some (s, st)
      | _, _, _ => none
    | _, _ => none
  | _, _ => none
def J9 (P : Program) (st : St) (tys : Array TypeId) (s x : Value) : Option (Value × St) :=
  match s with
  | .slice (some ⟨B, off, some 0⟩) len cap => match tys[0]?, tys[1]? with
    | some t, some t' => match P.underlying t, bK (P.underlying t'), x with
      | some (.slice e), some true, .int _ l => match asz P e, azc P e, bq P e, st.H B with
        | some (n + 1), some z, some (b + 1), some (.cells cs ty true) =>
          if asz P ty = some (n + 1) ∧ (ty = e ∧ off % (n + 1) = 0) ∧ 0 ≤ l ∧ (len + l.toNat) * (b + 1) ≤ 140737488355328 ∧ (zeros z l.toNat).all one = true then match cut cs off (len * (n + 1)) with
            | some old => some (.slice (some ⟨st.n, 0, some 0⟩) (len + l.toNat) (len + l.toNat), (st.set B none).new (.cells (old ++ zeros z l.toNat) e true))
            | none => none
          else none
        | _, _, _, _ => none
      | _, _, _ => none
    | _, _ => none
  | s => if isZ x = true ∧ fits s = true then zapp P st tys s else J8 st (sU P st tys s x)
def bM (P : Program) (st : St) (tys : Array TypeId) (s x : Value) : Option (Value × St) :=
  match tys[0]?, tys[1]? with
  | some t, some t' => match P.underlying t, bK (P.underlying t') with
    | some (.slice e), some false => match asz P e, azc P e, bq P e with
      | some (n + 1), some z, some (b + 1) => match asrc st (n + 1) x with
        | some (m, Cs) => if Cs.all one = true then match s with
            | .slice none 0 0 => if m = 0 then some (.slice none 0 0, st) else
                if m * (b + 1) ≤ 140737488355328 then some (.slice (some ⟨st.n, 0, some 0⟩) m m, st.new (.cells Cs e true)) else none
            | .slice (some ⟨B, off, none⟩) len cap => match st.H B with
              | some (.cells cs ty own) => if len + m ≤ cap then
                  if own = true ∧ off + (len + m) * (n + 1) ≤ cs.length then some (.slice (some ⟨B, off, none⟩) (len + m) cap, st.set B (some (.cells (setL cs (off + len * (n + 1)) Cs) ty true))) else none
                else if (len + m) * (b + 1) ≤ 140737488355328 then match cut cs off (len * (n + 1)) with
                  | some old => some (.slice (some ⟨st.n, 0, some 0⟩) (len + m) (len + m), st.new (.cells (old ++ Cs) e true))
                  | none => none
                else none
              | _ => none
            | .slice (some ⟨B, off, some 0⟩) len cap => match st.H B with
              | some (.cells cs ty true) => if asz P ty = some (n + 1) ∧ (ty = e ∧ off % (n + 1) = 0) ∧ (len + m) * (b + 1) ≤ 140737488355328 then match cut cs off (len * (n + 1)) with
                  | some old => some (.slice (some ⟨st.n, 0, some 0⟩) (len + m) (len + m), (st.set B none).new (.cells (old ++ Cs) e true))
                  | none => none
                else none
              | _ => none
            | _ => none
          else none
        | none => none
      | _, _, _ => none
    | some (.slice _), some true => J9 P st tys s x
    | _, _ => none
  | _, _ => none
theorem fB (v : Value) (n : Nat) : (Builtin.zeroCells v.cells n).toList = zeros v.cells.toList n := by
  by_cases h : n * v.cells.size = 0
  · have h1 : (zeros v.cells.toList n).length = 0 := by rw [zeros_length]; simpa using h
    rw [List.eq_nil_of_length_eq_zero h1]
    simp [Builtin.zeroCells, h, qC]
  · exact xY h
theorem zV {P : Program} {tys : Array TypeId} {t t' e ty : TypeId} {n b len cap : Nat} {i : TypeInfo} {zv : Value} {base : Option Addr} {ik kk : IntKind} {l : Int} {old : List Value} {w : World}
    (h0 : tys[0]? = some t) (h1 : tys[1]? = some t') (hu : P.underlying t = some (.slice e)) (hd : P.underlying t' = some (.int kk)) (hi : P.info? e = some i) (hz : i.zero = some zv)
    (hn : i.size = n + 1) (hb : i.bytes = b + 1) (hl : 0 ≤ l ∧ l ≤ 140737488355328) (hcap : cap < len + l.toNat) (hlim : (len + l.toNat) * (b + 1) ≤ 140737488355328)
    (hold : (Builtin.firstCells (n + 1) len (.slice base len cap)).run P w.drew = .ok old.toArray w.drew) :
    (Builtin.append_ tys ty #[.slice base len cap, .int ik l]).run P w = .ok (.slice (some ⟨w.heap.size, 0, none⟩) (len + l.toNat) (grownCap w (len + l.toNat) cap e))
      (w.drew.alloc (.cells (old ++ (Builtin.zeroCells zv.cells l.toNat).toList ++ (Builtin.zeroCells zv.cells (grownCap w (len + l.toNat) cap e - (len + l.toNat))).toList).toArray e)) := by
  have hge := grownCap_ge w (len + l.toNat) cap e
  have hsmall : len + l.toNat ≤ 140737488355328 := Nat.le_trans (Nat.le_mul_of_pos_right _ (by omega)) hlim
  have hfit := growslice_fits (old := cap) hcap hlim
  have c1 : ¬ (len + l.toNat ≤ cap) := by omega
  have hw : IntKind.i64.wrap l = l := wrap_i64 (by omega) (by omega)
  have hlb : l * ((b + 1 : Nat) : Int) ≤ 140737488355328 := by
    have h2 : l.toNat * (b + 1) ≤ 140737488355328 := Nat.le_trans (Nat.mul_le_mul_right _ (by omega)) hlim
    have h3 : ((l.toNat * (b + 1) : Nat) : Int) = l * ((b + 1 : Nat) : Int) := by rw [Int.natCast_mul, Int.toNat_of_nonneg hl.1]
    omega
  have ht : ∀ w, (typeInfo e).run P w = .ok i w := fun w => by simp [typeInfo, hi]
  have ha : (if l.toNat * (n + 1) = 0 then pure #[] else do pure (Builtin.zeroCells (← zeroValue e).cells l.toNat) : Sem (Array Value)).run P w.drew = .ok (Builtin.zeroCells zv.cells l.toNat) w.drew := by
    by_cases h : l.toNat * (n + 1) = 0
    · have : l.toNat = 0 := by rcases Nat.mul_eq_zero.1 h with h | h; exact h; omega
      rw [if_pos h, this]
      simp [Builtin.zeroCells, qC]
    · rw [if_neg h]
      simp [aV hi hz]
  have n1 : ¬ (l < 0) := by omega
  have n2 : ¬ (l * ((b + 1 : Nat) : Int) > 2 ^ 48) := by
    have : (140737488355328 : Int) < 2 ^ 48 := by decide
    omega
  have n3 : ¬ (((len + l.toNat : Nat) : Int) > IntKind.i64.max ∧ (True ∨ b + 1 = 0)) := by
    have : IntKind.i64.max = 9223372036854775807 := by decide
    rw [this]; omega
  have n4 : ¬ (Builtin.nextslicecap (len + l.toNat) cap * (b + 1) > 2 ^ 48) := by omega
  have hsz : (sizeOf e).run P w = .ok (n + 1) w := aG (P := P) (t := e) (n := n + 1) (by unfold asz; simp [hi, hn]) w
  have hch : ∀ W : World, (choose (.appendCap (len + l.toNat) cap e)).run P w = .ok (grownCap w (len + l.toNat) cap e) w.drew := fun W => by
    simp only [run_choose, Question.forced, Bool.false_eq_true, if_false]; rfl
  unfold Builtin.append_
  simp only [h0, h1, List.getElem?_toArray, List.getElem?_cons_zero, List.getElem?_cons_succ, Sem.run_bind, run_underlying hu, Result.andThen_ok, hsz, run_underlying hd,
    Sem.run_pure, if_true, asInt, asIntOf, hw, if_neg n1]
  simp only [Sem.run_bind, Sem.run_pure, Result.andThen_ok, ht, hb, if_neg n2]
  simp only [Sem.run_bind, Sem.run_pure, Result.andThen_ok, if_neg c1]
  simp only [Sem.run_bind, Sem.run_pure, Result.andThen_ok, ht, hb, if_neg n3]
  simp only [Sem.run_bind, Sem.run_pure, Result.andThen_ok, ht, hb, if_neg n4]
  simp only [Sem.run_bind, Sem.run_pure, Result.andThen_ok, ht, hb, hch w, run_askRoom]
  change (Sem.run P (Builtin.firstCells (n + 1) len (.slice base len cap)) w.drew).andThen _ = _
  rw [hold]
  simp only [Result.andThen_ok, Bool.not_true, Bool.false_eq_true, if_false, ha]
  simp only [Result.andThen_ok, aV hi hz, newRow, Sem.run_bind, run_newObj, Sem.run_pure]
  have e1 : (old ++ (Builtin.zeroCells zv.cells l.toNat).toList ++ (Builtin.zeroCells zv.cells (grownCap w (len + l.toNat) cap e - (len + l.toNat))).toList).toArray = old.toArray ++ Builtin.zeroCells zv.cells l.toNat ++ Builtin.zeroCells zv.cells (grownCap w (len + l.toNat) cap e - (len + l.toNat)) := by
    apply Array.ext'; simp
  rw [e1]
  rfl
theorem Ei {P : Program} {tys : Array TypeId} {t t' e ty : TypeId} {n b m len cap : Nat} {i : TypeInfo} {zv : Value} {base : Option Addr} {x : Value} {old new : List Value} {w : World}
    (h0 : tys[0]? = some t) (h1 : tys[1]? = some t') (hu : P.underlying t = some (.slice e)) (hi' : bK (P.underlying t') = some false) (hi : P.info? e = some i) (hz : i.zero = some zv)
    (hn : i.size = n) (hb : i.bytes = b + 1) (hlen : (Builtin.lenOf x).run P w = .ok m w) (hcap : cap < len + m) (hlim : (len + m) * (b + 1) ≤ 140737488355328)
    (hold : (Builtin.firstCells n len (.slice base len cap)).run P w.drew = .ok old.toArray w.drew) (hnew : (Builtin.firstCells n m x).run P w.drew = .ok new.toArray w.drew) :
    (Builtin.append_ tys ty #[.slice base len cap, x]).run P w = .ok (.slice (some ⟨w.heap.size, 0, none⟩) (len + m) (grownCap w (len + m) cap e))
      (w.drew.alloc (.cells (old ++ new ++ (Builtin.zeroCells zv.cells (grownCap w (len + m) cap e - (len + m))).toList).toArray e)) := by
  have hd : (∃ u, P.underlying t' = some (.slice u)) ∨ P.underlying t' = some .string := by
    cases hd : P.underlying t' with
    | none => simp [hd, bK] at hi'
    | some d => rw [hd] at hi'; cases d <;> simp [bK] at hi' ⊢
  have hge := grownCap_ge w (len + m) cap e
  have hsmall : len + m ≤ 140737488355328 := Nat.le_trans (Nat.le_mul_of_pos_right _ (by omega)) hlim
  have hfit := growslice_fits (old := cap) hcap hlim
  have c1 : ¬ (len + m ≤ cap) := by omega
  rcases hd with ⟨u, hd⟩ | hd
  all_goals
    unfold Builtin.append_
    simp only [h0, h1, List.getElem?_toArray, List.getElem?_cons_zero, List.getElem?_cons_succ, Sem.run_bind, run_underlying hu, Result.andThen_ok, aG (P := P) (t := e) (n := n) (by unfold asz; simp [hi, hn]), run_underlying hd,
      Sem.run_pure, Bool.false_eq_true, if_false, hlen, if_neg c1]
    have ht : ∀ w, (typeInfo e).run P w = .ok i w := fun w => by simp [typeInfo, hi]
    simp only [ht, hb, Result.andThen_ok, false_or, Nat.succ_ne_zero, and_false, if_false, Sem.run_bind, Bool.not_false, if_true]
    rw [if_neg (by omega)]
    simp only [Sem.run_bind, run_choose, Question.forced, Bool.false_eq_true, if_false, Result.andThen_ok, run_askRoom, ht]
    change (Sem.run P (Builtin.firstCells n len (.slice base len cap)) w.drew).andThen _ = _
    rw [hold]
    simp only [Result.andThen_ok]
    rw [hnew]
    simp only [Result.andThen_ok, aV hi hz, newRow, Sem.run_bind, run_newObj, Sem.run_pure]
    have e1 : (old ++ new ++ (Builtin.zeroCells zv.cells (grownCap w (len + m) cap e - (len + m))).toList).toArray = old.toArray ++ new.toArray ++ Builtin.zeroCells zv.cells (grownCap w (len + m) cap e - (len + m)) := by
      apply Array.ext'; simp
    rw [e1]
    rfl
theorem xZ {P : Program} {tys : Array TypeId} {t t' e ty : TypeId} {n m len cap : Nat} {base : Option Addr} {x : Value} {new : List Value} {w w' : World}
    (h0 : tys[0]? = some t) (h1 : tys[1]? = some t') (hu : P.underlying t = some (.slice e)) (hi' : bK (P.underlying t') = some false)
    (hn : asz P e = some n) (hlen : (Builtin.lenOf x).run P w = .ok m w) (hcap : len + m ≤ cap)
    (hnew : (Builtin.firstCells n m x).run P w = .ok new.toArray w) (hst : ∀ a, base = some a → (storeCells (a.add (len * n)) new).run P w = .ok () w') (hno : base = none → w' = w) :
    (Builtin.append_ tys ty #[.slice base len cap, x]).run P w = .ok (.slice base (len + m) cap) w' := by
  have hd : (∃ u, P.underlying t' = some (.slice u)) ∨ P.underlying t' = some .string := by
    cases hd : P.underlying t' with
    | none => simp [hd, bK] at hi'
    | some d => rw [hd] at hi'; cases d <;> simp [bK] at hi' ⊢
  rcases hd with ⟨u, hd⟩ | hd
  all_goals
    unfold Builtin.append_
    simp only [h0, h1, List.getElem?_toArray, List.getElem?_cons_zero, List.getElem?_cons_succ, Sem.run_bind, run_underlying hu, Result.andThen_ok, aG hn, run_underlying hd,
      Sem.run_pure, Bool.false_eq_true, if_false, hlen, if_pos hcap, Bool.not_false, if_true, hnew]
    cases base with
    | none => simp [hno rfl]
    | some a => simp [hst a rfl]
theorem iK {cs l : List Value} {o n : Nat} (h : cut cs o n = some l) : o + n ≤ cs.length ∧ l = (cs.drop o).take n ∧ l.length = n := by
  unfold cut at h
  split at h
  · rename_i hl
    injection h with h
    subst h
    exact ⟨hl, rfl, by simp; omega⟩
  · cases h
theorem gN : ∀ (vs cs : List Value) (o : Nat), o + vs.length ≤ cs.length → setL cs o vs = cs.take o ++ vs ++ cs.drop (o + vs.length)
  | [], cs, o, h => by simp [setL]
  | v :: r, cs, o, h => by
    simp at h
    have ho : o < cs.length := by omega
    rw [setL, gN r (cs.set o v) (o + 1) (by simp; omega)]
    have e1 : (cs.set o v).take (o + 1) = cs.take o ++ [v] := by
      rw [List.take_succ_eq_append_getElem (by simpa using ho), List.take_set_of_le (Nat.le_refl _)]
      simp
    have e2 : (cs.set o v).drop (o + 1 + r.length) = cs.drop (o + (r.length + 1)) := by
      rw [List.drop_set_of_lt (by omega)]
      congr 1; omega
    rw [e1, e2]
    simp
theorem oM (h : HR cx φ st w) {tys : Array TypeId} {ty : TypeId} {S s X x : Value} {e : TypeId} {need : Nat} {Cs z : List Value} (hs : VR φ S s) (hx : VR φ X x) (ha : sU cx.P st tys S X = some (e, need, Cs, z)) :
    ∃ c v w', need ≤ c ∧ (Builtin.append_ tys ty #[s, x]).run cx.P w = .ok v w' ∧
      (∃ φ', φ.le φ' ∧ VR φ' (.slice (some ⟨st.n, 0, some 0⟩) need need) v ∧ HR cx φ' (st.new (.cells Cs e true)) w') ∧
      (∃ φ', φ.le φ' ∧ VR φ' (.slice (some ⟨st.n, 0, none⟩) need c) v ∧ HR cx φ' (st.new (.cells (Cs ++ zeros z (c - need)) e true)) w') := by
  unfold sU at ha
  split at ha
  case h_2 => cases ha
  rename_i t t' ht ht'
  split at ha
  case h_2 => cases ha
  rename_i e' hu
  split at ha
  case h_2 => cases ha
  rename_i n z' b hn hz hb
  split at ha
  case h_2 => cases ha
  rename_i m Ms hsrc
  obtain ⟨i, zv, hi, hzv, hcst, rfl, hsz⟩ := fM hz
  have hin := gB hi hn
  rw [hin] at hsz
  have hib : i.bytes = b + 1 := by unfold bq at hb; simp [hi] at hb; exact hb
  have hcl := eH hn
  have hzl : ∀ k, (Builtin.zeroCells zv.cells k).toList.length = k * (n + 1) := fun k => by simp [size_zeroCells, hsz]
  have run : ∀ (base : Option Addr) (len cap : Nat) (old : List Value), cap < len + m → (len + m) * (b + 1) ≤ 140737488355328 →
      (∀ w', w'.heap = w.heap → (Builtin.firstCells (n + 1) len (.slice base len cap)).run cx.P w' = .ok old.toArray w') →
      ∃ new, VRL φ Ms new ∧ Ms.length = m * (n + 1) ∧ (Builtin.append_ tys ty #[.slice base len cap, x]).run cx.P w = .ok (.slice (some ⟨w.heap.size, 0, none⟩) (len + m) (grownCap w (len + m) cap e'))
        (w.drew.alloc (.cells (old ++ new ++ (Builtin.zeroCells zv.cells (grownCap w (len + m) cap e' - (len + m))).toList).toArray e')) := by
    intro base len cap old hcap hlim hfo
    unfold J7 at hsrc
    split at hsrc
    · rename_i hi'
      obtain ⟨hCl, hlen, hread⟩ := fZ h hx hsrc
      obtain ⟨cs0, hr0, hrun0⟩ := hread m (Nat.le_refl _)
      rw [← hCl, List.take_length] at hr0
      exact ⟨cs0, hr0, hCl, Ei (ty := ty) ht ht' hu hi' hi hzv hin hib hlen hcap hlim (hfo w.drew rfl) (hrun0 w.drew rfl)⟩
    · rename_i hi'
      split at hsrc
      · rename_i k l
        split at hsrc
        · rename_i hl
          injection hsrc with hsrc
          simp only [Prod.mk.injEq] at hsrc
          obtain ⟨rfl, rfl⟩ := hsrc
          obtain rfl := hx.bA
          obtain ⟨kk, hd⟩ : ∃ kk, cx.P.underlying t' = some (.int kk) := by
            cases hd : cx.P.underlying t' with
            | none => simp [hd, bK] at hi'
            | some d => rw [hd] at hi'; cases d <;> simp [bK] at hi' ⊢
          refine ⟨(Builtin.zeroCells zv.cells l.toNat).toList, ?_, ?_, zV (ty := ty) ht ht' hu hd hi hzv hin hib hl hcap hlim (hfo w.drew rfl)⟩
          · rw [fB]; exact VRL.zeros (fA hcst) _
          · rw [zeros_length]; simp [hsz]
        · cases hsrc
      · cases hsrc
    · cases hsrc
  have grown : ∀ (base : Option Addr) (len cap : Nat) (Old old : List Value), cap < len + m → (len + m) * (b + 1) ≤ 140737488355328 → VRL φ Old old → Old.length = len * (n + 1) →
      (∀ w', w'.heap = w.heap → (Builtin.firstCells (n + 1) len (.slice base len cap)).run cx.P w' = .ok old.toArray w') →
      ∃ c v w', len + m ≤ c ∧ (Builtin.append_ tys ty #[.slice base len cap, x]).run cx.P w = .ok v w' ∧
      (∃ φ', φ.le φ' ∧ VR φ' (.slice (some ⟨st.n, 0, some 0⟩) (len + m) (len + m)) v ∧ HR cx φ' (st.new (.cells (Old ++ Ms) e' true)) w') ∧
      (∃ φ', φ.le φ' ∧ VR φ' (.slice (some ⟨st.n, 0, none⟩) (len + m) c) v ∧ HR cx φ' (st.new (.cells (Old ++ Ms ++ zeros zv.cells.toList (c - (len + m))) e' true)) w') := by
    intro base len cap Old old hcap hlim hold hol hfo
    obtain ⟨new, hr0, hCl, hrun⟩ := run base len cap old hcap hlim hfo
    have hge := grownCap_ge w (len + m) cap e'
    refine ⟨_, _, _, hge, hrun, ?_, ?_⟩
    · obtain ⟨φ', hle, hφ, hh⟩ := h.drew.gL (hold.append hr0) (Builtin.zeroCells zv.cells (grownCap w (len + m) cap e' - (len + m))).toList e'
      refine ⟨φ', hle, .slcO hφ (Nat.le_refl _) hge ?_ (.inl rfl), hh⟩
      refine .inr (.inr ?_)
      have e1 : old.length = len * (n + 1) := by rw [← hold.1]; exact hol
      have e2 : new.length = m * (n + 1) := by rw [← hr0.1]; exact hCl
      simp only [List.length_append, hzl, e1, e2, hcl, Nat.zero_add]
      rw [← Nat.add_mul, ← Nat.add_mul]
      exact Nat.mul_le_mul_right _ (by omega)
    · have hz2 := VRL.zeros (fA (φ := φ) hcst) (grownCap w (len + m) cap e' - (len + m))
      obtain ⟨φ', hle, hφ, hh⟩ := h.drew.gL ((hold.append hr0).append hz2) [] e'
      refine ⟨φ', hle, .slcX hφ hge (.inl rfl), ?_⟩
      rw [fB]
      simpa using hh
  split at ha
  · cases hs
    split at ha
    · rename_i hc
      injection ha with ha
      simp only [Prod.mk.injEq] at ha
      obtain ⟨rfl, rfl, rfl, rfl⟩ := ha
      exact grown none 0 0 [] [] (by omega) hc.2 VRL.nil (by simp) (fun w' _ => rfl)
    · cases ha
  · rename_i B off len cap
    split at ha
    case h_2 => cases ha
    rename_i old hcut
    split at ha
    case isFalse => cases ha
    rename_i hc
    injection ha with ha
    simp only [Prod.mk.injEq] at ha
    obtain ⟨rfl, rfl, rfl, rfl⟩ := ha
    cases hs with
    | @slcX _ _ _ _ a p hp hl haddr =>
      have hself : asrc st (n + 1) (.slice (some ⟨B, off, none⟩) len cap) = some (len, old) := by simp [asrc, hcut]
      obtain ⟨c3, _, hrd⟩ := fZ h (.slcX hp hl haddr) hself
      obtain ⟨o0, ho0, hof⟩ := hrd len (Nat.le_refl _)
      rw [← c3, List.take_length] at ho0
      exact grown (some a) len cap old o0 hc.1 hc.2 ho0 c3 hof
  · cases ha
theorem Ej {P : Program} {tys : Array TypeId} {t t' e ty : TypeId} {n b len cap : Nat} {i : TypeInfo} {zv : Value} {base : Option Addr} {ik kk : IntKind} {l : Int} {w w' : World}
    (h0 : tys[0]? = some t) (h1 : tys[1]? = some t') (hu : P.underlying t = some (.slice e)) (hd : P.underlying t' = some (.int kk)) (hi : P.info? e = some i) (hz : i.zero = some zv)
    (hn : i.size = n + 1) (hb : i.bytes = b + 1) (hl : 0 ≤ l) (hlb : l * ((b + 1 : Nat) : Int) ≤ 140737488355328) (hcap : len + l.toNat ≤ cap)
    (hst : ∀ a, base = some a → (storeCells (a.add (len * (n + 1))) (Builtin.zeroCells zv.cells l.toNat).toList).run P w = .ok () w') (hno : base = none → w' = w) :
    (Builtin.append_ tys ty #[.slice base len cap, .int ik l]).run P w = .ok (.slice base (len + l.toNat) cap) w' := by
  have hw : IntKind.i64.wrap l = l := by
    have h1 : l.toNat ≤ l.toNat * (b + 1) := Nat.le_mul_of_pos_right _ (by omega)
    have h3 : ((l.toNat * (b + 1) : Nat) : Int) = l * ((b + 1 : Nat) : Int) := by rw [Int.natCast_mul, Int.toNat_of_nonneg hl]
    exact wrap_i64 (by omega) (by omega)
  have ht : ∀ w, (typeInfo e).run P w = .ok i w := fun w => by simp [typeInfo, hi]
  have ha : (if l.toNat * (n + 1) = 0 then pure #[] else do pure (Builtin.zeroCells (← zeroValue e).cells l.toNat) : Sem (Array Value)).run P w = .ok (Builtin.zeroCells zv.cells l.toNat) w := by
    by_cases h : l.toNat * (n + 1) = 0
    · have : l.toNat = 0 := by rcases Nat.mul_eq_zero.1 h with h | h; exact h; omega
      rw [if_pos h, this]
      simp [Builtin.zeroCells, qC]
    · rw [if_neg h]
      simp [aV hi hz]
  have n1 : ¬ (l < 0) := by omega
  have n2 : ¬ (l * ((b + 1 : Nat) : Int) > 2 ^ 48) := by
    have : (140737488355328 : Int) < 2 ^ 48 := by decide
    omega
  have hsz : (sizeOf e).run P w = .ok (n + 1) w := aG (P := P) (t := e) (n := n + 1) (by unfold asz; simp [hi, hn]) w
  unfold Builtin.append_
  simp only [h0, h1, List.getElem?_toArray, List.getElem?_cons_zero, List.getElem?_cons_succ, Sem.run_bind, run_underlying hu, Result.andThen_ok, hsz, run_underlying hd,
    Sem.run_pure, if_true, asInt, asIntOf, hw, if_neg n1]
  simp only [Sem.run_bind, Sem.run_pure, Result.andThen_ok, ht, hb, if_neg n2]
  simp only [Sem.run_bind, Sem.run_pure, Result.andThen_ok, if_pos hcap, Bool.not_true, Bool.false_eq_true, if_false, ha]
  cases base with
  | none => simp [hno rfl]
  | some a => simp [hst a rfl]
theorem sV (h : HR cx φ st w) {tys : Array TypeId} {ty e : TypeId} {B off len cap m n : Nat} {s x : Value} {cs old Cs cs0 : List Value}
    (hs : VR φ (.slice (some ⟨B, off, some 0⟩) len cap) s) (hn : asz cx.P e = some (n + 1)) (hr0 : VRL φ Cs cs0) (hCl : Cs.length = m * (n + 1)) (hone : Cs.all one = true) (hB : st.H B = some (.cells cs e true)) (hcut : cut cs off (len * (n + 1)) = some old) (hal : off % (n + 1) = 0)
    (hfitR : ∀ (base : Option Addr) (cap : Nat) (w' : World), len + m ≤ cap → (∀ a, base = some a → (storeCells (a.add (len * (n + 1))) cs0).run cx.P w = .ok () w') → (base = none → w' = w) → (Builtin.append_ tys ty #[.slice base len cap, x]).run cx.P w = .ok (.slice base (len + m) cap) w')
    (hgrow : ∀ (st1 : St) (base : Option Addr) (cap : Nat) (Old old : List Value), HR cx φ st1 w → st1.n = st.n → cap < len + m → VRL φ Old old → Old.length = len * (n + 1) →
      (∀ w', w'.heap = w.heap → (Builtin.firstCells (n + 1) len (.slice base len cap)).run cx.P w' = .ok old.toArray w') →
      Out cx φ (.slice (some ⟨st.n, 0, some 0⟩) (len + m) (len + m)) (st1.new (.cells (Old ++ Cs) e true)) ((Builtin.append_ tys ty #[.slice base len cap, x]).run cx.P w)) :
    Out cx φ (.slice (some ⟨st.n, 0, some 0⟩) (len + m) (len + m)) ((st.set B none).new (.cells (old ++ Cs) e true)) ((Builtin.append_ tys ty #[s, x]).run cx.P w) := by
  have hcl := eH hn
  obtain ⟨c1, c2, c3⟩ := iK hcut
  have hself : asrc st (n + 1) (.slice (some ⟨B, off, some 0⟩) len cap) = some (len, old) := by simp [asrc, acut, hB, hcut]
  obtain ⟨_, _, hrd⟩ := fZ h hs hself
  obtain ⟨o0, ho0, hof⟩ := hrd len (Nat.le_refl _)
  rw [← c3, List.take_length] at ho0
  cases hs with
  | @slcO _ _ _ _ cap' a p hp hl hcc hw haddr =>
    by_cases hroom : len + m ≤ cap'
    · obtain ⟨p0, hp0, hop⟩ := h.live B _ hB
      rw [hp] at hp0; injection hp0 with hp0; subst hp0
      obtain ⟨ccs, fz, g1, g2, g3, g4, g5, g6⟩ := hop
      have hsz' : p.sz = n + 1 := by have := (g6 rfl).2.1.1; rw [hcl] at this; exact this.symm
      have hext : cap' = 0 ∨ off + cap' * (n + 1) ≤ p.ext := by
        rcases hw with e1 | e1 | e1
        · exact .inl e1
        · omega
        · exact .inr (by rw [hsz'] at e1; exact e1)
      have hmul : (len + m) * (n + 1) ≤ cap' * (n + 1) := Nat.mul_le_mul_right _ hroom
      have hfit : off + (len + m) * (n + 1) ≤ p.ext := by
        rcases hext with e1 | e1
        · subst e1
          have hm0 : m = 0 := by omega
          have hl0 : len = 0 := by omega
          subst hm0 hl0
          simp at c1 ⊢
          omega
        · omega
      rw [Nat.add_mul] at hfit
      have hpad := h.pad hB hp (p.ext - cs.length) (by omega)
      obtain ⟨w', hst, hh⟩ := HR.stores Cs cs0 hpad (St.Eh _ _ _) hp (off + len * (n + 1)) 0 hr0 hone (by simp; rw [hCl]; omega)
      rw [set_set, Nat.add_zero] at hh
      obtain ⟨φ', hle, hφ, hh'⟩ := hh.rename (B := B) (St.Eh _ _ _) hp off ((len + m) * (n + 1)) (by rw [rA]; simp; rw [Nat.add_mul]; omega) (by omega) (by rw [hsz']; exact hal)
      rw [set_set] at hh'
      have hD : ((setL (cs ++ List.replicate (p.ext - cs.length) (Value.tuple #[])) (off + len * (n + 1)) Cs).drop off).take ((len + m) * (n + 1)) = old ++ Cs := by
        rw [gN _ _ _ (by simp; rw [hCl]; omega)]
        have e1 : (cs ++ List.replicate (p.ext - cs.length) (Value.tuple #[])).take (off + len * (n + 1)) = cs.take (off + len * (n + 1)) := by
          rw [List.take_append_of_le_length (by omega)]
        rw [e1, List.append_assoc, List.drop_append_of_le_length (by simp; omega), List.drop_take, Nat.add_sub_cancel_left, ← c2, ← List.append_assoc]
        rw [List.take_append_of_le_length (by simp [c3, hCl, Nat.add_mul]), List.take_of_length_le (by simp [c3, hCl, Nat.add_mul])]
      rw [hD] at hh'
      have hres : VR φ' (.slice (some ⟨st.n, 0, some 0⟩) (len + m) (len + m)) (.slice (some a) (len + m) cap') := by
        refine .slcO hφ (Nat.le_refl _) hroom ?_ ?_
        · rcases hext with e1 | e1
          · exact .inl e1
          · exact .inr (.inr (by simp only [hsz', Nat.zero_add]; omega))
        · rcases haddr with e1 | e1
          · exact .inl (by simpa using e1)
          · exact .inr e1
      by_cases hcap0 : cap' = 0
      · have hm0 : m = 0 := by omega
        have hl0 : len = 0 := by omega
        subst hcap0 hm0 hl0
        have hC : Cs = [] := List.eq_nil_of_length_eq_zero (by simpa using hCl)
        subst hC
        have hc0 : cs0 = [] := List.eq_nil_of_length_eq_zero (by rw [← hr0.1]; rfl)
        subst hc0
        have hww : w' = w := by simp [storeCells] at hst; exact hst.symm
        subst hww
        exact ⟨φ', _, w', hfitR _ _ w' (by omega) (fun a' _ => rfl) (fun _ => rfl), hle, hres, hh'⟩
      · have haddr' : a = ⟨p.blk, p.off + off, none⟩ := by rcases haddr with e1 | e1; exact e1; exact absurd e1 hcap0
        subst haddr'
        refine ⟨φ', _, w', hfitR _ _ w' hroom (fun a' ha' => ?_) (by simp), hle, hres, hh'⟩
        injection ha' with ha'
        subst ha'
        rw [dM, Nat.add_assoc]
        exact hst
    · exact hgrow (st.set B none) (some a) cap' old o0 (h.kill B) rfl (by omega) ho0 c3 hof
theorem vN (h : HR cx φ st w) {tys : Array TypeId} {ty : TypeId} {S s X x V : Value} {st' : St} (hs : VR φ S s) (hx : VR φ X x) (ha : bM cx.P st tys S X = some (V, st')) :
    Out cx φ V st' ((Builtin.append_ tys ty #[s, x]).run cx.P w) := by
  unfold bM at ha
  split at ha
  case h_2 => cases ha
  rename_i t t' ht ht'
  split at ha
  case h_3 => cases ha
  case h_2 =>
    unfold J9 at ha
    split at ha
    · rename_i B off len cap
      simp only [ht, ht'] at ha
      split at ha
      case h_2 => cases ha
      rename_i e ik l hu2 hi2
      split at ha
      case h_2 => cases ha
      rename_i n z b cs tyB hn hz hb hB
      split at ha
      case isFalse => cases ha
      rename_i hc
      obtain ⟨htB, ⟨rfl, hal⟩, hl0, hlim, hone⟩ := hc
      split at ha
      case h_2 => cases ha
      rename_i old hcut
      injection ha with ha
      simp only [Prod.mk.injEq] at ha
      obtain ⟨rfl, rfl⟩ := ha
      obtain rfl := hx.bA
      obtain ⟨i, zv, hi, hzv, hcst, rfl, hsz⟩ := fM hz
      have hin := gB hi hn
      rw [hin] at hsz
      have hib : i.bytes = b + 1 := by unfold bq at hb; simp [hi] at hb; exact hb
      obtain ⟨kk, hd⟩ : ∃ kk, cx.P.underlying t' = some (.int kk) := by
        cases hd : cx.P.underlying t' with
        | none => rw [hd] at hi2; cases hi2
        | some d => rw [hd] at hi2; cases d <;> simp [bK] at hi2 ⊢
      have hcl := eH hn
      have hzl : ∀ k, (Builtin.zeroCells zv.cells k).toList.length = k * (n + 1) := fun k => by simp [size_zeroCells, hsz]
      have hr0 : VRL φ (zeros zv.cells.toList l.toNat) (Builtin.zeroCells zv.cells l.toNat).toList := by rw [fB]; exact VRL.zeros (fA hcst) _
      have hCl : (zeros zv.cells.toList l.toNat).length = l.toNat * (n + 1) := by rw [zeros_length]; simp [hsz]
      have hl48 : l ≤ 140737488355328 := by
        have : l.toNat ≤ (len + l.toNat) * (b + 1) := Nat.le_trans (Nat.le_add_left _ _) (Nat.le_mul_of_pos_right _ (by omega))
        omega
      have hlb : l * ((b + 1 : Nat) : Int) ≤ 140737488355328 := by
        have h2 : l.toNat * (b + 1) ≤ 140737488355328 := Nat.le_trans (Nat.mul_le_mul_right _ (by omega)) hlim
        have h3 : ((l.toNat * (b + 1) : Nat) : Int) = l * ((b + 1 : Nat) : Int) := by rw [Int.natCast_mul, Int.toNat_of_nonneg hl0]
        omega
      refine sV h hs hn hr0 hCl hone hB hcut hal (fun base cap w' h1 h2 h3 => Ej (ty := ty) ht ht' hu2 hd hi hzv hin hib hl0 hlb h1 h2 h3) fun st1 base cap Old old h1 h2 h3 h4 h5 h6 => ?_
      have hrun := zV (ty := ty) (ik := ik) ht ht' hu2 hd hi hzv hin hib ⟨hl0, hl48⟩ h3 hlim (h6 w.drew rfl)
      have hge := grownCap_ge w (len + l.toNat) cap tyB
      obtain ⟨φ', hle, hφ, hh⟩ := h1.drew.gL (h4.append hr0) (Builtin.zeroCells zv.cells (grownCap w (len + l.toNat) cap tyB - (len + l.toNat))).toList tyB
      rw [h2] at hφ
      refine ⟨φ', _, _, hrun, hle, .slcO hφ (Nat.le_refl _) hge ?_ (.inl rfl), hh⟩
      refine .inr (.inr ?_)
      have e1 : old.length = len * (n + 1) := by rw [← h4.1]; exact h5
      simp only [List.length_append, hzl, e1, hcl, Nat.zero_add]
      rw [← Nat.add_mul, ← Nat.add_mul]
      exact Nat.mul_le_mul_right _ (by omega)
    split at ha
    · rename_i hzf
      obtain ⟨hz0, hf⟩ := hzf
      unfold zapp at ha
      simp only [ht, ht'] at ha
      split at ha
      case h_2 => cases ha
      rename_i e hu2 hi2
      split at ha
      case h_2 => cases ha
      rename_i n z b hn hz hb
      injection ha with ha
      simp only [Prod.mk.injEq] at ha
      obtain ⟨rfl, rfl⟩ := ha
      obtain ⟨ik, l, rfl, rfl⟩ : ∃ ik l, X = .int ik l ∧ l = 0 := by
        unfold isZ at hz0
        split at hz0
        · rename_i ik l; exact ⟨ik, l, rfl, by simpa using hz0⟩
        · cases hz0
      obtain rfl := hx.bA
      obtain ⟨i, zv, hi, hzv, hcst, rfl, hsz⟩ := fM hz
      have hin := gB hi hn
      have hib : i.bytes = b + 1 := by unfold bq at hb; simp [hi] at hb; exact hb
      obtain ⟨kk, hd⟩ : ∃ kk, cx.P.underlying t' = some (.int kk) := by
        cases hd : cx.P.underlying t' with
        | none => rw [hd] at hi2; cases hi2
        | some d => rw [hd] at hi2; cases d <;> simp [bK] at hi2 ⊢
      have hz0 : (Builtin.zeroCells zv.cells (0 : Int).toNat).toList = [] := by simp [Builtin.zeroCells, qC]
      have run : ∀ (base : Option Addr) (len cap : Nat), len ≤ cap → (Builtin.append_ tys ty #[.slice base len cap, .int ik 0]).run cx.P w = .ok (.slice base len cap) w := fun base len cap hlc => by
        have := Ej (ty := ty) (ik := ik) (w := w) (w' := w) (base := base) (len := len) (cap := cap) (l := 0) ht ht' hu2 hd hi hzv hin hib (Int.le_refl _) (by simp) (by simpa using hlc) (fun a _ => by rw [hz0]; rfl) (fun _ => rfl)
        simpa using this
      unfold fits at hf
      split at hf
      · cases hs
        exact ⟨φ, _, w, run none 0 0 (Nat.le_refl _), Emb.le_refl _, .nilslc, h⟩
      · rename_i B off len cap hno
        have hlc : len ≤ cap := by simpa using hf
        cases hs with
        | @slcX _ _ _ _ a p hp hl haddr => exact ⟨φ, _, w, run (some a) len cap hlc, Emb.le_refl _, .slcX hp hl haddr, h⟩
      · cases hf
    unfold J8 at ha
    cases hg : sU cx.P st tys S X with
    | none => rw [hg] at ha; cases ha
    | some g =>
      obtain ⟨e, need, Cs, z⟩ := g
      rw [hg] at ha
      injection ha with ha
      simp only [Prod.mk.injEq] at ha
      obtain ⟨rfl, rfl⟩ := ha
      obtain ⟨c, v, w', h1, h2, ⟨φ', h3, h4, h5⟩, _⟩ := oM (ty := ty) h hs hx hg
      exact ⟨φ', v, w', h2, h3, h4, h5⟩
  rename_i e hu hi'
  split at ha
  case h_2 => cases ha
  rename_i n z b hn hz hb
  split at ha
  case h_2 => cases ha
  rename_i m Cs hsrc
  split at ha
  case isFalse => cases ha
  rename_i hone
  obtain ⟨hCl, hlen, hread⟩ := fZ h hx hsrc
  obtain ⟨cs0, hr0, hrun0⟩ := hread m (Nat.le_refl _)
  rw [← hCl, List.take_length] at hr0
  obtain ⟨i, zv, hi, hzv, hcst, rfl, hsz⟩ := fM hz
  have hin := gB hi hn
  rw [hin] at hsz
  have hib : i.bytes = b + 1 := by unfold bq at hb; simp [hi] at hb; exact hb
  have hcl := eH hn
  have hzl : ∀ k, (Builtin.zeroCells zv.cells k).toList.length = k * (n + 1) := fun k => by simp [size_zeroCells, hsz]
  have grown : ∀ (st1 : St) (base : Option Addr) (len cap : Nat) (Old old : List Value), HR cx φ st1 w → st1.n = st.n → cap < len + m → (len + m) * (b + 1) ≤ 140737488355328 → VRL φ Old old → Old.length = len * (n + 1) →
      (∀ w', w'.heap = w.heap → (Builtin.firstCells (n + 1) len (.slice base len cap)).run cx.P w' = .ok old.toArray w') →
      Out cx φ (.slice (some ⟨st.n, 0, some 0⟩) (len + m) (len + m)) (st1.new (.cells (Old ++ Cs) e true)) ((Builtin.append_ tys ty #[.slice base len cap, x]).run cx.P w) := by
    intro st1 base len cap Old old h1 hn1 hcap hlim hold hol hfo
    have hrun := Ei (ty := ty) ht ht' hu hi' hi hzv hin hib hlen hcap hlim (hfo w.drew rfl) (hrun0 w.drew rfl)
    have hge := grownCap_ge w (len + m) cap e
    obtain ⟨φ', hle, hφ, hh⟩ := h1.drew.gL (hold.append hr0) (Builtin.zeroCells zv.cells (grownCap w (len + m) cap e - (len + m))).toList e
    rw [hn1] at hφ
    refine ⟨φ', _, _, hrun, hle, .slcO hφ (Nat.le_refl _) hge ?_ (.inl rfl), hh⟩
    refine .inr (.inr ?_)
    have e1 : old.length = len * (n + 1) := by rw [← hold.1]; exact hol
    have e2 : cs0.length = m * (n + 1) := by rw [← hr0.1]; exact hCl
    simp only [List.length_append, hzl, e1, e2, hcl, Nat.zero_add]
    rw [← Nat.add_mul, ← Nat.add_mul]
    exact Nat.mul_le_mul_right _ (by omega)
  split at ha
  ·
    cases hs
    split at ha
    · rename_i hm
      injection ha with ha
      simp only [Prod.mk.injEq] at ha
      obtain ⟨rfl, rfl⟩ := ha
      subst hm
      refine ⟨φ, _, w, xZ (ty := ty) ht ht' hu hi' hn hlen (by omega) (hrun0 w rfl) (by simp) (fun _ => rfl), Emb.le_refl _, ?_, h⟩
      exact .nilslc
    · rename_i hm
      split at ha
      · rename_i hlim
        injection ha with ha
        simp only [Prod.mk.injEq] at ha
        obtain ⟨rfl, rfl⟩ := ha
        have := grown st none 0 0 [] [] h rfl (by omega) (by simpa using hlim) VRL.nil (by simp) (fun w' _ => rfl)
        simpa using this
      · cases ha
  ·
    rename_i B off len cap
    split at ha
    case h_2 => cases ha
    rename_i cs tyB own hB
    cases hs with
    | @slcX _ _ _ _ a p hp hl haddr =>
      split at ha
      · rename_i hroom
        split at ha
        case isFalse => cases ha
        rename_i hc
        obtain ⟨hown, hfit⟩ := hc
        subst hown
        injection ha with ha
        simp only [Prod.mk.injEq] at ha
        obtain ⟨rfl, rfl⟩ := ha
        rw [Nat.add_mul] at hfit
        obtain ⟨w', hst, hh⟩ := HR.stores Cs cs0 h hB hp (off + len * (n + 1)) 0 hr0 hone (by rw [hCl]; omega)
        by_cases hcap0 : cap = 0
        · have hm0 : m = 0 := by omega
          have hl0 : len = 0 := by omega
          subst hcap0 hm0 hl0
          have hC : Cs = [] := List.eq_nil_of_length_eq_zero (by simpa using hCl)
          subst hC
          have hc0 : cs0 = [] := List.eq_nil_of_length_eq_zero (by rw [← hr0.1]; rfl)
          subst hc0
          refine ⟨φ, _, w, xZ (ty := ty) (w' := w) ht ht' hu hi' hn hlen (by omega) (hrun0 w rfl) (fun a' _ => rfl) (fun _ => rfl), Emb.le_refl _, .slcX hp (Nat.le_refl _) haddr, ?_⟩
          rw [setL, set_self hB]
          exact h
        · have haddr' : a = ⟨p.blk, p.off + off, none⟩ := by rcases haddr with e | e; exact e; exact absurd e hcap0
          subst haddr'
          refine ⟨φ, _, w', xZ (ty := ty) ht ht' hu hi' hn hlen hroom (hrun0 w rfl) (fun a' ha' => ?_) (by simp), Emb.le_refl _, .slcX hp hroom (.inl rfl), by simpa using hh⟩
          injection ha' with ha'
          subst ha'
          rw [dM, Nat.add_assoc]
          exact hst
      · rename_i hroom
        split at ha
        case isFalse => cases ha
        rename_i hlim
        split at ha
        case h_2 => cases ha
        rename_i old hcut
        injection ha with ha
        simp only [Prod.mk.injEq] at ha
        obtain ⟨rfl, rfl⟩ := ha
        obtain ⟨c1, c2, c3⟩ := iK hcut
        have hself : asrc st (n + 1) (.slice (some ⟨B, off, none⟩) len cap) = some (len, old) := by simp [asrc, acut, hB, hcut]
        obtain ⟨_, _, hrd⟩ := fZ h (.slcX hp hl haddr) hself
        obtain ⟨o0, ho0, hof⟩ := hrd len (Nat.le_refl _)
        rw [← c3, List.take_length] at ho0
        exact grown st (some a) len cap old o0 h rfl (by omega) hlim ho0 c3 hof
  ·
    rename_i B off len cap
    split at ha
    case h_2 => cases ha
    rename_i cs tyB hB
    split at ha
    case isFalse => cases ha
    rename_i hc
    obtain ⟨htB, ⟨rfl, hal⟩, hlim⟩ := hc
    split at ha
    case h_2 => cases ha
    rename_i old hcut
    injection ha with ha
    simp only [Prod.mk.injEq] at ha
    obtain ⟨rfl, rfl⟩ := ha
    exact sV h hs hn hr0 hCl hone hB hcut hal (fun base cap w' h1 h2 h3 => xZ (ty := ty) ht ht' hu hi' hn hlen h1 (hrun0 w rfl) h2 h3)
      fun st1 base cap Old old h1 h2 h3 h4 h5 h6 => grown st1 base len cap Old old h1 h2 h3 hlim h4 h5 h6
  · cases ha
def Gv (P : Program) (st : St) (tys : Array TypeId) (d s : Value) : Option (Value × St) :=
  match tys[0]? with
  | some t => match P.underlying t with
    | some (.slice e) => match asz P e with
      | some n => match asrc st n s with
        | some (m, Cs) => match d with
          | .slice none 0 0 => some (.int .i64 0, st)
          | .slice (some ⟨B, off, _⟩) len _ => match st.H B with
            | some (.cells cs ty true) => if off + len * n ≤ cs.length ∧ Cs.all one = true then
                some (.int .i64 (Nat.min m len : Nat), st.set B (some (.cells (setL cs off (Cs.take (Nat.min m len * n))) ty true))) else none
            | _ => none
          | _ => none
        | none => none
      | none => none
    | _ => none
  | none => none
theorem zW (h : HR cx φ st w) {tys : Array TypeId} {ty : TypeId} {D d S s V : Value} {st' : St} (hd : VR φ D d) (hs : VR φ S s) (ha : Gv cx.P st tys D S = some (V, st')) :
    Out cx φ V st' ((Builtin.copy_ tys ty #[d, s]).run cx.P w) := by
  unfold Gv at ha
  split at ha
  case h_2 => cases ha
  rename_i t ht
  split at ha
  case h_2 => cases ha
  rename_i e hu
  split at ha
  case h_2 => cases ha
  rename_i n hn
  split at ha
  case h_2 => cases ha
  rename_i m Cs hsrc
  obtain ⟨hCl, hlen, hread⟩ := fZ h hs hsrc
  split at ha
  · injection ha with ha
    simp only [Prod.mk.injEq] at ha
    obtain ⟨rfl, rfl⟩ := ha
    cases hd
    obtain ⟨cs0, hr0, hrun0⟩ := hread 0 (Nat.zero_le _)
    refine ⟨φ, _, w, ?_, Emb.le_refl _, .int _ _, h⟩
    unfold Builtin.copy_
    simp only [ht, List.getElem?_toArray, List.getElem?_cons_zero, List.getElem?_cons_succ, Sem.run_bind, run_underlying hu, Result.andThen_ok, hlen, aG hn]
    rw [show Nat.min m 0 = 0 from Nat.min_zero m, hrun0 w rfl]
    rfl
  · rename_i B off sp len cap
    split at ha
    case h_2 => cases ha
    rename_i cs tyB hB
    split at ha
    case isFalse => cases ha
    rename_i hc
    obtain ⟨hfit, hone⟩ := hc
    injection ha with ha
    simp only [Prod.mk.injEq] at ha
    obtain ⟨rfl, rfl⟩ := ha
    obtain ⟨cs0, hr0, hrun0⟩ := hread (Nat.min m len) (Nat.min_le_left _ _)
    have hk : Nat.min m len * n ≤ m * n := Nat.mul_le_mul_right _ (Nat.min_le_left _ _)
    have hk2 : Nat.min m len * n ≤ len * n := Nat.mul_le_mul_right _ (Nat.min_le_right _ _)
    have hone' : (Cs.take (Nat.min m len * n)).all one = true := List.all_eq_true.2 fun v hv => List.all_eq_true.1 hone v (List.mem_of_mem_take hv)
    have key : ∀ (p : Pl) (a : Addr) (cap' : Nat), φ B = some p → len ≤ cap' → (a = ⟨p.blk, p.off + off, none⟩ ∨ cap' = 0) →
        Out cx φ (.int .i64 (Nat.min m len : Nat)) (st.set B (some (.cells (setL cs off (Cs.take (Nat.min m len * n))) tyB true))) ((Builtin.copy_ tys ty #[.slice (some a) len cap', s]).run cx.P w) := by
      intro p a cap' hp hlc haddr
      obtain ⟨w', hst, hh⟩ := HR.stores _ cs0 h hB hp off 0 hr0 hone' (by rw [List.length_take, hCl]; omega)
      have hst' : ∃ w', (storeCells a cs0).run cx.P w = .ok () w' ∧ HR cx φ (st.set B (some (.cells (setL cs off (Cs.take (Nat.min m len * n))) tyB true))) w' := by
        rcases haddr with e1 | e1
        · subst e1; exact ⟨w', hst, by simpa using hh⟩
        · have h0 : Nat.min m len * n = 0 := by
            have : len = 0 := by omega
            rw [this]; simp
          have hc0 : cs0 = [] := List.eq_nil_of_length_eq_zero (by rw [← hr0.1, List.length_take]; omega)
          subst hc0
          refine ⟨w, rfl, ?_⟩
          rw [h0, List.take_zero, setL, set_self hB]
          exact h
      obtain ⟨w', hst, hh⟩ := hst'
      refine ⟨φ, _, w', ?_, Emb.le_refl _, .int _ _, hh⟩
      unfold Builtin.copy_
      simp only [ht, List.getElem?_toArray, List.getElem?_cons_zero, List.getElem?_cons_succ, Sem.run_bind, run_underlying hu, Result.andThen_ok, hlen, aG hn, hrun0 w rfl, hst]
      rfl
    cases hd with
    | slcX hp hl ha' => exact key _ _ _ hp hl ha'
    | slcO hp hl hc hw ha' => exact key _ _ _ hp (by omega) ha'
  · cases ha
end
end Go.Abs
