/- From a law over the abstract heap to the kit's form of a law: what comes in has its types' shape; what was there is as it was. -/
import Derived.Test.YtigjbehgfjjlkaaGreatDoorAbsR
import Derived.ProofKit
import Derived.HandedShaped
import Derived.OpenShut
import Derived.Stop.Joined
import Derived.LaidMore
set_option linter.unusedVariables false
set_option linter.unusedSimpArgs false
namespace Go.Abs
open Go.RowKit Go.ChangeShapes
def Fit (P : Program) (st : St) : Nat → TypeId → List Value → Prop
  | 0, _, _ => False
  | n + 1, t, cs =>
    match P.underlying t with
    | some .bool => ∃ b, cs = [.bool b]
    | some (.int k) => ∃ m, cs = [.int k m] ∧ k.min ≤ m ∧ m ≤ k.max
    | some .string => ∃ s, cs = [.string s] ∧ s.size ≤ maxLen
    | some (.slice e) => P.cellsOf e = 0 ∨ cs = [.slice none 0 0] ∨ ∃ B off len cap, cs = [.slice (some ⟨B, off, none⟩) len cap] ∧ len ≤ cap ∧ cap ≤ maxLen ∧
        (cap = 0 ∨ ∃ bs ty, st.H B = some (.cells bs ty false) ∧ ∀ i, i < cap → ∃ x, cut bs (off + i * P.cellsOf e) (P.cellsOf e) = some x ∧ Fit P st n e x)
    | some (.pointer e) => P.cellsOf e = 0 ∨ cs = [.pointer none] ∨ ∃ B off, cs = [.pointer (some ⟨B, off, none⟩)] ∧ ∃ bs ty x, st.H B = some (.cells bs ty false) ∧ cut bs off (P.cellsOf e) = some x ∧ Fit P st n e x
    | some (.struct fs) => cs.length = P.cellsOf t ∧ ∀ f ∈ fs.toList, Fit P st n f.type ((cs.drop f.offset).take (P.cellsOf f.type))
    | some (.array m e) => cs.length = P.cellsOf t ∧ ∀ i, i < m → Fit P st n e ((cs.drop (i * P.cellsOf e)).take (P.cellsOf e))
    | _ => True
theorem ru {w : World} {a : Addr} {n : Nat} {l : List Value} (h : w.cells? 0 a n = some l) (hn : 0 < n) :
    a.spot = none ∧ a.block < w.heap.size ∧ ∃ c e f, w.heap[a.block]? = some (.cells c e f) ∧ cut (c.toList.map (low w.heap.size)) a.off n = some (l.map (low w.heap.size)) := by
  obtain ⟨_, hl, hg⟩ := World.cells?_some h
  have hv0 : w.cell? a = l[0]? := by simpa [Addr.add] using hg 0 hn
  rw [List.getElem?_eq_getElem (by omega)] at hv0
  have hsp := World.cell?_spot hv0
  obtain ⟨B, off, sp⟩ := a
  simp only at hsp
  subst hsp
  unfold World.cell? at hv0
  split at hv0
  · rename_i c e f hb
    refine ⟨rfl, (Array.getElem?_eq_some_iff.1 hb).1, c, e, f, hb, ?_⟩
    have hget : ∀ i, i < n → c.toList[off + i]? = l[i]? := by
      intro i hi
      have := hg i hi
      rw [dM] at this
      simpa [World.cell?, hb] using this
    have hsz : off + n ≤ c.toList.length := by
      have := hget (n - 1) (by omega)
      rw [List.getElem?_eq_getElem (by omega : n - 1 < l.length)] at this
      have := (List.getElem?_eq_some_iff.1 this).1
      omega
    unfold cut
    rw [if_pos (by simpa using hsz)]
    congr 1
    rw [← List.map_drop, ← List.map_take]
    congr 1
    apply List.ext_getElem?
    intro i
    by_cases hi : i < n
    · rw [List.getElem?_take, if_pos hi, List.getElem?_drop, hget i hi]
    · rw [List.getElem?_eq_none (by simp; omega), List.getElem?_eq_none (by omega)]
  · cases hv0
theorem iZ {H : Type} {enc : TypeId × Value → H} {P : Program} {w : World} : ∀ (fuel : Nat) (t : TypeId) (cs : List Value) (x : DataW H × List MemPlace),
    DataW.trod enc P w 0 (fun _ => true) true fuel t cs = some x → Fit P (st0 w) fuel t (cs.map (low w.heap.size))
  | 0, t, cs, x, h => by simp [DataW.trod] at h
  | n + 1, t, cs, x, h => by
    unfold Fit
    split
    · rename_i ht
      obtain ⟨b, rfl, _⟩ := DataW.trod_bool ht h
      exact ⟨b, rfl⟩
    · rename_i k ht
      obtain ⟨m, rfl, _, hw⟩ := DataW.trod_int ht h
      simp [Lit.wf] at hw
      exact ⟨m, rfl, hw.1, hw.2⟩
    · rename_i ht
      obtain ⟨s, rfl, _, hs⟩ := DataW.trod_string ht h
      exact ⟨s, rfl, hs⟩
    · rename_i e ht
      by_cases hz : P.cellsOf e = 0
      · exact .inl hz
      refine .inr ?_
      rcases DataW.trod_slice ht h with ⟨rfl, _⟩ | ⟨a, len, cap, elems, rest, m, hm, rfl, _, _, hl, hc, hel, hE, hR, _⟩
      · exact .inl rfl
      · injection hm with hm
        subst hm
        by_cases hcap : cap = 0
        · subst hcap
          obtain rfl : len = 0 := by omega
          exact .inr ⟨w.heap.size, 0, 0, 0, by simp [low], Nat.le_refl _, Nat.zero_le _, .inl rfl⟩
        · obtain ⟨hr1, hr2⟩ := hR rfl
          have each : ∀ i, i < cap → ∃ l y, w.cells? 0 (a.add (i * P.cellsOf e)) (P.cellsOf e) = some l ∧ DataW.trod enc P w 0 (fun _ => true) true n e l = some y := by
            intro i hi
            have hx : ∃ y, (w.cells? 0 (a.add (i * P.cellsOf e)) (P.cellsOf e)).bind (DataW.trod enc P w 0 (fun _ => true) true n e) = some y := by
              by_cases hil : i < len
              · rw [hE i hil]; exact ⟨elems[i]'(by omega), by simp⟩
              · have := hr2 (i - len) (by omega)
                rw [show len + (i - len) = i by omega] at this
                rw [this]; exact ⟨rest[i - len]'(by omega), by simp⟩
            obtain ⟨y, hy⟩ := hx
            rw [Option.bind_eq_some_iff] at hy
            obtain ⟨l, h1, h2⟩ := hy
            exact ⟨l, y, h1, h2⟩
          obtain ⟨l0, y0, h0, _⟩ := each 0 (by omega)
          rw [Nat.zero_mul] at h0
          have ha0 : a.add 0 = a := by simp [Addr.add]
          rw [ha0] at h0
          obtain ⟨hsp, hlt, c, ty, f, hb, hcut⟩ := ru h0 (by omega)
          obtain ⟨B, off, sp⟩ := a
          simp only at hsp hlt hb
          subst hsp
          refine .inr ⟨B, off, len, cap, ?_, hl, hc, .inr ⟨_, ty, Ka hb, fun i hi => ?_⟩⟩
          · have : ¬ (len = 0 ∧ cap = 0) := by omega
            simp only [List.map_cons, List.map_nil, low]
            split
            · rename_i heq; simp only [Value.slice.injEq] at heq; omega
            · simp [lowL, hlt, hl]
          · obtain ⟨l, y, h1, h2⟩ := each i hi
            rw [dM] at h1
            obtain ⟨_, _, c', ty', f', hb', hcut'⟩ := ru h1 (by omega)
            simp only at hb' hcut'
            rw [hb] at hb'
            injection hb' with hb'
            injection hb' with e1 e2 e3
            subst e1
            exact ⟨_, hcut', iZ n e l y h2⟩
    · rename_i e ht
      by_cases hz : P.cellsOf e = 0
      · exact .inl hz
      refine .inr ?_
      rcases DataW.trod_pointer ht h with ⟨rfl, _⟩ | ⟨a, cs', y, m, hm, rfl, _, hc, hy⟩
      · exact .inl rfl
      · injection hm with hm
        subst hm
        obtain ⟨hsp, hlt, c, ty, f, hb, hcut⟩ := ru hc (by omega)
        obtain ⟨B, off, sp⟩ := a
        simp only at hsp hlt hb hcut
        subst hsp
        exact .inr ⟨B, off, by simp [low, lowL, hlt], _, ty, _, Ka hb, hcut, iZ n e cs' y hy⟩
    · rename_i fs ht
      obtain ⟨xs, m, hm, _, hl, hxs, hF⟩ := DataW.trod_struct ht h
      injection hm with hm
      subst hm
      refine ⟨by simpa using hl, fun f hf => ?_⟩
      obtain ⟨i, hi⟩ := List.getElem?_of_mem hf
      have h1 : fs[i]? = some f := by simpa using hi
      have h2 := hF i f h1
      have h3 : i < xs.length := by rw [hxs]; exact (Array.getElem?_eq_some_iff.1 h1).1
      rw [List.getElem?_eq_getElem h3] at h2
      have := iZ n f.type _ _ h2
      rwa [List.map_take, List.map_drop] at this
    · rename_i m e ht
      obtain ⟨xs, k, hk, _, hl, hxs, hF⟩ := DataW.trod_array ht h
      injection hk with hk
      subst hk
      refine ⟨by simpa using hl, fun i hi => ?_⟩
      have h2 := hF i hi
      rw [List.getElem?_eq_getElem (by omega)] at h2
      have := iZ n e _ _ h2
      rwa [List.map_take, List.map_drop] at this
    · trivial
theorem xP (n : Nat) (v : Value) : (lowA n v).cells.toList = v.cells.toList.map (low n) := by
  unfold lowA
  split
  · simp [Value.cells]
  · rename_i h
    have h1 : v.cells = #[v] := by
      cases v <;> first | rfl | exact absurd rfl (h _)
    rw [h1]
    have h2 : ∀ u, (low n v = u) → u.cells = #[u] := by
      intro u hu
      subst hu
      unfold low
      split
      · rfl
      · cases hc : lowL n v with
        | true => simpa [cond_true] using h1
        | false => rfl
    rw [h2 _ rfl]
    simp
def zK (P : Program) (st : St) (t : TypeId) (V : Value) : Prop :=
  ∃ n, match P.underlying t with
    | some (.struct _) | some (.array _ _) => ∃ cs, V = .agg cs ∧ Fit P st n t cs.toList
    | _ => Fit P st n t [V]
theorem Lu {H : Type} {enc : TypeId × Value → H} {P : Program} {w : World} {base : Nat} {t : TypeId} {v : Value} {d : DataW H} {ps : List MemPlace} (hval : Value.okWide P w .any base t v)
    (h : DataW.Trod enc P w 0 (fun _ => true) true t v d ps) : zK P (st0 w) t (lowA w.heap.size v) := by
  obtain ⟨n, hn⟩ := h
  have hf := iZ n t _ _ hn
  rw [← xP] at hf
  refine ⟨n, ?_⟩
  unfold Value.okWide at hval
  split
  · rename_i fs hu
    rw [hu] at hval
    obtain ⟨cs, rfl, _⟩ := hval
    exact ⟨cs.map (low w.heap.size), rfl, by simpa [lowA, Value.cells] using hf⟩
  · rename_i m e hu
    rw [hu] at hval
    obtain ⟨cs, rfl, _⟩ := hval
    exact ⟨cs.map (low w.heap.size), rfl, by simpa [lowA, Value.cells] using hf⟩
  · rename_i h1 h2
    have hc : Cell.okWide P w .any base t v := by
      split at hval
      · rename_i fs hu; exact absurd hu (h1 fs)
      · rename_i m e hu; exact absurd hu (h2 m e)
      · exact hval
    have hv : ∀ cs, v ≠ .agg cs := by
      rintro cs rfl
      unfold Cell.okWide at hc
      split at hc <;> first | cases ‹Value.agg cs = _› | skip
      all_goals first | (rename_i heq _; cases heq; done) | (rename_i heq; cases heq; done) | skip
      all_goals (unfold Cell.ok at hc; split at hc <;> first | exact hc | (rename_i heq; cases heq; done) | (rename_i heq _; cases heq; done))
    have e : (lowA w.heap.size v).cells.toList = [lowA w.heap.size v] := by
      have h3 : v.cells = #[v] := by cases v <;> first | rfl | exact absurd rfl (hv _)
      have h4 : lowA w.heap.size v = low w.heap.size v := by cases v <;> first | rfl | exact absurd rfl (hv _)
      rw [xP, h3, h4]
      rfl
    rwa [e] at hf
theorem nP {H : Type} {enc : TypeId × Value → H} {P : Program} (hl : laidOutB P = true) {W W' : World} (hb : Below W.heap.size W W') {sp' : Nat → Bool} : ∀ {ts : List TypeId} {vs : List Value} {ds : List (DataW H)} {ps : List MemPlace},
    ts.all (fun t => P.readableRec t && decide (t < P.types.size)) = true → DataW.TrodAll enc P W 0 (fun _ => true) true ts vs ds ps → (∀ p ∈ ps, p.block < W.heap.size) → (∀ p ∈ ps, sp' p.block = true) → DataW.TrodAll enc P W' 0 sp' true ts vs ds ps
  | [], vs, ds, ps, _, h, _, _ => by
    cases vs <;> cases ds <;> first | exact h | exact h.elim
  | t :: ts, [], ds, ps, _, h, _, _ => h.elim
  | t :: ts, v :: vs, [], ps, _, h, _, _ => h.elim
  | t :: ts, v :: vs, d :: ds, ps, ht, h, hlt, hs => by
    simp only [List.all_cons, Bool.and_eq_true, decide_eq_true_eq] at ht
    obtain ⟨p, q, h1, h2, rfl⟩ := h
    exact ⟨p, q, WideElems.Trod_stays hl ht.1.1 ht.1.2 h1 (fun x hx => hb.same (hlt x (List.mem_append_left _ hx))) (fun x hx => hs x (List.mem_append_left _ hx)),
      nP hl hb ht.2 h2 (fun x hx => hlt x (List.mem_append_right _ hx)) (fun x hx => hs x (List.mem_append_right _ hx)), rfl⟩
theorem rY {H : Type} {enc : TypeId × Value → H} {P : Program} {w : World} {base : Nat} : ∀ {ts : List TypeId} {vs : List Value} {ds : List (DataW H)} {ps : List MemPlace},
    (∀ (j : Nat) t v, ts[j]? = some t → vs[j]? = some v → Value.okWide P w .any base t v) → DataW.TrodAll enc P w 0 (fun _ => true) true ts vs ds ps →
    vs.length = ts.length ∧ ds.length = ts.length ∧ ∀ (j : Nat) t v, ts[j]? = some t → vs[j]? = some v → zK P (st0 w) t (lowA w.heap.size v)
  | [], [], [], ps, _, _ => ⟨rfl, rfl, fun j t v h => by simp at h⟩
  | [], [], _ :: _, ps, _, h => h.elim
  | [], _ :: _, ds, ps, _, h => by cases ds <;> exact h.elim
  | t :: ts, [], ds, ps, _, h => h.elim
  | t :: ts, v :: vs, [], ps, _, h => h.elim
  | t :: ts, v :: vs, d :: ds, ps, hval, h => by
    obtain ⟨p, q, h1, h2, rfl⟩ := h
    obtain ⟨e1, e2, e3⟩ := rY (fun j t v a b => hval (j + 1) t v (by simpa using a) (by simpa using b)) h2
    refine ⟨by simp [e1], by simp [e2], fun j t' v' a b => ?_⟩
    cases j with
    | zero =>
      simp at a b
      subst a b
      exact Lu (hval 0 t v rfl rfl) h1
    | succ j => exact e3 j t' v' (by simpa using a) (by simpa using b)
def foreign (w : World) : Hp := (List.range w.heap.size).filterMap fun B => ((st0 w).H B).map fun o => (B, o)
theorem BP {w : World} {B : Nat} {o : Ob} (h : (st0 w).H B = some o) : (B, o) ∈ foreign w := by
  unfold foreign
  rw [List.mem_filterMap]
  refine ⟨B, ?_, by rw [h]; rfl⟩
  simp only [st0] at h
  split at h
  · rename_i hb; exact List.mem_range.2 (Array.getElem?_eq_some_iff.1 hb).1
  · cases h
theorem BQ (w : World) : Own (st0 w) (foreign w) := by
  have hmem : ∀ e ∈ foreign w, (st0 w).H e.1 = some e.2 ∧ e.1 < w.heap.size := by
    intro e he
    unfold foreign at he
    rw [List.mem_filterMap] at he
    obtain ⟨B, hB, h⟩ := he
    cases hh : (st0 w).H B with
    | none => rw [hh] at h; cases h
    | some o => rw [hh] at h; injection h with h; subst h; exact ⟨hh, List.mem_range.1 hB⟩
  refine ⟨fun e he => ⟨(hmem e he).1, Nat.lt_succ_of_lt (hmem e he).2⟩, List.pairwise_of_forall_mem_list fun e he f hf h1 => ?_⟩
  have := (hmem e he).1
  simp only [st0] at this
  split at this
  · injection this with this; rw [← this] at h1; cases h1
  · cases this
theorem I5 {P : Program} {st : St} {t : TypeId} {n : Nat} {cs : List Value} {k : IntKind} (hu : P.underlying t = some (.int k)) (h : Fit P st n t cs) : ∃ m, cs = [.int k m] ∧ k.min ≤ m ∧ m ≤ k.max := by
  cases n with
  | zero => exact h.elim
  | succ n => unfold Fit at h; rw [hu] at h; exact h
theorem Eb {P : Program} {w : World} {t e : TypeId} {n sz : Nat} {cs : List Value} (hu : P.underlying t = some (.slice e)) (hz : P.cellsOf e = sz + 1) (h : Fit P (st0 w) n t cs) :
    ∃ v xs, cs = [v] ∧ Rws (foreign w) v (sz + 1) xs ∧ xs.length ≤ maxLen ∧ ∃ m, ∀ x ∈ xs, Fit P (st0 w) m e x := by
  cases n with
  | zero => exact h.elim
  | succ n =>
    unfold Fit at h
    rw [hu] at h
    simp only [hz] at h
    rcases h with h | rfl | ⟨B, off, len, cap, rfl, hl, hc, hcap | ⟨bs, ty, hB, hel⟩⟩
    · cases h
    · exact ⟨_, [], rfl, .inl ⟨rfl, .inl rfl⟩, Nat.zero_le _, 0, fun x hx => by simp at hx⟩
    · subst hcap
      obtain rfl : len = 0 := by omega
      exact ⟨_, [], rfl, .inl ⟨rfl, .inr ⟨B, off, none, 0, rfl⟩⟩, Nat.zero_le _, 0, fun x hx => by simp at hx⟩
    · refine ⟨_, (List.range len).map fun i => (bs.drop (off + i * (sz + 1))).take (sz + 1), rfl, .inr ⟨B, off, none, cap, bs, ty, false, by simp, BP hB, fun i l hi => ?_⟩, by simp; omega, n, fun x hx => ?_⟩
      · rw [List.getElem?_map] at hi
        by_cases hi2 : i < len
        · rw [List.getElem?_range hi2] at hi
          simp at hi
          subst hi
          obtain ⟨x, h1, h2⟩ := hel i (by omega)
          rw [h1]
          unfold cut at h1
          split at h1
          · injection h1 with h1; rw [← h1]
          · cases h1
        · rw [List.getElem?_eq_none (by simpa using hi2)] at hi; cases hi
      · obtain ⟨i, hi, rfl⟩ := List.mem_map.1 hx
        obtain ⟨x, h1, h2⟩ := hel i (by have := List.mem_range.1 hi; omega)
        unfold cut at h1
        split at h1
        · injection h1 with h1; rw [h1]; exact h2
        · cases h1
theorem Ec {P : Program} {w : World} {t e : TypeId} {n : Nat} {cs : List Value} (hu : P.underlying t = some (.slice e)) (he : P.underlying e = some (.int .u8)) (hz : P.cellsOf e = 1) (h : Fit P (st0 w) n t cs) :
    ∃ v l, cs = [v] ∧ Bs (foreign w) v l ∧ l.length ≤ maxLen ∧ ∀ x ∈ l, 0 ≤ x ∧ x ≤ 255 := by
  obtain ⟨v, xs, rfl, hr, hm, m, hf⟩ := Eb hu hz h
  have hx : ∀ x ∈ xs, ∃ k, x = [.int .u8 k] ∧ 0 ≤ k ∧ k ≤ 255 := fun x hx => by
    obtain ⟨k, h1, h2, h3⟩ := I5 he (hf x hx)
    exact ⟨k, h1, by simpa [IntKind.min, IntKind.signed] using h2, by simpa [IntKind.max, IntKind.signed, IntKind.bits] using h3⟩
  have hl : ∃ l : List Int, xs = l.map (fun k => [.int .u8 k]) ∧ ∀ x ∈ l, 0 ≤ x ∧ x ≤ 255 := by
    clear hr hm hf h
    induction xs with
    | nil => exact ⟨[], rfl, fun x hx => by simp at hx⟩
    | cons x r ih =>
      obtain ⟨k, h1, h2⟩ := hx x (by simp)
      obtain ⟨l, h3, h4⟩ := ih fun y hy => hx y (by simp [hy])
      exact ⟨k :: l, by rw [h1, h3]; rfl, fun y hy => by rcases List.mem_cons.1 hy with rfl | hy; exact h2; exact h4 y hy⟩
  obtain ⟨l, rfl, hr255⟩ := hl
  refine ⟨v, l, rfl, ?_, by simpa using hm, hr255⟩
  rcases hr with ⟨h1, h2⟩ | ⟨x, o, sp, c, cs, ty, own, h1, h2, h3⟩
  · have : l = [] := by simpa using h1
    exact .inl ⟨this, h2⟩
  · cases hl : l with
    | nil => subst hl; exact .inl ⟨rfl, .inr ⟨x, o, sp, c, by simpa using h1⟩⟩
    | cons a r =>
      rw [← hl]
      refine .inr ⟨x, o, sp, c, cs, ty, own, by simpa using h1, h2, ?_⟩
      have hget : ∀ i, i < l.length → cs[o + i]? = (bl l)[i]? := by
        intro i hi
        have := h3 i [.int .u8 l[i]] (by simp [hi])
        have := eF this (j := 0) (by omega)
        simpa [bl, hi] using this
      have hlen : o + l.length ≤ cs.length := by
        have h5 := hget (l.length - 1) (by rw [hl]; simp)
        have hpos : 0 < l.length := by rw [hl]; simp
        have hb : l.length - 1 < (bl l).length := by rw [mU]; omega
        rw [List.getElem?_eq_getElem hb] at h5
        have := (List.getElem?_eq_some_iff.1 h5).1
        omega
      unfold cut
      rw [if_pos hlen]
      congr 1
      apply List.ext_getElem?
      intro i
      by_cases hi : i < l.length
      · rw [List.getElem?_take, if_pos hi, List.getElem?_drop, hget i hi]
      · rw [List.getElem?_eq_none (by simp; omega), List.getElem?_eq_none (by rw [mU]; omega)]
end Go.Abs
