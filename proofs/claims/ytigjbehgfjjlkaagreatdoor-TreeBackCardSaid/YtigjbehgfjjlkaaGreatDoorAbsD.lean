/- Values that are built; append, copy, len; numbers: what an operation does to the abstract heap. -/
import Derived.Test.YtigjbehgfjjlkaaGreatDoorAbsC
set_option linter.unusedVariables false
set_option linter.unusedSimpArgs false
namespace Go.Abs
open Go.RowKit
section
variable {cx : Cx} {φ : Emb} {st : St} {w : World}
def jd (pl : Nat → Option (Nat × Nat)) : List Value → List (Nat × Value) → Option (List Value)
  | cells, [] => some cells
  | cells, (i, v) :: r => match pl i with
    | some (off, size) => if isTuple v = false ∧ v.cells.size = size ∧ off + size ≤ cells.length then jd pl (setL cells off v.cells.toList) r else none
    | none => none
theorem sS : ∀ (vs : List Value) (cs : Array Value) (off k : Nat),
    ((vs.zipIdx k).foldl (fun cs (x : Value × Nat) => cs.setIfInBounds (off + x.2) x.1) cs).toList = setL cs.toList (off + k) vs
  | [], cs, off, k => rfl
  | v :: r, cs, off, k => by
    simp only [List.zipIdx_cons, List.foldl_cons, setL]
    rw [sS r _ off (k + 1)]
    simp [Nat.add_assoc]
theorem VRL.set {As as : List Value} (h : VRL φ As as) (i : Nat) {V v : Value} (hv : VR φ V v) : VRL φ (As.set i V) (as.set i v) := by
  refine ⟨by simp [h.1], fun j U hj => ?_⟩
  by_cases e : i = j
  · subst e
    have hl : i < As.length := by have := (List.getElem?_eq_some_iff.1 hj).1; simpa using this
    simp [hl] at hj
    subst hj
    exact ⟨v, by simp [← h.1, hl], hv⟩
  · rw [List.getElem?_set_ne e] at hj
    obtain ⟨u, a, b⟩ := h.2 j U hj
    exact ⟨u, by rw [List.getElem?_set_ne e]; exact a, b⟩
theorem VRL.setL : ∀ (Vs vs : List Value) {As as : List Value} (off : Nat), VRL φ As as → VRL φ Vs vs → VRL φ (setL As off Vs) (setL as off vs)
  | [], vs, As, as, off, h, k => by
    have : vs = [] := List.eq_nil_of_length_eq_zero (by have := k.1; simpa using this.symm)
    subst this
    exact h
  | V :: Vs, vs, As, as, off, h, k => by
    obtain ⟨v, vs', rfl, hv, k'⟩ := k.bO
    exact VRL.setL Vs vs' (off + 1) (h.set off hv) k'
def VRP (φ : Emb) : List (Nat × Value) → List (Nat × Value) → Prop
  | [], [] => True
  | (i, V) :: R, (j, v) :: r => i = j ∧ VR φ V v ∧ VRP φ R r
  | _, _ => False
theorem iJ (pl : Nat → Option (Nat × Nat)) : ∀ (Ps ps : List (Nat × Value)) (Cs : List Value) (cs : Array Value) (Rs : List Value), VRP φ Ps ps → VRL φ Cs cs.toList → jd pl Cs Ps = some Rs →
    ∃ rs, Instr.fill pl cs ps = some rs ∧ VRL φ Rs rs.toList
  | [], [], Cs, cs, Rs, _, hc, h => by
    simp [jd] at h
    subst h
    exact ⟨cs, rfl, hc⟩
  | [], _ :: _, _, _, _, hp, _, _ => hp.elim
  | _ :: _, [], _, _, _, hp, _, _ => hp.elim
  | (i, V) :: Ps, (j, v) :: ps, Cs, cs, Rs, hp, hc, h => by
    obtain ⟨rfl, hv, hp⟩ := hp
    unfold jd at h
    split at h
    · rename_i off size hpl
      split at h
      · rename_i hk
        obtain ⟨k1, k2, k3⟩ := hk
        have hcells := hv.cells k1
        have hsz : v.cells.size = size := by rw [← hcells.1]; exact k2
        have hcs : off + v.cells.size ≤ cs.size := by rw [hsz]; have := hc.1; simp at this; omega
        have hfold := sS v.cells.toList cs off 0
        obtain ⟨rs, h1, h2⟩ := iJ pl Ps ps (Abs.setL Cs off V.cells.toList) (v.cells.zipIdx.foldl (fun cs (x : Value × Nat) => cs.setIfInBounds (off + x.2) x.1) cs) Rs hp (by
          have e : (v.cells.zipIdx.foldl (fun cs (x : Value × Nat) => cs.setIfInBounds (off + x.2) x.1) cs).toList = Abs.setL cs.toList off v.cells.toList := by
            rw [← Array.foldl_toList, Array.toList_zipIdx]
            simpa using hfold
          rw [e]
          exact VRL.setL _ _ off hc hcells.toL) h
        refine ⟨rs, ?_, h2⟩
        unfold Instr.fill
        simp only [hpl]
        rw [if_neg (by simp [hsz]; omega)]
        exact h1
      · cases h
    · cases h
def jf (P : Program) (t : TypeId) : Option (List (Nat × Nat)) :=
  match P.underlying t with
  | some (.struct fs) => fs.toList.mapM fun f => (asz P f.type).map fun n => (f.offset, n)
  | _ => none
def jY (P : Program) (t : TypeId) (ps : List (Nat × Value)) : Option Value :=
  match azc P t, P.underlying t with
  | some z, some (.struct _) => match jf P t with
    | some pl => (jd (pl[·]?) z ps).map fun cs => .agg cs.toArray
    | none => none
  | some z, some (.array _ e) => match asz P e with
    | some n => (jd (fun i => some (i * n, n)) z ps).map fun cs => .agg cs.toArray
    | none => none
  | _, _ => none
theorem run_places {P : Program} : ∀ (fs : List Field) (pl : List (Nat × Nat)), fs.mapM (fun f => (asz P f.type).map fun n => (f.offset, n)) = some pl → ∀ w,
    (fs.mapM (fun f => (do pure (f.offset, ← sizeOf f.type) : Sem (Nat × Nat)))).run P w = .ok pl w
  | [], pl, h, w => by simp at h; subst h; simp
  | f :: fs, pl, h, w => by
    rw [List.mapM_cons] at h
    cases hz : asz P f.type with
    | none => simp [hz] at h
    | some n =>
      simp only [hz, Option.map_some, Option.bind_eq_bind, Option.bind_some, Option.pure_def] at h
      cases hr : fs.mapM (fun f => (asz P f.type).map fun n => (f.offset, n)) with
      | none => rw [hr] at h; simp at h
      | some pl' =>
        rw [hr] at h
        simp at h
        subst h
        have := run_places fs pl' hr w
        rw [List.mapM_cons]
        simp only [Sem.run_bind, aG hz, Result.andThen_ok, Sem.run_pure, this]
theorem xX {t : TypeId} {Ps ps : Array (Nat × Value)} {V : Value} (hp : VRP φ Ps.toList ps.toList) (ha : jY cx.P t Ps.toList = some V) :
    ∃ v, (Instr.build t ps).run cx.P w = .ok v w ∧ VR φ V v := by
  unfold jY at ha
  split at ha
  · rename_i z fs hz hu
    split at ha
    · rename_i pl hpl
      unfold jf at hpl
      rw [hu] at hpl
      simp only at hpl
      obtain ⟨i, v, hi, hzv, hc, rfl, _⟩ := fM hz
      cases hf : jd (pl[·]?) v.cells.toList Ps.toList with
      | none => simp [hf] at ha
      | some Rs =>
        simp [hf] at ha
        subst ha
        obtain ⟨rs, h1, h2⟩ := iJ (φ := φ) _ _ _ _ v.cells Rs hp (fA hc) hf
        have hpl' := run_places (P := cx.P) fs.toList pl hpl w
        have hm : (fs.mapM (fun f => (do pure (f.offset, ← sizeOf f.type) : Sem (Nat × Nat)))).run cx.P w = .ok pl.toArray w := by
          rw [Array.mapM_eq_mapM_toList, Sem.run_map, hpl']
          rfl
        have e1 : (pl.toArray[·]? : Nat → Option (Nat × Nat)) = (pl[·]?) := by funext i; simp
        refine ⟨.agg rs, ?_, ?_⟩
        · unfold Instr.build
          simp only [Sem.run_bind, aV hi hzv, run_underlying hu, Result.andThen_ok]
          rw [hm]
          simp only [Result.andThen_ok, e1, h1]
          rfl
        · have := h2.toA
          simpa using VR.agg this.1 this.2
    · cases ha
  · rename_i z k e hz hu
    split at ha
    · rename_i n hn
      obtain ⟨i, v, hi, hzv, hc, rfl, _⟩ := fM hz
      cases hf : jd (fun i => some (i * n, n)) v.cells.toList Ps.toList with
      | none => simp [hf] at ha
      | some Rs =>
        simp [hf] at ha
        subst ha
        obtain ⟨rs, h1, h2⟩ := iJ (φ := φ) _ _ _ _ v.cells Rs hp (fA hc) hf
        refine ⟨.agg rs, ?_, ?_⟩
        · unfold Instr.build
          simp only [Sem.run_bind, aV hi hzv, run_underlying hu, Result.andThen_ok, aG hn, h1]
          rfl
        · have := h2.toA
          simpa using VR.agg this.1 this.2
    · cases ha
  · cases ha
def zeros (z : List Value) (n : Nat) : List Value := (List.replicate n z).flatten
theorem zeros_length (z : List Value) (n : Nat) : (zeros z n).length = n * z.length := by simp [zeros, List.length_flatten]
theorem ES {z : List Value} {n i : Nat} (h : i < n * z.length) : (zeros z n)[i]? = z[i % z.length]? := by
  induction n generalizing i with
  | zero => simp at h
  | succ n ih =>
    have e : zeros z (n + 1) = z ++ zeros z n := by simp [zeros, List.replicate_succ]
    rw [e]
    by_cases hi : i < z.length
    · rw [List.getElem?_append_left hi, Nat.mod_eq_of_lt hi]
    · have hm : i % z.length = (i - z.length) % z.length := Nat.mod_eq_sub_mod (by omega)
      rw [hm, List.getElem?_append_right (by omega), ih (by rw [Nat.succ_mul] at h; omega)]
theorem xY {v : Value} {n : Nat} (hz : n * v.cells.size ≠ 0) : ((Array.range (n * v.cells.size)).map (v.cells[· % v.cells.size]!)).toList = zeros v.cells.toList n := by
  apply List.ext_getElem?
  intro i
  by_cases hi : i < n * v.cells.size
  · rw [ES (by simpa using hi)]
    have hm : i % v.cells.size < v.cells.size := Nat.mod_lt _ (by rcases Nat.eq_zero_or_pos v.cells.size with e | e; rw [e] at hz; simp at hz; exact e)
    simp [hi, hm]
  · rw [List.getElem?_eq_none (by simp; omega), List.getElem?_eq_none (by rw [zeros_length]; simpa using hi)]
theorem VRL.zeros {φ : Emb} {z : List Value} (h : VRL φ z z) : ∀ n, VRL φ (zeros z n) (zeros z n)
  | 0 => VRL.nil
  | n + 1 => by
    have e : Abs.zeros z (n + 1) = z ++ Abs.zeros z n := by simp [Abs.zeros, List.replicate_succ]
    rw [e]
    exact h.append (VRL.zeros h n)
theorem qC : Array.range 0 = #[] := rfl
def aL (P : Program) (st : St) (t : TypeId) (len : Nat) (ps : List (Nat × Value)) : Option (Value × St) :=
  match P.underlying t with
  | some (.slice e) => match asz P e, azc P e with
    | some n, some z => if len * n ≤ 16777216 then match jd (fun i => some (i * n, n)) (zeros z len) ps with
        | some cs => some (.slice (some ⟨st.n, 0, none⟩) len len, st.new (.cells cs e true))
        | none => none
      else none
    | _, _ => none
  | _ => none
theorem gB {P : Program} {t : TypeId} {i : TypeInfo} {n : Nat} (hi : P.info? t = some i) (hn : asz P t = some n) : i.size = n := by
  unfold asz at hn; simp [hi] at hn; exact hn
theorem oL (h : HR cx φ st w) {t : TypeId} {len : Nat} {Ps ps : Array (Nat × Value)} {V : Value} {st' : St} (hp : VRP φ Ps.toList ps.toList) (ha : aL cx.P st t len Ps.toList = some (V, st')) :
    Out cx φ V st' ((Instr.buildSlice t len ps).run cx.P w) := by
  unfold aL at ha
  split at ha
  · rename_i e hu
    split at ha
    · rename_i n z hn hz
      split at ha
      · rename_i hlim
        split at ha
        · rename_i Cs hf
          injection ha with ha
          simp only [Prod.mk.injEq] at ha
          obtain ⟨rfl, rfl⟩ := ha
          obtain ⟨i, v, hi, hzv, hc, rfl, hsz⟩ := fM hz
          rw [gB hi hn] at hsz
          have hzl := VRL.zeros (fA (φ := φ) hc) len
          by_cases h0 : len * n = 0
          · have hz0 : zeros v.cells.toList len = (#[] : Array Value).toList := by
              apply List.eq_nil_of_length_eq_zero
              rw [zeros_length]; simp [hsz, h0]
            rw [hz0] at hf hzl
            obtain ⟨rs, h1, h2⟩ := iJ (φ := φ) _ _ _ _ #[] Cs hp VRL.nil hf
            obtain ⟨φ', hle, hφ, hh⟩ := h.gL h2 [] e
            refine ⟨φ', _, _, ?_, hle, .slcX hφ (Nat.le_refl _) (.inl rfl), hh⟩
            have hlim' : ¬ (16777216 < len * n) := by omega
            simp [Instr.buildSlice, run_underlying hu, aG hn, hlim', h0, h1, newRow, qC]
          · have hzl' : VRL φ (zeros v.cells.toList len) ((Array.range (len * n)).map (v.cells[· % v.cells.size]!)).toList := by
              rw [← hsz, xY (by rw [hsz]; exact h0)]
              exact hzl
            obtain ⟨rs, h1, h2⟩ := iJ (φ := φ) _ _ _ _ ((Array.range (len * n)).map (v.cells[· % v.cells.size]!)) Cs hp hzl' hf
            obtain ⟨φ', hle, hφ, hh⟩ := h.gL h2 [] e
            refine ⟨φ', _, _, ?_, hle, .slcX hφ (Nat.le_refl _) (.inl rfl), hh⟩
            have hlim' : ¬ (16777216 < len * n) := by omega
            unfold Instr.buildSlice
            simp only [Sem.run_bind, run_underlying hu, Result.andThen_ok, aG hn]
            rw [if_neg (by simpa using hlim'), if_neg h0]
            simp only [Sem.run_bind, Sem.run_pure, Result.andThen_ok, aV hi hzv, h1]
            simp [newRow]
        · cases ha
      · cases ha
    · cases ha
  · cases ha
def ak (P : Program) (st : St) (t : TypeId) (l c : Value) : Option (Value × St) :=
  match P.underlying t, l, c with
  | some (.slice e), .int _ L, .int _ C => match asz P e, azc P e, bq P e with
    | some n, some z, some b => if 0 ≤ L ∧ L ≤ C ∧ C ≤ 281474976710656 ∧ (b : Int) * C ≤ 281474976710656 then
        some (.slice (some ⟨st.n, 0, none⟩) L.toNat C.toNat, st.new (.cells (zeros z C.toNat) e true)) else none
    | _, _, _ => none
  | _, _, _ => none
theorem wrap_i64 {x : Int} (h : -9223372036854775808 ≤ x) (h' : x ≤ 9223372036854775807) : IntKind.i64.wrap x = x := by
  simp [IntKind.wrap, IntKind.bits, IntKind.signed]
  omega
theorem zU (h : HR cx φ st w) {t : TypeId} {L l C c V : Value} {st' : St} (hl : VR φ L l) (hc : VR φ C c) (ha : ak cx.P st t L C = some (V, st')) :
    Out cx φ V st' ((Instr.makeSlice t l c).run cx.P w) := by
  unfold ak at ha
  split at ha
  · rename_i e k L' k' C' hu
    obtain rfl := hl.bA
    obtain rfl := hc.bA
    split at ha
    · rename_i n z b hn hz hb
      split at ha
      · rename_i hcond
        obtain ⟨c1, c2, c3, c4⟩ := hcond
        injection ha with ha
        simp only [Prod.mk.injEq] at ha
        obtain ⟨rfl, rfl⟩ := ha
        obtain ⟨i, v, hi, hzv, hcst, rfl, hsz⟩ := fM hz
        rw [gB hi hn] at hsz
        have hbytes : i.bytes = b := by unfold bq at hb; simp [hi] at hb; exact hb
        have w1 : IntKind.i64.wrap L' = L' := wrap_i64 (by omega) (by omega)
        have w2 : IntKind.i64.wrap C' = C' := wrap_i64 (by omega) (by omega)
        have htype : (typeInfo e).run cx.P w = .ok i w := by simp [typeInfo, hi]
        have t1 : ¬ C' < 0 := by omega
        have t2 : ¬ ((281474976710656 : Int) < (b : Int) * C') := by omega
        have t3 : ¬ L' < 0 := by omega
        have t4 : ¬ C' < L' := by omega
        have hzl := VRL.zeros (fA (φ := φ) hcst) C'.toNat
        have hzc : ∃ cs : Array Value, cs.toList = zeros v.cells.toList C'.toNat ∧
            ((do
              let zero ← if C'.toNat * n = 0 then pure #[] else do pure (← zeroValue e).cells
              let a ← newRow e ((Array.range (C'.toNat * n)).map (zero[· % zero.size]!))
              pure (.slice (some a) L'.toNat C'.toNat)) : Sem Value).run cx.P w = .ok (.slice (some ⟨w.heap.size, 0, none⟩) L'.toNat C'.toNat) (w.alloc (.cells cs e)) := by
          by_cases h0 : C'.toNat * n = 0
          · refine ⟨#[], ?_, by simp [h0, newRow, qC]⟩
            symm
            apply List.eq_nil_of_length_eq_zero
            rw [zeros_length]; simp [hsz, h0]
          · refine ⟨_, xY (by rw [hsz]; exact h0), ?_⟩
            rw [if_neg h0, hsz]
            simp [aV hi hzv, newRow, hsz]
        obtain ⟨cs, e1, e2⟩ := hzc
        rw [← e1] at hzl ⊢
        obtain ⟨φ', hle, hφ, hh⟩ := h.gL hzl [] e
        refine ⟨φ', _, _, ?_, hle, .slcX hφ (by omega) (.inl rfl), hh⟩
        unfold Instr.makeSlice
        simp only [Sem.run_bind, run_underlying hu, Result.andThen_ok, asInt, asIntOf, Sem.run_pure, htype, w1, w2, hbytes]
        have hif : ((decide (C' < 0) || decide ((b : Int) * C' > 2 ^ 48)) || decide (L' < 0) || decide (L' > C')) = false := by
          simp; omega
        rw [if_neg (by rw [hif]; simp)]
        simp only [Sem.run_bind, run_askRoom, Result.andThen_ok, aG hn]
        simpa using e2
      · cases ha
    · cases ha
  · cases ha
end
end Go.Abs
