/- Places, parts, slices: what an operation does to the abstract heap. -/
import Derived.Test.YtigjbehgfjjlkaaGreatDoorAbsB
set_option linter.unusedVariables false
set_option linter.unusedSimpArgs false
namespace Go.Abs
open Go.RowKit
section
variable {cx : Cx} {φ : Emb} {st : St} {w : World}
def fT (P : Program) (s : TypeId) (x : Value) (f : Nat) : Option Value :=
  match x, afo P s f with
  | .pointer (some ⟨B, off, none⟩), some o => some (.pointer (some ⟨B, off + o, none⟩))
  | _, _ => none
theorem Gu {P : Program} {s : TypeId} {f o : Nat} (h : afo P s f = some o) : ∃ fs fd n, P.underlying s = some (.struct fs) ∧ fs[f]? = some fd ∧ asz P fd.type = some (n + 1) ∧ fd.offset = o := by
  unfold afo at h
  split at h
  · rename_i fs hu
    split at h
    · rename_i fd hf
      split at h
      · rename_i n hn
        injection h with h
        exact ⟨fs, fd, n, hu, hf, hn, h⟩
      · cases h
    · cases h
  · cases h
theorem qz {s : TypeId} {X x V : Value} {f : Nat} (hx : VR φ X x) (ha : fT cx.P s X f = some V) :
    ∃ v, (Instr.fieldAt s x f).run cx.P w = .ok v w ∧ VR φ V v := by
  unfold fT at ha
  split at ha
  · rename_i B off o ho
    injection ha with ha; subst ha
    obtain ⟨fs, fd, n, hu, hf, hn, rfl⟩ := Gu ho
    cases hx with
    | ptr h =>
      refine ⟨_, ?_, .ptr (off := off + fd.offset) h⟩
      simp [Instr.fieldAt, run_underlying hu, hf, Instr.sureAddr, fieldPlace, aG hn, dM, Nat.add_assoc]
  · cases ha
def xS (P : Program) (t : TypeId) (cs : Array Value) (off : Nat) : Option Value :=
  match P.underlying t, asz P t with
  | some d, some n => bif kR d then some (.agg (cs.extract off (off + n))) else cs[off]?
  | _, _ => none
theorem VRA.extract {As as : Array Value} (h : VRA φ As as) (i j : Nat) : VRA φ (As.extract i j) (as.extract i j) := by
  refine ⟨by simp [h.1], fun k h1 h2 => ?_⟩
  simp only [Array.getElem_extract]
  exact h.2 _ _ _
theorem oK {t : TypeId} {As as : Array Value} {off : Nat} {V : Value} (h : VRA φ As as) (ha : xS cx.P t As off = some V) :
    ∃ v, (part t as off).run cx.P w = .ok v w ∧ VR φ V v := by
  unfold xS at ha
  split at ha
  · rename_i d n hu hs
    cases hd : kR d with
    | true =>
      simp [hd] at ha
      subst ha
      have := h.extract off (off + n)
      exact ⟨_, by simp [part, ko hu, hd, aG hs], .agg this.1 this.2⟩
    | false =>
      simp [hd] at ha
      obtain ⟨v, hv, hr⟩ := h.get ha
      exact ⟨v, by simp [part, ko hu, hd, hv], hr⟩
  · cases ha
def qA (P : Program) (s : TypeId) (x : Value) (f : Nat) : Option Value :=
  match x, P.underlying s with
  | .agg cs, some (.struct fs) => match fs[f]? with
    | some fd => xS P fd.type cs fd.offset
    | none => none
  | _, _ => none
theorem xU {s : TypeId} {X x V : Value} {f : Nat} (hx : VR φ X x) (ha : qA cx.P s X f = some V) :
    ∃ v, (Instr.field s x f).run cx.P w = .ok v w ∧ VR φ V v := by
  unfold qA at ha
  split at ha
  · rename_i cs fs hu
    split at ha
    · rename_i fd hf
      cases hx with
      | agg h1 h2 =>
        obtain ⟨v, hr, hv⟩ := oK (w := w) ⟨h1, h2⟩ ha
        exact ⟨v, by simp [Instr.field, run_underlying hu, hf, asAgg, hr], hv⟩
    · cases ha
  · cases ha
def jr (P : Program) (t : TypeId) (x ix : Value) : Option Value :=
  match P.underlying t, x, ix with
  | some (.array len e), .agg cs, .int _ i => match asz P e with
    | some n => if 0 ≤ i ∧ i < len then xS P e cs (i.toNat * n) else none
    | none => none
  | some .string, .string s, .int _ i => if 0 ≤ i then (s[i.toNat]?).map fun b => .int .u8 b.toNat else none
  | _, _, _ => none
theorem VR.bA {k : IntKind} {n : Int} {v : Value} (h : VR φ (.int k n) v) : v = .int k n := by cases h; rfl
theorem VR.gM {b : Bool} {v : Value} (h : VR φ (.bool b) v) : v = .bool b := by cases h; rfl
theorem VR.bS {s : ByteArray} {v : Value} (h : VR φ (.string s) v) : v = .string s := by cases h; rfl
theorem xV {t : TypeId} {X x IX ix V : Value} (hx : VR φ X x) (hi : VR φ IX ix) (ha : jr cx.P t X IX = some V) :
    ∃ v, (Instr.index t x ix).run cx.P w = .ok v w ∧ VR φ V v := by
  unfold jr at ha
  split at ha
  · rename_i len e cs k i hu
    obtain rfl := hi.bA
    split at ha
    · rename_i n hn
      split at ha
      · rename_i hb
        cases hx with
        | agg h1 h2 =>
          obtain ⟨v, hr, hv⟩ := oK (w := w) ⟨h1, h2⟩ ha
          exact ⟨v, by simp [Instr.index, asIntOf, run_underlying hu, hb, aG hn, hr], hv⟩
      · cases ha
    · cases ha
  · rename_i s k i hu
    obtain rfl := hi.bA
    obtain rfl := hx.bS
    split at ha
    · rename_i hb
      cases hs : s[i.toNat]? with
      | none => simp [hs] at ha
      | some b =>
        simp [hs] at ha
        subst ha
        exact ⟨_, by simp [Instr.index, asIntOf, run_underlying hu, hb, hs], .int _ _⟩
    · cases ha
  · cases ha
def fU (P : Program) (t : TypeId) (x ix : Value) : Option Value :=
  match P.underlying t, x, ix with
  | some (.slice e), .slice (some ⟨B, off, _⟩) len _, .int _ i => match asz P e with
    | some n => if 0 ≤ i ∧ i < len then some (.pointer (some ⟨B, off + i.toNat * n, none⟩)) else none
    | none => none
  | some (.array len e), .pointer (some ⟨B, off, none⟩), .int _ i => match asz P e with
    | some n => if 0 ≤ i ∧ i < len then some (.pointer (some ⟨B, off + i.toNat * n, none⟩)) else none
    | none => none
  | _, _, _ => none
theorem qB {t : TypeId} {X x IX ix V : Value} (hx : VR φ X x) (hi : VR φ IX ix) (ha : fU cx.P t X IX = some V) :
    ∃ v, (Instr.indexAt t x ix).run cx.P w = .ok v w ∧ VR φ V v := by
  unfold fU at ha
  split at ha
  · rename_i e B off sp len cap k i hu
    obtain rfl := hi.bA
    split at ha
    · rename_i n hn
      split at ha
      · rename_i hb
        injection ha with ha; subst ha
        have key : ∀ (p : Pl) (a : Addr) (cap' : Nat), φ B = some p → a = ⟨p.blk, p.off + off, none⟩ →
            ∃ v, (Instr.indexAt t (.slice (some a) len cap') (.int k i)).run cx.P w = .ok v w ∧ VR φ (.pointer (some ⟨B, off + i.toNat * n, none⟩)) v := by
          intro p a cap' hp e
          subst e
          refine ⟨_, ?_, .ptr hp⟩
          simp [Instr.indexAt, asIntOf, run_underlying hu, hb, aG hn, dM, Nat.add_assoc]
        cases hx with
        | slcX h hl ha => exact key _ _ _ h (by rcases ha with ha | ha; exact ha; omega)
        | slcO h hl hc hw ha => exact key _ _ _ h (by rcases ha with ha | ha; exact ha; omega)
      · cases ha
    · cases ha
  · rename_i len e B off k i hu
    obtain rfl := hi.bA
    split at ha
    · rename_i n hn
      split at ha
      · rename_i hb
        injection ha with ha; subst ha
        cases hx with
        | ptr h =>
          refine ⟨_, ?_, .ptr h⟩
          simp [Instr.indexAt, asIntOf, run_underlying hu, Instr.sureAddr, hb, aG hn, dM, Nat.add_assoc]
      · cases ha
    · cases ha
  · cases ha
def bnd (v : Value) (y : Nat) : Option Nat :=
  match v with
  | .int _ i => if 0 ≤ i ∧ i ≤ y then some i.toNat else none
  | _ => none
theorem ku {V v : Value} {y y' n : Nat} (h : VR φ V v) (hb : bnd V y = some n) (hy : y ≤ y') (code : BoundsCode) :
    (Instr.sliceBound v y' code).run cx.P w = .ok n w ∧ n ≤ y := by
  unfold bnd at hb
  split at hb
  · obtain rfl := h.bA
    split at hb
    · rename_i k i hi
      injection hb with hb; subst hb
      refine ⟨?_, by omega⟩
      simp [Instr.sliceBound, asIntOf]
      omega
    · cases hb
  · cases hb
def cB (len cap : Nat) (lo hi mx : Option Value) : Option (Nat × Nat × Nat) :=
  match (match mx with | some v => bnd v cap | none => some cap) with
  | none => none
  | some m => match (match hi with | some v => bnd v m | none => if mx.isSome then none else some len) with
    | none => none
    | some h => match (match lo with | some v => bnd v h | none => some 0) with
      | none => none
      | some l => some (l, h, m)
def VRO (φ : Emb) : Option Value → Option Value → Prop
  | none, none => True
  | some V, some v => VR φ V v
  | _, _ => False
theorem iH {len cap cap' : Nat} {Lo lo Hi hi Mx mx : Option Value} {l h m : Nat} (b : Bool) (hlo : VRO φ Lo lo) (hhi : VRO φ Hi hi) (hmx : VRO φ Mx mx) (hlc : len ≤ cap) (hcap : cap ≤ cap')
    (hb : cB len cap Lo Hi Mx = some (l, h, m)) :
    ∃ m', (Instr.sliceBounds b len cap' lo hi mx).run cx.P w = .ok (l, h, m') w ∧ l ≤ h ∧ h ≤ m ∧ m ≤ cap ∧ (Mx.isSome = true → m' = m) ∧ (Mx = none → m = cap ∧ m' = cap') := by
  unfold cB at hb
  cases Mx with
  | none =>
    cases mx with
    | some v => exact hmx.elim
    | none =>
      simp only at hb
      have fin : ∀ h0 l0, h0 ≤ cap → (match Lo with | some v => bnd v h0 | none => some 0) = some l0 → ∀ code, (match lo with | some v => Instr.sliceBound v h0 code | none => (pure 0 : Sem Nat)).run cx.P w = .ok l0 w ∧ l0 ≤ h0 := by
        intro h0 l0 _ hl code
        cases Lo with
        | none =>
          cases lo with
          | some v => exact hlo.elim
          | none => simp at hl; subst hl; exact ⟨rfl, Nat.zero_le _⟩
        | some V =>
          cases lo with
          | none => exact hlo.elim
          | some v => exact ku (cx := cx) (w := w) hlo hl (Nat.le_refl _) code
      cases Hi with
      | none =>
        cases hi with
        | some v => exact hhi.elim
        | none =>
          simp at hb
          split at hb
          · cases hb
          · rename_i l0 hl0
            injection hb with hb
            simp only [Prod.mk.injEq] at hb
            obtain ⟨rfl, rfl, rfl⟩ := hb
            obtain ⟨r1, r2⟩ := fin _ _ hlc hl0 .sliceB
            refine ⟨cap', ?_, r2, hlc, Nat.le_refl _, by simp, by simp⟩
            cases lo <;> simp at r1 <;> simp [Instr.sliceBounds, r1]
      | some V =>
        cases hi with
        | none => exact hhi.elim
        | some v =>
          simp only at hb
          split at hb
          · cases hb
          · rename_i h0 hh0
            split at hb
            · cases hb
            · rename_i l0 hl0
              injection hb with hb
              simp only [Prod.mk.injEq] at hb
              obtain ⟨rfl, rfl, rfl⟩ := hb
              obtain ⟨q1, q2⟩ := ku (cx := cx) (w := w) hhi hh0 hcap (if b then .sliceAcap else .sliceAlen)
              obtain ⟨r1, r2⟩ := fin _ _ q2 hl0 .sliceB
              refine ⟨cap', ?_, r2, q2, Nat.le_refl _, by simp, by simp⟩
              cases lo <;> simp at r1 <;> simp [Instr.sliceBounds, r1, q1]
  | some MV =>
    cases mx with
    | none => exact hmx.elim
    | some mv =>
      simp only at hb
      split at hb
      · cases hb
      · rename_i m0 hm0
        obtain ⟨p1, p2⟩ := ku (cx := cx) (w := w) hmx hm0 hcap (if b then .slice3Acap else .slice3Alen)
        cases Hi with
        | none => simp at hb
        | some V =>
          cases hi with
          | none => exact hhi.elim
          | some v =>
            simp only at hb
            split at hb
            · cases hb
            · rename_i h0 hh0
              obtain ⟨q1, q2⟩ := ku (cx := cx) (w := w) hhi hh0 (Nat.le_refl _) .slice3B
              split at hb
              · cases hb
              · rename_i l0 hl0
                injection hb with hb
                simp only [Prod.mk.injEq] at hb
                obtain ⟨rfl, rfl, rfl⟩ := hb
                cases Lo with
                | none =>
                  cases lo with
                  | some v => exact hlo.elim
                  | none =>
                    simp at hl0
                    subst hl0
                    exact ⟨m0, by simp [Instr.sliceBounds, p1, q1], Nat.zero_le _, q2, p2, by simp, by simp⟩
                | some LV =>
                  cases lo with
                  | none => exact hlo.elim
                  | some lv =>
                    obtain ⟨r1, r2⟩ := ku (cx := cx) (w := w) hlo hl0 (Nat.le_refl _) .slice3C
                    exact ⟨m0, by simp [Instr.sliceBounds, p1, q1, r1], r2, q2, p2, by simp, by simp⟩
def kS (P : Program) (st : St) (B off cap n : Nat) (sp : Option Nat) : Bool :=
  match st.H B with
  | some (.cells cs ty true) => (asz P ty == some n) && (sp.isSome || decide (off + cap * n ≤ cs.length))
  | some (.cells _ _ false) => true
  | _ => sp.isNone && cap == 0
def aslice (P : Program) (st : St) (t : TypeId) (x : Value) (lo hi mx : Option Value) : Option Value :=
  match P.underlying t, x with
  | some .string, .string s => if mx.isSome then none else (cB s.size s.size lo hi none).map fun (l, h, _) => .string (s.extract l h)
  | some (.slice e), .slice none 0 0 => match cB 0 0 lo hi mx, asz P e with
    | some _, some _ => some (.slice none 0 0)
    | _, _ => none
  | some (.slice e), .slice (some ⟨B, off, sp⟩) len cap => match asz P e, cB len cap lo hi mx with
    | some n, some (l, h, m) =>
      if mx.isSome || sp.isNone then some (.slice (some ⟨B, off + l * n, none⟩) (h - l) (m - l))
      else if kS P st B off cap n sp then some (.slice (some ⟨B, off + l * n, some 0⟩) (h - l) (m - l)) else none
    | _, _ => none
  | some (.array k e), .pointer (some ⟨B, off, none⟩) => match asz P e, cB k k lo hi mx with
    | some n, some (l, h, m) => some (.slice (some ⟨B, off + l * n, none⟩) (h - l) (m - l))
    | _, _ => none
  | _, _ => none
theorem HR.LD (h : HR cx φ st w) {B off cap cap' n : Nat} {sp : Option Nat} {p : Pl} (hp : φ B = some p) (ho : kS cx.P st B off cap n sp = true)
    (hw : sp.isSome = true → cap' = 0 ∨ p.sz = 0 ∨ off + cap' * p.sz ≤ p.ext) (hc : sp = none → cap' = cap) : p.sz = 0 ∨ (cap' = 0 ∨ (p.sz = n ∧ off + cap' * n ≤ p.ext)) := by
  unfold kS at ho
  split at ho
  · rename_i cs ty hB
    obtain ⟨p0, hp0, hop⟩ := h.live B _ hB
    rw [hp] at hp0; injection hp0 with hp0; subst hp0
    obtain ⟨ccs, fz, h1, h2, h3, h4, h5, h6⟩ := hop
    have hs := (h6 rfl).2.1.1
    simp at ho
    rw [eH ho.1] at hs
    by_cases hz : p.sz = 0
    · exact .inl hz
    refine .inr ?_
    cases sp with
    | some k =>
      rcases hw rfl with e | e | e
      · exact .inl e
      · exact absurd e hz
      · exact .inr ⟨hs.symm, by rw [hs]; exact e⟩
    | none =>
      obtain rfl := hc rfl
      have := ho.2
      simp at this
      exact .inr ⟨hs.symm, by omega⟩
  · rename_i cs ty hB
    obtain ⟨p0, hp0, hop⟩ := h.live B _ hB
    rw [hp] at hp0; injection hp0 with hp0; subst hp0
    obtain ⟨ccs, fz, h1, h2, h3, h4, h5, h6⟩ := hop
    exact .inl (h5 rfl).2
  · simp at ho
    by_cases hz : p.sz = 0
    · exact .inl hz
    · exact .inr (.inl (by rw [hc ho.1]; exact ho.2))
theorem xW (h : HR cx φ st w) {t : TypeId} {X x V : Value} {Lo lo Hi hi Mx mx : Option Value} (hx : VR φ X x) (hlo : VRO φ Lo lo) (hhi : VRO φ Hi hi) (hmx : VRO φ Mx mx)
    (ha : aslice cx.P st t X Lo Hi Mx = some V) : ∃ v, (Instr.sliceAt t x lo hi mx).run cx.P w = .ok v w ∧ VR φ V v := by
  unfold aslice at ha
  split at ha
  · rename_i s hu
    obtain rfl := hx.bS
    split at ha
    · cases ha
    · rename_i hm
      cases Mx with
      | some _ => simp at hm
      | none =>
        cases mx with
        | some _ => exact hmx.elim
        | none =>
          cases hb : cB s.size s.size Lo Hi none with
          | none => simp [hb] at ha
          | some r =>
            obtain ⟨l, h0, m⟩ := r
            simp [hb] at ha
            subst ha
            obtain ⟨m', hr, _⟩ := iH (cx := cx) (φ := φ) (w := w) false hlo hhi hmx (Nat.le_refl _) (Nat.le_refl _) hb
            exact ⟨_, by simp [Instr.sliceAt, Instr.slice, run_underlying hu, hr], .string _⟩
  · rename_i e hu
    split at ha
    · rename_i r n hb hn
      injection ha with ha; subst ha
      obtain ⟨l, h0, m⟩ := r
      cases hx with
      | nilslc =>
        obtain ⟨m', hr, h1, h2, h3, h4, h5⟩ := iH (cx := cx) (φ := φ) (w := w) true hlo hhi hmx (Nat.le_refl _) (Nat.le_refl _) hb
        have : m' = 0 := by
          cases Mx with
          | none => exact (h5 rfl).2
          | some _ => have := h4 rfl; omega
        refine ⟨_, ?_, .nilslc⟩
        have e1 : h0 = 0 := by omega
        have e2 : l = 0 := by omega
        subst e1 e2 this
        simp [Instr.sliceAt, Instr.slice, run_underlying hu, hr, aG hn]
    · cases ha
  · rename_i e B off sp len cap hu
    split at ha
    · rename_i n l h0 m hn hb
      have key : ∀ (p : Pl) (a : Addr) (cap' : Nat), φ B = some p → len ≤ cap → cap ≤ cap' → (a = ⟨p.blk, p.off + off, none⟩ ∨ cap' = 0) →
          (sp.isSome = true → cap' = 0 ∨ p.sz = 0 ∨ off + cap' * p.sz ≤ p.ext) → (sp = none → cap' = cap) →
          ∃ v, (Instr.sliceAt t (.slice (some a) len cap') lo hi mx).run cx.P w = .ok v w ∧ VR φ V v := by
        intro p a cap' hp hlc hcc haddr hw hc
        obtain ⟨m', hr, h1, h2, h3, h4, h5⟩ := iH (cx := cx) (φ := φ) (w := w) true hlo hhi hmx hlc hcc hb
        refine ⟨.slice (if m' = l then some a else (some a).map (·.add (l * n))) (h0 - l) (m' - l), ?_, ?_⟩
        · simp [Instr.sliceAt, Instr.slice, run_underlying hu, hr, aG hn]
        have hplace : m' ≤ cap' := by
          cases Mx with
          | none => rw [(h5 rfl).2]; exact Nat.le_refl _
          | some _ => rw [h4 rfl]; omega
        have hlm : l ≤ m' := by
          cases Mx with
          | none => rw [(h5 rfl).2]; omega
          | some _ => rw [h4 rfl]; omega
        obtain ⟨a', ea, hadr⟩ : ∃ a', (if m' = l then some a else (some a).map (·.add (l * n))) = some a' ∧ (a' = ⟨p.blk, p.off + (off + l * n), none⟩ ∨ m' - l = 0) := by
          by_cases e : m' = l
          · exact ⟨a, by simp [e], .inr (by omega)⟩
          · refine ⟨a.add (l * n), by simp [e], .inl ?_⟩
            rcases haddr with haddr | haddr
            · subst haddr; rw [dM, Nat.add_assoc]
            · omega
        rw [ea]
        split at ha
        · rename_i hmx'
          injection ha with ha; subst ha
          have : m' = m := by
            cases hm : Mx with
            | some _ => exact h4 (by rw [hm]; rfl)
            | none =>
              have hsp : sp = none := by rw [hm] at hmx'; simpa using hmx'
              have h6 := h5 hm
              rw [h6.1, h6.2, hc hsp]
          subst this
          exact .slcX hp (by omega) hadr
        · rename_i hmx'
          split at ha
          · rename_i hok
            injection ha with ha; subst ha
            have hMx : Mx = none := by cases Mx <;> simp_all
            obtain ⟨rfl, rfl⟩ := h5 hMx
            refine .slcO hp (by omega) (by omega) ?_ hadr
            rcases h.LD (cap' := m') hp hok hw hc with hz | hk
            · exact .inr (.inl hz)
            · rcases hk with hk | ⟨hz, hk⟩
              · exact .inl (by omega)
              · refine .inr (.inr ?_)
                rw [hz]
                have : (m' - l) * n + l * n = m' * n := by rw [← Nat.add_mul]; congr 1; omega
                omega
          · cases ha
      cases hx with
      | slcX hp hl ha' => exact key _ _ _ hp hl (Nat.le_refl _) ha' (by simp) (fun _ => rfl)
      | slcO hp hl hc hw ha' => exact key _ _ _ hp hl hc ha' (fun _ => hw) (by simp)
    · cases ha
  · rename_i k e B off hu
    split at ha
    · rename_i n l h0 m hn hb
      injection ha with ha; subst ha
      cases hx with
      | @ptr _ _ p hp =>
        obtain ⟨m', hr, h1, h2, h3, h4, h5⟩ := iH (cx := cx) (φ := φ) (w := w) false hlo hhi hmx (Nat.le_refl _) (Nat.le_refl _) hb
        have hm : m' = m := by
          cases Mx with
          | none => rw [(h5 rfl).2, (h5 rfl).1]
          | some _ => exact h4 rfl
        subst hm
        refine ⟨_, by simp [Instr.sliceAt, run_underlying hu, Instr.sureAddr, hr, aG hn]; rfl, ?_⟩
        refine .slcX hp (by omega) ?_
        by_cases e : m' = l
        · exact .inr (by omega)
        · left; simp [e, dM, Nat.add_assoc]
    · cases ha
  · cases ha
end
end Go.Abs
