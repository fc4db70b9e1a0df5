/- What an operation does to the abstract heap; that the model's operation does the same. -/
import Derived.Test.YtigjbehgfjjlkaaGreatDoorAbsA
import Derived.Laws.Sem
import Derived.Laws.Cells
import Derived.Laws.Append
import Derived.Laws.AppendOwn
import Derived.Laws.MakeOwn
import Derived.Laws.Entries
set_option linter.unusedVariables false
set_option linter.unusedSimpArgs false
namespace Go.Abs
open Go.RowKit
def nC : Value → Bool
  | .bool _ | .int _ _ | .float _ _ | .string _ | .pointer none | .slice none 0 0 | .map none | .nilFunc | .nilIface => true
  | _ => false
def cst : Value → Bool
  | .agg cs => cs.toList.all nC
  | v => nC v
theorem VR.nC {φ : Emb} {v : Value} (h : nC v = true) : VR φ v v := by
  unfold Abs.nC at h
  split at h <;> first | constructor | simp at h
theorem VR.cst {φ : Emb} {v : Value} (h : cst v = true) : VR φ v v := by
  unfold Abs.cst at h
  split at h
  · refine .agg rfl fun i h1 h2 => VR.nC (List.all_eq_true.1 h _ ?_)
    simp
  · exact VR.nC h
def VRL (φ : Emb) (As as : List Value) : Prop := As.length = as.length ∧ ∀ (i : Nat) (V : Value), As[i]? = some V → ∃ v, as[i]? = some v ∧ VR φ V v
theorem VRL.mono {φ ψ : Emb} (hle : φ.le ψ) {As as : List Value} (h : VRL φ As as) : VRL ψ As as := ⟨h.1, fun i V hi => let ⟨v, a, b⟩ := h.2 i V hi; ⟨v, a, b.mono hle⟩⟩
theorem VRL.nil {φ : Emb} : VRL φ [] [] := ⟨rfl, fun i V hi => by simp at hi⟩
theorem VRL.cons {φ : Emb} {V v : Value} {As as : List Value} (h : VR φ V v) (k : VRL φ As as) : VRL φ (V :: As) (v :: as) := by
  refine ⟨by simp [k.1], fun i W hi => ?_⟩
  cases i with
  | zero => simp at hi; subst hi; exact ⟨v, rfl, h⟩
  | succ i => simpa using k.2 i W (by simpa using hi)
theorem VRL.bO {φ : Emb} {V : Value} {As as : List Value} (h : VRL φ (V :: As) as) : ∃ v as', as = v :: as' ∧ VR φ V v ∧ VRL φ As as' := by
  cases as with
  | nil => have := h.1; simp at this
  | cons v as' =>
    refine ⟨v, as', rfl, ?_, by have := h.1; simpa using this, fun i W hi => ?_⟩
    · obtain ⟨u, hu, hr⟩ := h.2 0 V rfl
      simp at hu; subst hu; exact hr
    · simpa using h.2 (i + 1) W (by simpa using hi)
theorem VRA.toL {φ : Emb} {As as : Array Value} (h : VRA φ As as) : VRL φ As.toList as.toList := by
  refine ⟨by simpa using h.1, fun i V hi => ?_⟩
  obtain ⟨v, a, b⟩ := h.get (i := i) (V := V) (by simpa using hi)
  exact ⟨v, by simpa using a, b⟩
theorem VRL.toA {φ : Emb} {As as : List Value} (h : VRL φ As as) : VRA φ As.toArray as.toArray := by
  refine ⟨by simpa using h.1, fun i h1 h2 => ?_⟩
  obtain ⟨v, a, b⟩ := h.2 i As[i] (by simp at h1; simp [h1])
  simp at h2
  rw [List.getElem?_eq_getElem h2] at a
  injection a with a
  simpa [a] using b
theorem VRL.append {φ : Emb} {As as Bs bs : List Value} (h : VRL φ As as) (k : VRL φ Bs bs) : VRL φ (As ++ Bs) (as ++ bs) := by
  refine ⟨by simp [h.1, k.1], fun i V hi => ?_⟩
  by_cases hl : i < As.length
  · rw [List.getElem?_append_left hl] at hi
    obtain ⟨v, a, b⟩ := h.2 i V hi
    exact ⟨v, by rw [List.getElem?_append_left (by rw [← h.1]; exact hl)]; exact a, b⟩
  · rw [List.getElem?_append_right (by omega)] at hi
    obtain ⟨v, a, b⟩ := k.2 _ V hi
    exact ⟨v, by rw [List.getElem?_append_right (by rw [← h.1]; omega), ← h.1]; exact a, b⟩
def setL : List Value → Nat → List Value → List Value
  | cs, _, [] => cs
  | cs, o, v :: r => setL (cs.set o v) (o + 1) r
theorem rA : ∀ (vs cs : List Value) (o : Nat), (setL cs o vs).length = cs.length
  | [], _, _ => rfl
  | v :: r, cs, o => by simp [setL, rA r]
def asz (P : Program) (t : TypeId) : Option Nat := (P.info? t).map (·.size)
def bq (P : Program) (t : TypeId) : Option Nat := (P.info? t).map (·.bytes)
def kR : TypeDesc → Bool
  | .struct _ | .array _ _ => true
  | _ => false
def azc (P : Program) (t : TypeId) : Option (List Value) :=
  match (P.info? t).bind (·.zero) with
  | some z => if cst z && z.cells.size == (P.info? t).elim 0 (·.size) then some z.cells.toList else none
  | none => none
def afo (P : Program) (s : TypeId) (f : Nat) : Option Nat :=
  match P.underlying s with
  | some (.struct fs) => match fs[f]? with
    | some fd => match asz P fd.type with
      | some (_ + 1) => some fd.offset
      | _ => none
    | none => none
  | _ => none
def Out (cx : Cx) (φ : Emb) (V : Value) (st : St) (r : Result Value) : Prop := ∃ φ' v w', r = .ok v w' ∧ φ.le φ' ∧ VR φ' V v ∧ HR cx φ' st w'
section
variable {cx : Cx} {φ : Emb} {st : St} {w : World}
theorem ko {P : Program} {t : TypeId} {d : TypeDesc} (h : P.underlying t = some d) (w : World) : (isAgg t).run P w = .ok (kR d) w := by
  cases d <;> simp [isAgg, run_underlying h, kR]
theorem aG {P : Program} {t : TypeId} {n : Nat} (h : asz P t = some n) (w : World) : (sizeOf t).run P w = .ok n w := by
  unfold asz at h
  cases hi : P.info? t with
  | none => simp [hi] at h
  | some i => simp [hi] at h; simp [sizeOf, typeInfo, hi, h]
theorem eH {P : Program} {t : TypeId} {n : Nat} (h : asz P t = some n) : P.cellsOf t = n := by
  unfold asz at h
  simp [Program.cellsOf, h]
def cut (cs : List Value) (off n : Nat) : Option (List Value) := if off + n ≤ cs.length then some ((cs.drop off).take n) else none
def zT (P : Program) (st : St) (t : TypeId) (B off : Nat) : Option Value :=
  match st.H B, P.underlying t, asz P t with
  | some (.cells cs _ _), some d, some n => bif kR d then (cut cs off n).map fun l => .agg l.toArray else cs[off]?
  | _, _, _ => none
theorem HR.loads (h : HR cx φ st w) {B : Nat} {cs : List Value} {ty : TypeId} {own : Bool} {p : Pl} (hB : st.H B = some (.cells cs ty own)) (hp : φ B = some p)
    {off n : Nat} (hn : off + n ≤ cs.length) : ∃ vs, vs.length = n ∧ VRL φ ((cs.drop off).take n) vs ∧ ∀ (j : Nat) (v : Value), vs[j]? = some v → w.cell? ⟨p.blk, p.off + off + j, none⟩ = some v := by
  obtain ⟨p0, hp0, hop⟩ := h.live B _ hB
  rw [hp] at hp0; injection hp0 with hp0; subst hp0
  obtain ⟨ccs, fz, h1, h2, h3, h4, h5, h6⟩ := hop
  refine ⟨(ccs.toList.drop (p.off + off)).take n, by simp; omega, ⟨by simp; omega, fun i V hi => ?_⟩, fun j v hj => ?_⟩
  · rw [List.getElem?_take] at hi
    split at hi
    · rw [List.getElem?_drop] at hi
      obtain ⟨v, hv, hr⟩ := h4 _ V hi
      refine ⟨v, ?_, hr⟩
      rw [List.getElem?_take, if_pos (by assumption), List.getElem?_drop]
      rw [← Array.getElem?_toList] at hv
      rw [show p.off + off + i = p.off + (off + i) by omega]
      exact hv
    · cases hi
  · rw [List.getElem?_take] at hj
    split at hj
    · rw [List.getElem?_drop] at hj
      simp [World.cell?, h1]
      simpa using hj
    · cases hj
theorem dM (b o j : Nat) : (⟨b, o, none⟩ : Addr).add j = ⟨b, o + j, none⟩ := by unfold Addr.add; split <;> simp_all
theorem rC (h : HR cx φ st w) {t : TypeId} {B off : Nat} {p : Pl} (hp : φ B = some p) {V : Value} (hl : zT cx.P st t B off = some V) :
    ∃ v, (Instr.loadAt t (.pointer (some ⟨p.blk, p.off + off, none⟩))).run cx.P w = .ok v w ∧ VR φ V v := by
  unfold zT at hl
  split at hl
  · rename_i cs ty own d n hB hu hs
    have hs' := aG hs
    cases hd : kR d with
    | true =>
      simp only [hd, cond_true, cut] at hl
      split at hl
      · rename_i hn
        simp at hl
        subst hl
        obtain ⟨vs, hlen, hr, hc⟩ := h.loads hB hp hn
        have hld := run_loadCells_list (P := cx.P) (w := w) ⟨p.blk, p.off + off, none⟩ vs (fun j v hj => by rw [dM]; exact hc j v hj)
        rw [hlen] at hld
        refine ⟨.agg vs.toArray, ?_, .agg hr.toA.1 hr.toA.2⟩
        simp [Instr.loadAt, Instr.sureAddr, loadVar, ko hu, hd, hs' w, hld]
      · simp at hl
    | false =>
      simp only [hd, cond_false] at hl
      obtain ⟨v, hv, hr⟩ := h.load hB hp hl
      rw [show p.off + off = p.off + off from rfl] at hv
      exact ⟨v, by simp [Instr.loadAt, Instr.sureAddr, loadVar, ko hu, hd, hv], hr⟩
  · cases hl
def sQ (P : Program) (st : St) (t : TypeId) (B off : Nat) (V : Value) : Option St :=
  match st.H B, asz P t with
  | some (.cells cs ty true), some n =>
    if isTuple V = false ∧ V.cells.size = n ∧ off + n ≤ cs.length ∧ V.cells.toList.all one = true then some (st.set B (some (.cells (setL cs off V.cells.toList) ty true))) else none
  | _, _ => none
theorem set_set (st : St) (B : Nat) (o o' : Option Ob) : (st.set B o).set B o' = st.set B o' := by
  unfold St.set
  simp only [St.mk.injEq, and_true]
  funext b
  by_cases h : b = B <;> simp [h]
theorem St.Eh (st : St) (B : Nat) (o : Option Ob) : (st.set B o).H B = o := by simp [St.set]
theorem set_self {st : St} {B : Nat} {o : Option Ob} (h : st.H B = o) : st.set B o = st := by
  cases st with
  | mk H n =>
    unfold St.set
    simp only [St.mk.injEq, and_true]
    funext b
    by_cases e : b = B
    · subst e; simp at h ⊢; exact h.symm
    · simp [e]
theorem HR.stores : ∀ (Vs vs : List Value) {w : World} {st : St} (h : HR cx φ st w) {B : Nat} {cs : List Value} {ty : TypeId} {p : Pl} (hB : st.H B = some (.cells cs ty true)) (hp : φ B = some p)
    (off i : Nat) (hr : VRL φ Vs vs) (ho : Vs.all one = true) (hl : off + i + Vs.length ≤ cs.length),
    ∃ w', (storeCells ⟨p.blk, p.off + off, none⟩ vs i).run cx.P w = .ok () w' ∧ HR cx φ (st.set B (some (.cells (setL cs (off + i) Vs) ty true))) w'
  | [], vs, w, st, h, B, cs, ty, p, hB, hp, off, i, hr, ho, hl => by
    have : vs = [] := List.eq_nil_of_length_eq_zero (by have := hr.1; simpa using this.symm)
    subst this
    exact ⟨w, rfl, by rw [setL, set_self hB]; exact h⟩
  | V :: Vs, vs, w, st, h, B, cs, ty, p, hB, hp, off, i, hr, ho, hl => by
    obtain ⟨v, vs', rfl, hv, hr'⟩ := hr.bO
    simp at ho hl
    have hlt : off + i < cs.length := by omega
    have hv1 : v.oneCell' = true := by
      have := hv.one ho.1
      revert this
      cases v <;> simp [Abs.one, Value.oneCell']
    obtain ⟨u, hu, _⟩ := h.load hB hp (i := off + i) (V := cs[off + i]) (by simp [hlt])
    have hf := h.sP hB hp hlt
    have h' := h.store hB hp hlt hv
    have hB' : (st.set B (some (.cells (cs.set (off + i) V) ty true))).H B = some (.cells (cs.set (off + i) V) ty true) := by simp [St.set]
    obtain ⟨w', hrun, hh⟩ := HR.stores Vs vs' h' hB' hp off (i + 1) hr' (by simpa using ho.2) (by simp; omega)
    refine ⟨w', ?_, ?_⟩
    · have e : p.off + off + i = p.off + (off + i) := by omega
      simp only [storeCells, Sem.run_bind, dM, run_store _ _ _ _ _ hv1]
      rw [e, hu]
      simp only [hf, Bool.false_eq_true, if_false, Result.andThen_ok]
      exact hrun
    · rw [set_set] at hh
      exact hh
theorem xQ (h : HR cx φ st w) {t : TypeId} {B off : Nat} {p : Pl} (hp : φ B = some p) {V v : Value} {st' : St} (hv : VR φ V v) (hs : sQ cx.P st t B off V = some st') :
    ∃ w', (Instr.storeAt t (.pointer (some ⟨p.blk, p.off + off, none⟩)) v).run cx.P w = .ok () w' ∧ HR cx φ st' w' := by
  unfold sQ at hs
  split at hs
  · rename_i cs ty n hB hsz
    split at hs
    · rename_i hc
      obtain ⟨h1, h2, h3, h4⟩ := hc
      simp at hs
      subst hs
      have hcells := hv.cells h1
      obtain ⟨w', hrun, hh⟩ := HR.stores V.cells.toList v.cells.toList h hB hp off 0 hcells.toL h4 (by simp; omega)
      refine ⟨w', ?_, by simpa using hh⟩
      have hvs : v.cells.size = n := by rw [← hcells.1]; exact h2
      simp [Instr.storeAt, Instr.sureAddr, storeVar, aG hsz, hvs, hrun]
    · cases hs
  · cases hs
theorem HR.gL (h : HR cx φ st w) {Cs cs : List Value} (hr : VRL φ Cs cs) (spare : List Value) (ty : TypeId) :
    ∃ φ' : Emb, φ.le φ' ∧ φ' st.n = some ⟨w.heap.size, 0, cs.length + spare.length, cx.P.cellsOf ty⟩ ∧ HR cx φ' (st.new (.cells Cs ty true)) (w.alloc (.cells (cs ++ spare).toArray ty)) := by
  have hle := h.fQ ⟨w.heap.size, 0, cs.length + spare.length, cx.P.cellsOf ty⟩
  refine ⟨φ.ins st.n ⟨w.heap.size, 0, cs.length + spare.length, cx.P.cellsOf ty⟩, hle, by simp [Emb.ins], h.new _ _ _ rfl ?_⟩
  refine ⟨(cs ++ spare).toArray, (0, 0), heap_alloc_new _ _, by rw [hr.1]; simp, by simp, fun i V hi => ?_, (fun e => by cases e), (fun _ => ⟨h.size, ⟨rfl, Nat.zero_mod _⟩, .inl rfl⟩)⟩
  obtain ⟨v, a, b⟩ := hr.2 i V hi
  refine ⟨v, ?_, b.mono hle⟩
  have hl := (List.getElem?_eq_some_iff.1 a).1
  simp [List.getElem?_append_left hl, a]
def bB (P : Program) (st : St) (t : TypeId) : Option (Value × St) :=
  match azc P t with
  | some z => some (.pointer (some ⟨st.n, 0, none⟩), st.new (.cells z t true))
  | none => none
theorem fM {P : Program} {t : TypeId} {z : List Value} (h : azc P t = some z) : ∃ i v, P.info? t = some i ∧ i.zero = some v ∧ cst v = true ∧ v.cells.toList = z ∧ v.cells.size = i.size := by
  unfold azc at h
  cases hi : P.info? t with
  | none => simp [hi] at h
  | some i =>
    simp [hi] at h
    cases hz : i.zero with
    | none => simp [hz] at h
    | some v =>
      simp [hz] at h
      exact ⟨i, v, rfl, hz, h.1.1, h.2, h.1.2⟩
theorem aV {P : Program} {t : TypeId} {i : TypeInfo} {v : Value} (hi : P.info? t = some i) (hz : i.zero = some v) (w : World) : (zeroValue t).run P w = .ok v w := by
  simp [zeroValue, typeInfo, hi, hz]
theorem fA {φ : Emb} {v : Value} (h : cst v = true) : VRL φ v.cells.toList v.cells.toList := by
  have ht : isTuple v = false := by
    cases v <;> simp_all [cst, nC, isTuple]
  exact ((VR.cst h).cells ht).toL
theorem xR (h : HR cx φ st w) {t : TypeId} {V : Value} {st' : St} (ha : bB cx.P st t = some (V, st')) : Out cx φ V st' ((Instr.alloc t true (.tuple #[])).run cx.P w) := by
  unfold bB at ha
  split at ha
  · rename_i z hz
    simp at ha
    obtain ⟨rfl, rfl⟩ := ha
    obtain ⟨i, v, hi, hzv, hc, rfl, _⟩ := fM hz
    obtain ⟨φ', hle, hφ, hh⟩ := h.gL (fA (φ := φ) hc) [] t
    refine ⟨φ', _, _, ?_, hle, .ptr hφ, hh⟩
    simp [Instr.alloc, aV hi hzv, newVar, newRow]
  · cases ha
def abox (st : St) (t : TypeId) (V : Value) : Option (Value × St) :=
  bif isTuple V then none else some (.pointer (some ⟨st.n, 0, none⟩), st.new (.cells V.cells.toList t true))
theorem BU (h : HR cx φ st w) {t : TypeId} {X x V : Value} {st' : St} (hx : VR φ X x) (ha : abox st t X = some (V, st')) : Out cx φ V st' ((Instr.box t x).run cx.P w) := by
  unfold abox at ha
  cases ht : isTuple X with
  | true => simp [ht] at ha
  | false =>
    simp [ht] at ha
    obtain ⟨rfl, rfl⟩ := ha
    obtain ⟨φ', hle, hφ, hh⟩ := h.gL (hx.cells ht).toL [] t
    refine ⟨φ', _, _, ?_, hle, .ptr hφ, hh⟩
    simp [Instr.box, newVar, newRow]
end
end Go.Abs
