/- slices.overlaps, over the abstract heap: slices in blocks apart do not overlap. -/
import Derived.Test.YtohgmkjhbacmpaaGreatDoorAbsR
import Derived.Lib.Overlaps
set_option linter.unusedVariables false
set_option linter.unusedSimpArgs false
namespace Go.Abs
open Go.RowKit
theorem overlaps_run {P : Program} (w : World) (tS tR : TypeId) (a b : Addr) (la ca lb cb : Nat) :
    (Extern.SlicesOverlaps.overlaps #[tS, tS] #[tR] #[.slice (some a) la ca, .slice (some b) lb cb]).run P w = Sem.run P (α := Value) (do
    let some t := (#[tS, tS] : Array TypeId)[0]? | stuck "slices.overlaps: no parameter types"
    let .slice elem ← underlying t | stuck "slices.overlaps: slice type expected"
    let size ← sizeOf elem
    match (some a : Option Addr), (some b : Option Addr) with
    | some a, some b =>
      if la = 0 ∨ lb = 0 ∨ size = 0 then pure (Value.bool false)
      else if a.block != b.block && (← frozen a) && (← frozen b) then unsupported .addressObserved
      else do
        if a.block != b.block then do
          noView a; noView b
          if ← mayBeOne a b then return Value.bool ((← choose (.extern "sameAddr.stringBytes" 2)) == 1)
        pure (Value.bool (a.block == b.block && a.off < b.off + lb * size && b.off < a.off + la * size))
    | _, _ => pure (Value.bool false)) w := rfl
theorem overlaps_same {P : Program} (w : World) (tS tR e : TypeId) (ht : P.underlying tS = some (.slice e)) (size : Nat) (hz : ∀ w, (Go.sizeOf e).run P w = .ok size w) (b oa ob la ca lb cb : Nat)
    (hd : oa + la * size ≤ ob ∨ ob + lb * size ≤ oa) :
    (Extern.SlicesOverlaps.overlaps #[tS, tS] #[tR] #[.slice (some ⟨b, oa, none⟩) la ca, .slice (some ⟨b, ob, none⟩) lb cb]).run P w = .ok (.bool false) w := by
  have hlt : (decide (oa < ob + lb * size) && decide (ob < oa + la * size)) = false := by
    rcases hd with h | h
    · rw [decide_eq_false (show ¬ ob < oa + la * size by omega), Bool.and_false]
    · rw [decide_eq_false (show ¬ oa < ob + lb * size by omega), Bool.false_and]
  rw [overlaps_run]
  by_cases h0 : la = 0 ∨ lb = 0 ∨ size = 0
  · simp [run_underlying ht, hz, h0]
  · simp [run_underlying ht, hz, h0] at hlt ⊢
    omega
theorem ACallF.overlaps {cx : Cx} {f : Nat} {fn : Func} {tS tR e : TypeId} {sz : Nat} {st : St} {k q : Value → St → Prop} {A B oa ob la ca lb cb : Nat} {csA csB : List Value} {tyA tyB : TypeId}
    (hf : cx.P.funcs[f]? = some fn) (hname : (fn.name == "runtime.NumGoroutine") = false) (hb : fn.body.isNone = true) (hn : Extern.findNext fn = none) (he : Extern.find fn = some (Extern.SlicesOverlaps.overlaps #[tS, tS] #[tR]))
    (hu : cx.P.underlying tS = some (.slice e)) (hsz : asz cx.P e = some sz) (hA : st.H A = some (.cells csA tyA true)) (hB : st.H B = some (.cells csB tyB true)) (hne : A ≠ B) (hua : isU8 (cx.P.underlying tyA) = false)
    (hla : oa + la * sz ≤ csA.length) (hlb : ob + lb * sz ≤ csB.length) (hca : 0 < ca) (hcb : 0 < cb) (hk : k (.bool false) st) :
    ACallF cx f [.slice (some ⟨A, oa, none⟩) la ca, .slice (some ⟨B, ob, none⟩) lb cb] st k q := by
  refine .inr fun kd φ w vals h hv => ⟨φ, .bool false, .bool false, st, w, ?_, Emb.le_refl _, .bool _, h, hk⟩
  obtain ⟨vals⟩ := vals
  obtain ⟨va, r1, e1, hva, hr⟩ := hv.uncons
  obtain ⟨vb, r2, rfl, hvb, hr2⟩ := hr.uncons
  have : r2 = [] := List.eq_nil_of_length_eq_zero (by have := hr2.1; simpa using this.symm)
  subst this
  simp only at e1
  subst e1
  have hzz : ∀ w, (Go.sizeOf e).run cx.P w = .ok sz w := fun w => run_sizeOf' hsz w
  cases hva with
  | @slcX _ _ _ _ a pA hpA hlA haA =>
    cases hvb with
    | @slcX _ _ _ _ b pB hpB hlB haB =>
      have ea : a = ⟨pA.blk, pA.off + oa, none⟩ := by rcases haA with e | e; exact e; omega
      have eb : b = ⟨pB.blk, pB.off + ob, none⟩ := by rcases haB with e | e; exact e; omega
      subst ea eb
      rw [run_callFunc_extern hf hname hb hn he]
      obtain ⟨p0, hp0, hopA⟩ := h.live A _ hA
      rw [hpA] at hp0; injection hp0 with hp0; subst hp0
      obtain ⟨p0, hp0, hopB⟩ := h.live B _ hB
      rw [hpB] at hp0; injection hp0 with hp0; subst hp0
      obtain ⟨ccA, fzA, a1, a2, a3, a4, a5, a6⟩ := hopA
      obtain ⟨ccB, fzB, b1, b2, b3, b4, b5, b6⟩ := hopB
      by_cases hblk : pA.blk = pB.blk
      · have hap : pA.off + pA.ext ≤ pB.off ∨ pB.off + pB.ext ≤ pA.off := by
          rcases h.apart A B _ _ pA pB hne hA hB rfl rfl hpA hpB with e | e | e
          · exact absurd hblk e
          · exact .inl e
          · exact .inr e
        rw [hblk, overlaps_same w tS tR e hu sz hzz pB.blk (pA.off + oa) (pB.off + ob) la ca lb cb (by omega)]
        rfl
      · by_cases h0 : la = 0 ∨ lb = 0 ∨ sz = 0
        · have : (Extern.SlicesOverlaps.overlaps #[tS, tS] #[tR] #[.slice (some ⟨pA.blk, pA.off + oa, none⟩) la ca, .slice (some ⟨pB.blk, pB.off + ob, none⟩) lb cb]).run cx.P w = .ok (.bool false) w := by
            rw [overlaps_run]
            simp [run_underlying hu, hzz, h0]
          rw [this]
          rfl
        · have hpos : 0 < la * sz := Nat.mul_pos (by omega) (by omega)
          have hposB : 0 < lb * sz := Nat.mul_pos (by omega) (by omega)
          have hfz : fzA.1 = fzA.2 := by
            rcases (a6 rfl).2.2 with e | ⟨_, e⟩
            · exact e
            · rw [e] at hua; cases hua
          rw [Go.Lib.run_overlaps_apart w tS tR e hu sz hzz ⟨pA.blk, pA.off + oa, none⟩ ⟨pB.blk, pB.off + ob, none⟩ la ca lb cb hblk tyA tyB ccA.size ccB.size (by simp [World.shape?, a1]) (by simp [World.shape?, b1]) (by omega)
            (h.not_frozen hA hpA (by omega)) (by simp [World.frozen?, a1]; omega)]
          rfl
end Go.Abs
