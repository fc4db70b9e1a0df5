/- A library contract over a slice of bytes, with a plain result. No conditions but on its arguments. -/
import Derived.Test.YtigjbehgfjjlkaaGreatDoorStrG
import Derived.Test.YtigjbehgfjjlkaaGreatDoorAbsP
import Derived.Test.YtigjbehgfjjlkaaGreatDoorXmGA
import Derived.Test.YtigjbehgfjjlkaaGreatDoorShelfJ
import Derived.Lib.TrimUEq
set_option linter.unusedVariables false
set_option linter.unusedSimpArgs false
namespace Go.Abs
open Go.RowKit
theorem au.bytes {cx : Cx} {f : Nat} {fn : Func} {X : Value} {l : List Nat} {r : Hp} {st : St} {k q : Value → St → Prop} {V : Value} (hf : cx.P.funcs[f]? = some fn) (hb : fn.body.isSome = true) (hn : (fn.name == "runtime.NumGoroutine") = false)
    (hX : Nb r X l) (hl : l ≠ []) (hO : Own st r) (hV : ∀ φ, VR φ V V)
    (hc : ∀ w b off cap, cx.G ≤ cx.base → Below cx.base cx.w0 w → (∀ (j : Nat), j < l.length → w.cell? ⟨b, off + j, none⟩ = some (.int .u8 (l.getD j 0 : Nat))) →
      Calls cx.P f #[.slice (some ⟨b, off, none⟩) l.length cap] w fun e w' => e = .returned V ∧ Below w.heap.size w w') (hk : k V st) : au cx f [X] st k q := by
  refine .inl ⟨⟨fn, hf, hb, hn⟩, fun kd φ w vals h hv => ?_⟩
  obtain ⟨vals⟩ := vals
  obtain ⟨x, r', e1, hx, hr⟩ := hv.bO
  have : r' = [] := List.eq_nil_of_length_eq_zero (by have := hr.1; simpa using this.symm)
  subst this
  simp only at e1
  subst e1
  obtain ⟨hB, hlt⟩ := hX
  rcases hB with ⟨e, _⟩ | ⟨B, o, sp, c, cs, ty, own, rfl, hm, hcut⟩
  · exact absurd (List.map_eq_nil_iff.1 e) hl
  · rw [List.length_map] at hcut hx
    obtain ⟨n, hn'⟩ : ∃ n, l.length = n + 1 := ⟨l.length - 1, by have := List.length_pos_iff.2 hl; omega⟩
    rw [hn'] at hx
    obtain ⟨p, c', hp, rfl, _⟩ := hx.oP
    rw [← hn'] at hx ⊢
    obtain ⟨p', hp', ccs, fz, g1, g2, g3, g4, _, _⟩ := h.live B _ (hO.get hm)
    rw [hp] at hp'; injection hp' with hp'; subst hp'
    refine (hc w p.blk (p.off + o) c' h.glob h.below fun j hj => ?_).mono fun e w' ⟨he, hb'⟩ => ?_
    · have hcj := eF hcut hj
      have hlj : (bl (l.map fun n : Nat => (n : Int)))[j]? = some (.int .u8 (l.getD j 0 : Nat)) := by
        simp [bl, hj, List.getD_eq_getElem?_getD]
      rw [hlj] at hcj
      obtain ⟨v, hv1, hv2⟩ := g4 _ _ hcj
      obtain rfl := hv2.bA
      rw [← Nat.add_assoc] at hv1
      simp [World.cell?, g1, hv1]
    · subst he
      exact ⟨φ, V, st, Emb.le_refl _, hV φ, h.of_below hb', hk⟩
end Go.Abs
set_option linter.unusedVariables false
set_option linter.unusedSimpArgs false
namespace Go.Proofs.YtigjbehgfjjlkaaGreatDoor
open Go Go.Abs Go.RowKit Go.Xml
variable {base : Nat} {w0 : World} {G : Nat}
def dw (w0 : World) : Prop := Lib.Utf8Tabs 0 1 w0
theorem Df {w : World} (h : dw w0) (hb : Below base w0 w) (h1 : 0 < base) (h2 : 1 < base) : dw w := by
  exact ⟨fun c hc => (hb.cell (p := ⟨0, c, none⟩) h1).trans (h.1 c hc), fun i hi => ⟨(hb.cell (p := ⟨1, 2 * i, none⟩) h2).trans (h.2 i hi).1, (hb.cell (p := ⟨1, 2 * i + 1, none⟩) h2).trans (h.2 i hi).2⟩⟩
theorem su {st : St} {X : Value} {l : Tx} {r : Hp} (hT : dw w0) (hX : Nb r X (nb8 l)) (hl : l ≠ []) (hO : Own st r) (k q : Value → St → Prop)
    (hk : k (.tuple #[.int .i32 ((Lib.decodeL l).1 : Nat), .int .i64 ((Lib.decodeL l).2 : Nat)]) st) : au (C base w0 3) 52 [X] st k q := by
  refine au.bytes (V := .tuple #[.int .i32 ((Lib.decodeL l).1 : Nat), .int .i64 ((Lib.decodeL l).2 : Nat)]) Tryz.func52 rfl (by kernel_rfl) hX (by simpa [nb8] using hl) hO (fun φ => tup2 (.int _ _) (.int _ _)) (fun w b off cap hG hb hc => ?_) hk
  have hg : 3 ≤ base := hG
  have ht := Df hT hb (Nat.lt_of_lt_of_le (by decide) hg) (Nat.lt_of_lt_of_le (by decide) hg)
  have e := Any7.utf8_DecodeRune Tryz.Lc (tx l) b off cap w ht (fun j hj => by
    rw [aO] at hj
    rw [hc j (by rw [aF]; exact hj)]
    congr 2
    have e1 : (tx l).get! j = l[j] := by
      show (l.toArray)[j]! = l[j]
      simp [hj]
    rw [e1]
    simp [nb8, List.getD_eq_getElem?_getD, hj])
  rw [aO] at e
  rw [aF]
  refine e.mono ?_
  rintro e w' ⟨rfl, hb'⟩
  refine ⟨?_, hb'⟩
  have hd : Lib.decodeGo (tx l) = Lib.decodeL l := by
    unfold Lib.decodeGo Lib.decodeL
    rw [if_neg (by rw [aO]; intro h; exact hl (List.eq_nil_of_length_eq_zero h))]
    rfl
  rw [hd]
end Go.Proofs.YtigjbehgfjjlkaaGreatDoor
set_option linter.unusedVariables false
set_option linter.unusedSimpArgs false
namespace Go.Proofs.YtigjbehgfjjlkaaGreatDoor
open Go Go.Abs Go.RowKit Go.Xml
variable {base : Nat} {w0 : World} {G : Nat}
theorem qO (l : Tx) : 1 ≤ (Lib.decodeL l).2 ∧ (Lib.decodeL l).2 ≤ 4 := by
  unfold Lib.decodeL
  generalize (⟨l.toArray⟩ : ByteArray) = s
  unfold Utf8.decode
  dsimp only
  split
  · exact ⟨by simp, by simp⟩
  split
  · split <;> exact ⟨by simp, by simp⟩
  split
  · split <;> exact ⟨by simp, by simp⟩
  split
  · split <;> exact ⟨by simp, by simp⟩
  · exact ⟨by simp, by simp⟩
def badV (l : Tx) : Int := match bad l with
  | some n => (n : Int)
  | none => -1
theorem AP (f a : Nat) : badF f [] a = none := by cases f <;> rfl
theorem qP (f : Nat) (l : Tx) (a : Nat) (h : l ≠ []) : badF (f + 1) l a = if ((Lib.decodeL l).1 = 0xFFFD ∧ (Lib.decodeL l).2 < 3) ∨ dJ (Lib.decodeL l).1 = false then some a else badF f (l.drop (Lib.decodeL l).2) (a + (Lib.decodeL l).2) := by
  cases l with
  | nil => exact absurd rfl h
  | cons c l => rfl
set_option maxRecDepth 10000 in
theorem qQ (st : St) (r : Hp) (X : Value) (l : Tx) (hT : dw w0) (hX : Nb r X (nb8 l)) (hS : Sl Tryz.prog r X 1) (hl : l.length ≤ 1000000) (hO : Own st r) (k q : Value → St → Prop) (hk : ∀ st', Own st' r → k (.int .i64 (badV l)) st') : ay (C base w0 3) 34 [X] st k q := by
  obtain ⟨xa, xc, hxs⟩ := hX.isSlice
  rw [aF] at hxs
  refine ay.of (cx := C base w0 3) mixed Tryz.func34 rfl (by kernel_rfl) (by simp [Tryz.ntmps34]) ?_
  simp only [Tryz.results34]
  simp -implicitDefEqProofs only [go_sem, ↓aj, ↓ah, astr, ak, Nat.reduceBEq, ↓reduceIte, reduceCtorEq, Nat.reduceEqDiff, Nat.reduceAdd, Nat.reduceLeDiff, Int.reduceEq, Int.reduceLT, Int.reduceLE, Int.reduceAdd, Int.reduceToNat, Int.reduceNeg, Nat.reduceMul, Nat.reduceSub, Int.reduceBNe, Int.reduceBEq]
  refine ⟨fun m ρ s => ∃ (i f : Nat), m = l.length + 4 - i ∧ i ≤ l.length + 3 ∧ (l.drop i).length < f ∧ bad l = badF f (l.drop i) i ∧ ρ 0 = X ∧ ρ 3 = .int .i64 i ∧ Own s r, ⟨_, 0, l.length + 1, rfl, Nat.zero_le _, Nat.lt_succ_self _, rfl, rfl, rfl, hO⟩, ?_⟩
  rintro _ ρ s ⟨i, f, rfl, hi, hf, hb, h0, h3, hs⟩
  by_cases him : i < l.length
  · obtain ⟨v, hsl, hv, _⟩ := hX.part (lo := some (.int .i64 (i : Nat))) (hi := none) (l := i) (r := l.length) hS hs Tryz.underlying31 asz5 (fun c hc => by rw [aF] at hc ⊢; exact tX (Nat.le_of_lt him) hc) (Nat.le_of_lt him) (by rw [aF]; exact Nat.le_refl _)
    have hvl : ((nb8 l).drop i).take (l.length - i) = nb8 (l.drop i) := by rw [Au, List.take_of_length_le (by rw [aF, List.length_drop]; exact Nat.le_refl _)]
    rw [hvl] at hv
    have hne : l.drop i ≠ [] := fun e => by have := congrArg List.length e; simp at this; omega
    obtain ⟨f', rfl⟩ : ∃ f', f = f' + 1 := ⟨f - 1, by omega⟩
    rw [qP f' _ i hne] at hb
    have hw := qO (l.drop i)
    rw [hxs] at hsl h0
    simp -implicitDefEqProofs only [go_sem, ↓aj, ↓ah, astr, ak, Nat.reduceBEq, ↓reduceIte, reduceCtorEq, Nat.reduceEqDiff, Nat.reduceAdd, Nat.reduceLeDiff, Int.reduceEq, Int.reduceLT, Int.reduceLE, Int.reduceAdd, Int.reduceToNat, Int.reduceNeg, Nat.reduceMul, Nat.reduceSub, Int.reduceBNe, Int.reduceBEq, h0, h3, him, Int.ofNat_lt, decide_true, hsl, Tryz.underlying31]
    refine su hT hv hne hs _ _ ?_
    rw [List.drop_drop] at hb
    generalize hd1 : (Lib.decodeL (l.drop i)).1 = c at *
    generalize hd2 : (Lib.decodeL (l.drop i)).2 = n at *
    have wn : IntKind.i64.wrap ((i : Int) + (n : Nat)) = ((i + n : Nat) : Int) := by rw [cO (by omega)]; rfl
    have hitV : bad l = some i → badV l = i := fun h => by unfold badV; rw [h]
    by_cases hc1 : c = 0xFFFD ∧ n < 3
    · rw [if_pos (.inl hc1)] at hb
      rw [hitV hb] at hk
      simp -implicitDefEqProofs only [go_sem, ↓aj, ↓ah, astr, ak, Nat.reduceBEq, ↓reduceIte, reduceCtorEq, Nat.reduceEqDiff, Nat.reduceAdd, Nat.reduceLeDiff, Int.reduceEq, Int.reduceLT, Int.reduceLE, Int.reduceAdd, Int.reduceToNat, Int.reduceNeg, Nat.reduceMul, Nat.reduceSub, Int.reduceBNe, Int.reduceBEq, h0, h3, show ((c : Int) == 65533) = true by simp; omega, show ((n : Int) < 3) = True by simp; omega, decide_true]
      exact hk _ hs
    have goOn : ∀ (k' q' : Value → St → Prop), (∀ s', dJ c = false → Own s' r → k' (.bool false) s') → (∀ s', dJ c = true → Own s' r → k' (.bool true) s') → au (C base w0 3) 53 [.int .i32 (c : Nat)] s k' q' := fun k' q' h1 h2 =>
      au.enter Tryz.func53 rfl (by kernel_rfl) (Db s r c hs _ _ fun s' hs' => by
        cases hch : dJ c with
        | true => exact h2 s' hch hs'
        | false => exact h1 s' hch hs')
    have f1 : ∀ s', dJ c = false → Own s' r → k (.int .i64 (i : Nat)) s' := fun s' hch hs' => by
      rw [if_pos (.inr hch)] at hb
      have := hk s' hs'
      rwa [hitV hb] at this
    have f2 : dJ c = true → bad l = badF f' (l.drop (i + n)) (i + n) := fun hch => by rw [if_neg (by rw [hch]; intro h; rcases h with h | h; exact hc1 h; cases h)] at hb; exact hb
    by_cases hc2 : c = 0xFFFD
    · simp -implicitDefEqProofs only [go_sem, ↓aj, ↓ah, astr, ak, Nat.reduceBEq, ↓reduceIte, reduceCtorEq, Nat.reduceEqDiff, Nat.reduceAdd, Nat.reduceLeDiff, Int.reduceEq, Int.reduceLT, Int.reduceLE, Int.reduceAdd, Int.reduceToNat, Int.reduceNeg, Nat.reduceMul, Nat.reduceSub, Int.reduceBNe, Int.reduceBEq, h0, h3, show ((c : Int) == 65533) = true by simp; omega, show ((n : Int) < 3) = False by simp; omega, decide_false]
      refine goOn _ _ (fun s' hch hs' => ?_) (fun s' hch hs' => ?_)
      · simp -implicitDefEqProofs only [go_sem, ↓aj, ↓ah, astr, ak, Nat.reduceBEq, ↓reduceIte, reduceCtorEq, Nat.reduceEqDiff, Nat.reduceAdd, Nat.reduceLeDiff, Int.reduceEq, Int.reduceLT, Int.reduceLE, Int.reduceAdd, Int.reduceToNat, Int.reduceNeg, Nat.reduceMul, Nat.reduceSub, Int.reduceBNe, Int.reduceBEq, h0, h3, Bool.not_false]
        exact f1 s' hch hs'
      · simp -implicitDefEqProofs only [go_sem, ↓aj, ↓ah, astr, ak, Nat.reduceBEq, ↓reduceIte, reduceCtorEq, Nat.reduceEqDiff, Nat.reduceAdd, Nat.reduceLeDiff, Int.reduceEq, Int.reduceLT, Int.reduceLE, Int.reduceAdd, Int.reduceToNat, Int.reduceNeg, Nat.reduceMul, Nat.reduceSub, Int.reduceBNe, Int.reduceBEq, h0, h3, Bool.not_true, wn]
        exact ⟨l.length + 4 - (i + n), by omega, i + n, f', rfl, by omega, by rw [List.length_drop] at hf ⊢; omega, f2 hch, hxs.symm, rfl, hs'⟩
    · simp -implicitDefEqProofs only [go_sem, ↓aj, ↓ah, astr, ak, Nat.reduceBEq, ↓reduceIte, reduceCtorEq, Nat.reduceEqDiff, Nat.reduceAdd, Nat.reduceLeDiff, Int.reduceEq, Int.reduceLT, Int.reduceLE, Int.reduceAdd, Int.reduceToNat, Int.reduceNeg, Nat.reduceMul, Nat.reduceSub, Int.reduceBNe, Int.reduceBEq, h0, h3, show ((c : Int) == 65533) = false by simp; omega]
      refine goOn _ _ (fun s' hch hs' => ?_) (fun s' hch hs' => ?_)
      · simp -implicitDefEqProofs only [go_sem, ↓aj, ↓ah, astr, ak, Nat.reduceBEq, ↓reduceIte, reduceCtorEq, Nat.reduceEqDiff, Nat.reduceAdd, Nat.reduceLeDiff, Int.reduceEq, Int.reduceLT, Int.reduceLE, Int.reduceAdd, Int.reduceToNat, Int.reduceNeg, Nat.reduceMul, Nat.reduceSub, Int.reduceBNe, Int.reduceBEq, h0, h3, Bool.not_false]
        exact f1 s' hch hs'
      · simp -implicitDefEqProofs only [go_sem, ↓aj, ↓ah, astr, ak, Nat.reduceBEq, ↓reduceIte, reduceCtorEq, Nat.reduceEqDiff, Nat.reduceAdd, Nat.reduceLeDiff, Int.reduceEq, Int.reduceLT, Int.reduceLE, Int.reduceAdd, Int.reduceToNat, Int.reduceNeg, Nat.reduceMul, Nat.reduceSub, Int.reduceBNe, Int.reduceBEq, h0, h3, Bool.not_true, wn]
        exact ⟨l.length + 4 - (i + n), by omega, i + n, f', rfl, by omega, by rw [List.length_drop] at hf ⊢; omega, f2 hch, hxs.symm, rfl, hs'⟩
  · have e : l.drop i = [] := List.drop_eq_nil_of_le (by omega)
    rw [e, AP] at hb
    rw [hxs] at h0
    have hV : badV l = -1 := by unfold badV; rw [hb]
    rw [hV] at hk
    simp -implicitDefEqProofs only [go_sem, ↓aj, ↓ah, astr, ak, Nat.reduceBEq, ↓reduceIte, reduceCtorEq, Nat.reduceEqDiff, Nat.reduceAdd, Nat.reduceLeDiff, Int.reduceEq, Int.reduceLT, Int.reduceLE, Int.reduceAdd, Int.reduceToNat, Int.reduceNeg, Nat.reduceMul, Nat.reduceSub, Int.reduceBNe, Int.reduceBEq, h0, h3, him, Int.ofNat_lt, decide_false, Tryz.underlying31]
    exact hk _ hs
end Go.Proofs.YtigjbehgfjjlkaaGreatDoor
set_option linter.unusedVariables false
set_option linter.unusedSimpArgs false
namespace Go.Proofs.YtigjbehgfjjlkaaGreatDoor
open Go Go.Abs Go.RowKit Go.Xml
variable {base : Nat} {w0 : World} {G : Nat}
theorem uG (l : Tx) (b : Nat) (h : Hp) (hm : (b, Ob.cells (nl (nb8 l)) 5 true) ∈ h) : Nb h (.slice (some ⟨b, 0, some 0⟩) l.length l.length) (nb8 l) ∧ Sl Tryz.prog h (.slice (some ⟨b, 0, some 0⟩) l.length l.length) 1 := by
  refine ⟨⟨?_, nU l⟩, .inr ⟨b, 0, some 0, _, _, rfl, Nat.le_refl _, .inr ⟨rfl, _, _, _, hm, fun _ => asz5⟩⟩⟩
  have hw := Bs.whole (c := l.length) (sp := some 0) (l := (nb8 l).map fun n : Nat => (n : Int)) hm
  rw [List.length_map, aF] at hw
  exact hw
theorem EB (l : Tx) : decide (badV l ≥ 0) = (bad l).isSome := by
  unfold badV
  cases bad l with
  | none => rfl
  | some n => show decide ((n : Int) ≥ 0) = true; rw [decide_eq_true (by omega)]
theorem FT (l : Tx) (i : Nat) : Utf8.decode (tx l) i = Lib.decodeL (l.drop i) := by
  rw [← Lib.decodeL_drop, cK]
theorem Dg (f : Nat) (t : Bool) : jB f [] t = true := by cases f <;> rfl
theorem AQ (f : Nat) (l : Tx) (t : Bool) (h : l ≠ []) : jB (f + 1) l t = ((!(t && !isFirst (Lib.decodeL l).1) && jh (Lib.decodeL l).1) && jB f (l.drop (Lib.decodeL l).2) false) := by
  cases l with
  | nil => exact absurd rfl h
  | cons c l => rfl
set_option maxRecDepth 10000 in
theorem AR (st : St) (r : Hp) (s : Tx) (hT : dw w0) (hl : s.length ≤ 1000000) (hO : Own st r) (k q : Value → St → Prop) (hk : ∀ st', Own st' r → k (.bool (!bL s)) st') : ay (C base w0 3) 144 [.string (tx s)] st k q := by
  refine ay.of (cx := C base w0 3) mixed Tryz.func144 rfl (by kernel_rfl) (by simp [Tryz.ntmps144]) ?_
  simp only [Tryz.results144]
  have e0 : (⟨#[]⟩ : ByteArray) = tx [] := rfl
  by_cases h0 : s = []
  · have e : bL s = false := by unfold bL; rw [decide_eq_true h0]; rfl
    rw [e] at hk
    simp -implicitDefEqProofs only [go_sem, ↓aj, ↓ah, ak, Nat.reduceBEq, ↓reduceIte, reduceCtorEq, Nat.reduceEqDiff, Nat.reduceAdd, Nat.reduceLeDiff, Int.reduceEq, Int.reduceLT, Int.reduceLE, Int.reduceAdd, Int.reduceToNat, Int.reduceNeg, Nat.reduceMul, Nat.reduceSub, Int.reduceBNe, Int.reduceBEq, e0, aA, h0, decide_true]
    exact hk _ hO
  by_cases h1 : s.length > 256
  · have e : bL s = false := by unfold bL; rw [decide_eq_true h1]; simp
    rw [e] at hk
    simp -implicitDefEqProofs only [go_sem, ↓aj, ↓ah, ak, Nat.reduceBEq, ↓reduceIte, reduceCtorEq, Nat.reduceEqDiff, Nat.reduceAdd, Nat.reduceLeDiff, Int.reduceEq, Int.reduceLT, Int.reduceLE, Int.reduceAdd, Int.reduceToNat, Int.reduceNeg, Nat.reduceMul, Nat.reduceSub, Int.reduceBNe, Int.reduceBEq, e0, aA, h0, aO, Tryz.underlying9, show ((s.length : Int) > 256) = True by simp; omega, decide_true, decide_false]
    exact hk _ hO
  simp -implicitDefEqProofs only [go_sem, ↓aj, ↓ah, ak, Nat.reduceBEq, ↓reduceIte, reduceCtorEq, Nat.reduceEqDiff, Nat.reduceAdd, Nat.reduceLeDiff, Int.reduceEq, Int.reduceLT, Int.reduceLE, Int.reduceAdd, Int.reduceToNat, Int.reduceNeg, Nat.reduceMul, Nat.reduceSub, Int.reduceBNe, Int.reduceBEq, e0, aA, h0, aO, Tryz.underlying9, show ((s.length : Int) > 256) = False by simp; omega, decide_false, jy Tryz.underlying9 Tryz.underlying31 Tryz.underlying5 asz5]
  have hO1 := hO.new (.cells (nl (nb8 s)) 5 true)
  obtain ⟨n1, n2⟩ := uG s st.n _ (List.mem_cons_self (l := r))
  refine au.enter Tryz.func34 rfl (by kernel_rfl) (qQ _ _ _ s hT n1 n2 hl hO1 _ _ fun s1 hs1 => ?_)
  have e1 : bL s = (!(bad s).isSome && jB (s.length + 1) s true) := by unfold bL; rw [decide_eq_false h0, decide_eq_false h1]; simp
  cases hb : (bad s).isSome with
  | true =>
    rw [e1, hb] at hk
    have hge := EB s
    rw [hb] at hge
    simp -implicitDefEqProofs only [go_sem, ↓aj, ↓ah, ak, Nat.reduceBEq, ↓reduceIte, reduceCtorEq, Nat.reduceEqDiff, Nat.reduceAdd, Nat.reduceLeDiff, Int.reduceEq, Int.reduceLT, Int.reduceLE, Int.reduceAdd, Int.reduceToNat, Int.reduceNeg, Nat.reduceMul, Nat.reduceSub, Int.reduceBNe, Int.reduceBEq, hge]
    exact hk _ hs1.tail
  | false =>
  rw [e1, hb] at hk
  have hge := EB s
  rw [hb] at hge
  simp -implicitDefEqProofs only [go_sem, ↓aj, ↓ah, ak, Nat.reduceBEq, ↓reduceIte, reduceCtorEq, Nat.reduceEqDiff, Nat.reduceAdd, Nat.reduceLeDiff, Int.reduceEq, Int.reduceLT, Int.reduceLE, Int.reduceAdd, Int.reduceToNat, Int.reduceNeg, Nat.reduceMul, Nat.reduceSub, Int.reduceBNe, Int.reduceBEq, hge, Hw, oQ, Tryz.underlying9]
  have hO2 := hs1.tail.new (.siter (tx s) 0)
  generalize hb2 : s1.n = b at *
  rw [Bool.not_false, Bool.true_and] at hk
  refine ⟨fun m ρ s' => ∃ (i f : Nat), m = s.length + 4 - i ∧ i ≤ s.length + 3 ∧ (s.drop i).length < f ∧ jB (s.length + 1) s true = jB f (s.drop i) (decide (i = 0)) ∧ ρ 19 = .pointer (some ⟨b, 0, none⟩) ∧ Own s' ((b, .siter (tx s) i) :: r),
    ⟨_, 0, s.length + 1, rfl, Nat.zero_le _, Nat.lt_succ_self _, rfl, ?_, hO2⟩, ?_⟩
  · rw [← hb2]; rfl
  rintro _ ρ s' ⟨i, f, rfl, hi, hf, hnm, h19, hs⟩
  have hcb := hs.head
  by_cases him : i < s.length
  · have hne : s.drop i ≠ [] := fun e => by have := congrArg List.length e; simp at this; omega
    obtain ⟨f', rfl⟩ : ∃ f', f = f' + 1 := ⟨f - 1, by omega⟩
    rw [AQ f' _ _ hne, List.drop_drop] at hnm
    have hw := qO (s.drop i)
    simp -implicitDefEqProofs only [go_sem, ↓aj, ↓ah, ak, Nat.reduceBEq, ↓reduceIte, reduceCtorEq, Nat.reduceEqDiff, Nat.reduceAdd, Nat.reduceLeDiff, Int.reduceEq, Int.reduceLT, Int.reduceLE, Int.reduceAdd, Int.reduceToNat, Int.reduceNeg, Nat.reduceMul, Nat.reduceSub, Int.reduceBNe, Int.reduceBEq, h19, Er, qG, hcb, aO, him, FT]
    generalize hd1 : (Lib.decodeL (s.drop i)).1 = c at *
    generalize hd2 : (Lib.decodeL (s.drop i)).2 = n at *
    have hs2 := hs.set rfl (.siter (tx s) (i + n)) rfl
    have fin : jh c = true → (!(decide (i = 0) && !isFirst c)) = true → jB (s.length + 1) s true = jB f' (s.drop (i + n)) (decide (i + n = 0)) := fun e1 e2 => by
      rw [e1, e2, Bool.true_and, Bool.true_and] at hnm
      rw [hnm, show decide (i + n = 0) = false by rw [decide_eq_false_iff_not]; omega]
    have out : jh c = false ∨ (!(decide (i = 0) && !isFirst c)) = false → ∀ s3, Own s3 ((b, .siter (tx s) (i + n)) :: r) → k (.bool true) s3 := fun e s3 hs3 => by
      have : jB (s.length + 1) s true = false := by
        rw [hnm]
        rcases e with e | e <;> rw [e] <;> simp
      rw [this] at hk
      exact hk _ hs3.tail
    have last : (!(decide (i = 0) && !isFirst c)) = true → ∀ s3, Own s3 ((b, .siter (tx s) (i + n)) :: r) → ∀ (k' q' : Value → St → Prop), (∀ s4, jh c = false → k (.bool true) s4 → k' (.bool false) s4) → (∀ s4, jh c = true → Own s4 ((b, .siter (tx s) (i + n)) :: r) → k' (.bool true) s4) → au (C base w0 3) 163 [.int .i32 (c : Nat)] s3 k' q' := fun e s3 hs3 k' q' h1 h2 =>
      au.enter Tryz.func163 rfl (by kernel_rfl) (AO s3 _ c hs3 _ _ fun s4 hs4 => by
        cases hla : jh c with
        | true => exact h2 s4 hla hs4
        | false => exact h1 s4 hla (out (.inl hla) s4 hs4))
    by_cases hi0 : i = 0
    · have e0i : ((i : Int) == 0) = true := by simp [hi0]
      simp -implicitDefEqProofs only [go_sem, ↓aj, ↓ah, ak, Nat.reduceBEq, ↓reduceIte, reduceCtorEq, Nat.reduceEqDiff, Nat.reduceAdd, Nat.reduceLeDiff, Int.reduceEq, Int.reduceLT, Int.reduceLE, Int.reduceAdd, Int.reduceToNat, Int.reduceNeg, Nat.reduceMul, Nat.reduceSub, Int.reduceBNe, Int.reduceBEq, h19, e0i]
      refine au.enter Tryz.func162 rfl (by kernel_rfl) (rP _ _ c hs2 _ _ fun s3 hs3 => ?_)
      cases hf1 : isFirst c with
      | false =>
        simp -implicitDefEqProofs only [go_sem, ↓aj, ↓ah, ak, Nat.reduceBEq, ↓reduceIte, reduceCtorEq, Nat.reduceEqDiff, Nat.reduceAdd, Nat.reduceLeDiff, Int.reduceEq, Int.reduceLT, Int.reduceLE, Int.reduceAdd, Int.reduceToNat, Int.reduceNeg, Nat.reduceMul, Nat.reduceSub, Int.reduceBNe, Int.reduceBEq, h19, e0i, Bool.not_false]
        exact out (.inr (by rw [hf1]; simp [hi0])) _ hs3
      | true =>
        simp -implicitDefEqProofs only [go_sem, ↓aj, ↓ah, ak, Nat.reduceBEq, ↓reduceIte, reduceCtorEq, Nat.reduceEqDiff, Nat.reduceAdd, Nat.reduceLeDiff, Int.reduceEq, Int.reduceLT, Int.reduceLE, Int.reduceAdd, Int.reduceToNat, Int.reduceNeg, Nat.reduceMul, Nat.reduceSub, Int.reduceBNe, Int.reduceBEq, h19, e0i, Bool.not_true]
        refine last (by rw [hf1]; simp) s3 hs3 _ _ (fun s4 hla hk4 => ?_) (fun s4 hla hs4 => ?_)
        · simp -implicitDefEqProofs only [go_sem, ↓aj, ↓ah, ak, Nat.reduceBEq, ↓reduceIte, reduceCtorEq, Nat.reduceEqDiff, Nat.reduceAdd, Nat.reduceLeDiff, Int.reduceEq, Int.reduceLT, Int.reduceLE, Int.reduceAdd, Int.reduceToNat, Int.reduceNeg, Nat.reduceMul, Nat.reduceSub, Int.reduceBNe, Int.reduceBEq, h19, e0i, Bool.not_false]
          exact hk4
        · simp -implicitDefEqProofs only [go_sem, ↓aj, ↓ah, ak, Nat.reduceBEq, ↓reduceIte, reduceCtorEq, Nat.reduceEqDiff, Nat.reduceAdd, Nat.reduceLeDiff, Int.reduceEq, Int.reduceLT, Int.reduceLE, Int.reduceAdd, Int.reduceToNat, Int.reduceNeg, Nat.reduceMul, Nat.reduceSub, Int.reduceBNe, Int.reduceBEq, h19, e0i, Bool.not_true]
          exact ⟨s.length + 4 - (i + n), by omega, i + n, f', rfl, by omega, by rw [List.length_drop] at hf ⊢; omega, fin hla (by rw [hf1]; simp), hs4⟩
    · have e0i : ((i : Int) == 0) = false := by simp; omega
      simp -implicitDefEqProofs only [go_sem, ↓aj, ↓ah, ak, Nat.reduceBEq, ↓reduceIte, reduceCtorEq, Nat.reduceEqDiff, Nat.reduceAdd, Nat.reduceLeDiff, Int.reduceEq, Int.reduceLT, Int.reduceLE, Int.reduceAdd, Int.reduceToNat, Int.reduceNeg, Nat.reduceMul, Nat.reduceSub, Int.reduceBNe, Int.reduceBEq, h19, e0i]
      refine last (by simp [hi0]) _ hs2 _ _ (fun s4 hla hk4 => ?_) (fun s4 hla hs4 => ?_)
      · simp -implicitDefEqProofs only [go_sem, ↓aj, ↓ah, ak, Nat.reduceBEq, ↓reduceIte, reduceCtorEq, Nat.reduceEqDiff, Nat.reduceAdd, Nat.reduceLeDiff, Int.reduceEq, Int.reduceLT, Int.reduceLE, Int.reduceAdd, Int.reduceToNat, Int.reduceNeg, Nat.reduceMul, Nat.reduceSub, Int.reduceBNe, Int.reduceBEq, h19, e0i, Bool.not_false]
        exact hk4
      · simp -implicitDefEqProofs only [go_sem, ↓aj, ↓ah, ak, Nat.reduceBEq, ↓reduceIte, reduceCtorEq, Nat.reduceEqDiff, Nat.reduceAdd, Nat.reduceLeDiff, Int.reduceEq, Int.reduceLT, Int.reduceLE, Int.reduceAdd, Int.reduceToNat, Int.reduceNeg, Nat.reduceMul, Nat.reduceSub, Int.reduceBNe, Int.reduceBEq, h19, e0i, Bool.not_true]
        exact ⟨s.length + 4 - (i + n), by omega, i + n, f', rfl, by omega, by rw [List.length_drop] at hf ⊢; omega, fin hla (by simp [hi0]), hs4⟩
  · have e : s.drop i = [] := List.drop_eq_nil_of_le (by omega)
    rw [e, Dg] at hnm
    rw [hnm] at hk
    simp -implicitDefEqProofs only [go_sem, ↓aj, ↓ah, ak, Nat.reduceBEq, ↓reduceIte, reduceCtorEq, Nat.reduceEqDiff, Nat.reduceAdd, Nat.reduceLeDiff, Int.reduceEq, Int.reduceLT, Int.reduceLE, Int.reduceAdd, Int.reduceToNat, Int.reduceNeg, Nat.reduceMul, Nat.reduceSub, Int.reduceBNe, Int.reduceBEq, h19, Er, qG, yA, hcb, aO, him, List.size_toArray, List.length_cons, List.length_nil, List.getElem?_toArray, List.getElem?_cons_zero]
    exact hk _ hs.tail
end Go.Proofs.YtigjbehgfjjlkaaGreatDoor
set_option linter.unusedVariables false
set_option linter.unusedSimpArgs false
namespace Go.Proofs.YtigjbehgfjjlkaaGreatDoor
open Go Go.Abs Go.RowKit Go.Xml
variable {base : Nat} {w0 : World} {G : Nat}
theorem Dh (hT : dw w0) (r : Hp) : kH (C base w0 3) 144 [] r (fun a => .string (tx a)) (fun a => a.length ≤ 1000000) (fun a => !bL a) := fun a st X k q hok hX hO hk =>
  au.enter Tryz.func144 rfl (by kernel_rfl) (AR st X a hT hok hO k q hk)
set_option maxRecDepth 10000 in
theorem uH (st : St) (r : Hp) (l : Value) (L : List Tx) (hT : dw w0) (hL : Rws r l 1 (L.map strC)) (hok : ∀ a ∈ L, a.length ≤ 1000000) (hn : L.length ≤ 1000000) (hO : Own st r) (k q : Value → St → Prop)
    (hk : ∀ st', Own st' r → k (.bool (L.all bL)) st') : ay (C base w0 3) 127 [l] st k q := by
  refine ay.of (cx := C base w0 3) mixed Tryz.func127 rfl (by kernel_rfl) (by simp [Tryz.ntmps127]) ?_
  simp only [Tryz.results127]
  simp -implicitDefEqProofs only [go_sem, ↓aj, ↓ah, astr, ak, Nat.reduceBEq, ↓reduceIte, reduceCtorEq, Nat.reduceEqDiff, Nat.reduceAdd, Nat.reduceLeDiff, Int.reduceEq, Int.reduceLT, Int.reduceLE, Int.reduceAdd, Int.reduceToNat, Int.reduceNeg, Nat.reduceMul, Nat.reduceSub, Int.reduceBNe, Int.reduceBEq]
  refine au.enter Tryz.func99 rfl (by kernel_rfl) (uD st r l L 144 [] (fun a => a.length ≤ 1000000) (fun a => !bL a) (Dh hT r) hL hok hn hO _ _ fun s1 hs1 => ?_)
  simp -implicitDefEqProofs only [go_sem, ↓aj, ↓ah, astr, ak, Nat.reduceBEq, ↓reduceIte, reduceCtorEq, Nat.reduceEqDiff, Nat.reduceAdd, Nat.reduceLeDiff, Int.reduceEq, Int.reduceLT, Int.reduceLE, Int.reduceAdd, Int.reduceToNat, Int.reduceNeg, Nat.reduceMul, Nat.reduceSub, Int.reduceBNe, Int.reduceBEq]
  have e : (!L.any fun a => !bL a) = L.all bL := by rw [List.all_eq_not_any_not]
  rw [e]
  exact hk _ hs1
theorem pU (a : Tx) (b : Nat) (h : Hp) (hm : (b, Ob.cells [.string (tx a)] 9 true) ∈ h) : Rws h (.slice (some ⟨b, 0, none⟩) 1 1) 1 ([a].map strC) := by
  refine .inr ⟨b, 0, none, 1, _, _, _, rfl, hm, fun i l hi => ?_⟩
  cases i with
  | zero => simp at hi; subst hi; rfl
  | succ i => simp at hi
theorem EC (l p : Tx) : (Lib.cut l p).1.length ≤ l.length ∧ (Lib.cut l p).2.1.length ≤ l.length := by
  unfold Lib.cut
  split
  · exact ⟨by rw [List.length_take]; omega, by rw [List.length_drop]; omega⟩
  · exact ⟨Nat.le_refl _, Nat.zero_le _⟩
set_option maxRecDepth 10000 in
theorem lC (st : St) (r : Hp) (b : Nat) (s : Tx) (nv kv : Value) (d : Bool) (hM : eG w0) (hT : dw w0) (hl : s.length ≤ 1000000) (hO : Own st ((b, .cells (rdC s nv kv d) 76 true) :: r)) (k q : Value → St → Prop)
    (hk : ∀ v s' st', dF s = .ok (v, s') → Own st' ((b, .cells (rdC s' nv kv d) 76 true) :: r) → k (.string (tx v)) st')
    (hq : ∀ e st', dF s = .error e → Own st' r → q (fV e) st') : ay (C base w0 3) 104 [.pointer (some ⟨b, 0, none⟩)] st k q := by
  refine ay.of (cx := C base w0 3) mixed Tryz.func104 rfl (by kernel_rfl) (by simp [Tryz.ntmps104]) ?_
  simp only [Tryz.results104]
  have hc := hO.head
  unfold rdC at hc
  have eN : (⟨#[32, 9, 10, 61, 47, 62, 60, 34, 39, 38, 63, 33]⟩ : ByteArray) = tx aH := rfl
  have eC : (⟨#[58]⟩ : ByteArray) = tx [58] := rfl
  simp -implicitDefEqProofs only [go_sem, ↓aj, ↓ah, astr, ak, Nat.reduceBEq, ↓reduceIte, reduceCtorEq, Nat.reduceEqDiff, Nat.reduceAdd, Nat.reduceLeDiff, Int.reduceEq, Int.reduceLT, Int.reduceLE, Int.reduceAdd, Int.reduceToNat, Int.reduceNeg, Nat.reduceMul, Nat.reduceSub, Int.reduceBNe, Int.reduceBEq, hc, aK, asz9, Tryz.underlying9, eN]
  refine au.enter Tryz.func83 rfl (by kernel_rfl) (nW st s aH (by omega) _ _ ?_)
  have hle : upTo s aH ≤ s.length := (List.takeWhile_sublist _).length_le
  simp -implicitDefEqProofs only [go_sem, ↓aj, ↓ah, astr, ak, Nat.reduceBEq, ↓reduceIte, reduceCtorEq, Nat.reduceEqDiff, Nat.reduceAdd, Nat.reduceLeDiff, Int.reduceEq, Int.reduceLT, Int.reduceLE, Int.reduceAdd, Int.reduceToNat, Int.reduceNeg, Nat.reduceMul, Nat.reduceSub, Int.reduceBNe, Int.reduceBEq, hc, aK, asz9, Tryz.underlying9, gD Tryz.underlying9 hle, eC]
  have hnl : (s.take (upTo s aH)).length ≤ 1000000 := by rw [List.length_take]; omega
  refine pI (s.take (upTo s aH)) [58] hM (by omega) _ _ ?_
  obtain ⟨c1, c2⟩ := EC (s.take (upTo s aH)) [58]
  have hF : dF s = if eU (s.take (upTo s aH)) then .ok (s.take (upTo s aH), s.drop (upTo s aH)) else .error 10 := rfl
  unfold eU at hF
  unfold cutV
  generalize (Lib.cut (s.take (upTo s aH)) [58]).1 = p at *
  generalize (Lib.cut (s.take (upTo s aH)) [58]).2.1 = lo at *
  generalize (Lib.cut (s.take (upTo s aH)) [58]).2.2 = two at *
  simp -implicitDefEqProofs only [go_sem, ↓aj, ↓ah, astr, ak, Nat.reduceBEq, ↓reduceIte, reduceCtorEq, Nat.reduceEqDiff, Nat.reduceAdd, Nat.reduceLeDiff, Int.reduceEq, Int.reduceLT, Int.reduceLE, Int.reduceAdd, Int.reduceToNat, Int.reduceNeg, Nat.reduceMul, Nat.reduceSub, Int.reduceBNe, Int.reduceBEq, aI (st := st) (v := .string (tx p)) Tryz.underlying126 asz9 azc9 rfl rfl rfl (by decide)]
  have hO1 := hO.new (.cells [.string (tx p)] 9 true)
  refine au.enter Tryz.func127 rfl (by kernel_rfl) (uH _ _ _ [p] hT (pU p st.n _ (List.mem_cons_self ..)) (fun a ha => by rw [List.mem_singleton.1 ha]; omega) (Nat.le_of_lt_succ (by decide : 1 < 1000001)) hO1 _ _ fun s1 hs1 => ?_)
  rw [show [p].all bL = bL p by simp]
  have bad : ∀ s2, (bL p && (!two || bL lo)) = false → Own s2 r → q (fV 10) s2 := fun s2 e hs2 => hq 10 s2 (by rw [hF, e]; rfl) hs2
  have good : ∀ s2, (bL p && (!two || bL lo)) = true → Own s2 ((b, .cells (rdC (s.drop (upTo s aH)) nv kv d) 76 true) :: r) → k (.string (tx (s.take (upTo s aH)))) s2 := fun s2 e hs2 => hk _ _ s2 (by rw [hF, e]; rfl) hs2
  cases hp : bL p with
  | false =>
    simp -implicitDefEqProofs only [go_sem, ↓aj, ↓ah, astr, ak, Nat.reduceBEq, ↓reduceIte, reduceCtorEq, Nat.reduceEqDiff, Nat.reduceAdd, Nat.reduceLeDiff, Int.reduceEq, Int.reduceLT, Int.reduceLE, Int.reduceAdd, Int.reduceToNat, Int.reduceNeg, Nat.reduceMul, Nat.reduceSub, Int.reduceBNe, Int.reduceBEq]
    refine au.enter Tryz.func61 rfl (by kernel_rfl) (aC s1 false _ _ (fun h => by cases h) (fun _ => ?_))
    exact bad _ (by rw [hp]; rfl) hs1.tail.tail
  | true =>
  cases two with
  | false =>
    simp -implicitDefEqProofs only [go_sem, ↓aj, ↓ah, astr, ak, Nat.reduceBEq, ↓reduceIte, reduceCtorEq, Nat.reduceEqDiff, Nat.reduceAdd, Nat.reduceLeDiff, Int.reduceEq, Int.reduceLT, Int.reduceLE, Int.reduceAdd, Int.reduceToNat, Int.reduceNeg, Nat.reduceMul, Nat.reduceSub, Int.reduceBNe, Int.reduceBEq, Bool.not_false]
    refine au.enter Tryz.func61 rfl (by kernel_rfl) (aC s1 true _ _ (fun _ => ?_) (fun h => by cases h))
    have hs2 := hs1.tail
    have hc2 := hs2.head
    unfold rdC at hc2
    simp -implicitDefEqProofs only [go_sem, ↓aj, ↓ah, astr, ak, Nat.reduceBEq, ↓reduceIte, reduceCtorEq, Nat.reduceEqDiff, Nat.reduceAdd, Nat.reduceLeDiff, Int.reduceEq, Int.reduceLT, Int.reduceLE, Int.reduceAdd, Int.reduceToNat, Int.reduceNeg, Nat.reduceMul, Nat.reduceSub, Int.reduceBNe, Int.reduceBEq, hc2, aK, asz9, Tryz.underlying9, bU Tryz.underlying9 hle, List.length_cons, List.length_nil]
    exact good _ (by rw [hp]; rfl) (hs2.set rfl (.cells (rdC (s.drop (upTo s aH)) nv kv d) 76 true) rfl)
  | true =>
    simp -implicitDefEqProofs only [go_sem, ↓aj, ↓ah, astr, ak, Nat.reduceBEq, ↓reduceIte, reduceCtorEq, Nat.reduceEqDiff, Nat.reduceAdd, Nat.reduceLeDiff, Int.reduceEq, Int.reduceLT, Int.reduceLE, Int.reduceAdd, Int.reduceToNat, Int.reduceNeg, Nat.reduceMul, Nat.reduceSub, Int.reduceBNe, Int.reduceBEq, Bool.not_true, aI (st := s1) (v := .string (tx lo)) Tryz.underlying126 asz9 azc9 rfl rfl rfl (by decide)]
    have hO2 := hs1.tail.new (.cells [.string (tx lo)] 9 true)
    refine au.enter Tryz.func127 rfl (by kernel_rfl) (uH _ _ _ [lo] hT (pU lo s1.n _ (List.mem_cons_self ..)) (fun a ha => by rw [List.mem_singleton.1 ha]; omega) (Nat.le_of_lt_succ (by decide : 1 < 1000001)) hO2 _ _ fun s2 hs2 => ?_)
    rw [show [lo].all bL = bL lo by simp]
    simp -implicitDefEqProofs only [go_sem, ↓aj, ↓ah, astr, ak, Nat.reduceBEq, ↓reduceIte, reduceCtorEq, Nat.reduceEqDiff, Nat.reduceAdd, Nat.reduceLeDiff, Int.reduceEq, Int.reduceLT, Int.reduceLE, Int.reduceAdd, Int.reduceToNat, Int.reduceNeg, Nat.reduceMul, Nat.reduceSub, Int.reduceBNe, Int.reduceBEq, Bool.not_true]
    refine au.enter Tryz.func61 rfl (by kernel_rfl) (aC s2 _ _ _ (fun h => ?_) (fun h => ?_))
    · have hs3 := hs2.tail
      have hc3 := hs3.head
      unfold rdC at hc3
      simp -implicitDefEqProofs only [go_sem, ↓aj, ↓ah, astr, ak, Nat.reduceBEq, ↓reduceIte, reduceCtorEq, Nat.reduceEqDiff, Nat.reduceAdd, Nat.reduceLeDiff, Int.reduceEq, Int.reduceLT, Int.reduceLE, Int.reduceAdd, Int.reduceToNat, Int.reduceNeg, Nat.reduceMul, Nat.reduceSub, Int.reduceBNe, Int.reduceBEq, hc3, aK, asz9, Tryz.underlying9, bU Tryz.underlying9 hle, List.length_cons, List.length_nil]
      exact good _ (by rw [hp, h]; rfl) (hs3.set rfl (.cells (rdC (s.drop (upTo s aH)) nv kv d) 76 true) rfl)
    · exact bad _ (by rw [hp, h]; rfl) hs2.tail.tail
end Go.Proofs.YtigjbehgfjjlkaaGreatDoor
set_option linter.unusedVariables false
set_option linter.unusedSimpArgs false
namespace Go.Proofs.YtigjbehgfjjlkaaGreatDoor
open Go Go.Abs Go.RowKit Go.Xml
variable {base : Nat} {w0 : World} {G : Nat}
theorem uI (t s : Tx) : (hasF t s).1 = t.isPrefixOf s := by unfold hasF; cases h : t.isPrefixOf s <;> simp
theorem uJ (t s : Tx) : (hasF t s).2 = if t.isPrefixOf s then s.drop t.length else s := by unfold hasF; cases h : t.isPrefixOf s <;> simp
theorem bD (t s : Tx) : (hasF t s).2.length ≤ s.length := by
  rw [uJ]
  split
  · rw [List.length_drop]; omega
  · exact Nat.le_refl _
theorem AU (n : Int) (h : 0 < n ∧ n < 0x110000) : Utf8.encode n = tx (j5 n.toNat) := by
  obtain ⟨c, rfl⟩ : ∃ c : Nat, n = c := ⟨n.toNat, by omega⟩
  have hv : Utf8.valid (c : Int) = !decide (c > 0x10FFFF ∨ (0xD800 ≤ c ∧ c ≤ 0xDFFF)) := by
    unfold Utf8.valid
    by_cases h1 : c > 0x10FFFF ∨ (0xD800 ≤ c ∧ c ≤ 0xDFFF)
    · rw [decide_eq_true h1]; simp; omega
    · rw [decide_eq_false h1]; simp; omega
  unfold Utf8.encode j5
  rw [hv, Int.toNat_natCast]
  by_cases h1 : c > 0x10FFFF ∨ (0xD800 ≤ c ∧ c ≤ 0xDFFF)
  · rw [decide_eq_true h1, if_pos h1]; rfl
  · rw [decide_eq_false h1, if_neg h1]
    unfold utf8 tx
    simp only [Bool.not_false, if_true]
    split
    · rfl
    split
    · rfl
    split <;> rfl
theorem JI (l : Tx) : decide (badV l < 0) = (bad l).isNone := by
  unfold badV
  cases bad l with
  | none => rfl
  | some n => show decide ((n : Int) < 0) = false; rw [decide_eq_false (by omega)]
theorem yZ (l : Tx) (c : UInt8) : Lib.indexByte l c < 0 ∨ Lib.indexByte l c < l.length := by
  induction l with
  | nil => exact .inl (by show (-1 : Int) < 0; decide)
  | cons x l ih =>
    unfold Lib.indexByte
    split
    · exact .inr (by simp)
    · split
      · exact .inl (by decide)
      · rename_i h1 h2
        have h3 : Lib.indexByte l c ≠ -1 := by simpa using h2
        have := Lib.indexByte_ge l c
        simp only [List.length_cons]
        omega
theorem AV (c : Nat) : (utf8 c).length ≤ 4 := by
  unfold utf8
  split
  · simp
  split
  · simp
  split <;> simp
theorem Di (c : Nat) : (j5 c).length ≤ 1000000 := by
  unfold j5
  split <;> exact Nat.le_trans (AV _) (Nat.le_of_lt_succ (by decide : 4 < 1000001))
theorem Md {x : Int} (h : -2147483648 ≤ x ∧ x ≤ 2147483647) : IntKind.i32.wrap x = x := by
  simp [IntKind.wrap, IntKind.bits, IntKind.signed]
  omega
theorem FU {P : Program} {st : St} {s t : TypeId} {k0 k1 k2 : IntKind} {n : Int} (hs : P.underlying s = some (.int k0)) (ht : P.underlying t = some (.int k1)) : dL P st s t (.int k2 n) = some (.int k1 (k1.wrap n), st) := by
  simp [dL, hs, ht]
set_option maxRecDepth 10000 in
theorem lY (st : St) (r : Hp) (b : Nat) (s : Tx) (nv kv : Value) (d : Bool) (hT : dw w0) (hl : s.length ≤ 1000000) (hO : Own st ((b, .cells (rdC s nv kv d) 76 true) :: r)) (k q : Value → St → Prop)
    (hk : ∀ v s' st', refF s = .ok (v, s') → Own st' ((b, .cells (rdC s' nv kv d) 76 true) :: r) → k (.string (tx v)) st')
    (hq : ∀ e st', refF s = .error e → Own st' r → q (fV e) st') : ay (C base w0 3) 60 [.pointer (some ⟨b, 0, none⟩)] st k q := by
  refine ay.of (cx := C base w0 3) mixed Tryz.func60 rfl (by kernel_rfl) (by simp [Tryz.ntmps60]) ?_
  simp only [Tryz.results60]
  have hc := hO.head
  unfold rdC at hc
  simp -implicitDefEqProofs only [go_sem, ↓aj, ↓ah, ak, Nat.reduceBEq, ↓reduceIte, reduceCtorEq, Nat.reduceEqDiff, Nat.reduceAdd, Nat.reduceLeDiff, Int.reduceEq, Int.reduceLT, Int.reduceLE, Int.reduceAdd, Int.reduceToNat, Int.reduceNeg, Nat.reduceMul, Nat.reduceSub, Int.reduceBNe, Int.reduceBEq, hc, aK, asz9, Tryz.underlying9]
  refine gX s 59 _ _ ?_
  have hlt := yZ s 59
  have hF : refF s = if Lib.indexByte s 59 < 0 then .error 10 else match refX (s.take (Lib.indexByte s 59).toNat) with
    | .ok t => .ok (t, s.drop ((Lib.indexByte s 59).toNat + 1))
    | .error e => .error e := rfl
  generalize Lib.indexByte s 59 = n at *
  by_cases hn : n < 0
  · rw [if_pos hn] at hF
    simp -implicitDefEqProofs only [go_sem, ↓aj, ↓ah, ak, Nat.reduceBEq, ↓reduceIte, reduceCtorEq, Nat.reduceEqDiff, Nat.reduceAdd, Nat.reduceLeDiff, Int.reduceEq, Int.reduceLT, Int.reduceLE, Int.reduceAdd, Int.reduceToNat, Int.reduceNeg, Nat.reduceMul, Nat.reduceSub, Int.reduceBNe, Int.reduceBEq, hc, show (n ≥ 0) = False by simp; omega, decide_false]
    refine au.enter Tryz.func61 rfl (by kernel_rfl) (aC st false _ _ (fun h => by cases h) (fun _ => ?_))
    exact hq 10 _ hF hO.tail
  rw [if_neg hn] at hF
  obtain ⟨i, rfl⟩ : ∃ i : Nat, n = i := ⟨n.toNat, by omega⟩
  rw [Int.toNat_natCast] at hF
  have w1 : IntKind.i64.wrap ((i : Int) + 1) = ((i + 1 : Nat) : Int) := by rw [cO (by omega)]; rfl
  have a0 : (⟨#[97, 109, 112]⟩ : ByteArray) = tx [97, 109, 112] := rfl
  have a1 : (⟨#[108, 116]⟩ : ByteArray) = tx [108, 116] := rfl
  have a2 : (⟨#[103, 116]⟩ : ByteArray) = tx [103, 116] := rfl
  have a3 : (⟨#[113, 117, 111, 116]⟩ : ByteArray) = tx [113, 117, 111, 116] := rfl
  have a4 : (⟨#[97, 112, 111, 115]⟩ : ByteArray) = tx [97, 112, 111, 115] := rfl
  have a5 : (⟨#[35]⟩ : ByteArray) = tx [35] := rfl
  have a6 : (⟨#[120]⟩ : ByteArray) = tx [120] := rfl
  have a7 : (⟨#[239, 191, 189]⟩ : ByteArray) = tx (utf8 0xFFFD) := rfl
  simp -implicitDefEqProofs only [go_sem, ↓aj, ↓ah, ak, Nat.reduceBEq, ↓reduceIte, reduceCtorEq, Nat.reduceEqDiff, Nat.reduceAdd, Nat.reduceLeDiff, Int.reduceEq, Int.reduceLT, Int.reduceLE, Int.reduceAdd, Int.reduceToNat, Int.reduceNeg, Nat.reduceMul, Nat.reduceSub, Int.reduceBNe, Int.reduceBEq, hc, show ((i : Int) ≥ 0) = True by simp, decide_true]
  refine au.enter Tryz.func61 rfl (by kernel_rfl) (aC st true _ _ (fun _ => ?_) (fun h => by cases h))
  have hx : (s.take i).length ≤ 1000000 := by rw [List.length_take]; omega
  have hs2 := hO.set rfl (.cells (rdC (s.drop (i + 1)) nv kv d) 76 true) rfl
  simp -implicitDefEqProofs only [go_sem, ↓aj, ↓ah, ak, Nat.reduceBEq, ↓reduceIte, reduceCtorEq, Nat.reduceEqDiff, Nat.reduceAdd, Nat.reduceLeDiff, Int.reduceEq, Int.reduceLT, Int.reduceLE, Int.reduceAdd, Int.reduceToNat, Int.reduceNeg, Nat.reduceMul, Nat.reduceSub, Int.reduceBNe, Int.reduceBEq, hc, aK, asz9, Tryz.underlying9, w1, gD Tryz.underlying9 (show i ≤ s.length by omega), bU Tryz.underlying9 (show i + 1 ≤ s.length by omega), List.length_cons, List.length_nil, a0, aA]
  have ok : ∀ t, refX (s.take i) = .ok t → k (.string (tx t)) (st.set b (some (.cells [.string (tx (s.drop (i + 1))), nv, kv, .bool d] 76 true))) := fun t e => hk t _ _ (by rw [hF, e]) hs2
  generalize s.take i = x at *
  refine ⟨fun h => ok [38] (by rw [h]; rfl), fun h0 => ?_⟩
  simp -implicitDefEqProofs only [go_sem, ↓aj, ↓ah, ak, Nat.reduceBEq, ↓reduceIte, reduceCtorEq, Nat.reduceEqDiff, Nat.reduceAdd, Nat.reduceLeDiff, Int.reduceEq, Int.reduceLT, Int.reduceLE, Int.reduceAdd, Int.reduceToNat, Int.reduceNeg, Nat.reduceMul, Nat.reduceSub, Int.reduceBNe, Int.reduceBEq, a1, aA]
  refine ⟨fun h => ok [60] (by rw [h]; rfl), fun h1 => ?_⟩
  simp -implicitDefEqProofs only [go_sem, ↓aj, ↓ah, ak, Nat.reduceBEq, ↓reduceIte, reduceCtorEq, Nat.reduceEqDiff, Nat.reduceAdd, Nat.reduceLeDiff, Int.reduceEq, Int.reduceLT, Int.reduceLE, Int.reduceAdd, Int.reduceToNat, Int.reduceNeg, Nat.reduceMul, Nat.reduceSub, Int.reduceBNe, Int.reduceBEq, a2, aA]
  refine ⟨fun h => ok [62] (by rw [h]; rfl), fun h2 => ?_⟩
  simp -implicitDefEqProofs only [go_sem, ↓aj, ↓ah, ak, Nat.reduceBEq, ↓reduceIte, reduceCtorEq, Nat.reduceEqDiff, Nat.reduceAdd, Nat.reduceLeDiff, Int.reduceEq, Int.reduceLT, Int.reduceLE, Int.reduceAdd, Int.reduceToNat, Int.reduceNeg, Nat.reduceMul, Nat.reduceSub, Int.reduceBNe, Int.reduceBEq, a3, aA]
  refine ⟨fun h => ok [34] (by rw [h]; rfl), fun h3 => ?_⟩
  simp -implicitDefEqProofs only [go_sem, ↓aj, ↓ah, ak, Nat.reduceBEq, ↓reduceIte, reduceCtorEq, Nat.reduceEqDiff, Nat.reduceAdd, Nat.reduceLeDiff, Int.reduceEq, Int.reduceLT, Int.reduceLE, Int.reduceAdd, Int.reduceToNat, Int.reduceNeg, Nat.reduceMul, Nat.reduceSub, Int.reduceBNe, Int.reduceBEq, a4, aA]
  refine ⟨fun h => ok [39] (by rw [h]; rfl), fun h4 => ?_⟩
  have hX : refX x = if [35].isPrefixOf x then (if [120].isPrefixOf (x.drop 1) then codeF (x.drop 1 |>.drop 1) 16 else codeF (x.drop 1) 10) else .error 10 := by
    unfold refX
    rw [if_neg h0, if_neg h1, if_neg h2, if_neg h3, if_neg h4, uI, uJ]
    cases hp : ([35] : Tx).isPrefixOf x with
    | false => rfl
    | true =>
      simp only [if_true, List.length_cons, List.length_nil, Nat.zero_add]
      rw [uI, uJ]
      cases hp : ([120] : Tx).isPrefixOf (x.drop 1) with
      | false => rfl
      | true => rfl
  simp -implicitDefEqProofs only [go_sem, ↓aj, ↓ah, ak, Nat.reduceBEq, ↓reduceIte, reduceCtorEq, Nat.reduceEqDiff, Nat.reduceAdd, Nat.reduceLeDiff, Int.reduceEq, Int.reduceLT, Int.reduceLE, Int.reduceAdd, Int.reduceToNat, Int.reduceNeg, Nat.reduceMul, Nat.reduceSub, Int.reduceBNe, Int.reduceBEq, a5]
  refine gY x [35] _ _ ?_
  cases hp : ([35] : Tx).isPrefixOf x with
  | false =>
    rw [hp] at hX
    simp -implicitDefEqProofs only [go_sem, ↓aj, ↓ah, ak, Nat.reduceBEq, ↓reduceIte, reduceCtorEq, Nat.reduceEqDiff, Nat.reduceAdd, Nat.reduceLeDiff, Int.reduceEq, Int.reduceLT, Int.reduceLE, Int.reduceAdd, Int.reduceToNat, Int.reduceNeg, Nat.reduceMul, Nat.reduceSub, Int.reduceBNe, Int.reduceBEq, Bool.false_eq_true]
    refine au.enter Tryz.func61 rfl (by kernel_rfl) (aC _ false _ _ (fun h => by cases h) (fun _ => ?_))
    exact hq 10 _ (by rw [hF, hX]; rfl) hs2.tail
  | true =>
  rw [hp] at hX
  rw [if_pos rfl] at hX
  simp -implicitDefEqProofs only [go_sem, ↓aj, ↓ah, ak, Nat.reduceBEq, ↓reduceIte, reduceCtorEq, Nat.reduceEqDiff, Nat.reduceAdd, Nat.reduceLeDiff, Int.reduceEq, Int.reduceLT, Int.reduceLE, Int.reduceAdd, Int.reduceToNat, Int.reduceNeg, Nat.reduceMul, Nat.reduceSub, Int.reduceBNe, Int.reduceBEq, List.length_cons, List.length_nil]
  refine au.enter Tryz.func61 rfl (by kernel_rfl) (aC _ true _ _ (fun _ => ?_) (fun h => by cases h))
  simp -implicitDefEqProofs only [go_sem, ↓aj, ↓ah, ak, Nat.reduceBEq, ↓reduceIte, reduceCtorEq, Nat.reduceEqDiff, Nat.reduceAdd, Nat.reduceLeDiff, Int.reduceEq, Int.reduceLT, Int.reduceLE, Int.reduceAdd, Int.reduceToNat, Int.reduceNeg, Nat.reduceMul, Nat.reduceSub, Int.reduceBNe, Int.reduceBEq, a6]
  refine gY (x.drop 1) [120] _ _ ?_
  cases hp2 : ([120] : Tx).isPrefixOf (x.drop 1)
  case' false =>
    rw [hp2, if_neg (by decide)] at hX
    have hdl : (x.drop 1).length ≤ 1000000 := by rw [List.length_drop]; omega
    simp -implicitDefEqProofs only [go_sem, ↓aj, ↓ah, ak, Nat.reduceBEq, ↓reduceIte, reduceCtorEq, Nat.reduceEqDiff, Nat.reduceAdd, Nat.reduceLeDiff, Int.reduceEq, Int.reduceLT, Int.reduceLE, Int.reduceAdd, Int.reduceToNat, Int.reduceNeg, Nat.reduceMul, Nat.reduceSub, Int.reduceBNe, Int.reduceBEq, Bool.false_eq_true]
    rw [show (10 : Int) = ((10 : Nat) : Int) from rfl]
    generalize x.drop 1 = dg at *
  case' true =>
    rw [hp2, if_pos rfl] at hX
    have hdl : ((x.drop 1).drop 1).length ≤ 1000000 := by rw [List.length_drop, List.length_drop]; omega
    simp -implicitDefEqProofs only [go_sem, ↓aj, ↓ah, ak, Nat.reduceBEq, ↓reduceIte, reduceCtorEq, Nat.reduceEqDiff, Nat.reduceAdd, Nat.reduceLeDiff, Int.reduceEq, Int.reduceLT, Int.reduceLE, Int.reduceAdd, Int.reduceToNat, Int.reduceNeg, Nat.reduceMul, Nat.reduceSub, Int.reduceBNe, Int.reduceBEq, List.length_cons, List.length_nil]
    rw [show (16 : Int) = ((16 : Nat) : Int) from rfl]
    generalize (x.drop 1).drop 1 = dg at *
  all_goals
    refine au.enter Tryz.func82 rfl (by kernel_rfl) (yS _ _ dg _ (by decide) (by omega) hs2 _ _ fun s3 hs3 => ?_)
    unfold codeF at hX
    generalize number dg _ = n at *
    by_cases g1 : 0 < n
    rotate_left
    · rw [if_neg (fun h => g1 h.1)] at hX
      simp -implicitDefEqProofs only [go_sem, ↓aj, ↓ah, ak, Nat.reduceBEq, ↓reduceIte, reduceCtorEq, Nat.reduceEqDiff, Nat.reduceAdd, Nat.reduceLeDiff, Int.reduceEq, Int.reduceLT, Int.reduceLE, Int.reduceAdd, Int.reduceToNat, Int.reduceNeg, Nat.reduceMul, Nat.reduceSub, Int.reduceBNe, Int.reduceBEq, show (n > 0) = False by simp; omega, decide_false]
      refine au.enter Tryz.func61 rfl (by kernel_rfl) (aC _ false _ _ (fun h => by cases h) (fun _ => ?_))
      exact hq 10 _ (by rw [hF, hX]) hs3.tail
    by_cases g2 : n < 1114112
    rotate_left
    · rw [if_neg (fun h => g2 h.2)] at hX
      simp -implicitDefEqProofs only [go_sem, ↓aj, ↓ah, ak, Nat.reduceBEq, ↓reduceIte, reduceCtorEq, Nat.reduceEqDiff, Nat.reduceAdd, Nat.reduceLeDiff, Int.reduceEq, Int.reduceLT, Int.reduceLE, Int.reduceAdd, Int.reduceToNat, Int.reduceNeg, Nat.reduceMul, Nat.reduceSub, Int.reduceBNe, Int.reduceBEq, show (n > 0) = True by simp; omega, show (n < 1114112) = False by simp; omega, decide_false, decide_true]
      refine au.enter Tryz.func61 rfl (by kernel_rfl) (aC _ false _ _ (fun h => by cases h) (fun _ => ?_))
      exact hq 10 _ (by rw [hF, hX]) hs3.tail
    rw [if_pos ⟨g1, g2⟩] at hX
    simp -implicitDefEqProofs only [go_sem, ↓aj, ↓ah, ak, Nat.reduceBEq, ↓reduceIte, reduceCtorEq, Nat.reduceEqDiff, Nat.reduceAdd, Nat.reduceLeDiff, Int.reduceEq, Int.reduceLT, Int.reduceLE, Int.reduceAdd, Int.reduceToNat, Int.reduceNeg, Nat.reduceMul, Nat.reduceSub, Int.reduceBNe, Int.reduceBEq, show (n > 0) = True by simp; omega, show (n < 1114112) = True by simp; omega, decide_true]
    refine au.enter Tryz.func61 rfl (by kernel_rfl) (aC _ true _ _ (fun _ => ?_) (fun h => by cases h))
    have hrl : (j5 n.toNat).length ≤ 1000000 := Di _
    have hen := AU n ⟨g1, g2⟩
    generalize j5 n.toNat = t at *
    have hcv : ∀ st1, dL Tryz.prog st1 21 9 (.int .i32 n) = some (.string (tx t), st1) := fun st1 => by
      simp [dL, Tryz.underlying21, Tryz.underlying9, hen]
    have w32 : IntKind.i32.wrap n = n := Md (by omega)
    simp -implicitDefEqProofs only [go_sem, ↓aj, ↓ah, ak, Nat.reduceBEq, ↓reduceIte, reduceCtorEq, Nat.reduceEqDiff, Nat.reduceAdd, Nat.reduceLeDiff, Int.reduceEq, Int.reduceLT, Int.reduceLE, Int.reduceAdd, Int.reduceToNat, Int.reduceNeg, Nat.reduceMul, Nat.reduceSub, Int.reduceBNe, Int.reduceBEq, jy Tryz.underlying9 Tryz.underlying31 Tryz.underlying5 asz5, FU Tryz.underlying3 Tryz.underlying21, w32, hcv]
    have hO4 := hs3.new (.cells (nl (nb8 t)) 5 true)
    obtain ⟨n1, n2⟩ := uG t s3.n _ (List.mem_cons_self (l := (b, .cells (rdC (s.drop (i + 1)) nv kv d) 76 true) :: r))
    refine au.enter Tryz.func34 rfl (by kernel_rfl) (qQ _ _ _ t hT n1 n2 hrl hO4 _ _ fun s4 hs4 => ?_)
    have hb := JI t
    cases hbd : (bad t).isNone with
    | false =>
      rw [hbd] at hb hX
      simp -implicitDefEqProofs only [go_sem, ↓aj, ↓ah, ak, Nat.reduceBEq, ↓reduceIte, reduceCtorEq, Nat.reduceEqDiff, Nat.reduceAdd, Nat.reduceLeDiff, Int.reduceEq, Int.reduceLT, Int.reduceLE, Int.reduceAdd, Int.reduceToNat, Int.reduceNeg, Nat.reduceMul, Nat.reduceSub, Int.reduceBNe, Int.reduceBEq, hb]
      refine au.enter Tryz.func61 rfl (by kernel_rfl) (aC _ false _ _ (fun h => by cases h) (fun _ => ?_))
      exact hq 10 _ (by rw [hF, hX]; rfl) hs4.tail.tail
    | true =>
    rw [hbd, Bool.true_and] at hX
    rw [hbd] at hb
    by_cases g3 : n = 65533
    · rw [decide_eq_true g3, Bool.true_or, if_pos rfl] at hX
      simp -implicitDefEqProofs only [go_sem, ↓aj, ↓ah, ak, Nat.reduceBEq, ↓reduceIte, reduceCtorEq, Nat.reduceEqDiff, Nat.reduceAdd, Nat.reduceLeDiff, Int.reduceEq, Int.reduceLT, Int.reduceLE, Int.reduceAdd, Int.reduceToNat, Int.reduceNeg, Nat.reduceMul, Nat.reduceSub, Int.reduceBNe, Int.reduceBEq, hb, show (n == 65533) = true by simp [g3]]
      refine au.enter Tryz.func61 rfl (by kernel_rfl) (aC _ true _ _ (fun _ => ?_) (fun h => by cases h))
      simp -implicitDefEqProofs only [go_sem, ↓aj, ↓ah, ak, Nat.reduceBEq, ↓reduceIte, reduceCtorEq, Nat.reduceEqDiff, Nat.reduceAdd, Nat.reduceLeDiff, Int.reduceEq, Int.reduceLT, Int.reduceLE, Int.reduceAdd, Int.reduceToNat, Int.reduceNeg, Nat.reduceMul, Nat.reduceSub, Int.reduceBNe, Int.reduceBEq]
      exact hk t _ _ (by rw [hF, hX]) hs4.tail
    · rw [decide_eq_false g3, Bool.false_or] at hX
      simp -implicitDefEqProofs only [go_sem, ↓aj, ↓ah, ak, Nat.reduceBEq, ↓reduceIte, reduceCtorEq, Nat.reduceEqDiff, Nat.reduceAdd, Nat.reduceLeDiff, Int.reduceEq, Int.reduceLT, Int.reduceLE, Int.reduceAdd, Int.reduceToNat, Int.reduceNeg, Nat.reduceMul, Nat.reduceSub, Int.reduceBNe, Int.reduceBEq, hb, show (n == 65533) = false by simp [g3], a7, dx]
      refine au.enter Tryz.func61 rfl (by kernel_rfl) (aC _ _ _ _ (fun h => ?_) (fun h => ?_))
      · rw [if_pos h] at hX
        simp -implicitDefEqProofs only [go_sem, ↓aj, ↓ah, ak, Nat.reduceBEq, ↓reduceIte, reduceCtorEq, Nat.reduceEqDiff, Nat.reduceAdd, Nat.reduceLeDiff, Int.reduceEq, Int.reduceLT, Int.reduceLE, Int.reduceAdd, Int.reduceToNat, Int.reduceNeg, Nat.reduceMul, Nat.reduceSub, Int.reduceBNe, Int.reduceBEq]
        exact hk t _ _ (by rw [hF, hX]) hs4.tail
      · rw [if_neg (by rw [h]; decide)] at hX
        exact hq 10 _ (by rw [hF, hX]) hs4.tail.tail
end Go.Proofs.YtigjbehgfjjlkaaGreatDoor
