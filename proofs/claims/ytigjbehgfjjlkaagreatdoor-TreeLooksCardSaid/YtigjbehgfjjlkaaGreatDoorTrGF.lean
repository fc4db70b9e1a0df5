/- An attribute of a node: by the tree, by the reference. No conditions. -/
import Derived.Test.YtigjbehgfjjlkaaGreatDoorTrGC
import Derived.Test.YtigjbehgfjjlkaaGreatDoorTrGB
import Derived.Test.YtigjbehgfjjlkaaGreatDoorTrGD
import Derived.Test.YtigjbehgfjjlkaaGreatDoorXmGE
import Derived.Test.YtigjbehgfjjlkaaGreatDoorTrGE
set_option linter.unusedVariables false
set_option linter.unusedSimpArgs false
namespace Go.Proofs.YtigjbehgfjjlkaaGreatDoor
open Go Go.Abs Go.RowKit Go.Xml
variable {base : Nat} {w0 : World} {G : Nat}
def optR : Option Tx → Value
  | some v => .tuple #[.string (tx v), .bool true]
  | none => .tuple #[.string ⟨#[]⟩, .bool false]
theorem zT {n : Nx} {lo : Tx} {j : Nat} {a : Att} (ha : n.atts[j]? = some a) (hno : ∀ (t : Nat) (b : Att), t < j → n.atts[t]? = some b → ¬ (b.pre = [] ∧ b.loc = lo)) (h : a.pre = [] ∧ a.loc = lo) : attX n lo = some a.val := by
  have hj := (List.getElem?_eq_some_iff.1 ha).1
  have : n.atts.find? (fun a => decide (a.pre = []) && decide (a.loc = lo)) = some a := by
    rw [List.find?_eq_some_iff_getElem]
    refine ⟨by simp [h.1, h.2], j, hj, (List.getElem?_eq_some_iff.1 ha).2, fun t ht => ?_⟩
    have := hno t _ ht (List.getElem?_eq_getElem (by omega))
    by_cases hp : (n.atts[t]'(by omega)).pre = []
    · have hl : ¬ (n.atts[t]'(by omega)).loc = lo := fun hl => this ⟨hp, hl⟩
      simp [hl]
    · simp [hp]
  unfold attX
  rw [this]
  rfl
theorem vO {n : Nx} {lo : Tx} (hno : ∀ (t : Nat) (b : Att), t < n.atts.length → n.atts[t]? = some b → ¬ (b.pre = [] ∧ b.loc = lo)) : attX n lo = none := by
  have : n.atts.find? (fun a => decide (a.pre = []) && decide (a.loc = lo)) = none := by
    rw [List.find?_eq_none]
    intro a ha
    obtain ⟨t, ht, rfl⟩ := List.getElem_of_mem ha
    have := hno t _ ht (List.getElem?_eq_getElem ht)
    simpa using this
  unfold attX
  rw [this]
  rfl
set_option maxRecDepth 10000 in
theorem BO (st : St) (r : Hp) (n : Nx) (kv av dv : Value) (lo : Tx) (hN : NdX r n kv av dv) (hb : n.atts.length ≤ 1000000) (hO : Own st r) (k q : Value → St → Prop) (hk : ∀ st', Own st' r → k (optR (attX n lo)) st') : aA (C base w0 G) 41 [.agg (ndX n kv av dv).toArray, .string (tx lo)] st k q := by
  obtain ⟨ka, kc, hkv1, _⟩ := hN.kid.isSlice
  obtain ⟨aa, ac, hav1, _⟩ := hN.att.isSlice
  obtain ⟨da, dc, hdv1, _⟩ := hN.dcl.isSlice
  have hA := hN.att
  subst hkv1 hav1 hdv1
  refine aA.of (cx := C base w0 G) mixed Tryz.func41 rfl (by kernel_rfl) (by simp [Tryz.ntmps41]) ?_
  simp only [Tryz.results41]
  have ho1 := hO.new (.cells (ndX n (.slice ka (n.kids.map fun k => [Value.int .i64 k]).length kc) (.slice aa (n.atts.map attC).length ac) (.slice da (n.dcls.map dclC).length dc)) 55 true)
  simp only [List.length_map] at ho1 hA ⊢
  have f6 : (ndX n (.slice ka n.kids.length kc) (.slice aa n.atts.length ac) (.slice da n.dcls.length dc))[6]? = some (.slice aa n.atts.length ac) := rfl
  generalize hnd : ndX n (.slice ka n.kids.length kc) (.slice aa n.atts.length ac) (.slice da n.dcls.length dc) = nd at *
  simp -implicitDefEqProofs only [go_sem, ↓aj, ↓ah, ak, Nat.reduceBEq, ↓reduceIte, reduceCtorEq, Nat.reduceEqDiff, Nat.reduceAdd, Nat.reduceLeDiff, Int.reduceEq, Int.reduceLT, Int.reduceLE, Int.reduceAdd, Int.reduceToNat, Int.reduceNeg, Nat.reduceMul, Nat.reduceSub, Int.reduceBNe, Int.reduceBEq, abox, f6, aC, bL, aS, Tryz.underlying55, Tryz.underlying52]
  generalize hb1 : st.n = b1 at *
  generalize hs1 : (St.new st _) = s1 at *
  refine ⟨fun m ρ s => ∃ i : Nat, m = n.atts.length - i ∧ i ≤ n.atts.length ∧ ρ 1 = .string (tx lo) ∧ ρ 9 = .slice aa n.atts.length ac ∧ ρ 10 = .int .i64 (n.atts.length : Nat) ∧ ρ 11 = .int .i64 (i : Nat) ∧ Own s ((b1, .cells nd 55 true) :: r) ∧ ∀ (t : Nat) (b : Att), t < i → n.atts[t]? = some b → ¬ (b.pre = [] ∧ b.loc = lo),
    ⟨_, 0, rfl, Nat.zero_le _, rfl, rfl, rfl, rfl, ho1, fun t b h => by omega⟩, ?_⟩
  clear ho1
  rintro _ ρ s ⟨i, rfl, hi, h1, h9, h10, h11, ho, hno⟩
  by_cases hil : i < n.atts.length
  case neg =>
    obtain rfl : i = n.atts.length := by omega
    rw [vO hno] at hk
    simp -implicitDefEqProofs only [go_sem, ↓aj, ↓ah, ak, Nat.reduceBEq, ↓reduceIte, reduceCtorEq, Nat.reduceEqDiff, Nat.reduceAdd, Nat.reduceLeDiff, Int.reduceEq, Int.reduceLT, Int.reduceLE, Int.reduceAdd, Int.reduceToNat, Int.reduceNeg, Nat.reduceMul, Nat.reduceSub, Int.reduceBNe, Int.reduceBEq, h1, h9, h10, h11, Int.ofNat_lt, Nat.lt_irrefl, decide_false]
    exact hk _ ho.tail
  obtain ⟨a, ha⟩ : ∃ a, n.atts[i]? = some a := ⟨n.atts[i], List.getElem?_eq_getElem hil⟩
  obtain ⟨x, o, sp, c, ccs, ty, own, hvx, hmem, hcut⟩ := hA.mem (i := i) (l := attC a) (by simp [ha])
  rw [List.length_map] at hvx
  injection hvx with hvx _ hvc
  subst hvx hvc
  have hcx := ho.get (List.mem_cons_of_mem _ hmem)
  have hnx : ¬ x = s.n := ho.fresh (List.mem_cons_of_mem _ hmem)
  have hli : ((i : Int) < (n.atts.length : Int)) = True := eq_true (by omega)
  have hge : ((0 : Int) ≤ (i : Int)) = True := eq_true (by omega)
  have hon := (ho.new (.cells [.string ⟨#[]⟩, .string ⟨#[]⟩, .string ⟨#[]⟩, .string ⟨#[]⟩] 59 true)).set rfl (.cells (attC a) 59 true) rfl
  have hsetA : setL [.string ⟨#[]⟩, .string ⟨#[]⟩, .string ⟨#[]⟩, .string ⟨#[]⟩] 0 (attC a) = attC a := rfl
  have g0 : (attC a)[0]? = some (.string (tx a.pre)) := rfl
  have g1 : (attC a)[1]? = some (.string (tx a.loc)) := rfl
  have g3 : (attC a)[3]? = some (.string (tx a.val)) := rfl
  have w1 : IntKind.i64.wrap ((i : Int) + 1) = ((i + 1 : Nat) : Int) := by rw [bH (by omega)]; omega
  have hil' : i + 1 ≤ n.atts.length := hil
  have hep : astr .eql (tx a.pre) ⟨#[]⟩ = some (.bool (decide (a.pre = []))) := aB a.pre []
  have hel := aB a.loc lo
  have hno' : ¬ (a.pre = [] ∧ a.loc = lo) → ∀ (t : Nat) (b : Att), t < i + 1 → n.atts[t]? = some b → ¬ (b.pre = [] ∧ b.loc = lo) := fun h t b ht hb' => by
    by_cases hti : t = i
    · subst hti
      rw [ha] at hb'
      injection hb' with hb'
      rw [← hb']; exact h
    · exact hno t b (by omega) hb'
  by_cases hp : a.pre = []
  · rw [decide_eq_true hp] at hep
    by_cases hl : a.loc = lo
    · rw [decide_eq_true hl] at hel
      rw [zT ha hno ⟨hp, hl⟩] at hk
      simp -implicitDefEqProofs only [go_sem, ↓aj, ↓ah, ak, Nat.reduceBEq, ↓reduceIte, reduceCtorEq, Nat.reduceEqDiff, Nat.reduceAdd, Nat.reduceLeDiff, Int.reduceEq, Int.reduceLT, Int.reduceLE, Int.reduceAdd, Int.reduceToNat, Int.reduceNeg, Nat.reduceMul, Nat.reduceSub, Int.reduceBNe, Int.reduceBEq, h1, h9, h10, h11, hli, hge, hcx, hcut, hnx, and_self, true_and, decide_true, Int.toNat_natCast, bL, dL, kY, bB, hsetA, Tryz.underlying52, Tryz.underlying59]
      generalize hb5 : s.n = b5 at *
      refine ⟨⟨rfl, rfl⟩, ?_⟩
      generalize hs5 : (s.new _).set _ _ = s5 at *
      have hc5 := hon.head
      simp -implicitDefEqProofs only [go_sem, ↓aj, ↓ah, ak, Nat.reduceBEq, ↓reduceIte, reduceCtorEq, Nat.reduceEqDiff, Nat.reduceAdd, Nat.reduceLeDiff, Int.reduceEq, Int.reduceLT, Int.reduceLE, Int.reduceAdd, Int.reduceToNat, Int.reduceNeg, Nat.reduceMul, Nat.reduceSub, Int.reduceBNe, Int.reduceBEq, h1, h9, h10, h11, hc5, g0, g1, g3, hep, hel, dS, fB, fH, dL, asz9, Tryz.underlying59, Tryz.underlying9]
      exact hk _ hon.tail.tail
    · rw [decide_eq_false hl] at hel
      have hno2 := hno' (fun h => hl h.2)
      simp -implicitDefEqProofs only [go_sem, ↓aj, ↓ah, ak, Nat.reduceBEq, ↓reduceIte, reduceCtorEq, Nat.reduceEqDiff, Nat.reduceAdd, Nat.reduceLeDiff, Int.reduceEq, Int.reduceLT, Int.reduceLE, Int.reduceAdd, Int.reduceToNat, Int.reduceNeg, Nat.reduceMul, Nat.reduceSub, Int.reduceBNe, Int.reduceBEq, h1, h9, h10, h11, hli, hge, hcx, hcut, hnx, and_self, true_and, decide_true, Int.toNat_natCast, bL, dL, kY, bB, hsetA, Tryz.underlying52, Tryz.underlying59]
      generalize hb5 : s.n = b5 at *
      refine ⟨⟨rfl, rfl⟩, ?_⟩
      generalize hs5 : (s.new _).set _ _ = s5 at *
      have hc5 := hon.head
      have ho7 := hon.tail
      simp -implicitDefEqProofs only [go_sem, ↓aj, ↓ah, ak, Nat.reduceBEq, ↓reduceIte, reduceCtorEq, Nat.reduceEqDiff, Nat.reduceAdd, Nat.reduceLeDiff, Int.reduceEq, Int.reduceLT, Int.reduceLE, Int.reduceAdd, Int.reduceToNat, Int.reduceNeg, Nat.reduceMul, Nat.reduceSub, Int.reduceBNe, Int.reduceBEq, h1, h9, h10, h11, w1, hc5, g0, g1, g3, hep, hel, dS, fB, fH, dL, asz9, Tryz.underlying59, Tryz.underlying9]
      refine ⟨n.atts.length - (i + 1), by omega, i + 1, ?_⟩
      (repeat' first | assumption | exact rfl | apply And.intro)
  · rw [decide_eq_false hp] at hep
    have hno2 := hno' (fun h => hp h.1)
    simp -implicitDefEqProofs only [go_sem, ↓aj, ↓ah, ak, Nat.reduceBEq, ↓reduceIte, reduceCtorEq, Nat.reduceEqDiff, Nat.reduceAdd, Nat.reduceLeDiff, Int.reduceEq, Int.reduceLT, Int.reduceLE, Int.reduceAdd, Int.reduceToNat, Int.reduceNeg, Nat.reduceMul, Nat.reduceSub, Int.reduceBNe, Int.reduceBEq, h1, h9, h10, h11, hli, hge, hcx, hcut, hnx, and_self, true_and, decide_true, Int.toNat_natCast, bL, dL, kY, bB, hsetA, Tryz.underlying52, Tryz.underlying59]
    generalize hb5 : s.n = b5 at *
    refine ⟨⟨rfl, rfl⟩, ?_⟩
    generalize hs5 : (s.new _).set _ _ = s5 at *
    have hc5 := hon.head
    have ho7 := hon.tail
    simp -implicitDefEqProofs only [go_sem, ↓aj, ↓ah, ak, Nat.reduceBEq, ↓reduceIte, reduceCtorEq, Nat.reduceEqDiff, Nat.reduceAdd, Nat.reduceLeDiff, Int.reduceEq, Int.reduceLT, Int.reduceLE, Int.reduceAdd, Int.reduceToNat, Int.reduceNeg, Nat.reduceMul, Nat.reduceSub, Int.reduceBNe, Int.reduceBEq, h1, h9, h10, h11, w1, hc5, g0, g1, g3, hep, hel, dS, fB, fH, dL, asz9, Tryz.underlying59, Tryz.underlying9]
    refine ⟨n.atts.length - (i + 1), by omega, i + 1, ?_⟩
    (repeat' first | assumption | exact rfl | apply And.intro)
set_option maxRecDepth 10000 in
theorem BP (st : St) (r : Hp) (n : Nx) (kv av dv : Value) (lo : Tx) (hN : NdX r n kv av dv) (hb : n.atts.length ≤ 1000000) (hO : Own st r) (k q : Value → St → Prop) (hk : ∀ st', Own st' r → k (optR (attX n lo)) st') : aA (C base w0 G) 27 [.agg (ndX n kv av dv).toArray, .string (tx lo)] st k q := by
  obtain ⟨ka, kc, hkv1, _⟩ := hN.kid.isSlice
  obtain ⟨aa, ac, hav1, _⟩ := hN.att.isSlice
  obtain ⟨da, dc, hdv1, _⟩ := hN.dcl.isSlice
  have hA := hN.att
  subst hkv1 hav1 hdv1
  refine aA.of (cx := C base w0 G) mixed Tryz.func27 rfl (by kernel_rfl) (by simp [Tryz.ntmps27]) ?_
  simp only [Tryz.results27]
  have ho1 := hO.new (.cells (ndX n (.slice ka (n.kids.map fun k => [Value.int .i64 k]).length kc) (.slice aa (n.atts.map attC).length ac) (.slice da (n.dcls.map dclC).length dc)) 55 true)
  simp only [List.length_map] at ho1 hA ⊢
  have f6 : (ndX n (.slice ka n.kids.length kc) (.slice aa n.atts.length ac) (.slice da n.dcls.length dc))[6]? = some (.slice aa n.atts.length ac) := rfl
  generalize hnd : ndX n (.slice ka n.kids.length kc) (.slice aa n.atts.length ac) (.slice da n.dcls.length dc) = nd at *
  simp -implicitDefEqProofs only [go_sem, ↓aj, ↓ah, ak, Nat.reduceBEq, ↓reduceIte, reduceCtorEq, Nat.reduceEqDiff, Nat.reduceAdd, Nat.reduceLeDiff, Int.reduceEq, Int.reduceLT, Int.reduceLE, Int.reduceAdd, Int.reduceToNat, Int.reduceNeg, Nat.reduceMul, Nat.reduceSub, Int.reduceBNe, Int.reduceBEq, abox]
  generalize hb1 : st.n = b1 at *
  generalize hs1 : (St.new st _) = s1 at *
  refine ⟨fun m ρ s => ∃ i : Nat, m = n.atts.length - i ∧ i ≤ n.atts.length ∧ ρ 1 = .string (tx lo) ∧ ρ 2 = .pointer (some ⟨b1, 0, none⟩) ∧ ρ 6 = .int .i64 (i : Nat) ∧ Own s ((b1, .cells nd 55 true) :: r) ∧ ∀ (t : Nat) (b : Att), t < i → n.atts[t]? = some b → ¬ (b.pre = [] ∧ b.loc = lo),
    ⟨_, 0, rfl, Nat.zero_le _, rfl, rfl, rfl, ho1, fun t b h => by omega⟩, ?_⟩
  clear ho1
  rintro _ ρ s ⟨i, rfl, hi, h1, h2, h6, ho, hno⟩
  have hcn := ho.head
  by_cases hil : i < n.atts.length
  case neg =>
    obtain rfl : i = n.atts.length := by omega
    rw [vO hno] at hk
    simp -implicitDefEqProofs only [go_sem, ↓aj, ↓ah, ak, Nat.reduceBEq, ↓reduceIte, reduceCtorEq, Nat.reduceEqDiff, Nat.reduceAdd, Nat.reduceLeDiff, Int.reduceEq, Int.reduceLT, Int.reduceLE, Int.reduceAdd, Int.reduceToNat, Int.reduceNeg, Nat.reduceMul, Nat.reduceSub, Int.reduceBNe, Int.reduceBEq, h1, h2, h6, hcn, f6, Int.ofNat_lt, Nat.lt_irrefl, decide_false, bL, aS, Tryz.underlying52]
    exact hk _ ho.tail
  obtain ⟨a, ha⟩ : ∃ a, n.atts[i]? = some a := ⟨n.atts[i], List.getElem?_eq_getElem hil⟩
  obtain ⟨x, o, sp, c, ccs, ty, own, hvx, hmem, hcut⟩ := hA.mem (i := i) (l := attC a) (by simp [ha])
  rw [List.length_map] at hvx
  injection hvx with hvx _ hvc
  subst hvx hvc
  have hcx := ho.get (List.mem_cons_of_mem _ hmem)
  have hli : ((i : Int) < (n.atts.length : Int)) = True := eq_true (by omega)
  have hge : ((0 : Int) ≤ (i : Int)) = True := eq_true (by omega)
  have g0 := bq hcut (j := 0) (by decide)
  have g1 := bq hcut (j := 1) (by decide)
  have g3 := bq hcut (j := 3) (by decide)
  rw [Nat.add_zero] at g0
  change _ = some (Value.string (tx a.pre)) at g0
  change _ = some (Value.string (tx a.loc)) at g1
  change _ = some (Value.string (tx a.val)) at g3
  have w1 : IntKind.i64.wrap ((i : Int) + 1) = ((i + 1 : Nat) : Int) := by rw [bH (by omega)]; omega
  have hil' : i + 1 ≤ n.atts.length := hil
  have hep : astr .eql (tx a.pre) ⟨#[]⟩ = some (.bool (decide (a.pre = []))) := aB a.pre []
  have hel := aB a.loc lo
  have hno' : ¬ (a.pre = [] ∧ a.loc = lo) → ∀ (t : Nat) (b : Att), t < i + 1 → n.atts[t]? = some b → ¬ (b.pre = [] ∧ b.loc = lo) := fun h t b ht hb' => by
    by_cases hti : t = i
    · subst hti
      rw [ha] at hb'
      injection hb' with hb'
      rw [← hb']; exact h
    · exact hno t b (by omega) hb'
  by_cases hp : a.pre = []
  · rw [decide_eq_true hp] at hep
    by_cases hl : a.loc = lo
    · rw [decide_eq_true hl] at hel
      rw [zT ha hno ⟨hp, hl⟩] at hk
      simp -implicitDefEqProofs only [go_sem, ↓aj, ↓ah, ak, Nat.reduceBEq, ↓reduceIte, reduceCtorEq, Nat.reduceEqDiff, Nat.reduceAdd, Nat.reduceLeDiff, Int.reduceEq, Int.reduceLT, Int.reduceLE, Int.reduceAdd, Int.reduceToNat, Int.reduceNeg, Nat.reduceMul, Nat.reduceSub, Int.reduceBNe, Int.reduceBEq, h1, h2, h6, hli, hge, hcn, f6, hcx, g0, g1, g3, hep, hel, and_self, true_and, decide_true, Int.toNat_natCast, Nat.add_zero, dS, fB, fH, aS, aC, bL, dL, asz9, Tryz.underlying52, Tryz.underlying59, Tryz.underlying9]
      exact hk _ ho.tail
    · rw [decide_eq_false hl] at hel
      have hno2 := hno' (fun h => hl h.2)
      simp -implicitDefEqProofs only [go_sem, ↓aj, ↓ah, ak, Nat.reduceBEq, ↓reduceIte, reduceCtorEq, Nat.reduceEqDiff, Nat.reduceAdd, Nat.reduceLeDiff, Int.reduceEq, Int.reduceLT, Int.reduceLE, Int.reduceAdd, Int.reduceToNat, Int.reduceNeg, Nat.reduceMul, Nat.reduceSub, Int.reduceBNe, Int.reduceBEq, h1, h2, h6, hli, hge, hcn, f6, hcx, g0, g1, g3, hep, hel, w1, and_self, true_and, decide_true, Int.toNat_natCast, Nat.add_zero, dS, fB, fH, aS, aC, bL, dL, asz9, Tryz.underlying52, Tryz.underlying59, Tryz.underlying9]
      refine ⟨n.atts.length - (i + 1), by omega, i + 1, ?_⟩
      (repeat' first | assumption | exact rfl | apply And.intro)
  · rw [decide_eq_false hp] at hep
    have hno2 := hno' (fun h => hp h.1)
    simp -implicitDefEqProofs only [go_sem, ↓aj, ↓ah, ak, Nat.reduceBEq, ↓reduceIte, reduceCtorEq, Nat.reduceEqDiff, Nat.reduceAdd, Nat.reduceLeDiff, Int.reduceEq, Int.reduceLT, Int.reduceLE, Int.reduceAdd, Int.reduceToNat, Int.reduceNeg, Nat.reduceMul, Nat.reduceSub, Int.reduceBNe, Int.reduceBEq, h1, h2, h6, hli, hge, hcn, f6, hcx, g0, g1, g3, hep, hel, w1, and_self, true_and, decide_true, Int.toNat_natCast, Nat.add_zero, dS, fB, fH, aS, aC, bL, dL, asz9, Tryz.underlying52, Tryz.underlying59, Tryz.underlying9]
    refine ⟨n.atts.length - (i + 1), by omega, i + 1, ?_⟩
    (repeat' first | assumption | exact rfl | apply And.intro)
end Go.Proofs.YtigjbehgfjjlkaaGreatDoor
set_option linter.unusedVariables false
set_option linter.unusedSimpArgs false
namespace Go.Proofs.YtigjbehgfjjlkaaGreatDoor
open Go Go.Abs Go.RowKit Go.Xml
variable {base : Nat} {w0 : World} {G : Nat}
def oJ : List Int → Value
  | [] => .tuple #[.int .i64 0, .int .i64 20]
  | [i] => .tuple #[.int .i64 i, .int .i64 0]
  | _ => .tuple #[.int .i64 0, .int .i64 33]
end Go.Proofs.YtigjbehgfjjlkaaGreatDoor
set_option linter.unusedVariables false
set_option linter.unusedSimpArgs false
namespace Go.Proofs.YtigjbehgfjjlkaaGreatDoor
open Go Go.Abs Go.RowKit Go.Xml
variable {base : Nat} {w0 : World} {G : Nat}
theorem oK {ns : List Nx} {i : Int} (h : bg ns i = true) : ∃ (j : Nat) (n : Nx), i = j ∧ ns[j]? = some n ∧ n.kind = 1 := by
  unfold bg at h
  rw [Bool.and_eq_true, decide_eq_true_eq] at h
  obtain ⟨h0, h1⟩ := h
  cases hn : ns[i.toNat]? with
  | none => rw [hn] at h1; cases h1
  | some n => rw [hn] at h1; exact ⟨i.toNat, n, by omega, hn, of_decide_eq_true h1⟩
set_option maxRecDepth 10000 in
theorem BQ (st : St) (r : Hp) (v : Value) (ns : List Nx) (i : Int) (hD : DocX r v ns) (hb : BndX ns) (hO : Own st r) (k q : Value → St → Prop) (hk : ∀ st', Own st' r → k (.bool (aH ns && bg ns i)) st') : aA (C base w0 G) 19 [.agg #[v], .int .i64 i] st k q := by
  obtain ⟨va, vc, hva⟩ := hD.isSlice
  subst hva
  refine aA.of (cx := C base w0 G) mixed Tryz.func19 rfl (by kernel_rfl) (by simp [Tryz.ntmps19]) ?_
  simp only [Tryz.results19]
  have ho1 := hO.new (.cells [.slice va ns.length vc] 24 true)
  have hD1 := hD.sub (H' := (st.n, Ob.cells [.slice va ns.length vc] 24 true) :: r) fun e he => List.mem_cons_of_mem _ he
  have hcl : cut [Value.slice va ns.length vc] 0 1 = some [Value.slice va ns.length vc] := rfl
  simp -implicitDefEqProofs only [go_sem, ↓aj, ↓ah, ak, Nat.reduceBEq, ↓reduceIte, reduceCtorEq, Nat.reduceEqDiff, Nat.reduceAdd, Nat.reduceLeDiff, Int.reduceEq, Int.reduceLT, Int.reduceLE, Int.reduceAdd, Int.reduceToNat, Int.reduceNeg, Nat.reduceMul, Nat.reduceSub, Int.reduceBNe, Int.reduceBEq, abox, hcl, bW, Tryz.underlying24, Option.map_some]
  refine ay.enter Tryz.func10 rfl (by kernel_rfl) (qH _ _ _ ns hD1 hb ho1 _ _ fun s1 ho => ?_)
  have hc1 := ho.head
  generalize hb1 : st.n = b1 at *
  cases hr : aH ns with
  | false =>
    rw [hr] at hk
    simp -implicitDefEqProofs only [go_sem, ↓aj, ↓ah, ak, Nat.reduceBEq, ↓reduceIte, reduceCtorEq, Nat.reduceEqDiff, Nat.reduceAdd, Nat.reduceLeDiff, Int.reduceEq, Int.reduceLT, Int.reduceLE, Int.reduceAdd, Int.reduceToNat, Int.reduceNeg, Nat.reduceMul, Nat.reduceSub, Int.reduceBNe, Int.reduceBEq]
    exact hk _ ho.tail
  | true =>
  rw [hr, Bool.true_and] at hk
  by_cases h0 : 0 ≤ i
  case neg =>
    have he : bg ns i = false := by unfold bg; rw [decide_eq_false h0]; rfl
    rw [he] at hk
    simp -implicitDefEqProofs only [go_sem, ↓aj, ↓ah, ak, Nat.reduceBEq, ↓reduceIte, reduceCtorEq, Nat.reduceEqDiff, Nat.reduceAdd, Nat.reduceLeDiff, Int.reduceEq, Int.reduceLT, Int.reduceLE, Int.reduceAdd, Int.reduceToNat, Int.reduceNeg, Nat.reduceMul, Nat.reduceSub, Int.reduceBNe, Int.reduceBEq, eq_false (show ¬ (i ≥ 0) from h0), decide_false]
    exact hk _ ho.tail
  obtain ⟨j, rfl⟩ : ∃ j : Nat, i = j := ⟨i.toNat, by omega⟩
  have ge0 : ((j : Int) ≥ 0) = True := eq_true (by omega)
  have hge : ((0 : Int) ≤ (j : Int)) = True := eq_true (by omega)
  by_cases hj : j < ns.length
  case neg =>
    have hn : ns[j]? = none := List.getElem?_eq_none (by omega)
    have he : bg ns (j : Int) = false := by unfold bg; rw [Int.toNat_natCast, hn]; simp
    rw [he] at hk
    have hlj : ((j : Int) < (ns.length : Int)) = False := eq_false (by omega)
    simp -implicitDefEqProofs only [go_sem, ↓aj, ↓ah, ak, Nat.reduceBEq, ↓reduceIte, reduceCtorEq, Nat.reduceEqDiff, Nat.reduceAdd, Nat.reduceLeDiff, Int.reduceEq, Int.reduceLT, Int.reduceLE, Int.reduceAdd, Int.reduceToNat, Int.reduceNeg, Nat.reduceMul, Nat.reduceSub, Int.reduceBNe, Int.reduceBEq, ge0, hlj, hc1, decide_true, decide_false, aQ, aU, Tryz.underlying22, List.getElem?_cons_zero]
    exact hk _ ho.tail
  obtain ⟨n, hn⟩ : ∃ n, ns[j]? = some n := ⟨ns[j], List.getElem?_eq_getElem hj⟩
  obtain ⟨x, o, sp, c, ccs, ty, own, kv, av, dv, hvx, hmem, hcut, hget, hnr⟩ := hD.at hn
  injection hvx with hvx _ hvc
  subst hvx hvc
  have hcx := ho.get (List.mem_cons_of_mem _ hmem)
  have q0 := hget 0 (by decide)
  rw [Nat.add_zero] at q0
  change ccs[o + j * 9]? = some (.int .i64 n.kind) at q0
  have hlj : ((j : Int) < (ns.length : Int)) = True := eq_true (by omega)
  have he : bg ns (j : Int) = (n.kind == 1) := by
    unfold bg
    rw [Int.toNat_natCast, hn, decide_eq_true (by omega)]
    show (true && decide (n.kind = 1)) = _
    rw [Bool.true_and]
    by_cases hk1 : n.kind = 1
    · rw [hk1]; rfl
    · rw [decide_eq_false hk1, beq_eq_false_iff_ne.2 hk1]
  rw [he] at hk
  simp -implicitDefEqProofs only [go_sem, ↓aj, ↓ah, ak, Nat.reduceBEq, ↓reduceIte, reduceCtorEq, Nat.reduceEqDiff, Nat.reduceAdd, Nat.reduceLeDiff, Int.reduceEq, Int.reduceLT, Int.reduceLE, Int.reduceAdd, Int.reduceToNat, Int.reduceNeg, Nat.reduceMul, Nat.reduceSub, Int.reduceBNe, Int.reduceBEq, ge0, hge, hlj, hc1, hcx, q0, decide_true, and_self, true_and, Int.toNat_natCast, Nat.add_zero, aQ, aN, aU, aC, asz3, Tryz.underlying22, Tryz.underlying55, Tryz.underlying3, List.getElem?_cons_zero]
  exact hk _ ho.tail
theorem DocX.par {H : Hp} {v : Value} {ns : List Nx} (h : DocX H v ns) {i : Nat} {n : Nx} (hi : ns[i]? = some n) {x : Nat} {o : Nat} {sp : Option Nat} {c : Nat} (hv : v = .slice (some ⟨x, o, sp⟩) ns.length c) :
    ∃ ccs ty own, (x, Ob.cells ccs ty own) ∈ H ∧ ccs[o + i * 9 + 1]? = some (.int .i64 n.par) := by
  obtain ⟨x', o', sp', c', ccs, ty, own, kv, av, dv, hvx, hmem, hcut, hget, hnr⟩ := h.at hi
  rw [hv] at hvx
  injection hvx with hvx _ hvc
  injection hvx with hvx
  injection hvx with e1 e2 e3
  subst e1 e2 e3 hvc
  exact ⟨ccs, ty, own, hmem, hget 1 (by decide)⟩
end Go.Proofs.YtigjbehgfjjlkaaGreatDoor
set_option linter.unusedVariables false
set_option linter.unusedSimpArgs false
namespace Go.Proofs.YtigjbehgfjjlkaaGreatDoor
open Go Go.Abs Go.RowKit Go.Xml
variable {base : Nat} {w0 : World} {G : Nat}
def askC (I J : Int) (sp lo : Tx) : List Value := [.int .i64 I, .int .i64 J, .string (tx sp), .string (tx lo)]
theorem FL (l : List Int) : ∃ a e, oJ l = .tuple #[.int .i64 a, .int .i64 e] := by
  match l with
  | [] => exact ⟨_, _, rfl⟩
  | [_] => exact ⟨_, _, rfl⟩
  | _ :: _ :: _ => exact ⟨_, _, rfl⟩
theorem CF (o : Option Tx) : ∃ u b, optR o = .tuple #[.string (tx u), .bool b] := by
  match o with
  | none => exact ⟨[], false, rfl⟩
  | some u => exact ⟨u, true, rfl⟩
end Go.Proofs.YtigjbehgfjjlkaaGreatDoor
