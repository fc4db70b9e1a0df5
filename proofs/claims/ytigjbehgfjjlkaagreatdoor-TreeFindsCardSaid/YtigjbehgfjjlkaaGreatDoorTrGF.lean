/- An attribute of a node: by the tree, by the reference. No conditions. -/
import Derived.Test.YtigjbehgfjjlkaaGreatDoorTrGC
import Derived.Test.YtigjbehgfjjlkaaGreatDoorTrGB
import Derived.Test.YtigjbehgfjjlkaaGreatDoorTrGD
import Derived.Test.YtigjbehgfjjlkaaGreatDoorXmGE
import Derived.Test.YtigjbehgfjjlkaaGreatDoorTrGE
set_option linter.unusedVariables false
set_option linter.unusedSimpArgs false
namespace Go.Proofs.YtigjbehgfjjlkaaGreatDoor
open Go Go.Abs Go.RowKit Go.Xml
variable {base : Nat} {w0 : World} {G : Nat}
def optR : Option Tx → Value
  | some v => .tuple #[.string (tx v), .bool true]
  | none => .tuple #[.string ⟨#[]⟩, .bool false]
theorem zB {n : Nx} {lo : Tx} {j : Nat} {a : Att} (ha : n.atts[j]? = some a) (hno : ∀ (t : Nat) (b : Att), t < j → n.atts[t]? = some b → ¬ (b.pre = [] ∧ b.loc = lo)) (h : a.pre = [] ∧ a.loc = lo) : attX n lo = some a.val := by
  have hj := (List.getElem?_eq_some_iff.1 ha).1
  have : n.atts.find? (fun a => decide (a.pre = []) && decide (a.loc = lo)) = some a := by
    rw [List.find?_eq_some_iff_getElem]
    refine ⟨by simp [h.1, h.2], j, hj, (List.getElem?_eq_some_iff.1 ha).2, fun t ht => ?_⟩
    have := hno t _ ht (List.getElem?_eq_getElem (by omega))
    by_cases hp : (n.atts[t]'(by omega)).pre = []
    · have hl : ¬ (n.atts[t]'(by omega)).loc = lo := fun hl => this ⟨hp, hl⟩
      simp [hl]
    · simp [hp]
  unfold attX
  rw [this]
  rfl
theorem vv {n : Nx} {lo : Tx} (hno : ∀ (t : Nat) (b : Att), t < n.atts.length → n.atts[t]? = some b → ¬ (b.pre = [] ∧ b.loc = lo)) : attX n lo = none := by
  have : n.atts.find? (fun a => decide (a.pre = []) && decide (a.loc = lo)) = none := by
    rw [List.find?_eq_none]
    intro a ha
    obtain ⟨t, ht, rfl⟩ := List.getElem_of_mem ha
    have := hno t _ ht (List.getElem?_eq_getElem ht)
    simpa using this
  unfold attX
  rw [this]
  rfl
set_option maxRecDepth 10000 in
theorem Bv (st : St) (r : Hp) (n : Nx) (kv av dv : Value) (lo : Tx) (hN : NdX r n kv av dv) (hb : n.atts.length ≤ 1000000) (hO : Own st r) (k q : Value → St → Prop) (hk : ∀ st', Own st' r → k (optR (attX n lo)) st') : ay (C base w0 G) 41 [.agg (ndX n kv av dv).toArray, .string (tx lo)] st k q := by
  obtain ⟨ka, kc, hkv1, _⟩ := hN.kid.isSlice
  obtain ⟨aa, ac, hav1, _⟩ := hN.att.isSlice
  obtain ⟨da, dc, hdv1, _⟩ := hN.dcl.isSlice
  have hA := hN.att
  subst hkv1 hav1 hdv1
  refine ay.of (cx := C base w0 G) mixed Tryz.func41 rfl (by kernel_rfl) (by simp [Tryz.ntmps41]) ?_
  simp only [Tryz.results41]
  have ho1 := hO.new (.cells (ndX n (.slice ka (n.kids.map fun k => [Value.int .i64 k]).length kc) (.slice aa (n.atts.map attC).length ac) (.slice da (n.dcls.map dclC).length dc)) 55 true)
  simp only [List.length_map] at ho1 hA ⊢
  have f6 : (ndX n (.slice ka n.kids.length kc) (.slice aa n.atts.length ac) (.slice da n.dcls.length dc))[6]? = some (.slice aa n.atts.length ac) := rfl
  generalize hnd : ndX n (.slice ka n.kids.length kc) (.slice aa n.atts.length ac) (.slice da n.dcls.length dc) = nd at *
  simp -implicitDefEqProofs only [go_sem, ↓aj, ↓ah, ak, Nat.reduceBEq, ↓reduceIte, reduceCtorEq, Nat.reduceEqDiff, Nat.reduceAdd, Nat.reduceLeDiff, Int.reduceEq, Int.reduceLT, Int.reduceLE, Int.reduceAdd, Int.reduceToNat, Int.reduceNeg, Nat.reduceMul, Nat.reduceSub, Int.reduceBNe, Int.reduceBEq, abox, f6, aB, bH, aP, Tryz.underlying55, Tryz.underlying52]
  generalize hb1 : st.n = b1 at *
  generalize hs1 : (St.new st _) = s1 at *
  refine ⟨fun m ρ s => ∃ i : Nat, m = n.atts.length - i ∧ i ≤ n.atts.length ∧ ρ 1 = .string (tx lo) ∧ ρ 9 = .slice aa n.atts.length ac ∧ ρ 10 = .int .i64 (n.atts.length : Nat) ∧ ρ 11 = .int .i64 (i : Nat) ∧ Own s ((b1, .cells nd 55 true) :: r) ∧ ∀ (t : Nat) (b : Att), t < i → n.atts[t]? = some b → ¬ (b.pre = [] ∧ b.loc = lo),
    ⟨_, 0, rfl, Nat.zero_le _, rfl, rfl, rfl, rfl, ho1, fun t b h => by omega⟩, ?_⟩
  clear ho1
  rintro _ ρ s ⟨i, rfl, hi, h1, h9, h10, h11, ho, hno⟩
  by_cases hil : i < n.atts.length
  case neg =>
    obtain rfl : i = n.atts.length := by omega
    rw [vv hno] at hk
    simp -implicitDefEqProofs only [go_sem, ↓aj, ↓ah, ak, Nat.reduceBEq, ↓reduceIte, reduceCtorEq, Nat.reduceEqDiff, Nat.reduceAdd, Nat.reduceLeDiff, Int.reduceEq, Int.reduceLT, Int.reduceLE, Int.reduceAdd, Int.reduceToNat, Int.reduceNeg, Nat.reduceMul, Nat.reduceSub, Int.reduceBNe, Int.reduceBEq, h1, h9, h10, h11, Int.ofNat_lt, Nat.lt_irrefl, decide_false]
    exact hk _ ho.tail
  obtain ⟨a, ha⟩ : ∃ a, n.atts[i]? = some a := ⟨n.atts[i], List.getElem?_eq_getElem hil⟩
  obtain ⟨x, o, sp, c, ccs, ty, own, hvx, hmem, hcut⟩ := hA.mem (i := i) (l := attC a) (by simp [ha])
  rw [List.length_map] at hvx
  injection hvx with hvx _ hvc
  subst hvx hvc
  have hcx := ho.get (List.mem_cons_of_mem _ hmem)
  have hnx : ¬ x = s.n := ho.fresh (List.mem_cons_of_mem _ hmem)
  have hli : ((i : Int) < (n.atts.length : Int)) = True := eq_true (by omega)
  have hge : ((0 : Int) ≤ (i : Int)) = True := eq_true (by omega)
  have hon := (ho.new (.cells [.string ⟨#[]⟩, .string ⟨#[]⟩, .string ⟨#[]⟩, .string ⟨#[]⟩] 59 true)).set rfl (.cells (attC a) 59 true) rfl
  have hsetA : setL [.string ⟨#[]⟩, .string ⟨#[]⟩, .string ⟨#[]⟩, .string ⟨#[]⟩] 0 (attC a) = attC a := rfl
  have g0 : (attC a)[0]? = some (.string (tx a.pre)) := rfl
  have g1 : (attC a)[1]? = some (.string (tx a.loc)) := rfl
  have g3 : (attC a)[3]? = some (.string (tx a.val)) := rfl
  have w1 : IntKind.i64.wrap ((i : Int) + 1) = ((i + 1 : Nat) : Int) := by rw [bL (by omega)]; omega
  have hil' : i + 1 ≤ n.atts.length := hil
  have hep : astr .eql (tx a.pre) ⟨#[]⟩ = some (.bool (decide (a.pre = []))) := aA a.pre []
  have hel := aA a.loc lo
  have hno' : ¬ (a.pre = [] ∧ a.loc = lo) → ∀ (t : Nat) (b : Att), t < i + 1 → n.atts[t]? = some b → ¬ (b.pre = [] ∧ b.loc = lo) := fun h t b ht hb' => by
    by_cases hti : t = i
    · subst hti
      rw [ha] at hb'
      injection hb' with hb'
      rw [← hb']; exact h
    · exact hno t b (by omega) hb'
  by_cases hp : a.pre = []
  · rw [decide_eq_true hp] at hep
    by_cases hl : a.loc = lo
    · rw [decide_eq_true hl] at hel
      rw [zB ha hno ⟨hp, hl⟩] at hk
      simp -implicitDefEqProofs only [go_sem, ↓aj, ↓ah, ak, Nat.reduceBEq, ↓reduceIte, reduceCtorEq, Nat.reduceEqDiff, Nat.reduceAdd, Nat.reduceLeDiff, Int.reduceEq, Int.reduceLT, Int.reduceLE, Int.reduceAdd, Int.reduceToNat, Int.reduceNeg, Nat.reduceMul, Nat.reduceSub, Int.reduceBNe, Int.reduceBEq, h1, h9, h10, h11, hli, hge, hcx, hcut, hnx, and_self, true_and, decide_true, Int.toNat_natCast, bH, dD, kN, aX, hsetA, Tryz.underlying52, Tryz.underlying59]
      generalize hb5 : s.n = b5 at *
      refine ⟨⟨rfl, rfl⟩, ?_⟩
      generalize hs5 : (s.new _).set _ _ = s5 at *
      have hc5 := hon.head
      simp -implicitDefEqProofs only [go_sem, ↓aj, ↓ah, ak, Nat.reduceBEq, ↓reduceIte, reduceCtorEq, Nat.reduceEqDiff, Nat.reduceAdd, Nat.reduceLeDiff, Int.reduceEq, Int.reduceLT, Int.reduceLE, Int.reduceAdd, Int.reduceToNat, Int.reduceNeg, Nat.reduceMul, Nat.reduceSub, Int.reduceBNe, Int.reduceBEq, h1, h9, h10, h11, hc5, g0, g1, g3, hep, hel, dI, eX, fE, dD, asz9, Tryz.underlying59, Tryz.underlying9]
      exact hk _ hon.tail.tail
    · rw [decide_eq_false hl] at hel
      have hno2 := hno' (fun h => hl h.2)
      simp -implicitDefEqProofs only [go_sem, ↓aj, ↓ah, ak, Nat.reduceBEq, ↓reduceIte, reduceCtorEq, Nat.reduceEqDiff, Nat.reduceAdd, Nat.reduceLeDiff, Int.reduceEq, Int.reduceLT, Int.reduceLE, Int.reduceAdd, Int.reduceToNat, Int.reduceNeg, Nat.reduceMul, Nat.reduceSub, Int.reduceBNe, Int.reduceBEq, h1, h9, h10, h11, hli, hge, hcx, hcut, hnx, and_self, true_and, decide_true, Int.toNat_natCast, bH, dD, kN, aX, hsetA, Tryz.underlying52, Tryz.underlying59]
      generalize hb5 : s.n = b5 at *
      refine ⟨⟨rfl, rfl⟩, ?_⟩
      generalize hs5 : (s.new _).set _ _ = s5 at *
      have hc5 := hon.head
      have ho7 := hon.tail
      simp -implicitDefEqProofs only [go_sem, ↓aj, ↓ah, ak, Nat.reduceBEq, ↓reduceIte, reduceCtorEq, Nat.reduceEqDiff, Nat.reduceAdd, Nat.reduceLeDiff, Int.reduceEq, Int.reduceLT, Int.reduceLE, Int.reduceAdd, Int.reduceToNat, Int.reduceNeg, Nat.reduceMul, Nat.reduceSub, Int.reduceBNe, Int.reduceBEq, h1, h9, h10, h11, w1, hc5, g0, g1, g3, hep, hel, dI, eX, fE, dD, asz9, Tryz.underlying59, Tryz.underlying9]
      refine ⟨n.atts.length - (i + 1), by omega, i + 1, ?_⟩
      (repeat' first | assumption | exact rfl | apply And.intro)
  · rw [decide_eq_false hp] at hep
    have hno2 := hno' (fun h => hp h.1)
    simp -implicitDefEqProofs only [go_sem, ↓aj, ↓ah, ak, Nat.reduceBEq, ↓reduceIte, reduceCtorEq, Nat.reduceEqDiff, Nat.reduceAdd, Nat.reduceLeDiff, Int.reduceEq, Int.reduceLT, Int.reduceLE, Int.reduceAdd, Int.reduceToNat, Int.reduceNeg, Nat.reduceMul, Nat.reduceSub, Int.reduceBNe, Int.reduceBEq, h1, h9, h10, h11, hli, hge, hcx, hcut, hnx, and_self, true_and, decide_true, Int.toNat_natCast, bH, dD, kN, aX, hsetA, Tryz.underlying52, Tryz.underlying59]
    generalize hb5 : s.n = b5 at *
    refine ⟨⟨rfl, rfl⟩, ?_⟩
    generalize hs5 : (s.new _).set _ _ = s5 at *
    have hc5 := hon.head
    have ho7 := hon.tail
    simp -implicitDefEqProofs only [go_sem, ↓aj, ↓ah, ak, Nat.reduceBEq, ↓reduceIte, reduceCtorEq, Nat.reduceEqDiff, Nat.reduceAdd, Nat.reduceLeDiff, Int.reduceEq, Int.reduceLT, Int.reduceLE, Int.reduceAdd, Int.reduceToNat, Int.reduceNeg, Nat.reduceMul, Nat.reduceSub, Int.reduceBNe, Int.reduceBEq, h1, h9, h10, h11, w1, hc5, g0, g1, g3, hep, hel, dI, eX, fE, dD, asz9, Tryz.underlying59, Tryz.underlying9]
    refine ⟨n.atts.length - (i + 1), by omega, i + 1, ?_⟩
    (repeat' first | assumption | exact rfl | apply And.intro)
set_option maxRecDepth 10000 in
theorem Bw (st : St) (r : Hp) (n : Nx) (kv av dv : Value) (lo : Tx) (hN : NdX r n kv av dv) (hb : n.atts.length ≤ 1000000) (hO : Own st r) (k q : Value → St → Prop) (hk : ∀ st', Own st' r → k (optR (attX n lo)) st') : ay (C base w0 G) 27 [.agg (ndX n kv av dv).toArray, .string (tx lo)] st k q := by
  obtain ⟨ka, kc, hkv1, _⟩ := hN.kid.isSlice
  obtain ⟨aa, ac, hav1, _⟩ := hN.att.isSlice
  obtain ⟨da, dc, hdv1, _⟩ := hN.dcl.isSlice
  have hA := hN.att
  subst hkv1 hav1 hdv1
  refine ay.of (cx := C base w0 G) mixed Tryz.func27 rfl (by kernel_rfl) (by simp [Tryz.ntmps27]) ?_
  simp only [Tryz.results27]
  have ho1 := hO.new (.cells (ndX n (.slice ka (n.kids.map fun k => [Value.int .i64 k]).length kc) (.slice aa (n.atts.map attC).length ac) (.slice da (n.dcls.map dclC).length dc)) 55 true)
  simp only [List.length_map] at ho1 hA ⊢
  have f6 : (ndX n (.slice ka n.kids.length kc) (.slice aa n.atts.length ac) (.slice da n.dcls.length dc))[6]? = some (.slice aa n.atts.length ac) := rfl
  generalize hnd : ndX n (.slice ka n.kids.length kc) (.slice aa n.atts.length ac) (.slice da n.dcls.length dc) = nd at *
  simp -implicitDefEqProofs only [go_sem, ↓aj, ↓ah, ak, Nat.reduceBEq, ↓reduceIte, reduceCtorEq, Nat.reduceEqDiff, Nat.reduceAdd, Nat.reduceLeDiff, Int.reduceEq, Int.reduceLT, Int.reduceLE, Int.reduceAdd, Int.reduceToNat, Int.reduceNeg, Nat.reduceMul, Nat.reduceSub, Int.reduceBNe, Int.reduceBEq, abox]
  generalize hb1 : st.n = b1 at *
  generalize hs1 : (St.new st _) = s1 at *
  refine ⟨fun m ρ s => ∃ i : Nat, m = n.atts.length - i ∧ i ≤ n.atts.length ∧ ρ 1 = .string (tx lo) ∧ ρ 2 = .pointer (some ⟨b1, 0, none⟩) ∧ ρ 6 = .int .i64 (i : Nat) ∧ Own s ((b1, .cells nd 55 true) :: r) ∧ ∀ (t : Nat) (b : Att), t < i → n.atts[t]? = some b → ¬ (b.pre = [] ∧ b.loc = lo),
    ⟨_, 0, rfl, Nat.zero_le _, rfl, rfl, rfl, ho1, fun t b h => by omega⟩, ?_⟩
  clear ho1
  rintro _ ρ s ⟨i, rfl, hi, h1, h2, h6, ho, hno⟩
  have hcn := ho.head
  by_cases hil : i < n.atts.length
  case neg =>
    obtain rfl : i = n.atts.length := by omega
    rw [vv hno] at hk
    simp -implicitDefEqProofs only [go_sem, ↓aj, ↓ah, ak, Nat.reduceBEq, ↓reduceIte, reduceCtorEq, Nat.reduceEqDiff, Nat.reduceAdd, Nat.reduceLeDiff, Int.reduceEq, Int.reduceLT, Int.reduceLE, Int.reduceAdd, Int.reduceToNat, Int.reduceNeg, Nat.reduceMul, Nat.reduceSub, Int.reduceBNe, Int.reduceBEq, h1, h2, h6, hcn, f6, Int.ofNat_lt, Nat.lt_irrefl, decide_false, bH, aP, Tryz.underlying52]
    exact hk _ ho.tail
  obtain ⟨a, ha⟩ : ∃ a, n.atts[i]? = some a := ⟨n.atts[i], List.getElem?_eq_getElem hil⟩
  obtain ⟨x, o, sp, c, ccs, ty, own, hvx, hmem, hcut⟩ := hA.mem (i := i) (l := attC a) (by simp [ha])
  rw [List.length_map] at hvx
  injection hvx with hvx _ hvc
  subst hvx hvc
  have hcx := ho.get (List.mem_cons_of_mem _ hmem)
  have hli : ((i : Int) < (n.atts.length : Int)) = True := eq_true (by omega)
  have hge : ((0 : Int) ≤ (i : Int)) = True := eq_true (by omega)
  have g0 := bG hcut (j := 0) (by decide)
  have g1 := bG hcut (j := 1) (by decide)
  have g3 := bG hcut (j := 3) (by decide)
  rw [Nat.add_zero] at g0
  change _ = some (Value.string (tx a.pre)) at g0
  change _ = some (Value.string (tx a.loc)) at g1
  change _ = some (Value.string (tx a.val)) at g3
  have w1 : IntKind.i64.wrap ((i : Int) + 1) = ((i + 1 : Nat) : Int) := by rw [bL (by omega)]; omega
  have hil' : i + 1 ≤ n.atts.length := hil
  have hep : astr .eql (tx a.pre) ⟨#[]⟩ = some (.bool (decide (a.pre = []))) := aA a.pre []
  have hel := aA a.loc lo
  have hno' : ¬ (a.pre = [] ∧ a.loc = lo) → ∀ (t : Nat) (b : Att), t < i + 1 → n.atts[t]? = some b → ¬ (b.pre = [] ∧ b.loc = lo) := fun h t b ht hb' => by
    by_cases hti : t = i
    · subst hti
      rw [ha] at hb'
      injection hb' with hb'
      rw [← hb']; exact h
    · exact hno t b (by omega) hb'
  by_cases hp : a.pre = []
  · rw [decide_eq_true hp] at hep
    by_cases hl : a.loc = lo
    · rw [decide_eq_true hl] at hel
      rw [zB ha hno ⟨hp, hl⟩] at hk
      simp -implicitDefEqProofs only [go_sem, ↓aj, ↓ah, ak, Nat.reduceBEq, ↓reduceIte, reduceCtorEq, Nat.reduceEqDiff, Nat.reduceAdd, Nat.reduceLeDiff, Int.reduceEq, Int.reduceLT, Int.reduceLE, Int.reduceAdd, Int.reduceToNat, Int.reduceNeg, Nat.reduceMul, Nat.reduceSub, Int.reduceBNe, Int.reduceBEq, h1, h2, h6, hli, hge, hcn, f6, hcx, g0, g1, g3, hep, hel, and_self, true_and, decide_true, Int.toNat_natCast, Nat.add_zero, dI, eX, fE, aP, aB, bH, dD, asz9, Tryz.underlying52, Tryz.underlying59, Tryz.underlying9]
      exact hk _ ho.tail
    · rw [decide_eq_false hl] at hel
      have hno2 := hno' (fun h => hl h.2)
      simp -implicitDefEqProofs only [go_sem, ↓aj, ↓ah, ak, Nat.reduceBEq, ↓reduceIte, reduceCtorEq, Nat.reduceEqDiff, Nat.reduceAdd, Nat.reduceLeDiff, Int.reduceEq, Int.reduceLT, Int.reduceLE, Int.reduceAdd, Int.reduceToNat, Int.reduceNeg, Nat.reduceMul, Nat.reduceSub, Int.reduceBNe, Int.reduceBEq, h1, h2, h6, hli, hge, hcn, f6, hcx, g0, g1, g3, hep, hel, w1, and_self, true_and, decide_true, Int.toNat_natCast, Nat.add_zero, dI, eX, fE, aP, aB, bH, dD, asz9, Tryz.underlying52, Tryz.underlying59, Tryz.underlying9]
      refine ⟨n.atts.length - (i + 1), by omega, i + 1, ?_⟩
      (repeat' first | assumption | exact rfl | apply And.intro)
  · rw [decide_eq_false hp] at hep
    have hno2 := hno' (fun h => hp h.1)
    simp -implicitDefEqProofs only [go_sem, ↓aj, ↓ah, ak, Nat.reduceBEq, ↓reduceIte, reduceCtorEq, Nat.reduceEqDiff, Nat.reduceAdd, Nat.reduceLeDiff, Int.reduceEq, Int.reduceLT, Int.reduceLE, Int.reduceAdd, Int.reduceToNat, Int.reduceNeg, Nat.reduceMul, Nat.reduceSub, Int.reduceBNe, Int.reduceBEq, h1, h2, h6, hli, hge, hcn, f6, hcx, g0, g1, g3, hep, hel, w1, and_self, true_and, decide_true, Int.toNat_natCast, Nat.add_zero, dI, eX, fE, aP, aB, bH, dD, asz9, Tryz.underlying52, Tryz.underlying59, Tryz.underlying9]
    refine ⟨n.atts.length - (i + 1), by omega, i + 1, ?_⟩
    (repeat' first | assumption | exact rfl | apply And.intro)
end Go.Proofs.YtigjbehgfjjlkaaGreatDoor
set_option linter.unusedVariables false
set_option linter.unusedSimpArgs false
namespace Go.Proofs.YtigjbehgfjjlkaaGreatDoor
open Go Go.Abs Go.RowKit Go.Xml
variable {base : Nat} {w0 : World} {G : Nat}
def isId (id : Tx) (n : Nx) : Bool := decide (attX n [73, 68] = some id) && !decide (id = [])
def bA (ns : List Nx) (id : Tx) : Nat → List Int
  | 0 => []
  | m + 1 => match ns[m]? with
    | some n => if isId id n then bA ns id m ++ [(m : Int)] else bA ns id m
    | none => bA ns id m
def Fh : List Int → Value
  | [] => .tuple #[.int .i64 0, .int .i64 20]
  | [i] => .tuple #[.int .i64 i, .int .i64 0]
  | _ => .tuple #[.int .i64 0, .int .i64 33]
theorem lI {ns : List Nx} {id : Tx} {m : Nat} {n : Nx} (h : ns[m]? = some n) : bA ns id (m + 1) = if isId id n then bA ns id m ++ [(m : Int)] else bA ns id m := by
  conv => lhs; unfold bA
  rw [h]
theorem tF (ns : List Nx) (id : Tx) : ∀ m : Nat, (bA ns id m).length ≤ m
  | 0 => Nat.le_refl _
  | m + 1 => by
    have ih := tF ns id m
    unfold bA
    split
    · split
      · rw [List.length_append, List.length_singleton]; omega
      · omega
    · omega
theorem mX (ns : List Nx) : ∀ m : Nat, bA ns [] m = []
  | 0 => rfl
  | m + 1 => by
    unfold bA
    rw [mX ns m]
    split
    · rw [if_neg (by simp [isId])]
    · rfl
set_option maxRecDepth 10000 in
theorem Bz (st : St) (r : Hp) (v : Value) (ns : List Nx) (id : Tx) (hD : DocX r v ns) (hb : BndX ns) (hO : Own st r) (k q : Value → St → Prop) (hk : ∀ st', Own st' r → k (if aG ns then Fh (bA ns id ns.length) else .tuple #[.int .i64 0, .int .i64 2]) st') : ay (C base w0 G) 15 [.agg #[v], .string (tx id)] st k q := by
  obtain ⟨va, vc, hva⟩ := hD.isSlice
  subst hva
  refine ay.of (cx := C base w0 G) mixed Tryz.func15 rfl (by kernel_rfl) (by simp [Tryz.ntmps15]) ?_
  simp only [Tryz.results15]
  have ho1 := hO.new (.cells [.slice va ns.length vc] 24 true)
  have hD1 := hD.sub (H' := (st.n, Ob.cells [.slice va ns.length vc] 24 true) :: r) fun e he => List.mem_cons_of_mem _ he
  have hcl : cut [Value.slice va ns.length vc] 0 1 = some [Value.slice va ns.length vc] := rfl
  simp -implicitDefEqProofs only [go_sem, ↓aj, ↓ah, ak, Nat.reduceBEq, ↓reduceIte, reduceCtorEq, Nat.reduceEqDiff, Nat.reduceAdd, Nat.reduceLeDiff, Int.reduceEq, Int.reduceLT, Int.reduceLE, Int.reduceAdd, Int.reduceToNat, Int.reduceNeg, Nat.reduceMul, Nat.reduceSub, Int.reduceBNe, Int.reduceBEq, abox, hcl, cB, Tryz.underlying24, Option.map_some]
  refine au.enter Tryz.func13 rfl (by kernel_rfl) (mR _ _ _ ns hD1 hb ho1 _ _ fun s1 ho => ?_)
  have hc1 := ho.head
  generalize hb1 : st.n = b1 at *
  cases hr : aG ns with
  | false =>
    rw [hr, if_neg (by decide)] at hk
    simp -implicitDefEqProofs only [go_sem, ↓aj, ↓ah, ak, Nat.reduceBEq, ↓reduceIte, reduceCtorEq, Nat.reduceEqDiff, Nat.reduceAdd, Nat.reduceLeDiff, Int.reduceEq, Int.reduceLT, Int.reduceLE, Int.reduceAdd, Int.reduceToNat, Int.reduceNeg, Nat.reduceMul, Nat.reduceSub, Int.reduceBNe, Int.reduceBEq]
    exact hk _ ho.tail
  | true =>
  rw [hr, if_pos rfl] at hk
  simp -implicitDefEqProofs only [go_sem, ↓aj, ↓ah, ak, Nat.reduceBEq, ↓reduceIte, reduceCtorEq, Nat.reduceEqDiff, Nat.reduceAdd, Nat.reduceLeDiff, Int.reduceEq, Int.reduceLT, Int.reduceLE, Int.reduceAdd, Int.reduceToNat, Int.reduceNeg, Nat.reduceMul, Nat.reduceSub, Int.reduceBNe, Int.reduceBEq, hc1, aM, aQ, Tryz.underlying22, List.getElem?_cons_zero]
  refine ⟨fun m ρ s => ∃ (i : Nat) (lv : Value) (hg : Hp), m = ns.length - i ∧ i ≤ ns.length ∧ ρ 1 = .string (tx id) ∧ ρ 6 = lv ∧ ρ 15 = .slice va ns.length vc ∧ ρ 16 = .int .i64 (ns.length : Nat) ∧ ρ 17 = .int .i64 (i : Nat) ∧ GV lv (jW (bA ns id i)) (bA ns id i).length 1 3 hg ∧ Own s (hg ++ ((b1, .cells [.slice va ns.length vc] 24 true) :: r)),
    ⟨_, 0, _, [], rfl, Nat.zero_le _, rfl, rfl, rfl, rfl, rfl, GV.nil, ho⟩, ?_⟩
  clear ho hc1
  rintro _ ρ s ⟨i, lv, hg, rfl, hi, h1, h6, h15, h16, h17, hG, ho⟩
  by_cases hil : i < ns.length
  case neg =>
    obtain rfl : i = ns.length := by omega
    obtain ⟨la, hla⟩ := hG.isSlice
    subst hla
    cases hh : bA ns id ns.length with
    | nil =>
      rw [hh] at hk hG
      simp -implicitDefEqProofs only [go_sem, ↓aj, ↓ah, ak, Nat.reduceBEq, ↓reduceIte, reduceCtorEq, Nat.reduceEqDiff, Nat.reduceAdd, Nat.reduceLeDiff, Int.reduceEq, Int.reduceLT, Int.reduceLE, Int.reduceAdd, Int.reduceToNat, Int.reduceNeg, Nat.reduceMul, Nat.reduceSub, Int.reduceBNe, Int.reduceBEq, h1, h6, h15, h16, h17, hh, List.length_nil, Int.ofNat_lt, Nat.lt_irrefl, decide_false, Tryz.underlying47]
      exact hk _ ho.right.tail
    | cons z zs =>
      cases zs with
      | nil =>
        rw [hh] at hk hG
        rcases hG with ⟨_, h2, _⟩ | ⟨B, hB, rfl, _⟩
        · cases h2
        injection hB with hB
        subst hB
        have hcB := ho.get (List.mem_append_left _ (List.mem_cons_self ..))
        rw [hh] at h6
        simp -implicitDefEqProofs only [go_sem, ↓aj, ↓ah, ak, Nat.reduceBEq, ↓reduceIte, reduceCtorEq, Nat.reduceEqDiff, Nat.reduceAdd, Nat.reduceLeDiff, Int.reduceEq, Int.reduceLT, Int.reduceLE, Int.reduceAdd, Int.reduceToNat, Int.reduceNeg, Nat.reduceMul, Nat.reduceSub, Int.reduceBNe, Int.reduceBEq, h1, h6, h15, h16, h17, hcB, jW, List.length_cons, List.length_nil, Int.ofNat_lt, Nat.lt_irrefl, decide_false, dw, asz3, Tryz.underlying47, Tryz.underlying3, List.map_cons, List.map_nil, List.getElem?_cons_zero]
        exact hk _ ho.right.tail
      | cons z' zs =>
        have e0 : ((z :: z' :: zs).length : Int) = ((zs.length + 2 : Nat) : Int) := rfl
        have n0 : (((zs.length + 2 : Nat) : Int) == 0) = false := beq_eq_false_iff_ne.2 (by omega)
        have n1 : (((zs.length + 2 : Nat) : Int) == 1) = false := beq_eq_false_iff_ne.2 (by omega)
        rw [hh] at hk h6
        have e1 : (z :: z' :: zs).length = zs.length + 2 := rfl
        rw [e1] at h6
        simp -implicitDefEqProofs only [go_sem, ↓aj, ↓ah, ak, Nat.reduceBEq, ↓reduceIte, reduceCtorEq, Nat.reduceEqDiff, Nat.reduceAdd, Nat.reduceLeDiff, Int.reduceEq, Int.reduceLT, Int.reduceLE, Int.reduceAdd, Int.reduceToNat, Int.reduceNeg, Nat.reduceMul, Nat.reduceSub, Int.reduceBNe, Int.reduceBEq, h1, h6, h15, h16, h17, n0, n1, Int.ofNat_lt, Nat.lt_irrefl, decide_false, Tryz.underlying47]
        exact hk _ ho.right.tail
  obtain ⟨n, hn⟩ : ∃ n, ns[i]? = some n := ⟨ns[i], List.getElem?_eq_getElem hil⟩
  obtain ⟨x, o, sp, c, ccs, ty, own, kv, av, dv, hvx, hmem, hcut, hget, hnr⟩ := hD.at hn
  injection hvx with hvx _ hvc
  subst hvx hvc
  have hcx := ho.get (List.mem_append_right hg (List.mem_cons_of_mem _ hmem))
  have hnx : ¬ x = s.n := ho.fresh (List.mem_append_right hg (List.mem_cons_of_mem _ hmem))
  have hli : ((i : Int) < (ns.length : Int)) = True := eq_true (by omega)
  have hge : ((0 : Int) ≤ (i : Int)) = True := eq_true (by omega)
  have hon := (ho.new (.cells [.int .i64 0, .int .i64 0, .slice none 0 0, .string ⟨#[]⟩, .string ⟨#[]⟩, .string ⟨#[]⟩, .slice none 0 0, .slice none 0 0, .string ⟨#[]⟩] 55 true)).set rfl (.cells (ndX n kv av dv) 55 true) rfl
  have hsetN : setL [.int .i64 0, .int .i64 0, .slice none 0 0, .string ⟨#[]⟩, .string ⟨#[]⟩, .string ⟨#[]⟩, .slice none 0 0, .slice none 0 0, .string ⟨#[]⟩] 0 (ndX n kv av dv) = ndX n kv av dv := rfl
  simp -implicitDefEqProofs only [go_sem, ↓aj, ↓ah, ak, Nat.reduceBEq, ↓reduceIte, reduceCtorEq, Nat.reduceEqDiff, Nat.reduceAdd, Nat.reduceLeDiff, Int.reduceEq, Int.reduceLT, Int.reduceLE, Int.reduceAdd, Int.reduceToNat, Int.reduceNeg, Nat.reduceMul, Nat.reduceSub, Int.reduceBNe, Int.reduceBEq, h1, h6, h15, h16, h17, hcx, hcut, hnx, hli, hge, and_self, true_and, decide_true, Int.toNat_natCast, aQ, aB, jQ, aX, hsetN, Tryz.underlying22, Tryz.underlying55]
  generalize hb5 : s.n = b5 at *
  obtain ⟨ka, kc, hkv1, _⟩ := hnr.kid.isSlice
  obtain ⟨aa, ac, hav1, _⟩ := hnr.att.isSlice
  obtain ⟨da, dc, hdv1, _⟩ := hnr.dcl.isSlice
  refine ⟨⟨rfl, by rw [hkv1, hav1, hdv1]; rfl⟩, ?_⟩
  generalize hs5 : (s.new _).set _ _ = s5 at *
  have hc5 := hon.head
  have hcut9 := gI (ndX n kv av dv)
  rw [show (ndX n kv av dv).length = 9 from rfl] at hcut9
  have hN5 : NdX ((b5, Ob.cells (ndX n kv av dv) 55 true) :: (hg ++ ((b1, .cells [.slice (some ⟨x, o, sp⟩) ns.length vc] 24 true) :: r))) n kv av dv := hnr.sub fun e he => List.mem_cons_of_mem _ (List.mem_append_right _ (List.mem_cons_of_mem _ he))
  have eid : (⟨#[73, 68]⟩ : ByteArray) = tx [73, 68] := rfl
  simp -implicitDefEqProofs only [go_sem, ↓aj, ↓ah, ak, Nat.reduceBEq, ↓reduceIte, reduceCtorEq, Nat.reduceEqDiff, Nat.reduceAdd, Nat.reduceLeDiff, Int.reduceEq, Int.reduceLT, Int.reduceLE, Int.reduceAdd, Int.reduceToNat, Int.reduceNeg, Nat.reduceMul, Nat.reduceSub, Int.reduceBNe, Int.reduceBEq, eid, h1, h6, h15, h16, h17, hc5, hcut9, aB, Tryz.underlying55, Option.map_some]
  refine au.enter Tryz.func41 rfl (by kernel_rfl) (Bv _ _ n kv av dv [73, 68] hN5 (hb.2 n (List.mem_of_getElem? hn)).1 hon _ _ fun s6 ho6 => ?_)
  have w1 : IntKind.i64.wrap ((i : Int) + 1) = ((i + 1 : Nat) : Int) := by rw [bL (by have := hb.1; omega)]; omega
  have hil' : i + 1 ≤ ns.length := hil
  have hsucc := lI (id := id) hn
  have ho7 := ho6.tail
  have hen : astr .neq (tx id) ⟨#[]⟩ = some (.bool (!decide (id = []))) := bK id []
  cases hat : attX n [73, 68] with
  | none =>
    rw [if_neg (by unfold isId; rw [hat]; simp)] at hsucc
    rw [← hsucc] at hG
    unfold optR
    simp -implicitDefEqProofs only [go_sem, ↓aj, ↓ah, ak, Nat.reduceBEq, ↓reduceIte, reduceCtorEq, Nat.reduceEqDiff, Nat.reduceAdd, Nat.reduceLeDiff, Int.reduceEq, Int.reduceLT, Int.reduceLE, Int.reduceAdd, Int.reduceToNat, Int.reduceNeg, Nat.reduceMul, Nat.reduceSub, Int.reduceBNe, Int.reduceBEq, h1, h6, h15, h16, h17, w1, List.getElem?_cons_succ, List.getElem?_cons_zero]
    refine ⟨ns.length - (i + 1), by omega, i + 1, lv, hg, ?_⟩
    (repeat' first | assumption | exact rfl | apply And.intro)
  | some u =>
    have heq := aA u id
    unfold optR
    by_cases hu : u = id
    case neg =>
      rw [decide_eq_false hu] at heq
      rw [if_neg (by unfold isId; rw [hat]; simp [hu])] at hsucc
      rw [← hsucc] at hG
      simp -implicitDefEqProofs only [go_sem, ↓aj, ↓ah, ak, Nat.reduceBEq, ↓reduceIte, reduceCtorEq, Nat.reduceEqDiff, Nat.reduceAdd, Nat.reduceLeDiff, Int.reduceEq, Int.reduceLT, Int.reduceLE, Int.reduceAdd, Int.reduceToNat, Int.reduceNeg, Nat.reduceMul, Nat.reduceSub, Int.reduceBNe, Int.reduceBEq, h1, h6, h15, h16, h17, w1, heq, List.getElem?_cons_succ, List.getElem?_cons_zero]
      refine ⟨ns.length - (i + 1), by omega, i + 1, lv, hg, ?_⟩
      (repeat' first | assumption | exact rfl | apply And.intro)
    rw [decide_eq_true hu] at heq
    by_cases hid : id = []
    · rw [decide_eq_true hid] at hen
      rw [if_neg (by unfold isId; rw [decide_eq_true hid]; simp)] at hsucc
      rw [← hsucc] at hG
      simp -implicitDefEqProofs only [go_sem, ↓aj, ↓ah, ak, Nat.reduceBEq, ↓reduceIte, reduceCtorEq, Nat.reduceEqDiff, Nat.reduceAdd, Nat.reduceLeDiff, Int.reduceEq, Int.reduceLT, Int.reduceLE, Int.reduceAdd, Int.reduceToNat, Int.reduceNeg, Nat.reduceMul, Nat.reduceSub, Int.reduceBNe, Int.reduceBEq, h1, h6, h15, h16, h17, w1, heq, hen, List.getElem?_cons_succ, List.getElem?_cons_zero]
      refine ⟨ns.length - (i + 1), by omega, i + 1, lv, hg, ?_⟩
      (repeat' first | assumption | exact rfl | apply And.intro)
    · rw [decide_eq_false hid] at hen
      rw [if_pos (by unfold isId; rw [hat, hu, decide_eq_false hid]; simp)] at hsucc
      simp -implicitDefEqProofs only [go_sem, ↓aj, ↓ah, ak, Nat.reduceBEq, ↓reduceIte, reduceCtorEq, Nat.reduceEqDiff, Nat.reduceAdd, Nat.reduceLeDiff, Int.reduceEq, Int.reduceLT, Int.reduceLE, Int.reduceAdd, Int.reduceToNat, Int.reduceNeg, Nat.reduceMul, Nat.reduceSub, Int.reduceBNe, Int.reduceBEq, h1, h6, h15, h16, h17, w1, heq, hen, aF (st := s6) (v := .int .i64 (i : Nat)) Tryz.underlying47 asz3 azc3 rfl rfl rfl (by decide), Tryz.underlying47, List.getElem?_cons_succ, List.getElem?_cons_zero]
      have ho8 : Own s6 (hg ++ ((b5, Ob.cells (ndX n kv av dv) 55 true) :: (b1, .cells [.slice (some ⟨x, o, sp⟩) ns.length vc] 24 true) :: r)) := ho6.perm (aH hg _ _).symm
      refine GV.dU (t := 47) (t' := 47) (c := [.int .i64 (i : Nat)]) Tryz.underlying47 (by rw [Tryz.underlying47]; rfl) asz3 azc3 aby3 hG ho8 rfl rfl (by have := tF ns id i; have := hb.1; omega) fun v' hm' s7 hG' ho9 => ?_
      have ho10 := (ho9.perm (aH hm' _ _)).tail
      have hG2 : GV v' (jW (bA ns id (i + 1))) (bA ns id (i + 1)).length 1 3 hm' := by
        rw [hsucc, List.length_append, List.length_singleton]
        unfold jW at *
        rw [List.map_append]
        exact hG'
      simp -implicitDefEqProofs only [go_sem, ↓aj, ↓ah, ak, Nat.reduceBEq, ↓reduceIte, reduceCtorEq, Nat.reduceEqDiff, Nat.reduceAdd, Nat.reduceLeDiff, Int.reduceEq, Int.reduceLT, Int.reduceLE, Int.reduceAdd, Int.reduceToNat, Int.reduceNeg, Nat.reduceMul, Nat.reduceSub, Int.reduceBNe, Int.reduceBEq, h1, h6, h15, h16, h17, w1]
      refine ⟨ns.length - (i + 1), by omega, i + 1, v', hm', ?_⟩
      (repeat' first | assumption | exact rfl | apply And.intro)
set_option maxRecDepth 10000 in
theorem BA (st : St) (r : Hp) (v : Value) (ns : List Nx) (id : Tx) (hD : DocX r v ns) (hb : BndX ns) (hO : Own st r) (k q : Value → St → Prop) (hk : ∀ st', Own st' r → k (Fh (bA ns id ns.length)) st') : ay (C base w0 G) 18 [.agg #[v], .string (tx id)] st k q := by
  obtain ⟨va, vc, hva⟩ := hD.isSlice
  subst hva
  refine ay.of (cx := C base w0 G) mixed Tryz.func18 rfl (by kernel_rfl) (by simp [Tryz.ntmps18]) ?_
  simp only [Tryz.results18]
  have ho1 := hO.new (.cells [.slice va ns.length vc] 24 true)
  simp -implicitDefEqProofs only [go_sem, ↓aj, ↓ah, ak, Nat.reduceBEq, ↓reduceIte, reduceCtorEq, Nat.reduceEqDiff, Nat.reduceAdd, Nat.reduceLeDiff, Int.reduceEq, Int.reduceLT, Int.reduceLE, Int.reduceAdd, Int.reduceToNat, Int.reduceNeg, Nat.reduceMul, Nat.reduceSub, Int.reduceBNe, Int.reduceBEq, abox]
  generalize hs1 : St.new st _ = s1 at *
  generalize hb1 : st.n = b1 at *
  have hen : astr .neq (tx id) ⟨#[]⟩ = some (.bool (!decide (id = []))) := bK id []
  refine ⟨fun m ρ s => ∃ (i : Nat) (a : Int), m = ns.length - i ∧ i ≤ ns.length ∧ ρ 1 = .string (tx id) ∧ ρ 2 = .pointer (some ⟨b1, 0, none⟩) ∧ ρ 6 = .int .i64 a ∧ ρ 7 = .int .i64 (i : Nat) ∧ Own s ((b1, .cells [.slice va ns.length vc] 24 true) :: r) ∧ ((a = -1 ∧ bA ns id i = []) ∨ (0 ≤ a ∧ bA ns id i = [a])),
    ⟨_, 0, -1, rfl, Nat.zero_le _, rfl, rfl, rfl, rfl, ho1, .inl ⟨rfl, rfl⟩⟩, ?_⟩
  clear ho1
  rintro _ ρ s ⟨i, a, rfl, hi, h1, h2, h6, h7, ho, ha⟩
  have hc1 := ho.head
  have fin : ∀ s2, Own s2 r → (a < 0 → k (.tuple #[.int .i64 0, .int .i64 20]) s2) ∧ (¬ a < 0 → k (.tuple #[.int .i64 a, .int .i64 0]) s2) ∨ ¬ (bA ns id i = bA ns id ns.length) := fun s2 h2 => by
    by_cases he : bA ns id i = bA ns id ns.length
    · refine .inl ?_
      have := hk s2 h2
      rw [← he] at this
      rcases ha with ⟨rfl, hh⟩ | ⟨h0, hh⟩
      · rw [hh] at this
        exact ⟨fun _ => this, fun h => absurd (by decide) h⟩
      · rw [hh] at this
        exact ⟨fun h => absurd h (by omega), fun _ => this⟩
    · exact .inr he
  by_cases hil : i < ns.length
  case neg =>
    obtain rfl : i = ns.length := by omega
    have hfin := (fin s ho.tail).resolve_right fun h => h rfl
    rcases ha with ⟨rfl, hh⟩ | ⟨h0, hh⟩
    · simp -implicitDefEqProofs only [go_sem, ↓aj, ↓ah, ak, Nat.reduceBEq, ↓reduceIte, reduceCtorEq, Nat.reduceEqDiff, Nat.reduceAdd, Nat.reduceLeDiff, Int.reduceEq, Int.reduceLT, Int.reduceLE, Int.reduceAdd, Int.reduceToNat, Int.reduceNeg, Nat.reduceMul, Nat.reduceSub, Int.reduceBNe, Int.reduceBEq, h1, h2, h6, h7, hc1, Int.ofNat_lt, Nat.lt_irrefl, decide_false, decide_true, aM, aQ, Tryz.underlying22, List.getElem?_cons_zero]
      exact hfin.1 (by decide)
    · have h0' : (a < 0) = False := eq_false (by omega)
      simp -implicitDefEqProofs only [go_sem, ↓aj, ↓ah, ak, Nat.reduceBEq, ↓reduceIte, reduceCtorEq, Nat.reduceEqDiff, Nat.reduceAdd, Nat.reduceLeDiff, Int.reduceEq, Int.reduceLT, Int.reduceLE, Int.reduceAdd, Int.reduceToNat, Int.reduceNeg, Nat.reduceMul, Nat.reduceSub, Int.reduceBNe, Int.reduceBEq, h1, h2, h6, h7, h0', hc1, Int.ofNat_lt, Nat.lt_irrefl, decide_false, aM, aQ, Tryz.underlying22, List.getElem?_cons_zero]
      exact hfin.2 (by omega)
  have hli : ((i : Int) < (ns.length : Int)) = True := eq_true (by omega)
  by_cases hid : id = []
  · rw [decide_eq_true hid] at hen
    have hz : bA ns id i = bA ns id ns.length := by rw [hid, mX, mX]
    have hfin := (fin s ho.tail).resolve_right fun h => h hz
    rcases ha with ⟨rfl, hh⟩ | ⟨h0, hh⟩
    · simp -implicitDefEqProofs only [go_sem, ↓aj, ↓ah, ak, Nat.reduceBEq, ↓reduceIte, reduceCtorEq, Nat.reduceEqDiff, Nat.reduceAdd, Nat.reduceLeDiff, Int.reduceEq, Int.reduceLT, Int.reduceLE, Int.reduceAdd, Int.reduceToNat, Int.reduceNeg, Nat.reduceMul, Nat.reduceSub, Int.reduceBNe, Int.reduceBEq, h1, h2, h6, h7, hli, hen, hc1, decide_true, aM, aQ, Tryz.underlying22, List.getElem?_cons_zero]
      exact hfin.1 (by decide)
    · have h0' : (a < 0) = False := eq_false (by omega)
      simp -implicitDefEqProofs only [go_sem, ↓aj, ↓ah, ak, Nat.reduceBEq, ↓reduceIte, reduceCtorEq, Nat.reduceEqDiff, Nat.reduceAdd, Nat.reduceLeDiff, Int.reduceEq, Int.reduceLT, Int.reduceLE, Int.reduceAdd, Int.reduceToNat, Int.reduceNeg, Nat.reduceMul, Nat.reduceSub, Int.reduceBNe, Int.reduceBEq, h1, h2, h6, h7, h0', hli, hen, hc1, decide_true, decide_false, aM, aQ, Tryz.underlying22, List.getElem?_cons_zero]
      exact hfin.2 (by omega)
  rw [decide_eq_false hid] at hen
  obtain ⟨n, hn⟩ : ∃ n, ns[i]? = some n := ⟨ns[i], List.getElem?_eq_getElem hil⟩
  obtain ⟨x, o, sp, c, ccs, ty, own, kv, av, dv, hvx, hmem, hcut, hget, hnr⟩ := hD.at hn
  injection hvx with hvx _ hvc
  subst hvx hvc
  have hcx := ho.get (List.mem_cons_of_mem _ hmem)
  have hge : ((0 : Int) ≤ (i : Int)) = True := eq_true (by omega)
  have hN5 : NdX ((b1, Ob.cells [.slice (some ⟨x, o, sp⟩) ns.length vc] 24 true) :: r) n kv av dv := hnr.sub fun e he => List.mem_cons_of_mem _ he
  have eid : (⟨#[73, 68]⟩ : ByteArray) = tx [73, 68] := rfl
  simp -implicitDefEqProofs only [go_sem, ↓aj, ↓ah, ak, Nat.reduceBEq, ↓reduceIte, reduceCtorEq, Nat.reduceEqDiff, Nat.reduceAdd, Nat.reduceLeDiff, Int.reduceEq, Int.reduceLT, Int.reduceLE, Int.reduceAdd, Int.reduceToNat, Int.reduceNeg, Nat.reduceMul, Nat.reduceSub, Int.reduceBNe, Int.reduceBEq, eid, h1, h2, h6, h7, hli, hge, hen, hc1, hcx, hcut, and_self, true_and, decide_true, Int.toNat_natCast, aM, aQ, aB, Tryz.underlying22, Tryz.underlying55, List.getElem?_cons_zero, Option.map_some]
  refine au.enter Tryz.func27 rfl (by kernel_rfl) (Bw _ _ n kv av dv [73, 68] hN5 (hb.2 n (List.mem_of_getElem? hn)).1 ho _ _ fun s6 ho6 => ?_)
  have w1 : IntKind.i64.wrap ((i : Int) + 1) = ((i + 1 : Nat) : Int) := by rw [bL (by have := hb.1; omega)]; omega
  have hil' : i + 1 ≤ ns.length := hil
  have hsucc := lI (id := id) hn
  cases hat : attX n [73, 68] with
  | none =>
    rw [if_neg (by unfold isId; rw [hat]; simp)] at hsucc
    rw [← hsucc] at ha
    unfold optR
    simp -implicitDefEqProofs only [go_sem, ↓aj, ↓ah, ak, Nat.reduceBEq, ↓reduceIte, reduceCtorEq, Nat.reduceEqDiff, Nat.reduceAdd, Nat.reduceLeDiff, Int.reduceEq, Int.reduceLT, Int.reduceLE, Int.reduceAdd, Int.reduceToNat, Int.reduceNeg, Nat.reduceMul, Nat.reduceSub, Int.reduceBNe, Int.reduceBEq, h1, h2, h6, h7, w1, List.getElem?_cons_succ, List.getElem?_cons_zero]
    refine ⟨ns.length - (i + 1), by omega, i + 1, a, ?_⟩
    (repeat' first | assumption | exact rfl | apply And.intro)
  | some u =>
    have heq := aA u id
    unfold optR
    by_cases hu : u = id
    case neg =>
      rw [decide_eq_false hu] at heq
      rw [if_neg (by unfold isId; rw [hat]; simp [hu])] at hsucc
      rw [← hsucc] at ha
      simp -implicitDefEqProofs only [go_sem, ↓aj, ↓ah, ak, Nat.reduceBEq, ↓reduceIte, reduceCtorEq, Nat.reduceEqDiff, Nat.reduceAdd, Nat.reduceLeDiff, Int.reduceEq, Int.reduceLT, Int.reduceLE, Int.reduceAdd, Int.reduceToNat, Int.reduceNeg, Nat.reduceMul, Nat.reduceSub, Int.reduceBNe, Int.reduceBEq, h1, h2, h6, h7, w1, heq, List.getElem?_cons_succ, List.getElem?_cons_zero]
      refine ⟨ns.length - (i + 1), by omega, i + 1, a, ?_⟩
      (repeat' first | assumption | exact rfl | apply And.intro)
    rw [decide_eq_true hu] at heq
    rw [if_pos (by unfold isId; rw [hat, hu, decide_eq_false hid]; simp)] at hsucc
    rcases ha with ⟨rfl, hh⟩ | ⟨h0, hh⟩
    · have hfin : ((i : Int) = -1 ∧ bA ns id (i + 1) = []) ∨ (0 ≤ (i : Int) ∧ bA ns id (i + 1) = [(i : Int)]) := .inr ⟨by omega, by rw [hsucc, hh]; rfl⟩
      simp -implicitDefEqProofs only [go_sem, ↓aj, ↓ah, ak, Nat.reduceBEq, ↓reduceIte, reduceCtorEq, Nat.reduceEqDiff, Nat.reduceAdd, Nat.reduceLeDiff, Int.reduceEq, Int.reduceLT, Int.reduceLE, Int.reduceAdd, Int.reduceToNat, Int.reduceNeg, Nat.reduceMul, Nat.reduceSub, Int.reduceBNe, Int.reduceBEq, h1, h2, h6, h7, w1, heq, List.getElem?_cons_succ, List.getElem?_cons_zero, show ((-1 : Int) ≥ 0) = False by decide, decide_false]
      refine ⟨ns.length - (i + 1), by omega, i + 1, (i : Int), ?_⟩
      (repeat' first | assumption | exact rfl | apply And.intro)
    · have h0' : (a ≥ 0) = True := eq_true (by omega)
      have hmany : ∃ z z' zs, bA ns id ns.length = z :: z' :: zs := by
        have : ∀ d, ∃ z z' zs, bA ns id (i + 1 + d) = z :: z' :: zs := by
          intro d
          induction d with
          | zero => exact ⟨a, i, [], by rw [Nat.add_zero, hsucc, hh]; rfl⟩
          | succ d ih =>
            obtain ⟨z, z', zs, h⟩ := ih
            rw [← Nat.add_assoc]
            cases hm : ns[i + 1 + d]? with
            | none => exact ⟨z, z', zs, by unfold bA; rw [hm]; exact h⟩
            | some m =>
              rw [lI hm, h]
              split
              · exact ⟨z, z', zs ++ [((i + 1 + d : Nat) : Int)], rfl⟩
              · exact ⟨z, z', zs, rfl⟩
        have := this (ns.length - (i + 1))
        rwa [show i + 1 + (ns.length - (i + 1)) = ns.length by omega] at this
      obtain ⟨z, z', zs, hz⟩ := hmany
      have := hk s6 ho6.tail
      rw [hz] at this
      simp -implicitDefEqProofs only [go_sem, ↓aj, ↓ah, ak, Nat.reduceBEq, ↓reduceIte, reduceCtorEq, Nat.reduceEqDiff, Nat.reduceAdd, Nat.reduceLeDiff, Int.reduceEq, Int.reduceLT, Int.reduceLE, Int.reduceAdd, Int.reduceToNat, Int.reduceNeg, Nat.reduceMul, Nat.reduceSub, Int.reduceBNe, Int.reduceBEq, h1, h2, h6, h7, h0', heq, decide_true, List.getElem?_cons_succ, List.getElem?_cons_zero]
      exact this
end Go.Proofs.YtigjbehgfjjlkaaGreatDoor
set_option linter.unusedVariables false
set_option linter.unusedSimpArgs false
namespace Go.Proofs.YtigjbehgfjjlkaaGreatDoor
open Go Go.Abs Go.RowKit Go.Xml
variable {base : Nat} {w0 : World} {G : Nat}
def insX (ns : List Nx) (top : Int) : Nat → Int → Bool
  | 0, _ => false
  | f + 1, i => if i = top then true else if i < top then false else match nodeAt ns i with | some n => insX ns top f n.par | none => false
def scX (ns : List Nx) (p : Tx) : Nat → Int → Option Tx
  | 0, _ => none
  | f + 1, i => match nodeAt ns i with
    | some n => match n.dcls.find? (fun d => decide (d.pre = p)) with
      | some d => some d.uri
      | none => scX ns p f n.par
    | none => none
def iw (ns : List Nx) (i : Int) (p : Tx) : Option Tx := match scX ns p (ns.length + 1) i with
  | some u => some u
  | none => if p = [120, 109, 108] then some eG else none
theorem RtX.Cg {ns : List Nx} (h : RtX ns) {i : Nat} {n : Nx} (hn : ns[i]? = some n) : -1 ≤ n.par ∧ n.par < i := by
  by_cases hi : 0 < i
  · have := h.par i n hn hi
    omega
  · obtain rfl : i = 0 := by omega
    obtain ⟨t, ht, _, hp⟩ := h.top
    rw [hn] at ht
    injection ht with ht
    subst ht
    omega
theorem oD {ns : List Nx} {i : Int} (h : aW ns i = true) : ∃ (j : Nat) (n : Nx), i = j ∧ ns[j]? = some n ∧ n.kind = 1 := by
  unfold aW at h
  rw [Bool.and_eq_true, decide_eq_true_eq] at h
  obtain ⟨h0, h1⟩ := h
  cases hn : ns[i.toNat]? with
  | none => rw [hn] at h1; cases h1
  | some n => rw [hn] at h1; exact ⟨i.toNat, n, by omega, hn, of_decide_eq_true h1⟩
set_option maxRecDepth 10000 in
theorem BD (st : St) (r : Hp) (v : Value) (ns : List Nx) (i : Int) (hD : DocX r v ns) (hb : BndX ns) (hO : Own st r) (k q : Value → St → Prop) (hk : ∀ st', Own st' r → k (.bool (aG ns && aW ns i)) st') : ay (C base w0 G) 19 [.agg #[v], .int .i64 i] st k q := by
  obtain ⟨va, vc, hva⟩ := hD.isSlice
  subst hva
  refine ay.of (cx := C base w0 G) mixed Tryz.func19 rfl (by kernel_rfl) (by simp [Tryz.ntmps19]) ?_
  simp only [Tryz.results19]
  have ho1 := hO.new (.cells [.slice va ns.length vc] 24 true)
  have hD1 := hD.sub (H' := (st.n, Ob.cells [.slice va ns.length vc] 24 true) :: r) fun e he => List.mem_cons_of_mem _ he
  have hcl : cut [Value.slice va ns.length vc] 0 1 = some [Value.slice va ns.length vc] := rfl
  simp -implicitDefEqProofs only [go_sem, ↓aj, ↓ah, ak, Nat.reduceBEq, ↓reduceIte, reduceCtorEq, Nat.reduceEqDiff, Nat.reduceAdd, Nat.reduceLeDiff, Int.reduceEq, Int.reduceLT, Int.reduceLE, Int.reduceAdd, Int.reduceToNat, Int.reduceNeg, Nat.reduceMul, Nat.reduceSub, Int.reduceBNe, Int.reduceBEq, abox, hcl, cB, Tryz.underlying24, Option.map_some]
  refine au.enter Tryz.func10 rfl (by kernel_rfl) (qy _ _ _ ns hD1 hb ho1 _ _ fun s1 ho => ?_)
  have hc1 := ho.head
  generalize hb1 : st.n = b1 at *
  cases hr : aG ns with
  | false =>
    rw [hr] at hk
    simp -implicitDefEqProofs only [go_sem, ↓aj, ↓ah, ak, Nat.reduceBEq, ↓reduceIte, reduceCtorEq, Nat.reduceEqDiff, Nat.reduceAdd, Nat.reduceLeDiff, Int.reduceEq, Int.reduceLT, Int.reduceLE, Int.reduceAdd, Int.reduceToNat, Int.reduceNeg, Nat.reduceMul, Nat.reduceSub, Int.reduceBNe, Int.reduceBEq]
    exact hk _ ho.tail
  | true =>
  rw [hr, Bool.true_and] at hk
  by_cases h0 : 0 ≤ i
  case neg =>
    have he : aW ns i = false := by unfold aW; rw [decide_eq_false h0]; rfl
    rw [he] at hk
    simp -implicitDefEqProofs only [go_sem, ↓aj, ↓ah, ak, Nat.reduceBEq, ↓reduceIte, reduceCtorEq, Nat.reduceEqDiff, Nat.reduceAdd, Nat.reduceLeDiff, Int.reduceEq, Int.reduceLT, Int.reduceLE, Int.reduceAdd, Int.reduceToNat, Int.reduceNeg, Nat.reduceMul, Nat.reduceSub, Int.reduceBNe, Int.reduceBEq, eq_false (show ¬ (i ≥ 0) from h0), decide_false]
    exact hk _ ho.tail
  obtain ⟨j, rfl⟩ : ∃ j : Nat, i = j := ⟨i.toNat, by omega⟩
  have ge0 : ((j : Int) ≥ 0) = True := eq_true (by omega)
  have hge : ((0 : Int) ≤ (j : Int)) = True := eq_true (by omega)
  by_cases hj : j < ns.length
  case neg =>
    have hn : ns[j]? = none := List.getElem?_eq_none (by omega)
    have he : aW ns (j : Int) = false := by unfold aW; rw [Int.toNat_natCast, hn]; simp
    rw [he] at hk
    have hlj : ((j : Int) < (ns.length : Int)) = False := eq_false (by omega)
    simp -implicitDefEqProofs only [go_sem, ↓aj, ↓ah, ak, Nat.reduceBEq, ↓reduceIte, reduceCtorEq, Nat.reduceEqDiff, Nat.reduceAdd, Nat.reduceLeDiff, Int.reduceEq, Int.reduceLT, Int.reduceLE, Int.reduceAdd, Int.reduceToNat, Int.reduceNeg, Nat.reduceMul, Nat.reduceSub, Int.reduceBNe, Int.reduceBEq, ge0, hlj, hc1, decide_true, decide_false, aM, aQ, Tryz.underlying22, List.getElem?_cons_zero]
    exact hk _ ho.tail
  obtain ⟨n, hn⟩ : ∃ n, ns[j]? = some n := ⟨ns[j], List.getElem?_eq_getElem hj⟩
  obtain ⟨x, o, sp, c, ccs, ty, own, kv, av, dv, hvx, hmem, hcut, hget, hnr⟩ := hD.at hn
  injection hvx with hvx _ hvc
  subst hvx hvc
  have hcx := ho.get (List.mem_cons_of_mem _ hmem)
  have q0 := hget 0 (by decide)
  rw [Nat.add_zero] at q0
  change ccs[o + j * 9]? = some (.int .i64 n.kind) at q0
  have hlj : ((j : Int) < (ns.length : Int)) = True := eq_true (by omega)
  have he : aW ns (j : Int) = (n.kind == 1) := by
    unfold aW
    rw [Int.toNat_natCast, hn, decide_eq_true (by omega)]
    show (true && decide (n.kind = 1)) = _
    rw [Bool.true_and]
    by_cases hk1 : n.kind = 1
    · rw [hk1]; rfl
    · rw [decide_eq_false hk1, beq_eq_false_iff_ne.2 hk1]
  rw [he] at hk
  simp -implicitDefEqProofs only [go_sem, ↓aj, ↓ah, ak, Nat.reduceBEq, ↓reduceIte, reduceCtorEq, Nat.reduceEqDiff, Nat.reduceAdd, Nat.reduceLeDiff, Int.reduceEq, Int.reduceLT, Int.reduceLE, Int.reduceAdd, Int.reduceToNat, Int.reduceNeg, Nat.reduceMul, Nat.reduceSub, Int.reduceBNe, Int.reduceBEq, ge0, hge, hlj, hc1, hcx, q0, decide_true, and_self, true_and, Int.toNat_natCast, Nat.add_zero, aM, bC, aQ, aB, asz3, Tryz.underlying22, Tryz.underlying55, Tryz.underlying3, List.getElem?_cons_zero]
  exact hk _ ho.tail
theorem DocX.par {H : Hp} {v : Value} {ns : List Nx} (h : DocX H v ns) {i : Nat} {n : Nx} (hi : ns[i]? = some n) {x : Nat} {o : Nat} {sp : Option Nat} {c : Nat} (hv : v = .slice (some ⟨x, o, sp⟩) ns.length c) :
    ∃ ccs ty own, (x, Ob.cells ccs ty own) ∈ H ∧ ccs[o + i * 9 + 1]? = some (.int .i64 n.par) := by
  obtain ⟨x', o', sp', c', ccs, ty, own, kv, av, dv, hvx, hmem, hcut, hget, hnr⟩ := h.at hi
  rw [hv] at hvx
  injection hvx with hvx _ hvc
  injection hvx with hvx
  injection hvx with e1 e2 e3
  subst e1 e2 e3 hvc
  exact ⟨ccs, ty, own, hmem, hget 1 (by decide)⟩
set_option maxRecDepth 10000 in
theorem xu (st : St) (r : Hp) (v : Value) (ns : List Nx) (i top : Int) (hD : DocX r v ns) (hb : BndX ns) (hO : Own st r) (k q : Value → St → Prop) (hk : ∀ st', Own st' r → k (.bool ((aW ns top && aG ns) && (decide (0 ≤ i ∧ i < ns.length) && insX ns top (ns.length + 1) i))) st') : ay (C base w0 G) 16 [.agg #[v], .int .i64 i, .int .i64 top] st k q := by
  obtain ⟨va, vc, hva⟩ := hD.isSlice
  subst hva
  refine ay.of (cx := C base w0 G) mixed Tryz.func16 rfl (by kernel_rfl) (by simp [Tryz.ntmps16]) ?_
  simp only [Tryz.results16]
  have ho1 := hO.new (.cells [.slice va ns.length vc] 24 true)
  have hD1 := hD.sub (H' := (st.n, Ob.cells [.slice va ns.length vc] 24 true) :: r) fun e he => List.mem_cons_of_mem _ he
  have hcl : cut [Value.slice va ns.length vc] 0 1 = some [Value.slice va ns.length vc] := rfl
  simp -implicitDefEqProofs only [go_sem, ↓aj, ↓ah, ak, Nat.reduceBEq, ↓reduceIte, reduceCtorEq, Nat.reduceEqDiff, Nat.reduceAdd, Nat.reduceLeDiff, Int.reduceEq, Int.reduceLT, Int.reduceLE, Int.reduceAdd, Int.reduceToNat, Int.reduceNeg, Nat.reduceMul, Nat.reduceSub, Int.reduceBNe, Int.reduceBEq, abox, hcl, cB, Tryz.underlying24, Option.map_some]
  refine au.enter Tryz.func42 rfl (by kernel_rfl) (Cb _ _ _ ns top hD1 hb ho1 _ _ fun s1 ho => ?_)
  have hc1 := ho.head
  generalize hb1 : st.n = b1 at *
  cases hat : aW ns top && aG ns with
  | false =>
    rw [hat] at hk
    simp -implicitDefEqProofs only [go_sem, ↓aj, ↓ah, ak, Nat.reduceBEq, ↓reduceIte, reduceCtorEq, Nat.reduceEqDiff, Nat.reduceAdd, Nat.reduceLeDiff, Int.reduceEq, Int.reduceLT, Int.reduceLE, Int.reduceAdd, Int.reduceToNat, Int.reduceNeg, Nat.reduceMul, Nat.reduceSub, Int.reduceBNe, Int.reduceBEq]
    exact hk _ ho.tail
  | true =>
  rw [hat, Bool.true_and] at hk
  rw [Bool.and_eq_true] at hat
  have hR := RtX.of hat.2
  by_cases h0 : 0 ≤ i
  case neg =>
    rw [decide_eq_false (fun h => h0 h.1)] at hk
    have l0 : (i < 0) = True := eq_true (by omega)
    simp -implicitDefEqProofs only [go_sem, ↓aj, ↓ah, ak, Nat.reduceBEq, ↓reduceIte, reduceCtorEq, Nat.reduceEqDiff, Nat.reduceAdd, Nat.reduceLeDiff, Int.reduceEq, Int.reduceLT, Int.reduceLE, Int.reduceAdd, Int.reduceToNat, Int.reduceNeg, Nat.reduceMul, Nat.reduceSub, Int.reduceBNe, Int.reduceBEq, l0, decide_true]
    exact hk _ ho.tail
  have l0 : (i < 0) = False := eq_false (by omega)
  by_cases hj : i < ns.length
  case neg =>
    rw [decide_eq_false (fun h => hj h.2)] at hk
    have l1 : (i ≥ (ns.length : Int)) = True := eq_true (by omega)
    simp -implicitDefEqProofs only [go_sem, ↓aj, ↓ah, ak, Nat.reduceBEq, ↓reduceIte, reduceCtorEq, Nat.reduceEqDiff, Nat.reduceAdd, Nat.reduceLeDiff, Int.reduceEq, Int.reduceLT, Int.reduceLE, Int.reduceAdd, Int.reduceToNat, Int.reduceNeg, Nat.reduceMul, Nat.reduceSub, Int.reduceBNe, Int.reduceBEq, l0, l1, hc1, decide_true, decide_false, aM, aQ, Tryz.underlying22, List.getElem?_cons_zero]
    exact hk _ ho.tail
  have l1 : (i ≥ (ns.length : Int)) = False := eq_false (by omega)
  rw [decide_eq_true ⟨h0, hj⟩, Bool.true_and] at hk
  generalize hres : insX ns top (ns.length + 1) i = res at *
  simp -implicitDefEqProofs only [go_sem, ↓aj, ↓ah, ak, Nat.reduceBEq, ↓reduceIte, reduceCtorEq, Nat.reduceEqDiff, Nat.reduceAdd, Nat.reduceLeDiff, Int.reduceEq, Int.reduceLT, Int.reduceLE, Int.reduceAdd, Int.reduceToNat, Int.reduceNeg, Nat.reduceMul, Nat.reduceSub, Int.reduceBNe, Int.reduceBEq, l0, l1, hc1, decide_true, decide_false, aM, aQ, Tryz.underlying22, List.getElem?_cons_zero]
  refine ⟨fun m ρ s => ∃ a : Int, -1 ≤ a ∧ a + 1 < m ∧ a < ns.length ∧ insX ns top m a = res ∧ ρ 1 = .int .i64 a ∧ ρ 2 = .int .i64 top ∧ ρ 3 = .pointer (some ⟨b1, 0, none⟩) ∧ Own s ((b1, .cells [.slice va ns.length vc] 24 true) :: r),
    ⟨ns.length + 1, i, by omega, by omega, hj, hres, rfl, rfl, rfl, ho⟩, ?_⟩
  clear ho hc1 hres
  rintro m ρ s ⟨a, ha0, ham, hal, hres, h1, h2, h3, ho⟩
  have hc1 := ho.head
  obtain ⟨f, rfl⟩ : ∃ f, m = f + 1 := ⟨m - 1, by omega⟩
  by_cases hgt : a > top
  case neg =>
    have tg : (a > top) = False := eq_false hgt
    have hr : (a == top) = res := by
      rw [← hres]
      unfold insX
      by_cases he : a = top
      · rw [if_pos he, he]; simp
      · rw [if_neg he, if_pos (by omega)]; exact beq_eq_false_iff_ne.2 he
    simp -implicitDefEqProofs only [go_sem, ↓aj, ↓ah, ak, Nat.reduceBEq, ↓reduceIte, reduceCtorEq, Nat.reduceEqDiff, Nat.reduceAdd, Nat.reduceLeDiff, Int.reduceEq, Int.reduceLT, Int.reduceLE, Int.reduceAdd, Int.reduceToNat, Int.reduceNeg, Nat.reduceMul, Nat.reduceSub, Int.reduceBNe, Int.reduceBEq, tg, h1, h2, h3, hr, decide_false]
    exact hk _ ho.tail
  obtain ⟨jt, nt, htop, _, _⟩ := oD hat.1
  obtain ⟨j, rfl⟩ : ∃ j : Nat, a = j := ⟨a.toNat, by omega⟩
  obtain ⟨n, hn⟩ : ∃ n, ns[j]? = some n := ⟨ns[j]'(by omega), List.getElem?_eq_getElem (by omega)⟩
  obtain ⟨x, o, sp, c, ccs, ty, own, kv, av, dv, hvx, hmem, hcut, hget, hnr⟩ := hD.at hn
  injection hvx with hvx _ hvc
  subst hvx hvc
  have hcx := ho.get (List.mem_cons_of_mem _ hmem)
  have q1 := hget 1 (by decide)
  change ccs[o + j * 9 + 1]? = some (.int .i64 n.par) at q1
  have tg : ((j : Int) > top) = True := eq_true hgt
  have hlj : ((j : Int) < (ns.length : Int)) = True := eq_true hal
  have hge : ((0 : Int) ≤ (j : Int)) = True := eq_true (by omega)
  have hp := RtX.Cg hR hn
  have hres' : insX ns top f n.par = res := by
    rw [← hres]
    conv => rhs; unfold insX
    rw [if_neg (by omega), if_neg (by omega), dW, hn]
  simp -implicitDefEqProofs only [go_sem, ↓aj, ↓ah, ak, Nat.reduceBEq, ↓reduceIte, reduceCtorEq, Nat.reduceEqDiff, Nat.reduceAdd, Nat.reduceLeDiff, Int.reduceEq, Int.reduceLT, Int.reduceLE, Int.reduceAdd, Int.reduceToNat, Int.reduceNeg, Nat.reduceMul, Nat.reduceSub, Int.reduceBNe, Int.reduceBEq, tg, hlj, hge, hc1, hcx, q1, h1, h2, h3, decide_true, and_self, true_and, Int.toNat_natCast, aM, bg, aQ, aB, asz3, Tryz.underlying22, Tryz.underlying55, Tryz.underlying3, List.getElem?_cons_zero]
  exact ⟨f, by omega, n.par, hp.1, by omega, by omega, hres', rfl, ho⟩
set_option maxRecDepth 10000 in
theorem xw (st : St) (r : Hp) (v : Value) (ns : List Nx) (i top : Int) (hR : RtX ns) (ht : aW ns top = true) (hi : 0 ≤ i ∧ i < ns.length) (hD : DocX r v ns) (hb : BndX ns) (hO : Own st r) (k q : Value → St → Prop) (hk : ∀ st', Own st' r → k (.bool (insX ns top (ns.length + 1) i)) st') : ay (C base w0 G) 21 [.agg #[v], .int .i64 i, .int .i64 top] st k q := by
  obtain ⟨va, vc, hva⟩ := hD.isSlice
  subst hva
  refine ay.of (cx := C base w0 G) mixed Tryz.func21 rfl (by kernel_rfl) (by simp [Tryz.ntmps21]) ?_
  simp only [Tryz.results21]
  have ho1 := hO.new (.cells [.slice va ns.length vc] 24 true)
  simp -implicitDefEqProofs only [go_sem, ↓aj, ↓ah, ak, Nat.reduceBEq, ↓reduceIte, reduceCtorEq, Nat.reduceEqDiff, Nat.reduceAdd, Nat.reduceLeDiff, Int.reduceEq, Int.reduceLT, Int.reduceLE, Int.reduceAdd, Int.reduceToNat, Int.reduceNeg, Nat.reduceMul, Nat.reduceSub, Int.reduceBNe, Int.reduceBEq, abox]
  generalize hs1 : St.new st _ = s1 at *
  generalize hb1 : st.n = b1 at *
  generalize hres : insX ns top (ns.length + 1) i = res at *
  refine ⟨fun m ρ s => ∃ a : Int, -1 ≤ a ∧ a + 1 < m ∧ a < ns.length ∧ (insX ns top m a = res ∨ (a < top ∧ res = false)) ∧ ρ 1 = .int .i64 a ∧ ρ 2 = .int .i64 top ∧ ρ 3 = .pointer (some ⟨b1, 0, none⟩) ∧ Own s ((b1, .cells [.slice va ns.length vc] 24 true) :: r),
    ⟨ns.length + 1, i, by omega, by omega, hi.2, .inl hres, rfl, rfl, rfl, ho1⟩, ?_⟩
  clear ho1 hres
  rintro m ρ s ⟨a, ha0, ham, hal, hres, h1, h2, h3, ho⟩
  have hc1 := ho.head
  obtain ⟨f, rfl⟩ : ∃ f, m = f + 1 := ⟨m - 1, by omega⟩
  obtain ⟨jt, nt, htop, _, _⟩ := oD ht
  by_cases hg : a ≥ 0
  case neg =>
    have tg : (a ≥ 0) = False := eq_false hg
    have hr : res = false := by
      rcases hres with h | h
      · rw [← h]; unfold insX; rw [if_neg (by omega), if_pos (by omega)]
      · exact h.2
    rw [hr] at hk
    simp -implicitDefEqProofs only [go_sem, ↓aj, ↓ah, ak, Nat.reduceBEq, ↓reduceIte, reduceCtorEq, Nat.reduceEqDiff, Nat.reduceAdd, Nat.reduceLeDiff, Int.reduceEq, Int.reduceLT, Int.reduceLE, Int.reduceAdd, Int.reduceToNat, Int.reduceNeg, Nat.reduceMul, Nat.reduceSub, Int.reduceBNe, Int.reduceBEq, tg, h1, h2, h3, decide_false]
    exact hk _ ho.tail
  have tg : (a ≥ 0) = True := eq_true hg
  by_cases he : a = top
  · have hr : res = true := by
      rcases hres with h | h
      · rw [← h]; unfold insX; rw [if_pos he]
      · omega
    rw [hr] at hk
    have te : (a == top) = true := by rw [he]; simp
    simp -implicitDefEqProofs only [go_sem, ↓aj, ↓ah, ak, Nat.reduceBEq, ↓reduceIte, reduceCtorEq, Nat.reduceEqDiff, Nat.reduceAdd, Nat.reduceLeDiff, Int.reduceEq, Int.reduceLT, Int.reduceLE, Int.reduceAdd, Int.reduceToNat, Int.reduceNeg, Nat.reduceMul, Nat.reduceSub, Int.reduceBNe, Int.reduceBEq, tg, te, h1, h2, h3, decide_true]
    exact hk _ ho.tail
  have te : (a == top) = false := beq_eq_false_iff_ne.2 he
  obtain ⟨j, rfl⟩ : ∃ j : Nat, a = j := ⟨a.toNat, by omega⟩
  obtain ⟨n, hn⟩ : ∃ n, ns[j]? = some n := ⟨ns[j]'(by omega), List.getElem?_eq_getElem (by omega)⟩
  obtain ⟨x, o, sp, c, ccs, ty, own, kv, av, dv, hvx, hmem, hcut, hget, hnr⟩ := hD.at hn
  injection hvx with hvx _ hvc
  subst hvx hvc
  have hcx := ho.get (List.mem_cons_of_mem _ hmem)
  have q1 := hget 1 (by decide)
  change ccs[o + j * 9 + 1]? = some (.int .i64 n.par) at q1
  have hlj : ((j : Int) < (ns.length : Int)) = True := eq_true hal
  have hge : ((0 : Int) ≤ (j : Int)) = True := eq_true (by omega)
  have hp := RtX.Cg hR hn
  have hres' : insX ns top f n.par = res ∨ (n.par < top ∧ res = false) := by
    by_cases hlt : (j : Int) < top
    · refine .inr ⟨by omega, ?_⟩
      rcases hres with h | h
      · rw [← h]; unfold insX; rw [if_neg he, if_pos hlt]
      · exact h.2
    · refine .inl ?_
      rcases hres with h | h
      · rw [← h]
        conv => rhs; unfold insX
        rw [if_neg he, if_neg hlt, dW, hn]
      · omega
  simp -implicitDefEqProofs only [go_sem, ↓aj, ↓ah, ak, Nat.reduceBEq, ↓reduceIte, reduceCtorEq, Nat.reduceEqDiff, Nat.reduceAdd, Nat.reduceLeDiff, Int.reduceEq, Int.reduceLT, Int.reduceLE, Int.reduceAdd, Int.reduceToNat, Int.reduceNeg, Nat.reduceMul, Nat.reduceSub, Int.reduceBNe, Int.reduceBEq, tg, te, hlj, hge, hc1, hcx, q1, h1, h2, h3, decide_true, and_self, true_and, Int.toNat_natCast, aM, bg, aQ, aB, asz3, Tryz.underlying22, Tryz.underlying55, Tryz.underlying3, List.getElem?_cons_zero]
  exact ⟨f, by omega, n.par, hp.1, by omega, by omega, hres', rfl, ho⟩
theorem zC {n : Nx} {p : Tx} {j : Nat} {a : Dcl} (ha : n.dcls[j]? = some a) (hno : ∀ (t : Nat) (b : Dcl), t < j → n.dcls[t]? = some b → ¬ b.pre = p) (h : a.pre = p) : n.dcls.find? (fun d => decide (d.pre = p)) = some a := by
  have hj := (List.getElem?_eq_some_iff.1 ha).1
  rw [List.find?_eq_some_iff_getElem]
  refine ⟨by simp [h], j, hj, (List.getElem?_eq_some_iff.1 ha).2, fun t ht => ?_⟩
  have := hno t _ ht (List.getElem?_eq_getElem (by omega))
  simp [this]
theorem vw {n : Nx} {p : Tx} (hno : ∀ (t : Nat) (b : Dcl), t < n.dcls.length → n.dcls[t]? = some b → ¬ b.pre = p) : n.dcls.find? (fun d => decide (d.pre = p)) = none := by
  rw [List.find?_eq_none]
  intro a ha
  obtain ⟨t, ht, rfl⟩ := List.getElem_of_mem ha
  have := hno t _ ht (List.getElem?_eq_getElem ht)
  simp [this]
set_option maxRecDepth 10000 in
theorem zD (st : St) (r : Hp) (v : Value) (ns : List Nx) (i : Int) (p : Tx) (hD : DocX r v ns) (hb : BndX ns) (hO : Own st r) (k q : Value → St → Prop) (hk : ∀ st', Own st' r → k (if aW ns i && aG ns then optR (iw ns i p) else optR none) st') : ay (C base w0 G) 17 [.agg #[v], .int .i64 i, .string (tx p)] st k q := by
  obtain ⟨va, vc, hva⟩ := hD.isSlice
  subst hva
  refine ay.of (cx := C base w0 G) mixed Tryz.func17 rfl (by kernel_rfl) (by simp [Tryz.ntmps17]) ?_
  simp only [Tryz.results17]
  have ho := hO.new (.cells [.slice va ns.length vc] 24 true)
  have hD1 := hD.sub (H' := (st.n, Ob.cells [.slice va ns.length vc] 24 true) :: r) fun e he => List.mem_cons_of_mem _ he
  have hcl : cut [Value.slice va ns.length vc] 0 1 = some [Value.slice va ns.length vc] := rfl
  simp -implicitDefEqProofs only [go_sem, ↓aj, ↓ah, ak, Nat.reduceBEq, ↓reduceIte, reduceCtorEq, Nat.reduceEqDiff, Nat.reduceAdd, Nat.reduceLeDiff, Int.reduceEq, Int.reduceLT, Int.reduceLE, Int.reduceAdd, Int.reduceToNat, Int.reduceNeg, Nat.reduceMul, Nat.reduceSub, Int.reduceBNe, Int.reduceBEq, abox, hcl, cB, Tryz.underlying24, Option.map_some]
  have ho1 := ho
  clear ho
  refine au.enter Tryz.func42 rfl (by kernel_rfl) (Cb _ _ _ ns i hD1 hb ho1 _ _ fun s1 ho => ?_)
  generalize hb1 : st.n = b1 at *
  cases hat : aW ns i && aG ns with
  | false =>
    rw [hat, if_neg (by decide)] at hk
    simp -implicitDefEqProofs only [go_sem, ↓aj, ↓ah, ak, Nat.reduceBEq, ↓reduceIte, reduceCtorEq, Nat.reduceEqDiff, Nat.reduceAdd, Nat.reduceLeDiff, Int.reduceEq, Int.reduceLT, Int.reduceLE, Int.reduceAdd, Int.reduceToNat, Int.reduceNeg, Nat.reduceMul, Nat.reduceSub, Int.reduceBNe, Int.reduceBEq]
    exact hk _ ho.tail
  | true =>
  rw [hat, if_pos rfl] at hk
  rw [Bool.and_eq_true] at hat
  have hR := RtX.of hat.2
  replace hat := hat.1
  simp -implicitDefEqProofs only [go_sem, ↓aj, ↓ah, ak, Nat.reduceBEq, ↓reduceIte, reduceCtorEq, Nat.reduceEqDiff, Nat.reduceAdd, Nat.reduceLeDiff, Int.reduceEq, Int.reduceLT, Int.reduceLE, Int.reduceAdd, Int.reduceToNat, Int.reduceNeg, Nat.reduceMul, Nat.reduceSub, Int.reduceBNe, Int.reduceBEq]
  obtain ⟨ji, ni, hji, hni, _⟩ := oD hat
  have hil0 := (List.getElem?_eq_some_iff.1 hni).1
  refine ⟨fun m ρ s => ∃ a : Int, -1 ≤ a ∧ a + 1 < m ∧ a < ns.length ∧ scX ns p m a = scX ns p (ns.length + 1) i ∧ ρ 1 = .int .i64 a ∧ ρ 2 = .string (tx p) ∧ ρ 3 = .pointer (some ⟨b1, 0, none⟩) ∧ Own s ((b1, .cells [.slice va ns.length vc] 24 true) :: r),
    ⟨ns.length + 1, i, by omega, by omega, by omega, rfl, rfl, rfl, rfl, ho⟩, ?_⟩
  clear ho
  rintro m ρ s ⟨a, ha0, ham, hal, hres, h1, h2, h3, ho⟩
  have hc1 := ho.head
  obtain ⟨f, rfl⟩ : ∃ f, m = f + 1 := ⟨m - 1, by omega⟩
  by_cases hg : a ≥ 0
  case neg =>
    have tg : (a ≥ 0) = False := eq_false hg
    have hsn : scX ns p (ns.length + 1) i = none := by
      rw [← hres]
      unfold scX nodeAt
      rw [if_neg (by omega)]
    have hsc : iw ns i p = if p = [120, 109, 108] then some eG else none := by unfold iw; rw [hsn]
    rw [hsc] at hk
    have hx := aA p [120, 109, 108]
    have ex : (⟨#[120, 109, 108]⟩ : ByteArray) = tx [120, 109, 108] := rfl
    by_cases hpx : p = [120, 109, 108]
    · rw [if_pos hpx] at hk
      rw [decide_eq_true hpx] at hx
      simp -implicitDefEqProofs only [go_sem, ↓aj, ↓ah, ak, Nat.reduceBEq, ↓reduceIte, reduceCtorEq, Nat.reduceEqDiff, Nat.reduceAdd, Nat.reduceLeDiff, Int.reduceEq, Int.reduceLT, Int.reduceLE, Int.reduceAdd, Int.reduceToNat, Int.reduceNeg, Nat.reduceMul, Nat.reduceSub, Int.reduceBNe, Int.reduceBEq, tg, ex, hx, h1, h2, h3, decide_false]
      exact hk _ ho.tail
    · rw [if_neg hpx] at hk
      rw [decide_eq_false hpx] at hx
      simp -implicitDefEqProofs only [go_sem, ↓aj, ↓ah, ak, Nat.reduceBEq, ↓reduceIte, reduceCtorEq, Nat.reduceEqDiff, Nat.reduceAdd, Nat.reduceLeDiff, Int.reduceEq, Int.reduceLT, Int.reduceLE, Int.reduceAdd, Int.reduceToNat, Int.reduceNeg, Nat.reduceMul, Nat.reduceSub, Int.reduceBNe, Int.reduceBEq, tg, ex, hx, h1, h2, h3, decide_false]
      exact hk _ ho.tail
  have tg : (a ≥ 0) = True := eq_true hg
  obtain ⟨j, rfl⟩ : ∃ j : Nat, a = j := ⟨a.toNat, by omega⟩
  obtain ⟨n, hn⟩ : ∃ n, ns[j]? = some n := ⟨ns[j]'(by omega), List.getElem?_eq_getElem (by omega)⟩
  obtain ⟨x, o, sp, c, ccs, ty, own, kv, av, dv, hvx, hmem, hcut, hget, hnr⟩ := hD.at hn
  injection hvx with hvx _ hvc
  subst hvx hvc
  have hcx := ho.get (List.mem_cons_of_mem _ hmem)
  have q1 := hget 1 (by decide)
  have q7 := hget 7 (by decide)
  change ccs[o + j * 9 + 1]? = some (.int .i64 n.par) at q1
  obtain ⟨da, dc, hdv1, _⟩ := hnr.dcl.isSlice
  have hDc : Rws r dv 2 (n.dcls.map dclC) := hnr.dcl
  subst hdv1
  simp only [List.length_map] at *
  change ccs[o + j * 9 + 7]? = some (.slice da n.dcls.length dc) at q7
  have hlj : ((j : Int) < (ns.length : Int)) = True := eq_true hal
  have hge : ((0 : Int) ≤ (j : Int)) = True := eq_true (by omega)
  have hp := RtX.Cg hR hn
  have hbd := (hb.2 n (List.mem_of_getElem? hn)).2.1
  have hres' : scX ns p (ns.length + 1) i = match n.dcls.find? (fun d => decide (d.pre = p)) with
      | some d => some d.uri
      | none => scX ns p f n.par := by
    rw [← hres]
    conv => lhs; unfold scX
    rw [dW, hn]
  simp -implicitDefEqProofs only [go_sem, ↓aj, ↓ah, ak, Nat.reduceBEq, ↓reduceIte, reduceCtorEq, Nat.reduceEqDiff, Nat.reduceAdd, Nat.reduceLeDiff, Int.reduceEq, Int.reduceLT, Int.reduceLE, Int.reduceAdd, Int.reduceToNat, Int.reduceNeg, Nat.reduceMul, Nat.reduceSub, Int.reduceBNe, Int.reduceBEq, tg, hlj, hge, hc1, hcx, q1, q7, h1, h2, h3, decide_true, and_self, true_and, Int.toNat_natCast, aM, aR, aQ, aB, bE, Tryz.underlying22, Tryz.underlying55, Tryz.underlying53, List.getElem?_cons_zero]
  refine ⟨fun m2 ρ s => ∃ t : Nat, m2 = n.dcls.length - t ∧ t ≤ n.dcls.length ∧ ρ 1 = .int .i64 (j : Nat) ∧ ρ 2 = .string (tx p) ∧ ρ 3 = .pointer (some ⟨b1, 0, none⟩) ∧ ρ 27 = .slice da n.dcls.length dc ∧ ρ 28 = .int .i64 (n.dcls.length : Nat) ∧ ρ 29 = .int .i64 (t : Nat) ∧ Own s ((b1, .cells [.slice (some ⟨x, o, sp⟩) ns.length vc] 24 true) :: r) ∧ ∀ (t' : Nat) (b : Dcl), t' < t → n.dcls[t']? = some b → ¬ b.pre = p,
    ⟨_, 0, rfl, Nat.zero_le _, h1, h2, h3, rfl, rfl, rfl, ho, fun t b h => by omega⟩, ?_⟩
  clear h1 h2 h3 ho hc1 hcx
  rintro _ ρ s ⟨t, rfl, ht, h1, h2, h3, h27, h28, h29, ho, hno⟩
  have hc1 := ho.head
  have hcx := ho.get (List.mem_cons_of_mem _ hmem)
  by_cases htl : t < n.dcls.length
  case neg =>
    obtain rfl : t = n.dcls.length := by omega
    rw [vw hno] at hres'
    simp -implicitDefEqProofs only [go_sem, ↓aj, ↓ah, ak, Nat.reduceBEq, ↓reduceIte, reduceCtorEq, Nat.reduceEqDiff, Nat.reduceAdd, Nat.reduceLeDiff, Int.reduceEq, Int.reduceLT, Int.reduceLE, Int.reduceAdd, Int.reduceToNat, Int.reduceNeg, Nat.reduceMul, Nat.reduceSub, Int.reduceBNe, Int.reduceBEq, hlj, hge, hc1, hcx, q1, h1, h2, h3, h27, h28, h29, Int.ofNat_lt, Nat.lt_irrefl, decide_false, decide_true, and_self, true_and, Int.toNat_natCast, aM, bg, aQ, aB, asz3, Tryz.underlying22, Tryz.underlying55, Tryz.underlying3, List.getElem?_cons_zero]
    exact ⟨f, by omega, n.par, hp.1, by omega, by omega, hres'.symm, rfl, ho⟩
  obtain ⟨d, hd⟩ : ∃ d, n.dcls[t]? = some d := ⟨n.dcls[t], List.getElem?_eq_getElem htl⟩
  obtain ⟨y, yo, ysp, yc, ycs, yty, yown, hvy, hmy, hcy⟩ := hDc.mem (i := t) (l := dclC d) (by simp [hd])
  rw [List.length_map] at hvy
  injection hvy with hvy _ hvyc
  subst hvy hvyc
  have hcy' := ho.get (List.mem_cons_of_mem _ hmy)
  have hny : ¬ y = s.n := ho.fresh (List.mem_cons_of_mem _ hmy)
  have hlt : ((t : Int) < (n.dcls.length : Int)) = True := eq_true (by omega)
  have hgt : ((0 : Int) ≤ (t : Int)) = True := eq_true (by omega)
  have hon := (ho.new (.cells [.string ⟨#[]⟩, .string ⟨#[]⟩] 61 true)).set rfl (.cells (dclC d) 61 true) rfl
  have hsetD : setL [.string ⟨#[]⟩, .string ⟨#[]⟩] 0 (dclC d) = dclC d := rfl
  have g0 : (dclC d)[0]? = some (.string (tx d.pre)) := rfl
  have g1 : (dclC d)[1]? = some (.string (tx d.uri)) := rfl
  have w1 : IntKind.i64.wrap ((t : Int) + 1) = ((t + 1 : Nat) : Int) := by rw [bL (by omega)]; omega
  have heq := aA d.pre p
  simp -implicitDefEqProofs only [go_sem, ↓aj, ↓ah, ak, Nat.reduceBEq, ↓reduceIte, reduceCtorEq, Nat.reduceEqDiff, Nat.reduceAdd, Nat.reduceLeDiff, Int.reduceEq, Int.reduceLT, Int.reduceLE, Int.reduceAdd, Int.reduceToNat, Int.reduceNeg, Nat.reduceMul, Nat.reduceSub, Int.reduceBNe, Int.reduceBEq, h1, h2, h3, h27, h28, h29, hlt, hgt, hcy', hcy, hny, and_self, true_and, decide_true, Int.toNat_natCast, bE, fq, kW, aX, hsetD, Tryz.underlying53, Tryz.underlying61]
  generalize hb5 : s.n = b5 at *
  refine ⟨⟨rfl, rfl⟩, ?_⟩
  generalize hs5 : (s.new _).set _ _ = s5 at *
  have hc5 := hon.head
  by_cases hdp : d.pre = p
  · rw [zC hd hno hdp] at hres'
    have hsc : iw ns i p = some d.uri := by unfold iw; rw [hres']
    rw [hsc] at hk
    rw [decide_eq_true hdp] at heq
    simp -implicitDefEqProofs only [go_sem, ↓aj, ↓ah, ak, Nat.reduceBEq, ↓reduceIte, reduceCtorEq, Nat.reduceEqDiff, Nat.reduceAdd, Nat.reduceLeDiff, Int.reduceEq, Int.reduceLT, Int.reduceLE, Int.reduceAdd, Int.reduceToNat, Int.reduceNeg, Nat.reduceMul, Nat.reduceSub, Int.reduceBNe, Int.reduceBEq, h1, h2, h3, h27, h28, h29, hc5, g0, g1, heq, fF, fG, fq, asz9, Tryz.underlying61, Tryz.underlying9]
    exact hk _ hon.tail.tail
  · rw [decide_eq_false hdp] at heq
    have hno' : ∀ (t' : Nat) (b : Dcl), t' < t + 1 → n.dcls[t']? = some b → ¬ b.pre = p := fun t' b ht' hb' => by
      by_cases hti : t' = t
      · subst hti
        rw [hd] at hb'
        injection hb' with hb'
        rw [← hb']; exact hdp
      · exact hno t' b (by omega) hb'
    have htl' : t + 1 ≤ n.dcls.length := htl
    have ho7 := hon.tail
    simp -implicitDefEqProofs only [go_sem, ↓aj, ↓ah, ak, Nat.reduceBEq, ↓reduceIte, reduceCtorEq, Nat.reduceEqDiff, Nat.reduceAdd, Nat.reduceLeDiff, Int.reduceEq, Int.reduceLT, Int.reduceLE, Int.reduceAdd, Int.reduceToNat, Int.reduceNeg, Nat.reduceMul, Nat.reduceSub, Int.reduceBNe, Int.reduceBEq, h1, h2, h3, h27, h28, h29, hc5, g0, g1, heq, w1, fF, fG, fq, asz9, Tryz.underlying61, Tryz.underlying9]
    refine ⟨n.dcls.length - (t + 1), by omega, t + 1, ?_⟩
    (repeat' first | assumption | exact rfl | apply And.intro)
set_option maxRecDepth 10000 in
theorem zF (st : St) (r : Hp) (v : Value) (ns : List Nx) (i : Int) (p : Tx) (hR : RtX ns) (hat : aW ns i = true) (hD : DocX r v ns) (hb : BndX ns) (hO : Own st r) (k q : Value → St → Prop) (hk : ∀ st', Own st' r → k (optR (iw ns i p)) st') : ay (C base w0 G) 20 [.agg #[v], .int .i64 i, .string (tx p)] st k q := by
  obtain ⟨va, vc, hva⟩ := hD.isSlice
  subst hva
  refine ay.of (cx := C base w0 G) mixed Tryz.func20 rfl (by kernel_rfl) (by simp [Tryz.ntmps20]) ?_
  simp only [Tryz.results20]
  have ho := hO.new (.cells [.slice va ns.length vc] 24 true)
  simp -implicitDefEqProofs only [go_sem, ↓aj, ↓ah, ak, Nat.reduceBEq, ↓reduceIte, reduceCtorEq, Nat.reduceEqDiff, Nat.reduceAdd, Nat.reduceLeDiff, Int.reduceEq, Int.reduceLT, Int.reduceLE, Int.reduceAdd, Int.reduceToNat, Int.reduceNeg, Nat.reduceMul, Nat.reduceSub, Int.reduceBNe, Int.reduceBEq, abox]
  generalize hs1 : St.new st _ = s1 at *
  generalize hb1 : st.n = b1 at *
  obtain ⟨ji, ni, hji, hni, _⟩ := oD hat
  have hil0 := (List.getElem?_eq_some_iff.1 hni).1
  refine ⟨fun m ρ s => ∃ a : Int, -1 ≤ a ∧ a + 1 < m ∧ a < ns.length ∧ scX ns p m a = scX ns p (ns.length + 1) i ∧ ρ 1 = .int .i64 a ∧ ρ 2 = .string (tx p) ∧ ρ 3 = .pointer (some ⟨b1, 0, none⟩) ∧ Own s ((b1, .cells [.slice va ns.length vc] 24 true) :: r),
    ⟨ns.length + 1, i, by omega, by omega, by omega, rfl, rfl, rfl, rfl, ho⟩, ?_⟩
  clear ho
  rintro m ρ s ⟨a, ha0, ham, hal, hres, h1, h2, h3, ho⟩
  have hc1 := ho.head
  obtain ⟨f, rfl⟩ : ∃ f, m = f + 1 := ⟨m - 1, by omega⟩
  by_cases hg : a ≥ 0
  case neg =>
    have tg : (a ≥ 0) = False := eq_false hg
    have hsn : scX ns p (ns.length + 1) i = none := by
      rw [← hres]
      unfold scX nodeAt
      rw [if_neg (by omega)]
    have hsc : iw ns i p = if p = [120, 109, 108] then some eG else none := by unfold iw; rw [hsn]
    rw [hsc] at hk
    have hx := aA p [120, 109, 108]
    have ex : (⟨#[120, 109, 108]⟩ : ByteArray) = tx [120, 109, 108] := rfl
    by_cases hpx : p = [120, 109, 108]
    · rw [if_pos hpx] at hk
      rw [decide_eq_true hpx] at hx
      simp -implicitDefEqProofs only [go_sem, ↓aj, ↓ah, ak, Nat.reduceBEq, ↓reduceIte, reduceCtorEq, Nat.reduceEqDiff, Nat.reduceAdd, Nat.reduceLeDiff, Int.reduceEq, Int.reduceLT, Int.reduceLE, Int.reduceAdd, Int.reduceToNat, Int.reduceNeg, Nat.reduceMul, Nat.reduceSub, Int.reduceBNe, Int.reduceBEq, tg, ex, hx, h1, h2, h3, decide_false]
      refine au.enter Tryz.func43 rfl (by kernel_rfl) (DI _ _ _ ?_)
      simp -implicitDefEqProofs only [go_sem, ↓aj, ↓ah, ak, Nat.reduceBEq, ↓reduceIte, reduceCtorEq, Nat.reduceEqDiff, Nat.reduceAdd, Nat.reduceLeDiff, Int.reduceEq, Int.reduceLT, Int.reduceLE, Int.reduceAdd, Int.reduceToNat, Int.reduceNeg, Nat.reduceMul, Nat.reduceSub, Int.reduceBNe, Int.reduceBEq]
      exact hk _ ho.tail
    · rw [if_neg hpx] at hk
      rw [decide_eq_false hpx] at hx
      simp -implicitDefEqProofs only [go_sem, ↓aj, ↓ah, ak, Nat.reduceBEq, ↓reduceIte, reduceCtorEq, Nat.reduceEqDiff, Nat.reduceAdd, Nat.reduceLeDiff, Int.reduceEq, Int.reduceLT, Int.reduceLE, Int.reduceAdd, Int.reduceToNat, Int.reduceNeg, Nat.reduceMul, Nat.reduceSub, Int.reduceBNe, Int.reduceBEq, tg, ex, hx, h1, h2, h3, decide_false]
      exact hk _ ho.tail
  have tg : (a ≥ 0) = True := eq_true hg
  obtain ⟨j, rfl⟩ : ∃ j : Nat, a = j := ⟨a.toNat, by omega⟩
  obtain ⟨n, hn⟩ : ∃ n, ns[j]? = some n := ⟨ns[j]'(by omega), List.getElem?_eq_getElem (by omega)⟩
  obtain ⟨x, o, sp, c, ccs, ty, own, kv, av, dv, hvx, hmem, hcut, hget, hnr⟩ := hD.at hn
  injection hvx with hvx _ hvc
  subst hvx hvc
  have hcx := ho.get (List.mem_cons_of_mem _ hmem)
  have q1 := hget 1 (by decide)
  have q7 := hget 7 (by decide)
  change ccs[o + j * 9 + 1]? = some (.int .i64 n.par) at q1
  obtain ⟨da, dc, hdv1, _⟩ := hnr.dcl.isSlice
  have hDc : Rws r dv 2 (n.dcls.map dclC) := hnr.dcl
  subst hdv1
  simp only [List.length_map] at *
  change ccs[o + j * 9 + 7]? = some (.slice da n.dcls.length dc) at q7
  have hlj : ((j : Int) < (ns.length : Int)) = True := eq_true hal
  have hge : ((0 : Int) ≤ (j : Int)) = True := eq_true (by omega)
  have hp := RtX.Cg hR hn
  have hbd := (hb.2 n (List.mem_of_getElem? hn)).2.1
  have hres' : scX ns p (ns.length + 1) i = match n.dcls.find? (fun d => decide (d.pre = p)) with
      | some d => some d.uri
      | none => scX ns p f n.par := by
    rw [← hres]
    conv => lhs; unfold scX
    rw [dW, hn]
  simp -implicitDefEqProofs only [go_sem, ↓aj, ↓ah, ak, Nat.reduceBEq, ↓reduceIte, reduceCtorEq, Nat.reduceEqDiff, Nat.reduceAdd, Nat.reduceLeDiff, Int.reduceEq, Int.reduceLT, Int.reduceLE, Int.reduceAdd, Int.reduceToNat, Int.reduceNeg, Nat.reduceMul, Nat.reduceSub, Int.reduceBNe, Int.reduceBEq, tg, hlj, hge, hc1, hcx, q1, q7, h1, h2, h3, decide_true, and_self, true_and, Int.toNat_natCast, aM, aR, aQ, aB, bE, Tryz.underlying22, Tryz.underlying55, Tryz.underlying53, List.getElem?_cons_zero]
  refine ⟨fun m2 ρ s => ∃ t : Nat, m2 = n.dcls.length - t ∧ t ≤ n.dcls.length ∧ ρ 1 = .int .i64 (j : Nat) ∧ ρ 2 = .string (tx p) ∧ ρ 3 = .pointer (some ⟨b1, 0, none⟩) ∧ ρ 8 = .slice da n.dcls.length dc ∧ ρ 9 = .int .i64 (t : Nat) ∧ Own s ((b1, .cells [.slice (some ⟨x, o, sp⟩) ns.length vc] 24 true) :: r) ∧ ∀ (t' : Nat) (b : Dcl), t' < t → n.dcls[t']? = some b → ¬ b.pre = p,
    ⟨_, 0, rfl, Nat.zero_le _, h1, h2, h3, rfl, rfl, ho, fun t b h => by omega⟩, ?_⟩
  clear h1 h2 h3 ho hc1 hcx
  rintro _ ρ s ⟨t, rfl, ht, h1, h2, h3, h8, h9, ho, hno⟩
  have hc1 := ho.head
  have hcx := ho.get (List.mem_cons_of_mem _ hmem)
  by_cases htl : t < n.dcls.length
  case neg =>
    obtain rfl : t = n.dcls.length := by omega
    rw [vw hno] at hres'
    simp -implicitDefEqProofs only [go_sem, ↓aj, ↓ah, ak, Nat.reduceBEq, ↓reduceIte, reduceCtorEq, Nat.reduceEqDiff, Nat.reduceAdd, Nat.reduceLeDiff, Int.reduceEq, Int.reduceLT, Int.reduceLE, Int.reduceAdd, Int.reduceToNat, Int.reduceNeg, Nat.reduceMul, Nat.reduceSub, Int.reduceBNe, Int.reduceBEq, hlj, hge, hc1, hcx, q1, h1, h2, h3, h8, h9, Int.ofNat_lt, Nat.lt_irrefl, decide_false, decide_true, and_self, true_and, Int.toNat_natCast, aM, bg, aQ, aB, asz3, Tryz.underlying22, Tryz.underlying55, Tryz.underlying3, Tryz.underlying53, List.getElem?_cons_zero]
    exact ⟨f, by omega, n.par, hp.1, by omega, by omega, hres'.symm, rfl, ho⟩
  obtain ⟨d, hd⟩ : ∃ d, n.dcls[t]? = some d := ⟨n.dcls[t], List.getElem?_eq_getElem htl⟩
  obtain ⟨y, yo, ysp, yc, ycs, yty, yown, hvy, hmy, hcy⟩ := hDc.mem (i := t) (l := dclC d) (by simp [hd])
  rw [List.length_map] at hvy
  injection hvy with hvy _ hvyc
  subst hvy hvyc
  have hcy' := ho.get (List.mem_cons_of_mem _ hmy)
  have hlt : ((t : Int) < (n.dcls.length : Int)) = True := eq_true (by omega)
  have hgt : ((0 : Int) ≤ (t : Int)) = True := eq_true (by omega)
  have g0 := bG hcy (j := 0) (by decide)
  have g1 := bG hcy (j := 1) (by decide)
  rw [Nat.add_zero] at g0
  change _ = some (Value.string (tx d.pre)) at g0
  change _ = some (Value.string (tx d.uri)) at g1
  have w1 : IntKind.i64.wrap ((t : Int) + 1) = ((t + 1 : Nat) : Int) := by rw [bL (by omega)]; omega
  have heq := aA d.pre p
  by_cases hdp : d.pre = p
  · rw [zC hd hno hdp] at hres'
    have hsc : iw ns i p = some d.uri := by unfold iw; rw [hres']
    rw [hsc] at hk
    rw [decide_eq_true hdp] at heq
    simp -implicitDefEqProofs only [go_sem, ↓aj, ↓ah, ak, Nat.reduceBEq, ↓reduceIte, reduceCtorEq, Nat.reduceEqDiff, Nat.reduceAdd, Nat.reduceLeDiff, Int.reduceEq, Int.reduceLT, Int.reduceLE, Int.reduceAdd, Int.reduceToNat, Int.reduceNeg, Nat.reduceMul, Nat.reduceSub, Int.reduceBNe, Int.reduceBEq, h1, h2, h3, h8, h9, hlt, hgt, hcy', g0, g1, heq, decide_true, and_self, true_and, Int.toNat_natCast, Nat.add_zero, fF, fG, bE, fq, asz9, Tryz.underlying53, Tryz.underlying61, Tryz.underlying9]
    exact hk _ ho.tail
  · rw [decide_eq_false hdp] at heq
    have hno' : ∀ (t' : Nat) (b : Dcl), t' < t + 1 → n.dcls[t']? = some b → ¬ b.pre = p := fun t' b ht' hb' => by
      by_cases hti : t' = t
      · subst hti
        rw [hd] at hb'
        injection hb' with hb'
        rw [← hb']; exact hdp
      · exact hno t' b (by omega) hb'
    have htl' : t + 1 ≤ n.dcls.length := htl
    simp -implicitDefEqProofs only [go_sem, ↓aj, ↓ah, ak, Nat.reduceBEq, ↓reduceIte, reduceCtorEq, Nat.reduceEqDiff, Nat.reduceAdd, Nat.reduceLeDiff, Int.reduceEq, Int.reduceLT, Int.reduceLE, Int.reduceAdd, Int.reduceToNat, Int.reduceNeg, Nat.reduceMul, Nat.reduceSub, Int.reduceBNe, Int.reduceBEq, h1, h2, h3, h8, h9, hlt, hgt, hcy', g0, g1, heq, w1, decide_true, and_self, true_and, Int.toNat_natCast, Nat.add_zero, fF, fG, bE, fq, asz9, Tryz.underlying53, Tryz.underlying61, Tryz.underlying9]
    refine ⟨n.dcls.length - (t + 1), by omega, t + 1, ?_⟩
    (repeat' first | assumption | exact rfl | apply And.intro)
end Go.Proofs.YtigjbehgfjjlkaaGreatDoor
set_option linter.unusedVariables false
set_option linter.unusedSimpArgs false
namespace Go.Proofs.YtigjbehgfjjlkaaGreatDoor
open Go Go.Abs Go.RowKit Go.Xml
variable {base : Nat} {w0 : World} {G : Nat}
def askC (I J : Int) (sp lo : Tx) : List Value := [.int .i64 I, .int .i64 J, .string (tx sp), .string (tx lo)]
theorem Fj (l : List Int) : ∃ a e, Fh l = .tuple #[.int .i64 a, .int .i64 e] := by
  match l with
  | [] => exact ⟨_, _, rfl⟩
  | [_] => exact ⟨_, _, rfl⟩
  | _ :: _ :: _ => exact ⟨_, _, rfl⟩
theorem Gq (o : Option Tx) : ∃ u b, optR o = .tuple #[.string (tx u), .bool b] := by
  match o with
  | none => exact ⟨[], false, rfl⟩
  | some u => exact ⟨u, true, rfl⟩
set_option maxRecDepth 10000 in
theorem zG (st : St) (r : Hp) (v : Value) (ns : List Nx) (I J : Int) (sp lo : Tx) (hM : dZ w0) (hT : dx w0) (hD : DocX r v ns) (hO : Own st r) (k q : Value → St → Prop) (hk : ∀ st', k (.bool true) st') : ay (C base w0 3) 5 [.agg #[v], .agg (askC I J sp lo).toArray] st k q := by
  obtain ⟨va, vc, hva⟩ := hD.isSlice
  subst hva
  refine ay.of (cx := C base w0 3) mixed Tryz.func5 rfl (by kernel_rfl) (by simp [Tryz.ntmps5]) ?_
  simp only [Tryz.results5]
  have ho1 := (hO.new (.cells [.slice va ns.length vc] 24 true)).new (.cells (askC I J sp lo) 37 true)
  rw [yD] at ho1
  have hD1 := hD.sub (H' := (st.n + 1, Ob.cells (askC I J sp lo) 37 true) :: (st.n, Ob.cells [.slice va ns.length vc] 24 true) :: r) fun e he => List.mem_cons_of_mem _ (List.mem_cons_of_mem _ he)
  have hcl : cut [Value.slice va ns.length vc] 0 1 = some [Value.slice va ns.length vc] := rfl
  simp -implicitDefEqProofs only [go_sem, ↓aj, ↓ah, ak, Nat.reduceBEq, ↓reduceIte, reduceCtorEq, Nat.reduceEqDiff, Nat.reduceAdd, Nat.reduceLeDiff, Int.reduceEq, Int.reduceLT, Int.reduceLE, Int.reduceAdd, Int.reduceToNat, Int.reduceNeg, Nat.reduceMul, Nat.reduceSub, Int.reduceBNe, Int.reduceBEq, abox]
  generalize hS1 : (St.new (St.new st _) _) = S1 at *
  generalize hb2 : st.n + 1 = b2 at *
  generalize hb1 : st.n = b1 at *
  refine au.enter Tryz.func7 rfl (by kernel_rfl) (qA _ _ hM hT ho1 _ _ fun s1 ho => ?_)
  clear ho1
  have hc1 := ho.tail.head
  simp -implicitDefEqProofs only [go_sem, ↓aj, ↓ah, ak, Nat.reduceBEq, ↓reduceIte, reduceCtorEq, Nat.reduceEqDiff, Nat.reduceAdd, Nat.reduceLeDiff, Int.reduceEq, Int.reduceLT, Int.reduceLE, Int.reduceAdd, Int.reduceToNat, Int.reduceNeg, Nat.reduceMul, Nat.reduceSub, Int.reduceBNe, Int.reduceBEq, hc1, hcl, cB, Tryz.underlying24, Option.map_some]
  refine au.enter Tryz.func8 rfl (by kernel_rfl) (zA _ _ _ ns hD1 ho _ _ fun s2 ho2 => ?_)
  cases hs : dz ns with
  | false =>
    simp -implicitDefEqProofs only [go_sem, ↓aj, ↓ah, ak, Nat.reduceBEq, ↓reduceIte, reduceCtorEq, Nat.reduceEqDiff, Nat.reduceAdd, Nat.reduceLeDiff, Int.reduceEq, Int.reduceLT, Int.reduceLE, Int.reduceAdd, Int.reduceToNat, Int.reduceNeg, Nat.reduceMul, Nat.reduceSub, Int.reduceBNe, Int.reduceBEq]
    refine au.enter Tryz.func7 rfl (by kernel_rfl) (qA _ _ hM hT ho2 _ _ fun s3 ho3 => ?_)
    simp -implicitDefEqProofs only [go_sem, ↓aj, ↓ah, ak, Nat.reduceBEq, ↓reduceIte, reduceCtorEq, Nat.reduceEqDiff, Nat.reduceAdd, Nat.reduceLeDiff, Int.reduceEq, Int.reduceLT, Int.reduceLE, Int.reduceAdd, Int.reduceToNat, Int.reduceNeg, Nat.reduceMul, Nat.reduceSub, Int.reduceBNe, Int.reduceBEq]
    exact hk _
  | true =>
  have hb := DJ hs
  have a0 : (askC I J sp lo)[0]? = some (.int .i64 I) := rfl
  have a1 : (askC I J sp lo)[1]? = some (.int .i64 J) := rfl
  have a2 : (askC I J sp lo)[2]? = some (.string (tx sp)) := rfl
  have a3 : (askC I J sp lo)[3]? = some (.string (tx lo)) := rfl
  generalize askC I J sp lo = ask at *
  have hc2 := ho2.tail.head
  have hd2 := ho2.head
  simp -implicitDefEqProofs only [go_sem, ↓aj, ↓ah, ak, Nat.reduceBEq, ↓reduceIte, reduceCtorEq, Nat.reduceEqDiff, Nat.reduceAdd, Nat.reduceLeDiff, Int.reduceEq, Int.reduceLT, Int.reduceLE, Int.reduceAdd, Int.reduceToNat, Int.reduceNeg, Nat.reduceMul, Nat.reduceSub, Int.reduceBNe, Int.reduceBEq, hc2, hd2, a0, a1, a2, a3, hcl, cB, asz3, asz9, iA, iB, iC, iD, Tryz.underlying37, Tryz.underlying24, Tryz.underlying3, Tryz.underlying9, Option.map_some]
  refine au.enter Tryz.func15 rfl (by kernel_rfl) (Bz _ _ _ ns lo hD1 hb ho2 _ _ fun s3 ho3 => ?_)
  have hc3 := ho3.tail.head
  have hd3 := ho3.head
  obtain ⟨fa, fe, hfr⟩ := Fj (bA ns lo ns.length)
  rw [hfr]
  obtain ⟨ga, ge, hgr⟩ : ∃ a e, (if aG ns then Value.tuple #[.int .i64 fa, .int .i64 fe] else .tuple #[.int .i64 0, .int .i64 2]) = .tuple #[.int .i64 a, .int .i64 e] := by split <;> exact ⟨_, _, rfl⟩
  rw [hgr]
  simp -implicitDefEqProofs only [go_sem, ↓aj, ↓ah, ak, Nat.reduceBEq, ↓reduceIte, reduceCtorEq, Nat.reduceEqDiff, Nat.reduceAdd, Nat.reduceLeDiff, Int.reduceEq, Int.reduceLT, Int.reduceLE, Int.reduceAdd, Int.reduceToNat, Int.reduceNeg, Nat.reduceMul, Nat.reduceSub, Int.reduceBNe, Int.reduceBEq, hc3, hd3, a0, a1, a2, a3, hcl, cB, asz3, asz9, iA, iB, iC, iD, Tryz.underlying37, Tryz.underlying24, Tryz.underlying3, Tryz.underlying9, Option.map_some, List.getElem?_cons_succ, List.getElem?_cons_zero]
  refine au.enter Tryz.func16 rfl (by kernel_rfl) (xu _ _ _ ns J I hD1 hb ho3 _ _ fun s4 ho4 => ?_)
  have hc4 := ho4.tail.head
  have hd4 := ho4.head
  simp -implicitDefEqProofs only [go_sem, ↓aj, ↓ah, ak, Nat.reduceBEq, ↓reduceIte, reduceCtorEq, Nat.reduceEqDiff, Nat.reduceAdd, Nat.reduceLeDiff, Int.reduceEq, Int.reduceLT, Int.reduceLE, Int.reduceAdd, Int.reduceToNat, Int.reduceNeg, Nat.reduceMul, Nat.reduceSub, Int.reduceBNe, Int.reduceBEq, hc4, hd4, a0, a1, a2, a3, hcl, cB, asz3, asz9, iA, iB, iC, iD, Tryz.underlying37, Tryz.underlying24, Tryz.underlying3, Tryz.underlying9, Option.map_some]
  refine au.enter Tryz.func17 rfl (by kernel_rfl) (zD _ _ _ ns I lo hD1 hb ho4 _ _ fun s5 ho5 => ?_)
  have hc5 := ho5.tail.head
  have hd5 := ho5.head
  obtain ⟨u, ub, hu⟩ := Gq (if aW ns I && aG ns then iw ns I lo else none)
  rw [show (if aW ns I && aG ns then optR (iw ns I lo) else optR none) = optR (if aW ns I && aG ns then iw ns I lo else none) by split <;> rfl, hu]
  simp -implicitDefEqProofs only [go_sem, ↓aj, ↓ah, ak, Nat.reduceBEq, ↓reduceIte, reduceCtorEq, Nat.reduceEqDiff, Nat.reduceAdd, Nat.reduceLeDiff, Int.reduceEq, Int.reduceLT, Int.reduceLE, Int.reduceAdd, Int.reduceToNat, Int.reduceNeg, Nat.reduceMul, Nat.reduceSub, Int.reduceBNe, Int.reduceBEq, hc5, hd5, a0, a1, a2, a3, hcl, cB, asz3, asz9, iA, iB, iC, iD, Tryz.underlying37, Tryz.underlying24, Tryz.underlying3, Tryz.underlying9, Option.map_some, List.getElem?_cons_succ, List.getElem?_cons_zero]
  refine au.enter Tryz.func10 rfl (by kernel_rfl) (qy _ _ _ ns hD1 hb ho5 _ _ fun s6 ho6 => ?_)
  have hc6 := ho6.tail.head
  have hd6 := ho6.head
  have e0 : (⟨#[]⟩ : ByteArray) = tx [] := rfl
  cases hr : aG ns with
  | false =>
    rw [hr, if_neg (by decide)] at hgr
    rw [hr, Bool.and_false, if_neg (by decide)] at hu
    simp only [Value.tuple.injEq, Array.mk.injEq, List.cons.injEq, Value.int.injEq, true_and, and_true] at hgr
    obtain ⟨rfl, rfl⟩ := hgr
    have hu1 : u = [] ∧ ub = false := by
      unfold optR at hu
      simp only [Value.tuple.injEq, Array.mk.injEq, List.cons.injEq, Value.string.injEq, Value.bool.injEq, and_true] at hu
      exact ⟨(EA (a := []) (b := u) hu.1).symm, hu.2.symm⟩
    obtain ⟨rfl, rfl⟩ := hu1
    simp -implicitDefEqProofs only [go_sem, ↓aj, ↓ah, ak, Nat.reduceBEq, ↓reduceIte, reduceCtorEq, Nat.reduceEqDiff, Nat.reduceAdd, Nat.reduceLeDiff, Int.reduceEq, Int.reduceLT, Int.reduceLE, Int.reduceAdd, Int.reduceToNat, Int.reduceNeg, Nat.reduceMul, Nat.reduceSub, Int.reduceBNe, Int.reduceBEq, Bool.and_false, Bool.false_and, e0, aA, decide_true, Tryz.underlying27]
    exact hk _
  | true =>
  have hR := RtX.of hr
  rw [hr, if_pos rfl] at hgr
  simp only [Value.tuple.injEq, Array.mk.injEq, List.cons.injEq, Value.int.injEq, true_and, and_true] at hgr
  obtain ⟨rfl, rfl⟩ := hgr
  simp -implicitDefEqProofs only [go_sem, ↓aj, ↓ah, ak, Nat.reduceBEq, ↓reduceIte, reduceCtorEq, Nat.reduceEqDiff, Nat.reduceAdd, Nat.reduceLeDiff, Int.reduceEq, Int.reduceLT, Int.reduceLE, Int.reduceAdd, Int.reduceToNat, Int.reduceNeg, Nat.reduceMul, Nat.reduceSub, Int.reduceBNe, Int.reduceBEq, hc6, hd6, a0, a1, a2, a3, hcl, cB, asz3, asz9, iA, iB, iC, iD, Tryz.underlying37, Tryz.underlying24, Tryz.underlying3, Tryz.underlying9, Option.map_some]
  refine au.enter Tryz.func18 rfl (by kernel_rfl) (BA _ _ _ ns lo hD1 hb ho6 _ _ fun s7 ho7 => ?_)
  have hc7 := ho7.tail.head
  have hd7 := ho7.head
  rw [hfr]
  simp -implicitDefEqProofs only [go_sem, ↓aj, ↓ah, ak, Nat.reduceBEq, ↓reduceIte, reduceCtorEq, Nat.reduceEqDiff, Nat.reduceAdd, Nat.reduceLeDiff, Int.reduceEq, Int.reduceLT, Int.reduceLE, Int.reduceAdd, Int.reduceToNat, Int.reduceNeg, Nat.reduceMul, Nat.reduceSub, Int.reduceBNe, Int.reduceBEq, hc7, hd7, a0, a1, a2, a3, hcl, bne_self_eq_false, cB, asz3, asz9, iA, iB, iC, iD, Tryz.underlying37, Tryz.underlying24, Tryz.underlying3, Tryz.underlying9, Option.map_some, List.getElem?_cons_succ, List.getElem?_cons_zero]
  refine au.enter Tryz.func19 rfl (by kernel_rfl) (BD _ _ _ ns I hD1 hb ho7 _ _ fun s8 ho8 => ?_)
  have hc8 := ho8.tail.head
  have hd8 := ho8.head
  rw [hr, Bool.true_and]
  cases he : aW ns I with
  | false =>
    rw [he, hr, if_neg (by decide)] at hu
    have hu1 : u = [] ∧ ub = false := by
      unfold optR at hu
      simp only [Value.tuple.injEq, Array.mk.injEq, List.cons.injEq, Value.string.injEq, Value.bool.injEq, and_true] at hu
      exact ⟨(EA (a := []) (b := u) hu.1).symm, hu.2.symm⟩
    obtain ⟨rfl, rfl⟩ := hu1
    simp -implicitDefEqProofs only [go_sem, ↓aj, ↓ah, ak, Nat.reduceBEq, ↓reduceIte, reduceCtorEq, Nat.reduceEqDiff, Nat.reduceAdd, Nat.reduceLeDiff, Int.reduceEq, Int.reduceLT, Int.reduceLE, Int.reduceAdd, Int.reduceToNat, Int.reduceNeg, Nat.reduceMul, Nat.reduceSub, Int.reduceBNe, Int.reduceBEq, Bool.and_false, Bool.false_and, e0, aA, decide_true]
    exact hk _
  | true =>
  rw [he, hr, if_pos (by decide)] at hu
  simp -implicitDefEqProofs only [go_sem, ↓aj, ↓ah, ak, Nat.reduceBEq, ↓reduceIte, reduceCtorEq, Nat.reduceEqDiff, Nat.reduceAdd, Nat.reduceLeDiff, Int.reduceEq, Int.reduceLT, Int.reduceLE, Int.reduceAdd, Int.reduceToNat, Int.reduceNeg, Nat.reduceMul, Nat.reduceSub, Int.reduceBNe, Int.reduceBEq, hc8, hd8, a0, a1, a2, a3, hcl, cB, asz3, asz9, iA, iB, iC, iD, Tryz.underlying37, Tryz.underlying24, Tryz.underlying3, Tryz.underlying9, Option.map_some]
  refine au.enter Tryz.func20 rfl (by kernel_rfl) (zF _ _ _ ns I lo hR he hD1 hb ho8 _ _ fun s9 ho9 => ?_)
  have hc9 := ho9.tail.head
  have hd9 := ho9.head
  rw [hu]
  have hub : (ub != ub) = false := by cases ub <;> rfl
  by_cases hj0 : 0 ≤ J
  case neg =>
    have l0 : (J < 0) = True := eq_true (by omega)
    have hdj : decide (0 ≤ J ∧ J < (ns.length : Int)) = false := decide_eq_false fun h => hj0 h.1
    simp -implicitDefEqProofs only [go_sem, ↓aj, ↓ah, ak, Nat.reduceBEq, ↓reduceIte, reduceCtorEq, Nat.reduceEqDiff, Nat.reduceAdd, Nat.reduceLeDiff, Int.reduceEq, Int.reduceLT, Int.reduceLE, Int.reduceAdd, Int.reduceToNat, Int.reduceNeg, Nat.reduceMul, Nat.reduceSub, Int.reduceBNe, Int.reduceBEq, hc9, hd9, a0, a1, a2, a3, hcl, bK, l0, hub, hdj, Tryz.underlying4, Bool.and_false, Bool.false_and, Bool.true_and, decide_true, cB, asz3, asz9, iA, iB, iC, iD, Tryz.underlying37, Tryz.underlying24, Tryz.underlying3, Tryz.underlying9, Option.map_some, List.getElem?_cons_succ, List.getElem?_cons_zero]
    exact hk _
  have l0 : (J < 0) = False := eq_false (by omega)
  by_cases hjl : J < ns.length
  case neg =>
    have l1 : (J ≥ (ns.length : Int)) = True := eq_true (by omega)
    have hdj : decide (0 ≤ J ∧ J < (ns.length : Int)) = false := decide_eq_false fun h => hjl h.2
    simp -implicitDefEqProofs only [go_sem, ↓aj, ↓ah, ak, Nat.reduceBEq, ↓reduceIte, reduceCtorEq, Nat.reduceEqDiff, Nat.reduceAdd, Nat.reduceLeDiff, Int.reduceEq, Int.reduceLT, Int.reduceLE, Int.reduceAdd, Int.reduceToNat, Int.reduceNeg, Nat.reduceMul, Nat.reduceSub, Int.reduceBNe, Int.reduceBEq, hc9, hd9, a0, a1, a2, a3, hcl, bK, l0, l1, hub, hdj, Tryz.underlying4, Bool.and_false, Bool.false_and, Bool.true_and, decide_true, decide_false, aM, cB, aQ, asz3, asz9, iA, iB, iC, iD, Tryz.underlying37, Tryz.underlying24, Tryz.underlying22, Tryz.underlying3, Tryz.underlying9, Option.map_some, List.getElem?_cons_succ, List.getElem?_cons_zero]
    exact hk _
  have l1 : (J ≥ (ns.length : Int)) = False := eq_false (by omega)
  have hdj : decide (0 ≤ J ∧ J < (ns.length : Int)) = true := decide_eq_true ⟨hj0, hjl⟩
  simp -implicitDefEqProofs only [go_sem, ↓aj, ↓ah, ak, Nat.reduceBEq, ↓reduceIte, reduceCtorEq, Nat.reduceEqDiff, Nat.reduceAdd, Nat.reduceLeDiff, Int.reduceEq, Int.reduceLT, Int.reduceLE, Int.reduceAdd, Int.reduceToNat, Int.reduceNeg, Nat.reduceMul, Nat.reduceSub, Int.reduceBNe, Int.reduceBEq, hc9, hd9, a0, a1, a2, a3, hcl, bK, l0, l1, hub, hdj, Tryz.underlying4, Bool.and_false, Bool.false_and, Bool.true_and, decide_true, decide_false, aM, cB, aQ, asz3, asz9, iA, iB, iC, iD, Tryz.underlying37, Tryz.underlying24, Tryz.underlying22, Tryz.underlying3, Tryz.underlying9, Option.map_some, List.getElem?_cons_succ, List.getElem?_cons_zero]
  refine au.enter Tryz.func21 rfl (by kernel_rfl) (xw _ _ _ ns J I hR he ⟨hj0, hjl⟩ hD1 hb ho9 _ _ fun s10 ho10 => ?_)
  have hbb : ∀ b : Bool, (b == b) = true := fun b => by cases b <;> rfl
  simp -implicitDefEqProofs only [go_sem, ↓aj, ↓ah, ak, Nat.reduceBEq, ↓reduceIte, reduceCtorEq, Nat.reduceEqDiff, Nat.reduceAdd, Nat.reduceLeDiff, Int.reduceEq, Int.reduceLT, Int.reduceLE, Int.reduceAdd, Int.reduceToNat, Int.reduceNeg, Nat.reduceMul, Nat.reduceSub, Int.reduceBNe, Int.reduceBEq, hbb, Tryz.underlying4]
  exact hk _
end Go.Proofs.YtigjbehgfjjlkaaGreatDoor
