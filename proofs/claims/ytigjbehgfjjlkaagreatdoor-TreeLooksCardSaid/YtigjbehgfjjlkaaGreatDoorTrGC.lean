/- Does a tree hang together, as the reference says it (lanyardref12.Right)? No conditions. -/
import Derived.Test.YtigjbehgfjjlkaaGreatDoorTrGA
set_option linter.unusedVariables false
set_option linter.unusedSimpArgs false
namespace Go.Proofs.YtigjbehgfjjlkaaGreatDoor
open Go Go.Abs Go.RowKit Go.Xml
variable {base : Nat} {w0 : World} {G : Nat}
set_option maxRecDepth 10000 in
theorem tN (st : St) (r : Hp) (v w : Value) (xs ys : List Int) (hx : Rws r v 1 (aV xs)) (hy : Rws r w 1 (aV ys)) (hb : xs.length ≤ 1000000000) (hO : Own st r) (k q : Value → St → Prop) (hk : ∀ st', Own st' r → k (.bool (decide (xs = ys))) st') : aA (C base w0 G) 29 [v, w] st k q := by
  obtain ⟨va, vc, hv, _⟩ := hx.isSlice
  obtain ⟨wa, wc, hw, _⟩ := hy.isSlice
  simp only [aV, List.length_map] at hv hw
  subst hv hw
  refine aA.of (cx := C base w0 G) mixed Tryz.func29 rfl (by kernel_rfl) (by simp [Tryz.ntmps29]) ?_
  simp only [Tryz.results29]
  by_cases hl : xs.length = ys.length
  case neg =>
    have hr : decide (xs = ys) = false := decide_eq_false fun h => hl (by rw [h])
    rw [hr] at hk
    have te : ((xs.length : Int) != (ys.length : Int)) = true := by rw [bne_iff_ne]; omega
    simp -implicitDefEqProofs only [go_sem, ↓aj, ↓ah, ak, Nat.reduceBEq, ↓reduceIte, reduceCtorEq, Nat.reduceEqDiff, Nat.reduceAdd, Nat.reduceLeDiff, Int.reduceEq, Int.reduceLT, Int.reduceLE, Int.reduceAdd, Int.reduceToNat, Int.reduceNeg, Nat.reduceMul, Nat.reduceSub, Int.reduceBNe, Int.reduceBEq, te, Tryz.underlying47]
    exact hk _ hO
  have te : ((xs.length : Int) != (ys.length : Int)) = false := by rw [hl]; simp
  simp -implicitDefEqProofs only [go_sem, ↓aj, ↓ah, ak, Nat.reduceBEq, ↓reduceIte, reduceCtorEq, Nat.reduceEqDiff, Nat.reduceAdd, Nat.reduceLeDiff, Int.reduceEq, Int.reduceLT, Int.reduceLE, Int.reduceAdd, Int.reduceToNat, Int.reduceNeg, Nat.reduceMul, Nat.reduceSub, Int.reduceBNe, Int.reduceBEq, te, Tryz.underlying47]
  refine ⟨fun m ρ s => ∃ i : Nat, m = xs.length - i ∧ i ≤ xs.length ∧ ρ 0 = .slice va xs.length vc ∧ ρ 1 = .slice wa ys.length wc ∧ ρ 5 = .int .i64 (i : Nat) ∧ Own s r ∧ ∀ j, j < i → xs[j]? = ys[j]?,
    ⟨_, 0, rfl, Nat.zero_le _, rfl, rfl, rfl, hO, fun j h => by omega⟩, ?_⟩
  rintro _ ρ s ⟨i, rfl, hi, h0, h1, h5, ho, hall⟩
  by_cases hil : i < xs.length
  case neg =>
    obtain rfl : i = xs.length := by omega
    have hr : decide (xs = ys) = true := decide_eq_true (by
      apply List.ext_getElem?
      intro j
      by_cases hj : j < xs.length
      · exact hall j hj
      · rw [List.getElem?_eq_none (by omega), List.getElem?_eq_none (by omega)])
    rw [hr] at hk
    simp -implicitDefEqProofs only [go_sem, ↓aj, ↓ah, ak, Nat.reduceBEq, ↓reduceIte, reduceCtorEq, Nat.reduceEqDiff, Nat.reduceAdd, Nat.reduceLeDiff, Int.reduceEq, Int.reduceLT, Int.reduceLE, Int.reduceAdd, Int.reduceToNat, Int.reduceNeg, Nat.reduceMul, Nat.reduceSub, Int.reduceBNe, Int.reduceBEq, h0, h1, h5, Int.ofNat_lt, Nat.lt_irrefl, decide_false, Tryz.underlying47]
    exact hk _ ho
  obtain ⟨a, ha⟩ : ∃ a, xs[i]? = some a := ⟨xs[i], List.getElem?_eq_getElem hil⟩
  obtain ⟨b, hb'⟩ : ∃ b, ys[i]? = some b := ⟨ys[i]'(by omega), List.getElem?_eq_getElem (by omega)⟩
  obtain ⟨x, o, sp, c, ccs, ty, own, g1, g2, g3⟩ := hx.mem (i := i) (l := [.int .i64 a]) (by simp [aV, ha])
  obtain ⟨x', o', sp', c', ccs', ty', own', g1', g2', g3'⟩ := hy.mem (i := i) (l := [.int .i64 b]) (by simp [aV, hb'])
  injection g1 with e1 _ e2
  injection g1' with e1' _ e2'
  subst e1 e2 e1' e2'
  have hc := ho.get g2
  have hc' := ho.get g2'
  have q0 := bq g3 (show 0 < 1 by decide)
  have q1 := bq g3' (show 0 < 1 by decide)
  simp only [Nat.mul_one, Nat.add_zero, List.getElem?_cons_zero] at q0 q1
  have hli : ((i : Int) < (xs.length : Int)) = True := eq_true (by omega)
  have hlj : ((i : Int) < (ys.length : Int)) = True := eq_true (by omega)
  have hge : ((0 : Int) ≤ (i : Int)) = True := eq_true (by omega)
  have w1 : IntKind.i64.wrap ((i : Int) + 1) = ((i + 1 : Nat) : Int) := by rw [bH (by omega)]; omega
  by_cases hab : a = b
  case neg =>
    have hr : decide (xs = ys) = false := decide_eq_false fun h => hab (by rw [h, hb'] at ha; injection ha with ha; exact ha.symm)
    rw [hr] at hk
    have tn : (a != b) = true := by rw [bne_iff_ne]; exact hab
    simp -implicitDefEqProofs only [go_sem, ↓aj, ↓ah, ak, Nat.reduceBEq, ↓reduceIte, reduceCtorEq, Nat.reduceEqDiff, Nat.reduceAdd, Nat.reduceLeDiff, Int.reduceEq, Int.reduceLT, Int.reduceLE, Int.reduceAdd, Int.reduceToNat, Int.reduceNeg, Nat.reduceMul, Nat.reduceSub, Int.reduceBNe, Int.reduceBEq, h0, h1, h5, hli, decide_true, Tryz.underlying47]
    refine bG.of [(0, false, []), (1, false, []), (2, false, []), (3, false, []), (4, false, []), (5, false, []), (6, false, []), (7, false, []), (8, false, [])] [] [] (by kernel_rfl) ?_
    simp -implicitDefEqProofs only [go_sem, ↓aj, ↓ah, ak, Nat.reduceBEq, ↓reduceIte, reduceCtorEq, Nat.reduceEqDiff, Nat.reduceAdd, Nat.reduceLeDiff, Int.reduceEq, Int.reduceLT, Int.reduceLE, Int.reduceAdd, Int.reduceToNat, Int.reduceNeg, Nat.reduceMul, Nat.reduceSub, Int.reduceBNe, Int.reduceBEq, h0, h1, h5, hli, hlj, hge, hc, hc', q0, q1, tn, and_self, true_and, decide_true, Int.toNat_natCast, bK, asz3, Tryz.underlying47, Tryz.underlying3, Nat.mul_one]
    exact hk _ ho
  have tn : (a != b) = false := by rw [hab]; simp
  have hall' : ∀ j, j < i + 1 → xs[j]? = ys[j]? := fun j hj => by
    by_cases hji : j = i
    · rw [hji, ha, hb', hab]
    · exact hall j (by omega)
  have hil' : i + 1 ≤ xs.length := hil
  simp -implicitDefEqProofs only [go_sem, ↓aj, ↓ah, ak, Nat.reduceBEq, ↓reduceIte, reduceCtorEq, Nat.reduceEqDiff, Nat.reduceAdd, Nat.reduceLeDiff, Int.reduceEq, Int.reduceLT, Int.reduceLE, Int.reduceAdd, Int.reduceToNat, Int.reduceNeg, Nat.reduceMul, Nat.reduceSub, Int.reduceBNe, Int.reduceBEq, h0, h1, h5, hli, decide_true, Tryz.underlying47]
  refine bG.of [(0, false, []), (1, false, []), (2, false, []), (3, false, []), (4, false, []), (5, false, []), (6, false, []), (7, false, []), (8, false, [])] [] [] (by kernel_rfl) ?_
  simp -implicitDefEqProofs only [go_sem, ↓aj, ↓ah, ak, Nat.reduceBEq, ↓reduceIte, reduceCtorEq, Nat.reduceEqDiff, Nat.reduceAdd, Nat.reduceLeDiff, Int.reduceEq, Int.reduceLT, Int.reduceLE, Int.reduceAdd, Int.reduceToNat, Int.reduceNeg, Nat.reduceMul, Nat.reduceSub, Int.reduceBNe, Int.reduceBEq, h0, h1, h5, hli, hlj, hge, hc, hc', q0, q1, tn, w1, and_self, true_and, decide_true, Int.toNat_natCast, bK, asz3, Tryz.underlying47, Tryz.underlying3, Nat.mul_one]
  refine ⟨xs.length - (i + 1), by omega, i + 1, ?_⟩
  (repeat' first | assumption | exact rfl | apply And.intro)
theorem lQ {ns : List Nx} (h : ∀ n, ns[0]? = some n → ¬ (n.kind = 1 ∧ n.par = -1)) : aH ns = false := by
  unfold aH bg
  rw [show (0 : Int).toNat = 0 from rfl]
  cases h0 : ns[0]? with
  | none => simp
  | some n =>
    have := h n h0
    by_cases h1 : n.kind = 1
    · have h2 : ¬ n.par = -1 := fun h => this ⟨h1, h⟩
      simp [h2]
    · simp [h1]
set_option maxRecDepth 10000 in
theorem qH (st : St) (r : Hp) (v : Value) (ns : List Nx) (hD : DocX r v ns) (hb : BndX ns) (hO : Own st r) (k q : Value → St → Prop) (hk : ∀ st', Own st' r → k (.bool (aH ns)) st') : aA (C base w0 G) 10 [.agg #[v]] st k q := by
  obtain ⟨va, vc, hva⟩ := hD.isSlice
  obtain ⟨hb0, hb1⟩ := hb
  subst hva
  refine aA.of (cx := C base w0 G) mixed Tryz.func10 rfl (by kernel_rfl) (by simp [Tryz.ntmps10]) ?_
  simp only [Tryz.results10]
  have ho1' := hO.new (.cells [.slice va ns.length vc] 24 true)
  have hc1 := ho1'.head
  by_cases hlen0 : 0 < ns.length
  case neg =>
    have hr : aH ns = false := lQ fun n hn => absurd (List.getElem?_eq_some_iff.1 hn).1 hlen0
    rw [hr] at hk
    have tz : ((ns.length : Int) == 0) = true := by rw [beq_iff_eq]; omega
    simp -implicitDefEqProofs only [go_sem, ↓aj, ↓ah, ak, Nat.reduceBEq, ↓reduceIte, reduceCtorEq, Nat.reduceEqDiff, Nat.reduceAdd, Nat.reduceLeDiff, Int.reduceEq, Int.reduceLT, Int.reduceLE, Int.reduceAdd, Int.reduceToNat, Int.reduceNeg, Nat.reduceMul, Nat.reduceSub, Int.reduceBNe, Int.reduceBEq, abox, tz, hc1, aQ, aU, Tryz.underlying22, List.getElem?_cons_zero]
    exact hk _ ho1'.tail
  obtain ⟨n0, hn0⟩ : ∃ n, ns[0]? = some n := ⟨ns[0], List.getElem?_eq_getElem hlen0⟩
  obtain ⟨x, o, sp, c, ccs, ty, own, kv, av, dv, hvx, hmem, hcut, hget, hnr⟩ := hD.at hn0
  injection hvx with hvx _ hvc
  subst hvx hvc
  have hcx := ho1'.get (List.mem_cons_of_mem _ hmem)
  have hcx0 := hO.get hmem
  have hnx0 : ¬ x = st.n := hO.fresh hmem
  have q0 := hget 0 (by decide)
  rw [Nat.zero_mul, Nat.add_zero] at q0
  change ccs[o]? = some (.int .i64 n0.kind) at q0
  have q1 := hget 1 (by decide)
  rw [Nat.zero_mul, Nat.add_zero] at q1
  change ccs[o + 1]? = some (.int .i64 n0.par) at q1
  have hl0 : ((0 : Int) < (ns.length : Int)) = True := eq_true (by omega)
  have tz : ((ns.length : Int) == 0) = false := beq_eq_false_iff_ne.2 (by omega)
  by_cases hke0 : n0.kind = 1
  case neg =>
    have hr : aH ns = false := lQ fun n hn h => by rw [hn0] at hn; injection hn with hn; subst hn; exact hke0 h.1
    rw [hr] at hk
    have tk : (n0.kind != 1) = true := by rw [bne_iff_ne]; exact hke0
    simp -implicitDefEqProofs only [go_sem, ↓aj, ↓ah, ak, Nat.reduceBEq, ↓reduceIte, reduceCtorEq, Nat.reduceEqDiff, Nat.reduceAdd, Nat.reduceLeDiff, Int.reduceEq, Int.reduceLT, Int.reduceLE, Int.reduceAdd, Int.reduceToNat, Int.reduceNeg, Nat.reduceMul, Nat.reduceSub, Int.reduceBNe, Int.reduceBEq, abox, tz, tk, hc1, hcx0, hnx0, hcx, q0, q1, hl0, Int.le_refl, and_self, true_and, Int.toNat_zero, Nat.zero_mul, Nat.add_zero, aQ, aN, aY, aU, aC, asz3, Tryz.underlying22, Tryz.underlying55, Tryz.underlying3, List.getElem?_cons_zero]
    exact hk _ ho1'.tail
  have tk : (n0.kind != 1) = false := by rw [hke0]; rfl
  by_cases hp0 : n0.par = -1
  case neg =>
    have hr : aH ns = false := lQ fun n hn h => by rw [hn0] at hn; injection hn with hn; subst hn; exact hp0 h.2
    rw [hr] at hk
    have hpe : (n0.par != -1) = true := by rw [bne_iff_ne]; exact hp0
    simp -implicitDefEqProofs only [go_sem, ↓aj, ↓ah, ak, Nat.reduceBEq, ↓reduceIte, reduceCtorEq, Nat.reduceEqDiff, Nat.reduceAdd, Nat.reduceLeDiff, Int.reduceEq, Int.reduceLT, Int.reduceLE, Int.reduceAdd, Int.reduceToNat, Int.reduceNeg, Nat.reduceMul, Nat.reduceSub, Int.reduceBNe, Int.reduceBEq, abox, tz, tk, hpe, hc1, hcx0, hnx0, hcx, q0, q1, hl0, Int.le_refl, and_self, true_and, Int.toNat_zero, Nat.zero_mul, Nat.add_zero, aQ, aN, aY, aU, aC, asz3, Tryz.underlying22, Tryz.underlying55, Tryz.underlying3, List.getElem?_cons_zero]
    exact hk _ ho1'.tail
  have hpe : (n0.par != -1) = false := by rw [hp0]; rfl
  have he0 : bg ns 0 = true := by unfold bg; rw [show (0 : Int).toNat = 0 from rfl, hn0]; simp [hke0]
  rw [aj]
  simp -implicitDefEqProofs only [go_sem, Nat.reduceBEq, ↓reduceIte, reduceCtorEq, Nat.reduceEqDiff, Nat.reduceAdd, Nat.reduceLeDiff, Int.reduceEq, Int.reduceLT, Int.reduceLE, Int.reduceAdd, Int.reduceToNat, Int.reduceNeg, Nat.reduceMul, Nat.reduceSub, Int.reduceBNe, Int.reduceBEq, abox]
  rw [aj]
  simp -implicitDefEqProofs only [go_sem, Nat.reduceBEq, ↓reduceIte, reduceCtorEq, Nat.reduceEqDiff, Nat.reduceAdd, Nat.reduceLeDiff, Int.reduceEq, Int.reduceLT, Int.reduceLE, Int.reduceAdd, Int.reduceToNat, Int.reduceNeg, Nat.reduceMul, Nat.reduceSub, Int.reduceBNe, Int.reduceBEq, hc1, aQ, aU, Tryz.underlying22, List.getElem?_cons_zero]
  rw [aj, aj]
  simp -implicitDefEqProofs only [go_sem, Nat.reduceBEq, ↓reduceIte, reduceCtorEq, Nat.reduceEqDiff, Nat.reduceAdd, Nat.reduceLeDiff, Int.reduceEq, Int.reduceLT, Int.reduceLE, Int.reduceAdd, Int.reduceToNat, Int.reduceNeg, Nat.reduceMul, Nat.reduceSub, Int.reduceBNe, Int.reduceBEq, tz, tk, hpe, hc1, hcx0, hnx0, hcx, q0, q1, hl0, Int.le_refl, and_self, true_and, Int.toNat_zero, Nat.zero_mul, Nat.add_zero, aQ, aN, aY, aU, aC, asz3, Tryz.underlying22, Tryz.underlying55, Tryz.underlying3, List.getElem?_cons_zero]
  generalize hs1 : St.new st _ = s1 at *
  generalize hb1' : st.n = b1 at *
  have hnb : ¬ b1 = s1.n := ho1'.eX
  have ho2 := ho1'.new (.cells (List.replicate ns.length (.slice none 0 0)) 47 true)
  rw [aj]
  simp -implicitDefEqProofs only [go_sem, Nat.reduceBEq, ↓reduceIte, reduceCtorEq, Nat.reduceEqDiff, Nat.reduceAdd, Nat.reduceLeDiff, Int.reduceEq, Int.reduceLT, Int.reduceLE, Int.reduceAdd, Int.reduceToNat, Int.reduceNeg, Nat.reduceMul, Nat.reduceSub, Int.reduceBNe, Int.reduceBEq, hc1, hnb, tL hb0, aQ, aU, Tryz.underlying22, List.getElem?_cons_zero]
  have hkv0 : KV (bT ns 0) (List.replicate ns.length (.slice none 0 0)) [] := by rw [oz]; exact KV.none _
  generalize hb3 : s1.n = b3 at *
  generalize hs2 : s1.new _ = s2 at *
  generalize hVS : List.replicate ns.length (Value.slice none 0 0) = vs0 at *
  refine qW (fun ρ s => ∃ (vs : List Value) (hg : Hp), ρ 3 = .slice (some ⟨x, o, sp⟩) ns.length vc ∧ ρ 4 = .slice (some ⟨b3, 0, none⟩) ns.length ns.length ∧ KV (bT ns ns.length) vs hg ∧ Own s ((b3, .cells vs 47 true) :: (hg ++ ((b1, .cells [.slice (some ⟨x, o, sp⟩) ns.length vc] 24 true) :: r))) ∧ ∀ (j : Nat) (n : Nx), ns[j]? = some n → dB ns j n = true) ?_ ?_
  · simp -implicitDefEqProofs only [go_sem, ↓aj, ↓ah, ak, Nat.reduceBEq, ↓reduceIte, reduceCtorEq, Nat.reduceEqDiff, Nat.reduceAdd, Nat.reduceLeDiff, Int.reduceEq, Int.reduceLT, Int.reduceLE, Int.reduceAdd, Int.reduceToNat, Int.reduceNeg, Nat.reduceMul, Nat.reduceSub, Int.reduceBNe, Int.reduceBEq]
    refine ⟨fun m ρ s => ∃ (i : Nat) (vs : List Value) (hg : Hp), m = ns.length - i ∧ i ≤ ns.length ∧ ρ 3 = .slice (some ⟨x, o, sp⟩) ns.length vc ∧ ρ 4 = .slice (some ⟨b3, 0, none⟩) ns.length ns.length ∧ ρ 5 = .int .i64 (i : Nat) ∧ KV (bT ns i) vs hg ∧ Own s ((b3, .cells vs 47 true) :: (hg ++ ((b1, .cells [.slice (some ⟨x, o, sp⟩) ns.length vc] 24 true) :: r))) ∧ ∀ (j : Nat) (n : Nx), j < i → ns[j]? = some n → dB ns j n = true,
      ⟨_, 0, vs0, [], rfl, Nat.zero_le _, rfl, rfl, rfl, hkv0, ho2, fun j n h => by omega⟩, ?_⟩
    rintro _ ρ s ⟨i, vs, hg, rfl, hi, h3, h4, h5, hkv, ho, hall⟩
    by_cases hil : i < ns.length
    case neg =>
      obtain rfl : i = ns.length := by omega
      simp -implicitDefEqProofs only [go_sem, ↓aj, ↓ah, ak, Nat.reduceBEq, ↓reduceIte, reduceCtorEq, Nat.reduceEqDiff, Nat.reduceAdd, Nat.reduceLeDiff, Int.reduceEq, Int.reduceLT, Int.reduceLE, Int.reduceAdd, Int.reduceToNat, Int.reduceNeg, Nat.reduceMul, Nat.reduceSub, Int.reduceBNe, Int.reduceBEq, h3, h4, h5, Int.ofNat_lt, Nat.lt_irrefl, decide_false, Tryz.underlying22]
      exact ⟨vs, hg, hkv, ho, fun j n hj => hall j n (List.getElem?_eq_some_iff.1 hj).1 hj⟩
    obtain ⟨n, hn⟩ : ∃ n, ns[i]? = some n := ⟨ns[i], List.getElem?_eq_getElem hil⟩
    obtain ⟨x', o', sp', c', ccs', ty', own', kv, av, dv, hvx, hmem', hcut', hget', hnr'⟩ := hD.at hn
    injection hvx with hvx _ hvc
    injection hvx with hvx
    injection hvx with e1 e2 e3
    subst e1 e2 e3 hvc
    have hcx := ho.get (List.mem_cons_of_mem _ (List.mem_append_right _ (List.mem_cons_of_mem _ hmem')))
    have hnx : ¬ x = s.n := ho.fresh (List.mem_cons_of_mem _ (List.mem_append_right _ (List.mem_cons_of_mem _ hmem')))
    have hli : ((i : Int) < (ns.length : Int)) = True := eq_true (by omega)
    have hge : ((0 : Int) ≤ (i : Int)) = True := eq_true (by omega)
    have hon := (ho.new (.cells [.int .i64 0, .int .i64 0, .slice none 0 0, .string ⟨#[]⟩, .string ⟨#[]⟩, .string ⟨#[]⟩, .slice none 0 0, .slice none 0 0, .string ⟨#[]⟩] 55 true)).set rfl (.cells (ndX n kv av dv) 55 true) rfl
    have hsetN : setL [.int .i64 0, .int .i64 0, .slice none 0 0, .string ⟨#[]⟩, .string ⟨#[]⟩, .string ⟨#[]⟩, .slice none 0 0, .slice none 0 0, .string ⟨#[]⟩] 0 (ndX n kv av dv) = ndX n kv av dv := rfl
    simp -implicitDefEqProofs only [go_sem, Nat.reduceBEq, ↓reduceIte, reduceCtorEq, Nat.reduceEqDiff, Nat.reduceAdd, Nat.reduceLeDiff, Int.reduceEq, Int.reduceLT, Int.reduceLE, Int.reduceAdd, Int.reduceToNat, Int.reduceNeg, Nat.reduceMul, Nat.reduceSub, Int.reduceBNe, Int.reduceBEq]
    rw [aj, aj]
    simp -implicitDefEqProofs only [go_sem, Nat.reduceBEq, ↓reduceIte, reduceCtorEq, Nat.reduceEqDiff, Nat.reduceAdd, Nat.reduceLeDiff, Int.reduceEq, Int.reduceLT, Int.reduceLE, Int.reduceAdd, Int.reduceToNat, Int.reduceNeg, Nat.reduceMul, Nat.reduceSub, Int.reduceBNe, Int.reduceBEq, h3, h4, h5, hli, decide_true, Tryz.underlying22]
    rw [aj, ah, aj]
    simp -implicitDefEqProofs only [go_sem, Nat.reduceBEq, ↓reduceIte, reduceCtorEq, Nat.reduceEqDiff, Nat.reduceAdd, Nat.reduceLeDiff, Int.reduceEq, Int.reduceLT, Int.reduceLE, Int.reduceAdd, Int.reduceToNat, Int.reduceNeg, Nat.reduceMul, Nat.reduceSub, Int.reduceBNe, Int.reduceBEq, h3, h4, h5, hcx, hcut', hnx, hli, hge, and_self, true_and, Int.toNat_natCast, aU, aC, jZ, bB, hsetN, Tryz.underlying22, Tryz.underlying55]
    generalize hb5 : s.n = b5 at *
    obtain ⟨ka, kc, hkv1, _⟩ := hnr'.kid.isSlice
    obtain ⟨aa, ac, hav1, _⟩ := hnr'.att.isSlice
    obtain ⟨da, dc, hdv1, _⟩ := hnr'.dcl.isSlice
    simp only [List.length_map] at hkv1 hav1 hdv1
    refine ⟨⟨rfl, by rw [hkv1, hav1, hdv1]; rfl⟩, ?_⟩
    generalize hs5 : (s.new _).set _ _ = s5 at *
    have hc5 := hon.head
    refine qW (fun ρ s => ρ 3 = .slice (some ⟨x, o, sp⟩) ns.length vc ∧ ρ 4 = .slice (some ⟨b3, 0, none⟩) ns.length ns.length ∧ ρ 5 = .int .i64 (i : Nat) ∧ ρ 6 = .pointer (some ⟨b5, 0, none⟩) ∧ s5 = s ∧ (1 ≤ n.kind ∧ n.kind ≤ 4 ∧ (n.kind = 1 ∨ n.atts.length + n.dcls.length = 0))) ?_ ?_
    · subst hkv1 hav1 hdv1
      have f6 : (ndX n (.slice ka n.kids.length kc) (.slice aa n.atts.length ac) (.slice da n.dcls.length dc))[6]? = some (.slice aa n.atts.length ac) := rfl
      have f7 : (ndX n (.slice ka n.kids.length kc) (.slice aa n.atts.length ac) (.slice da n.dcls.length dc))[7]? = some (.slice da n.dcls.length dc) := rfl
      have f0 : (ndX n (.slice ka n.kids.length kc) (.slice aa n.atts.length ac) (.slice da n.dcls.length dc))[0]? = some (.int .i64 n.kind) := rfl
      by_cases hk1 : n.kind < 1
      · have hr : aH ns = false := bP hn (by unfold dB; simp [show ¬ 1 ≤ n.kind by omega])
        rw [hr] at hk
        have t1 : (n.kind < 1) = True := eq_true hk1
        simp -implicitDefEqProofs only [go_sem, ↓aj, ↓ah, ak, Nat.reduceBEq, ↓reduceIte, reduceCtorEq, Nat.reduceEqDiff, Nat.reduceAdd, Nat.reduceLeDiff, Int.reduceEq, Int.reduceLT, Int.reduceLE, Int.reduceAdd, Int.reduceToNat, Int.reduceNeg, Nat.reduceMul, Nat.reduceSub, Int.reduceBNe, Int.reduceBEq, t1, h3, h4, h5, hc5, f0, f6, f7, aN, aS, aZ, aC, bL, bZ, asz3, Tryz.underlying55, Tryz.underlying52, Tryz.underlying53, Tryz.underlying3, decide_true, decide_false]
        exact hk _ hon.tail.tail.right.tail
      have t1 : (n.kind < 1) = False := eq_false hk1
      by_cases hk4 : n.kind > 4
      · have hr : aH ns = false := bP hn (by unfold dB; simp [show ¬ n.kind ≤ 4 by omega])
        rw [hr] at hk
        have t4 : (n.kind > 4) = True := eq_true hk4
        simp -implicitDefEqProofs only [go_sem, ↓aj, ↓ah, ak, Nat.reduceBEq, ↓reduceIte, reduceCtorEq, Nat.reduceEqDiff, Nat.reduceAdd, Nat.reduceLeDiff, Int.reduceEq, Int.reduceLT, Int.reduceLE, Int.reduceAdd, Int.reduceToNat, Int.reduceNeg, Nat.reduceMul, Nat.reduceSub, Int.reduceBNe, Int.reduceBEq, t1, t4, h3, h4, h5, hc5, f0, f6, f7, aN, aS, aZ, aC, bL, bZ, asz3, Tryz.underlying55, Tryz.underlying52, Tryz.underlying53, Tryz.underlying3, decide_true, decide_false]
        exact hk _ hon.tail.tail.right.tail
      have t4 : (n.kind > 4) = False := eq_false hk4
      by_cases hke : n.kind = 1
      · have te : (n.kind != 1) = false := by rw [hke]; rfl
        have hok : 1 ≤ n.kind ∧ n.kind ≤ 4 ∧ (n.kind = 1 ∨ n.atts.length + n.dcls.length = 0) := ⟨by omega, by omega, .inl hke⟩
        simp -implicitDefEqProofs only [go_sem, ↓aj, ↓ah, ak, Nat.reduceBEq, ↓reduceIte, reduceCtorEq, Nat.reduceEqDiff, Nat.reduceAdd, Nat.reduceLeDiff, Int.reduceEq, Int.reduceLT, Int.reduceLE, Int.reduceAdd, Int.reduceToNat, Int.reduceNeg, Nat.reduceMul, Nat.reduceSub, Int.reduceBNe, Int.reduceBEq, t1, t4, te, h3, h4, h5, hc5, f0, f6, f7, aN, aS, aZ, aC, bL, bZ, asz3, Tryz.underlying55, Tryz.underlying52, Tryz.underlying53, Tryz.underlying3, decide_true, decide_false]
        (repeat' first | assumption | exact rfl | apply And.intro)
      have te : (n.kind != 1) = true := by rw [bne_iff_ne]; exact hke
      by_cases hA : 0 < n.atts.length
      · have hr : aH ns = false := bP hn (by unfold dB; rw [decide_eq_false hke, decide_eq_false (show ¬ n.atts.length + n.dcls.length = 0 by omega)]; simp)
        rw [hr] at hk
        have tA : ((n.atts.length : Int) > 0) = True := eq_true (by omega)
        simp -implicitDefEqProofs only [go_sem, ↓aj, ↓ah, ak, Nat.reduceBEq, ↓reduceIte, reduceCtorEq, Nat.reduceEqDiff, Nat.reduceAdd, Nat.reduceLeDiff, Int.reduceEq, Int.reduceLT, Int.reduceLE, Int.reduceAdd, Int.reduceToNat, Int.reduceNeg, Nat.reduceMul, Nat.reduceSub, Int.reduceBNe, Int.reduceBEq, t1, t4, te, tA, h3, h4, h5, hc5, f0, f6, f7, aN, aS, aZ, aC, bL, bZ, asz3, Tryz.underlying55, Tryz.underlying52, Tryz.underlying53, Tryz.underlying3, decide_true, decide_false]
        exact hk _ hon.tail.tail.right.tail
      have tA : ((n.atts.length : Int) > 0) = False := eq_false (by omega)
      by_cases hDc : 0 < n.dcls.length
      · have hr : aH ns = false := bP hn (by unfold dB; rw [decide_eq_false hke, decide_eq_false (show ¬ n.atts.length + n.dcls.length = 0 by omega)]; simp)
        rw [hr] at hk
        have tD : ((n.dcls.length : Int) > 0) = True := eq_true (by omega)
        simp -implicitDefEqProofs only [go_sem, ↓aj, ↓ah, ak, Nat.reduceBEq, ↓reduceIte, reduceCtorEq, Nat.reduceEqDiff, Nat.reduceAdd, Nat.reduceLeDiff, Int.reduceEq, Int.reduceLT, Int.reduceLE, Int.reduceAdd, Int.reduceToNat, Int.reduceNeg, Nat.reduceMul, Nat.reduceSub, Int.reduceBNe, Int.reduceBEq, t1, t4, te, tA, tD, h3, h4, h5, hc5, f0, f6, f7, aN, aS, aZ, aC, bL, bZ, asz3, Tryz.underlying55, Tryz.underlying52, Tryz.underlying53, Tryz.underlying3, decide_true, decide_false]
        exact hk _ hon.tail.tail.right.tail
      have tD : ((n.dcls.length : Int) > 0) = False := eq_false (by omega)
      have hok : 1 ≤ n.kind ∧ n.kind ≤ 4 ∧ (n.kind = 1 ∨ n.atts.length + n.dcls.length = 0) := ⟨by omega, by omega, .inr (by omega)⟩
      simp -implicitDefEqProofs only [go_sem, ↓aj, ↓ah, ak, Nat.reduceBEq, ↓reduceIte, reduceCtorEq, Nat.reduceEqDiff, Nat.reduceAdd, Nat.reduceLeDiff, Int.reduceEq, Int.reduceLT, Int.reduceLE, Int.reduceAdd, Int.reduceToNat, Int.reduceNeg, Nat.reduceMul, Nat.reduceSub, Int.reduceBNe, Int.reduceBEq, t1, t4, te, tA, tD, h3, h4, h5, hc5, f0, f6, f7, aN, aS, aZ, aC, bL, bZ, asz3, Tryz.underlying55, Tryz.underlying52, Tryz.underlying53, Tryz.underlying3, decide_true, decide_false]
      (repeat' first | assumption | exact rfl | apply And.intro)
    · rintro ρ s ⟨h3, h4, h5, h6, rfl, hkk⟩
      have f1 : (ndX n kv av dv)[1]? = some (.int .i64 n.par) := rfl
      have w1 : IntKind.i64.wrap ((i : Int) + 1) = ((i + 1 : Nat) : Int) := by rw [bH (by omega)]; omega
      have hil' : i + 1 ≤ ns.length := hil
      have hnk : ((decide (1 ≤ n.kind) && decide (n.kind ≤ 4)) && (decide (n.kind = 1) || decide (n.atts.length + n.dcls.length = 0))) = true := by
        rw [decide_eq_true hkk.1, decide_eq_true hkk.2.1]
        rcases hkk.2.2 with h | h
        · rw [decide_eq_true h]; rfl
        · rw [decide_eq_true h]; simp
      have hih : ∀ (g : dB ns i n = true) (j : Nat) (m : Nx), j < i + 1 → ns[j]? = some m → dB ns j m = true := fun g j m hj hm => by
        by_cases hji : j = i
        · subst hji
          rw [hn] at hm
          injection hm with hm
          rw [← hm]; exact g
        · exact hall j m (by omega) hm
      by_cases hi0 : i = 0
      · subst hi0
        have t0 : (((0 : Nat) : Int) == 0) = true := rfl
        have hkv2 : KV (bT ns (0 + 1)) vs hg := by rw [oC hn]; exact hkv
        have hih' := hih (by unfold dB; rw [Bool.and_assoc, hnk]; simp)
        have ho9 := hon.tail
        simp -implicitDefEqProofs only [go_sem, ↓aj, ↓ah, ak, Nat.reduceBEq, ↓reduceIte, reduceCtorEq, Nat.reduceEqDiff, Nat.reduceAdd, Nat.reduceLeDiff, Int.reduceEq, Int.reduceLT, Int.reduceLE, Int.reduceAdd, Int.reduceToNat, Int.reduceNeg, Nat.reduceMul, Nat.reduceSub, Int.reduceBNe, Int.reduceBEq, t0, w1, h3, h4, h5, h6]
        refine ⟨ns.length - (0 + 1), by omega, 0 + 1, vs, hg, ?_⟩
        (repeat' first | assumption | exact rfl | apply And.intro)
      have t0 : ((i : Int) == 0) = false := beq_eq_false_iff_ne.2 (by omega)
      by_cases hpn : n.par < 0
      · have hr : aH ns = false := bP hn (by
          have : bg ns n.par = false := by unfold bg; rw [decide_eq_false (by omega)]; rfl
          unfold dB; rw [decide_eq_false hi0, this]; simp)
        rw [hr] at hk
        have tn : (n.par < 0) = True := eq_true hpn
        simp -implicitDefEqProofs only [go_sem, ↓aj, ↓ah, ak, Nat.reduceBEq, ↓reduceIte, reduceCtorEq, Nat.reduceEqDiff, Nat.reduceAdd, Nat.reduceLeDiff, Int.reduceEq, Int.reduceLT, Int.reduceLE, Int.reduceAdd, Int.reduceToNat, Int.reduceNeg, Nat.reduceMul, Nat.reduceSub, Int.reduceBNe, Int.reduceBEq, t0, tn, h3, h4, h5, h6, hc5, f1, decide_true, aY, aC, asz3, Tryz.underlying55, Tryz.underlying3]
        exact hk _ hon.tail.tail.right.tail
      have tn : (n.par < 0) = False := eq_false hpn
      by_cases hpi : n.par ≥ i
      · have hr : aH ns = false := bP hn (by unfold dB; rw [decide_eq_false hi0, decide_eq_false (show ¬ n.par < i by omega)]; simp)
        rw [hr] at hk
        have tp : (n.par ≥ (i : Int)) = True := eq_true hpi
        simp -implicitDefEqProofs only [go_sem, ↓aj, ↓ah, ak, Nat.reduceBEq, ↓reduceIte, reduceCtorEq, Nat.reduceEqDiff, Nat.reduceAdd, Nat.reduceLeDiff, Int.reduceEq, Int.reduceLT, Int.reduceLE, Int.reduceAdd, Int.reduceToNat, Int.reduceNeg, Nat.reduceMul, Nat.reduceSub, Int.reduceBNe, Int.reduceBEq, t0, tn, tp, h3, h4, h5, h6, hc5, f1, decide_true, decide_false, aY, aC, asz3, Tryz.underlying55, Tryz.underlying3]
        exact hk _ hon.tail.tail.right.tail
      have tp : (n.par ≥ (i : Int)) = False := eq_false hpi
      obtain ⟨p, hp⟩ : ∃ p : Nat, n.par = p := ⟨n.par.toNat, by omega⟩
      have hpl : p < ns.length := by omega
      obtain ⟨np, hnp⟩ : ∃ np, ns[p]? = some np := ⟨ns[p], List.getElem?_eq_getElem hpl⟩
      obtain ⟨x', o', sp', c', ccs', ty', own', kv', av', dv', hvx, hmem'', hcut'', hget'', hnr''⟩ := hD.at hnp
      injection hvx with hvx _ hvc
      injection hvx with hvx
      injection hvx with e1 e2 e3
      subst e1 e2 e3 hvc
      have hcp := hon.get (List.mem_cons_of_mem _ (List.mem_cons_of_mem _ (List.mem_append_right _ (List.mem_cons_of_mem _ hmem''))))
      have qp := hget'' 0 (by decide)
      rw [Nat.add_zero] at qp
      change ccs'[o + p * 9]? = some (.int .i64 np.kind) at qp
      have lp : ((0 ≤ (p : Int)) = True) := eq_true (by omega)
      have lq : (((p : Int) < (ns.length : Int)) = True) := eq_true (by omega)
      have tp' : ((p : Int) ≥ (i : Int)) = False := by rw [← hp]; exact tp
      have tn' : ((p : Int) < 0) = False := by rw [← hp]; exact tn
      have hel : bg ns n.par = decide (np.kind = 1) := by
        unfold bg
        rw [hp, Int.toNat_natCast, hnp, decide_eq_true (by omega)]
        simp
      by_cases hke : np.kind = 1
      case neg =>
        have hr : aH ns = false := bP hn (by unfold dB; rw [decide_eq_false hi0, hel, decide_eq_false hke]; simp)
        rw [hr] at hk
        have te : (np.kind != 1) = true := by rw [bne_iff_ne]; exact hke
        simp -implicitDefEqProofs only [go_sem, ↓aj, ↓ah, ak, Nat.reduceBEq, ↓reduceIte, reduceCtorEq, Nat.reduceEqDiff, Nat.reduceAdd, Nat.reduceLeDiff, Int.reduceEq, Int.reduceLT, Int.reduceLE, Int.reduceAdd, Int.reduceToNat, Int.reduceNeg, Nat.reduceMul, Nat.reduceSub, Int.reduceBNe, Int.reduceBEq, t0, tn', tp', te, h3, h4, h5, h6, hc5, hcp, qp, f1, hp, lp, lq, and_self, true_and, Int.toNat_natCast, Nat.add_zero, decide_true, decide_false, aN, aY, aC, aU, asz3, Tryz.underlying55, Tryz.underlying22, Tryz.underlying3]
        exact hk _ hon.tail.tail.right.tail
      have te : (np.kind != 1) = false := by rw [hke]; rfl
      rw [decide_eq_true hke] at hel
      have hih' := hih (by unfold dB; rw [Bool.and_assoc, hnk, hel, decide_eq_true (show n.par < i by omega)]; simp)
      simp -implicitDefEqProofs only [go_sem, ↓aj, ↓ah, ak, Nat.reduceBEq, ↓reduceIte, reduceCtorEq, Nat.reduceEqDiff, Nat.reduceAdd, Nat.reduceLeDiff, Int.reduceEq, Int.reduceLT, Int.reduceLE, Int.reduceAdd, Int.reduceToNat, Int.reduceNeg, Nat.reduceMul, Nat.reduceSub, Int.reduceBNe, Int.reduceBEq, t0, tn', tp', te, h3, h4, h5, h6, hc5, hcp, qp, f1, hp, lp, lq, and_self, true_and, Int.toNat_natCast, Nat.add_zero, decide_true, decide_false, aN, aY, aC, aU, asz3, Tryz.underlying55, Tryz.underlying22, Tryz.underlying3]
      have hc3 := hon.tail.head
      obtain ⟨va, v, vb, ha, hm, hb, hvs, hvl, hge2, hG, hset⟩ := hkv.at (iB (ns := ns) (i := i) hpl)
      refine bG.of [(0, false, []), (1, false, []), (2, true, []), (3, false, []), (4, false, []), (5, true, []), (6, false, []), (7, true, []), (8, false, []), (9, false, [2, 5, 7]), (10, false, [2]), (11, false, []), (12, false, [])] [2, 5, 7] [(2, 9), (2, 10), (5, 9), (7, 9)] (by kernel_rfl) ?_
      simp -implicitDefEqProofs only [go_sem, ↓aj, ↓ah, ak, Nat.reduceBEq, ↓reduceIte, reduceCtorEq, Nat.reduceEqDiff, Nat.reduceAdd, Nat.reduceLeDiff, Int.reduceEq, Int.reduceLT, Int.reduceLE, Int.reduceAdd, Int.reduceToNat, Int.reduceNeg, Nat.reduceMul, Nat.reduceSub, Int.reduceBNe, Int.reduceBEq, h3, h4, h5, h6, hc5, f1, hc3, hp, bK, qx, aY, aC, asz3, Tryz.underlying55, Tryz.underlying3, Tryz.underlying47, Tryz.underlying67]
      have hvp : vs[p]? = some v := by rw [hvs, ← hvl]; simp
      rw [hge2] at hon
      have ho7 := hon.perm (qZ _ _ ha hm hb _)
      have hn5 : ¬ b5 = s5.n := hon.eX
      have hn3 : ¬ b3 = s5.n := hon.tail.eX
      refine ⟨⟨by omega, by omega⟩, ?_⟩
      simp -implicitDefEqProofs only [go_sem, ↓aj, ↓ah, ak, Nat.reduceBEq, ↓reduceIte, reduceCtorEq, Nat.reduceEqDiff, Nat.reduceAdd, Nat.reduceLeDiff, Int.reduceEq, Int.reduceLT, Int.reduceLE, Int.reduceAdd, Int.reduceToNat, Int.reduceNeg, Nat.reduceMul, Nat.reduceSub, Int.reduceBNe, Int.reduceBEq, aK (st := s5) (v := .int .i64 (i : Nat)) Tryz.underlying47 asz3 azc3 rfl rfl rfl (by decide), h3, h4, h5, h6, hvp, hc5, hc3, hn5, hn3, f1, hp, lp, lq, and_self, true_and, aY, aC, Tryz.underlying55, bK, qx, asz3, Tryz.underlying3, Tryz.underlying47, Tryz.underlying67, List.length_cons, List.length_nil]
      refine GV.dQ (t := 47) (t' := 47) (c := [.int .i64 (i : Nat)]) Tryz.underlying47 (by rw [Tryz.underlying47]; rfl) asz3 azc3 aby3 hG ho7 rfl rfl (by have := iC ns (p : Int) i; omega) fun v' hm' s7 hG' ho8 => ?_
      have ho9 := (ho8.perm (qZ _ _ ha hm' hb _).symm)
      have hc7 := ho9.head
      have hc8 := ho9.tail.head
      obtain ⟨w', hw'⟩ := hG'.isSlice
      subst hw'
      generalize hlk : (aG ns i (p : Int)).length + 1 = lk at *
      have hset7 : setL vs p [.slice w' lk lk] = va ++ .slice w' lk lk :: vb := by rw [hvs, ← hvl, dx _ _ _ (by simp)]; simp
      have hpl1 : p + 1 ≤ ns.length := hpl
      have ho10 := (ho9.perm (List.Perm.swap _ _ _)).set rfl (.cells (va ++ .slice w' lk lk :: vb) 47 true) rfl
      have hkv9 : KV (bT ns (i + 1)) (va ++ .slice w' lk lk :: vb) (ha ++ (hm' ++ hb)) := by
        rw [oD hn (by omega) hp hpl]
        exact hset _ _ hm' (by rw [List.length_append, List.length_singleton, hlk]; unfold iZ at *; rw [List.map_append]; exact hG')
      have hvlen : vs.length = ns.length := by rw [hkv.len, iR]
      simp -implicitDefEqProofs only [go_sem, ↓aj, ↓ah, ak, Nat.reduceBEq, ↓reduceIte, reduceCtorEq, Nat.reduceEqDiff, Nat.reduceAdd, Nat.reduceLeDiff, Int.reduceEq, Int.reduceLT, Int.reduceLE, Int.reduceAdd, Int.reduceToNat, Int.reduceNeg, Nat.reduceMul, Nat.reduceSub, Int.reduceBNe, Int.reduceBEq, h3, h4, h5, h6, w1, hvp, hc7, hc8, f1, hp, lp, lq, hset7, hvlen, hpl1, and_self, true_and, aY, aC, bK, qx, asz3, Tryz.underlying55, Tryz.underlying3, Tryz.underlying47, Tryz.underlying67]
      have ho11 := (ho10.perm (List.Perm.swap _ _ _)).tail
      refine ⟨ns.length - (i + 1), by omega, i + 1, va ++ .slice w' lk lk :: vb, ha ++ (hm' ++ hb), ?_⟩
      (repeat' first | assumption | exact rfl | apply And.intro)
  rintro ρ s ⟨vs, hg, h3, h4, hkv, ho, hall⟩
  simp -implicitDefEqProofs only [go_sem, ↓aj, ↓ah, ak, Nat.reduceBEq, ↓reduceIte, reduceCtorEq, Nat.reduceEqDiff, Nat.reduceAdd, Nat.reduceLeDiff, Int.reduceEq, Int.reduceLT, Int.reduceLE, Int.reduceAdd, Int.reduceToNat, Int.reduceNeg, Nat.reduceMul, Nat.reduceSub, Int.reduceBNe, Int.reduceBEq, h3, h4]
  refine ⟨fun m ρ s => ∃ i : Nat, m = ns.length - i ∧ i ≤ ns.length ∧ ρ 3 = .slice (some ⟨x, o, sp⟩) ns.length vc ∧ ρ 4 = .slice (some ⟨b3, 0, none⟩) ns.length ns.length ∧ ρ 7 = .int .i64 (i : Nat) ∧ Own s ((b3, .cells vs 47 true) :: (hg ++ ((b1, .cells [.slice (some ⟨x, o, sp⟩) ns.length vc] 24 true) :: r))) ∧ ∀ (j : Nat) (n : Nx), j < i → ns[j]? = some n → n.kids = dH ns j,
    ⟨_, 0, rfl, Nat.zero_le _, h3, h4, rfl, ho, fun j n h => by omega⟩, ?_⟩
  clear h3 h4 ho
  rintro _ ρ s ⟨i, rfl, hi, h3, h4, h7, ho, hkids⟩
  by_cases hil : i < ns.length
  case neg =>
    obtain rfl : i = ns.length := by omega
    have hr : aH ns = true := by
      unfold aH
      rw [he0, hn0, dW.2 fun j n _ hn => hall j n hn, dW.2 fun j n hj hn => decide_eq_true (hkids j n hj hn)]
      simp [hp0]
    rw [hr] at hk
    simp -implicitDefEqProofs only [go_sem, ↓aj, ↓ah, ak, Nat.reduceBEq, ↓reduceIte, reduceCtorEq, Nat.reduceEqDiff, Nat.reduceAdd, Nat.reduceLeDiff, Int.reduceEq, Int.reduceLT, Int.reduceLE, Int.reduceAdd, Int.reduceToNat, Int.reduceNeg, Nat.reduceMul, Nat.reduceSub, Int.reduceBNe, Int.reduceBEq, h3, h4, h7, Int.ofNat_lt, Nat.lt_irrefl, decide_false, Tryz.underlying22]
    exact hk _ ho.tail.right.tail
  obtain ⟨n, hn⟩ : ∃ n, ns[i]? = some n := ⟨ns[i], List.getElem?_eq_getElem hil⟩
  obtain ⟨x', o', sp', c', ccs', ty', own', kv, av, dv, hvx, hmem', hcut', hget', hnr'⟩ := hD.at hn
  injection hvx with hvx _ hvc
  injection hvx with hvx
  injection hvx with e1 e2 e3
  subst e1 e2 e3 hvc
  have hcx := ho.get (List.mem_cons_of_mem _ (List.mem_append_right _ (List.mem_cons_of_mem _ hmem')))
  have hli : ((i : Int) < (ns.length : Int)) = True := eq_true (by omega)
  have hge : ((0 : Int) ≤ (i : Int)) = True := eq_true (by omega)
  obtain ⟨va, v, vb, ha, hm, hb, hvs, hvl, hge2, hG, _⟩ := hkv.at (iB (ns := ns) (i := ns.length) hil)
  have hvp : vs[i]? = some v := by rw [hvs, ← hvl]; simp
  have q2 := hget' 2 (by decide)
  change ccs'[o + i * 9 + 2]? = some kv at q2
  have hc3 := ho.head
  obtain ⟨ka, kc, hkv1, _⟩ := hnr'.kid.isSlice
  simp -implicitDefEqProofs only [go_sem, ↓aj, ↓ah, ak, Nat.reduceBEq, ↓reduceIte, reduceCtorEq, Nat.reduceEqDiff, Nat.reduceAdd, Nat.reduceLeDiff, Int.reduceEq, Int.reduceLT, Int.reduceLE, Int.reduceAdd, Int.reduceToNat, Int.reduceNeg, Nat.reduceMul, Nat.reduceSub, Int.reduceBNe, Int.reduceBEq, h3, h4, h7, hli, decide_true, Tryz.underlying22]
  refine bG.of [(0, false, []), (1, false, []), (2, false, []), (3, false, []), (4, false, []), (5, false, []), (6, false, []), (7, false, []), (8, false, []), (9, false, []), (10, false, [])] [] [] (by kernel_rfl) ?_
  simp -implicitDefEqProofs only [go_sem, ↓aj, ↓ah, ak, Nat.reduceBEq, ↓reduceIte, reduceCtorEq, Nat.reduceEqDiff, Nat.reduceAdd, Nat.reduceLeDiff, Int.reduceEq, Int.reduceLT, Int.reduceLE, Int.reduceAdd, Int.reduceToNat, Int.reduceNeg, Nat.reduceMul, Nat.reduceSub, Int.reduceBNe, Int.reduceBEq, h3, h4, h7, hcx, hc3, q2, hvp, hli, hge, and_self, true_and, decide_true, Int.toNat_natCast, Nat.mul_one, dR, bK, qx, aC, aU, asz3, Tryz.underlying55, Tryz.underlying22, Tryz.underlying3, Tryz.underlying47, Tryz.underlying67]
  have hfl : ∀ l : List Int, (aV l).flatten = iZ l := fun l => by
    induction l with
    | nil => rfl
    | cons a l ih => unfold aV iZ at *; rw [List.map_cons, List.flatten_cons, ih]; rfl
  have hx : Rws ((b3, .cells vs 47 true) :: (hg ++ ((b1, .cells [.slice (some ⟨x, o, sp⟩) ns.length vc] 24 true) :: r))) kv 1 (aV n.kids) := (show Rws r kv 1 (aV n.kids) from hnr'.kid).sub fun e he => List.mem_cons_of_mem _ (List.mem_append_right _ (List.mem_cons_of_mem _ he))
  have hy : Rws ((b3, .cells vs 47 true) :: (hg ++ ((b1, .cells [.slice (some ⟨x, o, sp⟩) ns.length vc] 24 true) :: r))) v 1 (aV (aG ns ns.length (i : Int))) := (GV.rows (r := []) (cs := aV (aG ns ns.length (i : Int))) (by rw [hfl]; exact hG) (fun c hc => by unfold aV at hc; obtain ⟨_, _, rfl⟩ := List.mem_map.1 hc; rfl) (by simp [aV])).sub fun e he => List.mem_cons_of_mem _ (List.mem_append_left _ (by rw [hge2]; simp at he; simp [he]))
  refine ay.enter Tryz.func29 rfl (by kernel_rfl) (tN _ _ _ _ _ _ hx hy (by have := (hb1 n (List.mem_of_getElem? hn)).2.2; omega) ho _ _ fun s6 ho6 => ?_)
  by_cases hke : n.kids = aG ns ns.length (i : Int)
  · rw [decide_eq_true hke]
    have w1 : IntKind.i64.wrap ((i : Int) + 1) = ((i + 1 : Nat) : Int) := by rw [bH (by omega)]; omega
    simp -implicitDefEqProofs only [go_sem, ↓aj, ↓ah, ak, Nat.reduceBEq, ↓reduceIte, reduceCtorEq, Nat.reduceEqDiff, Nat.reduceAdd, Nat.reduceLeDiff, Int.reduceEq, Int.reduceLT, Int.reduceLE, Int.reduceAdd, Int.reduceToNat, Int.reduceNeg, Nat.reduceMul, Nat.reduceSub, Int.reduceBNe, Int.reduceBEq, h3, h4, h7, w1, Bool.not_true]
    have hil' : i + 1 ≤ ns.length := hil
    have hkids' : ∀ (j : Nat) (m : Nx), j < i + 1 → ns[j]? = some m → m.kids = dH ns j := fun j m hj hm => by
      by_cases hji : j = i
      · subst hji
        rw [hn] at hm
        injection hm with hm
        rw [← hm]; exact hke
      · exact hkids j m (by omega) hm
    refine ⟨ns.length - (i + 1), by omega, i + 1, ?_⟩
    (repeat' first | assumption | exact rfl | apply And.intro)
  · rw [decide_eq_false hke]
    have hr : aH ns = false := by
      cases h : aH ns with
      | false => rfl
      | true =>
        unfold aH at h
        simp only [Bool.and_eq_true] at h
        exact absurd (of_decide_eq_true (dW.1 h.2.2 i n hil hn)) hke
    rw [hr] at hk
    simp -implicitDefEqProofs only [go_sem, ↓aj, ↓ah, ak, Nat.reduceBEq, ↓reduceIte, reduceCtorEq, Nat.reduceEqDiff, Nat.reduceAdd, Nat.reduceLeDiff, Int.reduceEq, Int.reduceLT, Int.reduceLE, Int.reduceAdd, Int.reduceToNat, Int.reduceNeg, Nat.reduceMul, Nat.reduceSub, Int.reduceBNe, Int.reduceBEq, Bool.not_false]
    exact hk _ ho6.tail.right.tail
end Go.Proofs.YtigjbehgfjjlkaaGreatDoor
