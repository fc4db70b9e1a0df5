/- Trees that are handed in, as they lie; is a number an element's? No conditions. -/
import Derived.Test.YtigjbehgfjjlkaaGreatDoorXmGC
import Derived.Test.YtigjbehgfjjlkaaGreatDoorTreeP
set_option linter.unusedVariables false
set_option linter.unusedSimpArgs false
namespace Go.Proofs.YtigjbehgfjjlkaaGreatDoor
open Go Go.Abs Go.RowKit Go.Xml
variable {base : Nat} {w0 : World} {G : Nat}
def ndX (n : Nx) (kv av dv : Value) : List Value := [.int .i64 n.kind, .int .i64 n.par, kv, .string (tx n.pre), .string (tx n.loc), .string (tx n.spc), av, dv, .string (tx n.val)]
structure NdX (H : Hp) (n : Nx) (kv av dv : Value) : Prop where
  kid : Rws H kv 1 (n.kids.map fun k => [Value.int .i64 k])
  att : Rws H av 4 (n.atts.map attC)
  dcl : Rws H dv 2 (n.dcls.map dclC)
theorem NdX.sub {H H' : Hp} {n : Nx} {kv av dv : Value} (h : NdX H n kv av dv) (hs : ∀ e ∈ H, e ∈ H') : NdX H' n kv av dv := ⟨h.kid.sub hs, h.att.sub hs, h.dcl.sub hs⟩
def DocX (H : Hp) (v : Value) (ns : List Nx) : Prop := ∃ cs : List (List Value), cs.length = ns.length ∧ Rws H v 9 cs ∧ ∀ (i : Nat) (n : Nx), ns[i]? = some n → ∃ kv av dv, cs[i]? = some (ndX n kv av dv) ∧ NdX H n kv av dv
theorem DocX.sub {H H' : Hp} {v : Value} {ns : List Nx} (h : DocX H v ns) (hs : ∀ e ∈ H, e ∈ H') : DocX H' v ns := by
  obtain ⟨cs, h1, h2, h3⟩ := h
  exact ⟨cs, h1, h2.sub hs, fun i n hi => by obtain ⟨kv, av, dv, a, b⟩ := h3 i n hi; exact ⟨kv, av, dv, a, b.sub hs⟩⟩
theorem DocX.isSlice {H : Hp} {v : Value} {ns : List Nx} (h : DocX H v ns) : ∃ a c, v = .slice a ns.length c := by
  obtain ⟨cs, h1, h2, h3⟩ := h
  obtain ⟨a, c, h, _⟩ := h2.isSlice
  exact ⟨a, c, by rw [← h1]; exact h⟩
theorem DocX.at {H : Hp} {v : Value} {ns : List Nx} (h : DocX H v ns) {i : Nat} {n : Nx} (hi : ns[i]? = some n) :
    ∃ x o sp c ccs ty own kv av dv, v = .slice (some ⟨x, o, sp⟩) ns.length c ∧ (x, Ob.cells ccs ty own) ∈ H ∧ cut ccs (o + i * 9) 9 = some (ndX n kv av dv) ∧ (∀ j, j < 9 → ccs[o + i * 9 + j]? = (ndX n kv av dv)[j]?) ∧ NdX H n kv av dv := by
  obtain ⟨cs, h1, h2, h3⟩ := h
  obtain ⟨kv, av, dv, a, b⟩ := h3 i n hi
  obtain ⟨x, o, sp, c, ccs, ty, own, g1, g2, g3⟩ := h2.mem a
  exact ⟨x, o, sp, c, ccs, ty, own, kv, av, dv, by rw [← h1]; exact g1, g2, g3, fun j hj => eF g3 hj, b⟩
set_option maxRecDepth 10000 in
theorem xw (st : St) (r : Hp) (v : Value) (ns : List Nx) (i : Int) (hD : DocX r v ns) (hO : Own st r) (k q : Value → St → Prop) (hk : ∀ st', Own st' r → k (.bool (gI ns i)) st') : ay (C base w0 G) 38 [.agg #[v], .int .i64 i] st k q := by
  obtain ⟨va, vc, hva⟩ := hD.isSlice
  subst hva
  refine ay.of (cx := C base w0 G) mixed Tryz.func38 rfl (by kernel_rfl) (by simp [Tryz.ntmps38]) ?_
  simp only [Tryz.results38]
  have ho1 := hO.new (.cells [.slice va ns.length vc] 24 true)
  by_cases h0 : 0 ≤ i
  · obtain ⟨j, rfl⟩ : ∃ j : Nat, i = j := ⟨i.toNat, by omega⟩
    have ge0 : ((j : Int) ≥ 0) = True := eq_true (by omega)
    by_cases hj : j < ns.length
    · obtain ⟨n, hn⟩ : ∃ n, ns[j]? = some n := ⟨ns[j], List.getElem?_eq_getElem hj⟩
      obtain ⟨x, o, sp, c, ccs, ty, own, kv, av, dv, hvx, hmem, hcut, hget, hnr⟩ := hD.at hn
      injection hvx with hvx _ hvc
      subst hvx hvc
      have hcx := ho1.get (List.mem_cons_of_mem _ hmem)
      have hnx : ¬ x = st.n := hO.fresh hmem
      have hcx0 := hO.get hmem
      have q0 := hget 0 (by decide)
      rw [Nat.add_zero] at q0
      change ccs[o + j * 9]? = some (.int .i64 n.kind) at q0
      have he : gI ns (j : Int) = (n.kind == 1) := by
        unfold gI
        rw [Int.toNat_natCast, hn, decide_eq_true (by omega)]
        show (true && decide (n.kind = 1)) = _
        rw [Bool.true_and]
        by_cases hk1 : n.kind = 1
        · rw [hk1]; rfl
        · rw [decide_eq_false hk1, beq_eq_false_iff_ne.2 hk1]
      rw [he] at hk
      simp -implicitDefEqProofs only [go_sem, ↓aj, ↓ah, ak, Nat.reduceBEq, ↓reduceIte, reduceCtorEq, Nat.reduceEqDiff, Nat.reduceAdd, Nat.reduceLeDiff, Int.reduceEq, Int.reduceLT, Int.reduceLE, Int.reduceAdd, Int.reduceToNat, Int.reduceNeg, Nat.reduceMul, Nat.reduceSub, Int.reduceBNe, Int.reduceBEq, abox, ge0, Int.ofNat_lt, hj, hcx0, hnx, q0, decide_true, Int.natCast_nonneg, and_self, true_and, Int.toNat_natCast, jg, fD, eT, aU, asz3, Tryz.underlying22, Tryz.underlying55, Tryz.underlying3, List.getElem?_cons_zero]
      exact hk _ ho1.tail
    · have hn : ns[j]? = none := List.getElem?_eq_none (by omega)
      have he : gI ns (j : Int) = false := by unfold gI; rw [Int.toNat_natCast, hn]; simp
      rw [he] at hk
      simp -implicitDefEqProofs only [go_sem, ↓aj, ↓ah, ak, Nat.reduceBEq, ↓reduceIte, reduceCtorEq, Nat.reduceEqDiff, Nat.reduceAdd, Nat.reduceLeDiff, Int.reduceEq, Int.reduceLT, Int.reduceLE, Int.reduceAdd, Int.reduceToNat, Int.reduceNeg, Nat.reduceMul, Nat.reduceSub, Int.reduceBNe, Int.reduceBEq, abox, ge0, Int.ofNat_lt, hj, decide_true, decide_false, jg, eT, Tryz.underlying22, Tryz.underlying3, List.getElem?_cons_zero]
      exact hk _ ho1.tail
  · have he : gI ns i = false := by unfold gI; rw [decide_eq_false h0]; rfl
    rw [he] at hk
    simp -implicitDefEqProofs only [go_sem, ↓aj, ↓ah, ak, Nat.reduceBEq, ↓reduceIte, reduceCtorEq, Nat.reduceEqDiff, Nat.reduceAdd, Nat.reduceLeDiff, Int.reduceEq, Int.reduceLT, Int.reduceLE, Int.reduceAdd, Int.reduceToNat, Int.reduceNeg, Nat.reduceMul, Nat.reduceSub, Int.reduceBNe, Int.reduceBEq, abox, eq_false (show ¬ (i ≥ 0) from h0), decide_false]
    exact hk _ ho1.tail
end Go.Proofs.YtigjbehgfjjlkaaGreatDoor
set_option linter.unusedVariables false
set_option linter.unusedSimpArgs false
namespace Go.Proofs.YtigjbehgfjjlkaaGreatDoor
open Go Go.Abs Go.RowKit Go.Xml
variable {base : Nat} {w0 : World} {G : Nat}
def kM (l : List Int) : List (List Value) := l.map fun k => [Value.int .i64 k]
set_option maxRecDepth 10000 in
theorem DI (st : St) (r : Hp) (v w : Value) (xs ys : List Int) (hx : Rws r v 1 (kM xs)) (hy : Rws r w 1 (kM ys)) (hb : xs.length ≤ 1000000000) (hO : Own st r) (k q : Value → St → Prop) (hk : ∀ st', Own st' r → k (.bool (decide (xs = ys))) st') : ay (C base w0 G) 39 [v, w] st k q := by
  obtain ⟨va, vc, hv, _⟩ := hx.isSlice
  obtain ⟨wa, wc, hw, _⟩ := hy.isSlice
  simp only [kM, List.length_map] at hv hw
  subst hv hw
  refine ay.of (cx := C base w0 G) mixed Tryz.func39 rfl (by kernel_rfl) (by simp [Tryz.ntmps39]) ?_
  simp only [Tryz.results39]
  by_cases hl : xs.length = ys.length
  case neg =>
    have hr : decide (xs = ys) = false := decide_eq_false fun h => hl (by rw [h])
    rw [hr] at hk
    have te : ((xs.length : Int) != (ys.length : Int)) = true := by rw [bne_iff_ne]; omega
    simp -implicitDefEqProofs only [go_sem, ↓aj, ↓ah, ak, Nat.reduceBEq, ↓reduceIte, reduceCtorEq, Nat.reduceEqDiff, Nat.reduceAdd, Nat.reduceLeDiff, Int.reduceEq, Int.reduceLT, Int.reduceLE, Int.reduceAdd, Int.reduceToNat, Int.reduceNeg, Nat.reduceMul, Nat.reduceSub, Int.reduceBNe, Int.reduceBEq, te, Tryz.underlying47]
    exact hk _ hO
  have te : ((xs.length : Int) != (ys.length : Int)) = false := by rw [hl]; simp
  simp -implicitDefEqProofs only [go_sem, ↓aj, ↓ah, ak, Nat.reduceBEq, ↓reduceIte, reduceCtorEq, Nat.reduceEqDiff, Nat.reduceAdd, Nat.reduceLeDiff, Int.reduceEq, Int.reduceLT, Int.reduceLE, Int.reduceAdd, Int.reduceToNat, Int.reduceNeg, Nat.reduceMul, Nat.reduceSub, Int.reduceBNe, Int.reduceBEq, te, Tryz.underlying47]
  refine ⟨fun m ρ s => ∃ i : Nat, m = xs.length - i ∧ i ≤ xs.length ∧ ρ 0 = .slice va xs.length vc ∧ ρ 1 = .slice wa ys.length wc ∧ ρ 12 = .int .i64 (xs.length : Nat) ∧ ρ 13 = .int .i64 (i : Nat) ∧ Own s r ∧ ∀ j, j < i → xs[j]? = ys[j]?,
    ⟨_, 0, rfl, Nat.zero_le _, rfl, rfl, rfl, rfl, hO, fun j h => by omega⟩, ?_⟩
  rintro _ ρ s ⟨i, rfl, hi, h0, h1, h12, h13, ho, hall⟩
  by_cases hil : i < xs.length
  case neg =>
    obtain rfl : i = xs.length := by omega
    have hr : decide (xs = ys) = true := decide_eq_true (by
      apply List.ext_getElem?
      intro j
      by_cases hj : j < xs.length
      · exact hall j hj
      · rw [List.getElem?_eq_none (by omega), List.getElem?_eq_none (by omega)])
    rw [hr] at hk
    simp -implicitDefEqProofs only [go_sem, ↓aj, ↓ah, ak, Nat.reduceBEq, ↓reduceIte, reduceCtorEq, Nat.reduceEqDiff, Nat.reduceAdd, Nat.reduceLeDiff, Int.reduceEq, Int.reduceLT, Int.reduceLE, Int.reduceAdd, Int.reduceToNat, Int.reduceNeg, Nat.reduceMul, Nat.reduceSub, Int.reduceBNe, Int.reduceBEq, h0, h1, h12, h13, Int.ofNat_lt, Nat.lt_irrefl, decide_false]
    exact hk _ ho
  obtain ⟨a, ha⟩ : ∃ a, xs[i]? = some a := ⟨xs[i], List.getElem?_eq_getElem hil⟩
  obtain ⟨b, hb'⟩ : ∃ b, ys[i]? = some b := ⟨ys[i]'(by omega), List.getElem?_eq_getElem (by omega)⟩
  obtain ⟨x, o, sp, c, ccs, ty, own, g1, g2, g3⟩ := hx.mem (i := i) (l := [.int .i64 a]) (by simp [kM, ha])
  obtain ⟨x', o', sp', c', ccs', ty', own', g1', g2', g3'⟩ := hy.mem (i := i) (l := [.int .i64 b]) (by simp [kM, hb'])
  injection g1 with e1 _ e2
  injection g1' with e1' _ e2'
  subst e1 e2 e1' e2'
  have hc := ho.get g2
  have hc' := ho.get g2'
  have q0 := eF g3 (show 0 < 1 by decide)
  have q1 := eF g3' (show 0 < 1 by decide)
  simp only [Nat.mul_one, Nat.add_zero, List.getElem?_cons_zero] at q0 q1
  have hli : ((i : Int) < (xs.length : Int)) = True := eq_true (by omega)
  have hlj : ((i : Int) < (ys.length : Int)) = True := eq_true (by omega)
  have hge : ((0 : Int) ≤ (i : Int)) = True := eq_true (by omega)
  have w1 : IntKind.i64.wrap ((i : Int) + 1) = ((i + 1 : Nat) : Int) := by rw [cO (by omega)]; omega
  by_cases hab : a = b
  case neg =>
    have hr : decide (xs = ys) = false := decide_eq_false fun h => hab (by rw [h, hb'] at ha; injection ha with ha; exact ha.symm)
    rw [hr] at hk
    have tn : (a != b) = true := by rw [bne_iff_ne]; exact hab
    simp -implicitDefEqProofs only [go_sem, ↓aj, ↓ah, ak, Nat.reduceBEq, ↓reduceIte, reduceCtorEq, Nat.reduceEqDiff, Nat.reduceAdd, Nat.reduceLeDiff, Int.reduceEq, Int.reduceLT, Int.reduceLE, Int.reduceAdd, Int.reduceToNat, Int.reduceNeg, Nat.reduceMul, Nat.reduceSub, Int.reduceBNe, Int.reduceBEq, h0, h1, h12, h13, hli, decide_true]
    refine bG.of [(0, false, []), (1, false, []), (2, false, []), (3, false, []), (4, false, []), (5, false, []), (6, false, []), (7, false, []), (8, false, [])] [] [] (by kernel_rfl) ?_
    simp -implicitDefEqProofs only [go_sem, ↓aj, ↓ah, ak, Nat.reduceBEq, ↓reduceIte, reduceCtorEq, Nat.reduceEqDiff, Nat.reduceAdd, Nat.reduceLeDiff, Int.reduceEq, Int.reduceLT, Int.reduceLE, Int.reduceAdd, Int.reduceToNat, Int.reduceNeg, Nat.reduceMul, Nat.reduceSub, Int.reduceBNe, Int.reduceBEq, h0, h1, h12, h13, hli, hlj, hge, hc, hc', q0, q1, tn, and_self, true_and, decide_true, Int.toNat_natCast, iM, asz3, Tryz.underlying47, Tryz.underlying3, Nat.mul_one]
    exact hk _ ho
  have tn : (a != b) = false := by rw [hab]; simp
  have hall' : ∀ j, j < i + 1 → xs[j]? = ys[j]? := fun j hj => by
    by_cases hji : j = i
    · rw [hji, ha, hb', hab]
    · exact hall j (by omega)
  have hil' : i + 1 ≤ xs.length := hil
  simp -implicitDefEqProofs only [go_sem, ↓aj, ↓ah, ak, Nat.reduceBEq, ↓reduceIte, reduceCtorEq, Nat.reduceEqDiff, Nat.reduceAdd, Nat.reduceLeDiff, Int.reduceEq, Int.reduceLT, Int.reduceLE, Int.reduceAdd, Int.reduceToNat, Int.reduceNeg, Nat.reduceMul, Nat.reduceSub, Int.reduceBNe, Int.reduceBEq, h0, h1, h12, h13, hli, decide_true]
  refine bG.of [(0, false, []), (1, false, []), (2, false, []), (3, false, []), (4, false, []), (5, false, []), (6, false, []), (7, false, []), (8, false, [])] [] [] (by kernel_rfl) ?_
  simp -implicitDefEqProofs only [go_sem, ↓aj, ↓ah, ak, Nat.reduceBEq, ↓reduceIte, reduceCtorEq, Nat.reduceEqDiff, Nat.reduceAdd, Nat.reduceLeDiff, Int.reduceEq, Int.reduceLT, Int.reduceLE, Int.reduceAdd, Int.reduceToNat, Int.reduceNeg, Nat.reduceMul, Nat.reduceSub, Int.reduceBNe, Int.reduceBEq, h0, h1, h12, h13, hli, hlj, hge, hc, hc', q0, q1, tn, w1, and_self, true_and, decide_true, Int.toNat_natCast, iM, asz3, Tryz.underlying47, Tryz.underlying3, Nat.mul_one]
  refine ⟨xs.length - (i + 1), by omega, i + 1, ?_⟩
  (repeat' first | assumption | exact rfl | apply And.intro)
end Go.Proofs.YtigjbehgfjjlkaaGreatDoor
set_option linter.unusedVariables false
set_option linter.unusedSimpArgs false
namespace Go.Proofs.YtigjbehgfjjlkaaGreatDoor
open Go Go.Abs Go.RowKit Go.Xml
variable {base : Nat} {w0 : World} {G : Nat}
def xB (l : List Int) : List Value := l.map fun i => .int .i64 i
def KV : List (List Int) → List Value → Hp → Prop
  | [], [], h => h = []
  | l :: ls, v :: vs, h => ∃ h1 h2, h = h1 ++ h2 ∧ GV v (xB l) l.length 1 3 h1 ∧ KV ls vs h2
  | _, _, _ => False
theorem KV.len : ∀ {ls : List (List Int)} {vs : List Value} {h : Hp}, KV ls vs h → vs.length = ls.length
  | [], [], _, _ => rfl
  | l :: ls, v :: vs, h, hk => by
    obtain ⟨h1, h2, _, _, hk⟩ := hk
    rw [List.length_cons, List.length_cons, hk.len]
  | [], _ :: _, _, hk => hk.elim
  | _ :: _, [], _, hk => hk.elim
theorem KV.none : ∀ n : Nat, KV (List.replicate n []) (List.replicate n (.slice none 0 0)) []
  | 0 => rfl
  | n + 1 => ⟨[], [], rfl, GV.nil, KV.none n⟩
theorem KV.at : ∀ {ls : List (List Int)} {vs : List Value} {h : Hp}, KV ls vs h → ∀ {p : Nat} {l : List Int}, ls[p]? = some l →
    ∃ va v vb ha h1 hb, vs = va ++ v :: vb ∧ va.length = p ∧ h = ha ++ (h1 ++ hb) ∧ GV v (xB l) l.length 1 3 h1 ∧
      ∀ l' v' h1', GV v' (xB l') l'.length 1 3 h1' → KV (ls.set p l') (va ++ v' :: vb) (ha ++ (h1' ++ hb))
  | [], [], _, _, p, l, hp => by simp at hp
  | [], _ :: _, _, hk, _, _, _ => hk.elim
  | _ :: _, [], _, hk, _, _, _ => hk.elim
  | m :: ls, v :: vs, h, hk, 0, l, hp => by
    simp at hp; subst hp
    obtain ⟨h1, h2, rfl, hg, hk⟩ := hk
    exact ⟨[], v, vs, [], h1, h2, rfl, rfl, rfl, hg, fun l' v' h1' hg' => ⟨h1', h2, rfl, hg', hk⟩⟩
  | m :: ls, v :: vs, h, hk, p + 1, l, hp => by
    obtain ⟨h1, h2, rfl, hg, hk⟩ := hk
    obtain ⟨va, v1, vb, ha, h3, hb, e1, e2, e3, g, hset⟩ := hk.at (p := p) (l := l) (by simpa using hp)
    refine ⟨v :: va, v1, vb, h1 ++ ha, h3, hb, by rw [e1]; rfl, by rw [List.length_cons, e2], by rw [e3, List.append_assoc], g, fun l' v' h1' hg' => ?_⟩
    rw [List.append_assoc]
    exact ⟨h1, ha ++ (h1' ++ hb), rfl, hg, hset l' v' h1' hg'⟩
def dH (ns : List Nx) (i : Nat) : List (List Int) := (List.range ns.length).map fun p : Nat => bF ns i (p : Int)
theorem jT (ns : List Nx) (i : Nat) : (dH ns i).length = ns.length := by simp [dH]
theorem lN {ns : List Nx} {i p : Nat} (h : p < ns.length) : (dH ns i)[p]? = some (bF ns i (p : Int)) := by
  simp [dH, h]
theorem zx (ns : List Nx) : dH ns 0 = List.replicate ns.length [] := by
  unfold dH
  rw [List.eq_replicate_iff]
  exact ⟨by simp, fun l hl => by obtain ⟨p, _, rfl⟩ := List.mem_map.1 hl; rfl⟩
theorem zy {ns : List Nx} {n : Nx} (h : ns[0]? = some n) : dH ns 1 = dH ns 0 := by
  unfold dH
  refine List.map_congr_left fun p _ => ?_
  rw [dG, h]
  dsimp only
  rw [if_neg (by omega)]
theorem zA {ns : List Nx} {i p : Nat} {n : Nx} (h : ns[i]? = some n) (hi : 0 < i) (hp : n.par = p) (hpl : p < ns.length) : dH ns (i + 1) = (dH ns i).set p (bF ns i (p : Int) ++ [(i : Int)]) := by
  apply List.ext_getElem?
  intro j
  by_cases hj : j < ns.length
  · rw [lN hj, List.getElem?_set]
    by_cases hpj : p = j
    · subst hpj
      rw [if_pos rfl, if_pos (by rw [jT]; exact hj), dG, h]
      dsimp only
      rw [if_pos ⟨hi, hp⟩]
    · rw [if_neg hpj, lN hj, dG, h]
      dsimp only
      rw [if_neg (fun g => hpj (by have := g.2; rw [hp] at this; omega))]
  · rw [List.getElem?_eq_none (by rw [jT]; omega), List.getElem?_eq_none (by rw [List.length_set, jT]; omega)]
theorem iW {ns : List Nx} {i : Nat} {n : Nx} (hn : ns[i]? = some n) (h : ig ns i n = false) : bP ns = false := by
  have : vg ns (ig ns) ns.length = false := by
    cases ha : vg ns (ig ns) ns.length with
    | false => rfl
    | true =>
      have := eB.1 ha i n (List.getElem?_eq_some_iff.1 hn).1 hn
      rw [h] at this; cases this
  unfold bP
  rw [this]
  simp
theorem xC (v : Value) : ∀ n : Nat, zeros [v] n = List.replicate n v
  | 0 => rfl
  | n + 1 => by
    have := xC v n
    unfold zeros at this ⊢
    rw [List.replicate_succ, List.flatten_cons, this, List.replicate_succ]
    rfl
theorem DJ {st : St} {n : Nat} (h : n ≤ 1000000) : ak Tryz.prog st 67 (.int .i64 (n : Nat)) (.int .i64 (n : Nat)) = some (.slice (some ⟨st.n, 0, none⟩) n n, st.new (.cells (List.replicate n (.slice none 0 0)) 47 true)) := by
  unfold ak
  simp only [Tryz.underlying67, iM, LY, LX, xC, Int.toNat_natCast]
  rw [if_pos (by omega)]
theorem EI {α : Type} (a b : α) (ha hm hb R : List α) : (a :: b :: ((ha ++ (hm ++ hb)) ++ R)).Perm (hm ++ (b :: a :: (ha ++ (hb ++ R)))) := by
  rw [List.append_assoc, List.append_assoc]
  refine (List.Perm.swap b a _).trans ?_
  refine (List.Perm.cons b (List.Perm.cons a (List.perm_append_comm_assoc ha hm (hb ++ R)))).trans ?_
  exact List.perm_append_comm_assoc [b, a] hm (ha ++ (hb ++ R))
theorem vk (ns : List Nx) (p : Int) : ∀ m : Nat, (bF ns m p).length ≤ m
  | 0 => Nat.le_refl _
  | m + 1 => by
    have ih := vk ns p m
    rw [dG]
    cases ns[m]? with
    | none => dsimp only; omega
    | some n =>
      dsimp only
      split
      · rw [List.length_append, List.length_singleton]; omega
      · omega
def IC (ns : List Nx) (i : Nat) (n : Nx) : Prop := i = 0 ∨ (n.par < i ∧ gI ns n.par = true)
set_option maxRecDepth 10000 in
theorem vo (st : St) (r : Hp) (v : Value) (ns : List Nx) (hD : DocX r v ns) (hb : ns.length ≤ 1000000 ∧ ∀ n ∈ ns, n.atts.length ≤ 1000000 ∧ n.dcls.length ≤ 1000000 ∧ n.kids.length ≤ 1000000) (hO : Own st r) (k q : Value → St → Prop) (hk : ∀ st', Own st' r → k (.bool (bP ns)) st') : ay (C base w0 G) 13 [.agg #[v]] st k q := by
  obtain ⟨va, vc, hva⟩ := hD.isSlice
  obtain ⟨hb0, hb1⟩ := hb
  subst hva
  refine ay.of (cx := C base w0 G) mixed Tryz.func13 rfl (by kernel_rfl) (by simp [Tryz.ntmps13]) ?_
  simp only [Tryz.results13]
  have ho1 := hO.new (.cells [.slice va ns.length vc] 24 true)
  have hD1 := hD.sub (H' := (st.n, Ob.cells [.slice va ns.length vc] 24 true) :: r) fun e he => List.mem_cons_of_mem _ he
  have hcl : cut [Value.slice va ns.length vc] 0 1 = some [Value.slice va ns.length vc] := rfl
  simp -implicitDefEqProofs only [go_sem, ↓aj, ↓ah, ak, Nat.reduceBEq, ↓reduceIte, reduceCtorEq, Nat.reduceEqDiff, Nat.reduceAdd, Nat.reduceLeDiff, Int.reduceEq, Int.reduceLT, Int.reduceLE, Int.reduceAdd, Int.reduceToNat, Int.reduceNeg, Nat.reduceMul, Nat.reduceSub, Int.reduceBNe, Int.reduceBEq, abox, hcl, gT, Tryz.underlying24, Option.map_some]
  refine au.enter Tryz.func38 rfl (by kernel_rfl) (xw _ _ _ ns 0 hD1 ho1 _ _ fun s1 ho1' => ?_)
  have hc1 := ho1'.head
  generalize hb1' : st.n = b1 at *
  cases he0 : gI ns 0 with
  | false =>
    have hr : bP ns = false := by unfold bP; rw [he0]; rfl
    rw [hr] at hk
    simp -implicitDefEqProofs only [go_sem, ↓aj, ↓ah, ak, Nat.reduceBEq, ↓reduceIte, reduceCtorEq, Nat.reduceEqDiff, Nat.reduceAdd, Nat.reduceLeDiff, Int.reduceEq, Int.reduceLT, Int.reduceLE, Int.reduceAdd, Int.reduceToNat, Int.reduceNeg, Nat.reduceMul, Nat.reduceSub, Int.reduceBNe, Int.reduceBEq, Bool.not_false]
    exact hk _ ho1'.tail
  | true =>
  obtain ⟨n0, hn0⟩ : ∃ n, ns[0]? = some n := by
    unfold gI at he0
    cases h : ns[0]? with
    | none => rw [show (0 : Int).toNat = 0 from rfl, h] at he0; simp at he0
    | some n => exact ⟨n, rfl⟩
  have hlen0 : 0 < ns.length := (List.getElem?_eq_some_iff.1 hn0).1
  obtain ⟨x, o, sp, c, ccs, ty, own, kv, av, dv, hvx, hmem, hcut, hget, hnr⟩ := hD.at hn0
  injection hvx with hvx _ hvc
  subst hvx hvc
  have hcx := ho1'.get (List.mem_cons_of_mem _ hmem)
  have q1 := hget 1 (by decide)
  rw [Nat.zero_mul, Nat.add_zero] at q1
  change ccs[o + 1]? = some (.int .i64 n0.par) at q1
  have hl0 : ((0 : Int) < (ns.length : Int)) = True := eq_true (by omega)
  by_cases hp0 : n0.par = -1
  case neg =>
    have hr : bP ns = false := by unfold bP; rw [hn0]; simp [hp0]
    rw [hr] at hk
    have hpe : (n0.par != -1) = true := by rw [bne_iff_ne]; exact hp0
    simp -implicitDefEqProofs only [go_sem, ↓aj, ↓ah, ak, Nat.reduceBEq, ↓reduceIte, reduceCtorEq, Nat.reduceEqDiff, Nat.reduceAdd, Nat.reduceLeDiff, Int.reduceEq, Int.reduceLT, Int.reduceLE, Int.reduceAdd, Int.reduceToNat, Int.reduceNeg, Nat.reduceMul, Nat.reduceSub, Int.reduceBNe, Int.reduceBEq, Bool.not_true, hc1, hcx, q1, hl0, hpe, Int.le_refl, and_self, true_and, Int.toNat_zero, Nat.zero_mul, Nat.add_zero, jg, fE, eT, aU, asz3, Tryz.underlying22, Tryz.underlying55, Tryz.underlying3, List.getElem?_cons_zero]
    exact hk _ ho1'.tail
  have hpe : (n0.par != -1) = false := by rw [hp0]; rfl
  simp -implicitDefEqProofs only [go_sem, astr, ak, Nat.reduceBEq, ↓reduceIte, reduceCtorEq, Nat.reduceEqDiff, Nat.reduceAdd, Nat.reduceLeDiff, Int.reduceEq, Int.reduceLT, Int.reduceLE, Int.reduceAdd, Int.reduceToNat, Int.reduceNeg, Nat.reduceMul, Nat.reduceSub, Int.reduceBNe, Int.reduceBEq, Bool.not_true, hc1, hcx, q1, hl0, hpe, Int.le_refl, and_self, true_and, Int.toNat_zero, Nat.zero_mul, Nat.add_zero, jg, fE, eT, aU, asz3, Tryz.underlying22, Tryz.underlying55, Tryz.underlying3, List.getElem?_cons_zero]
  have hnb : ¬ b1 = s1.n := ho1'.iE
  have ho2 := ho1'.new (.cells (List.replicate ns.length (.slice none 0 0)) 47 true)
  rw [aj]
  simp -implicitDefEqProofs only [go_sem, Nat.reduceBEq, ↓reduceIte, reduceCtorEq, Nat.reduceEqDiff, Nat.reduceAdd, Nat.reduceLeDiff, Int.reduceEq, Int.reduceLT, Int.reduceLE, Int.reduceAdd, Int.reduceToNat, Int.reduceNeg, Nat.reduceMul, Nat.reduceSub, Int.reduceBNe, Int.reduceBEq, hc1, hnb, DJ hb0, jg, eT, Tryz.underlying22, List.getElem?_cons_zero]
  have hkv0 : KV (dH ns 0) (List.replicate ns.length (.slice none 0 0)) [] := by rw [zx]; exact KV.none _
  generalize hb3 : s1.n = b3 at *
  generalize hs2 : s1.new _ = s2 at *
  generalize hVS : List.replicate ns.length (Value.slice none 0 0) = vs0 at *
  refine Ep (fun ρ s => ∃ (vs : List Value) (hg : Hp), ρ 1 = .pointer (some ⟨b1, 0, none⟩) ∧ ρ 3 = .slice (some ⟨b3, 0, none⟩) ns.length ns.length ∧ KV (dH ns ns.length) vs hg ∧ Own s ((b3, .cells vs 47 true) :: (hg ++ ((b1, .cells [.slice (some ⟨x, o, sp⟩) ns.length vc] 24 true) :: r))) ∧ ∀ (j : Nat) (n : Nx), ns[j]? = some n → ig ns j n = true) ?_ ?_
  · have hcd := ho2.tail.head
    simp -implicitDefEqProofs only [go_sem, ↓aj, ↓ah, ak, Nat.reduceBEq, ↓reduceIte, reduceCtorEq, Nat.reduceEqDiff, Nat.reduceAdd, Nat.reduceLeDiff, Int.reduceEq, Int.reduceLT, Int.reduceLE, Int.reduceAdd, Int.reduceToNat, Int.reduceNeg, Nat.reduceMul, Nat.reduceSub, Int.reduceBNe, Int.reduceBEq, hcd, jg, eT, Tryz.underlying22, List.getElem?_cons_zero]
    refine ⟨fun m ρ s => ∃ (i : Nat) (vs : List Value) (hg : Hp), m = ns.length - i ∧ i ≤ ns.length ∧ ρ 1 = .pointer (some ⟨b1, 0, none⟩) ∧ ρ 3 = .slice (some ⟨b3, 0, none⟩) ns.length ns.length ∧ ρ 24 = .slice (some ⟨x, o, sp⟩) ns.length vc ∧ ρ 25 = .int .i64 (ns.length : Nat) ∧ ρ 26 = .int .i64 (i : Nat) ∧ KV (dH ns i) vs hg ∧ Own s ((b3, .cells vs 47 true) :: (hg ++ ((b1, .cells [.slice (some ⟨x, o, sp⟩) ns.length vc] 24 true) :: r))) ∧ ∀ (j : Nat) (n : Nx), j < i → ns[j]? = some n → ig ns j n = true,
      ⟨_, 0, vs0, [], rfl, Nat.zero_le _, rfl, rfl, rfl, rfl, rfl, hkv0, ho2, fun j n h => by omega⟩, ?_⟩
    rintro _ ρ s ⟨i, vs, hg, rfl, hi, h1, h3, h24, h25, h26, hkv, ho, hall⟩
    by_cases hil : i < ns.length
    case neg =>
      obtain rfl : i = ns.length := by omega
      simp -implicitDefEqProofs only [go_sem, ↓aj, ↓ah, ak, Nat.reduceBEq, ↓reduceIte, reduceCtorEq, Nat.reduceEqDiff, Nat.reduceAdd, Nat.reduceLeDiff, Int.reduceEq, Int.reduceLT, Int.reduceLE, Int.reduceAdd, Int.reduceToNat, Int.reduceNeg, Nat.reduceMul, Nat.reduceSub, Int.reduceBNe, Int.reduceBEq, h1, h3, h24, h25, h26, Int.ofNat_lt, Nat.lt_irrefl, decide_false]
      exact ⟨vs, hg, hkv, ho, fun j n hj => hall j n (List.getElem?_eq_some_iff.1 hj).1 hj⟩
    obtain ⟨n, hn⟩ : ∃ n, ns[i]? = some n := ⟨ns[i], List.getElem?_eq_getElem hil⟩
    obtain ⟨x', o', sp', c', ccs', ty', own', kv, av, dv, hvx, hmem', hcut', hget', hnr'⟩ := hD.at hn
    injection hvx with hvx _ hvc
    injection hvx with hvx
    injection hvx with e1 e2 e3
    subst e1 e2 e3 hvc
    have hcx := ho.get (List.mem_cons_of_mem _ (List.mem_append_right _ (List.mem_cons_of_mem _ hmem')))
    have hnx : ¬ x = s.n := ho.fresh (List.mem_cons_of_mem _ (List.mem_append_right _ (List.mem_cons_of_mem _ hmem')))
    have hli : ((i : Int) < (ns.length : Int)) = True := eq_true (by omega)
    have hge : ((0 : Int) ≤ (i : Int)) = True := eq_true (by omega)
    have hon := (ho.new (.cells [.int .i64 0, .int .i64 0, .slice none 0 0, .string ⟨#[]⟩, .string ⟨#[]⟩, .string ⟨#[]⟩, .slice none 0 0, .slice none 0 0, .string ⟨#[]⟩] 55 true)).set rfl (.cells (ndX n kv av dv) 55 true) rfl
    have hsetN : setL [.int .i64 0, .int .i64 0, .slice none 0 0, .string ⟨#[]⟩, .string ⟨#[]⟩, .string ⟨#[]⟩, .slice none 0 0, .slice none 0 0, .string ⟨#[]⟩] 0 (ndX n kv av dv) = ndX n kv av dv := rfl
    simp -implicitDefEqProofs only [go_sem, Nat.reduceBEq, ↓reduceIte, reduceCtorEq, Nat.reduceEqDiff, Nat.reduceAdd, Nat.reduceLeDiff, Int.reduceEq, Int.reduceLT, Int.reduceLE, Int.reduceAdd, Int.reduceToNat, Int.reduceNeg, Nat.reduceMul, Nat.reduceSub, Int.reduceBNe, Int.reduceBEq]
    rw [aj]
    simp -implicitDefEqProofs only [go_sem, Nat.reduceBEq, ↓reduceIte, reduceCtorEq, Nat.reduceEqDiff, Nat.reduceAdd, Nat.reduceLeDiff, Int.reduceEq, Int.reduceLT, Int.reduceLE, Int.reduceAdd, Int.reduceToNat, Int.reduceNeg, Nat.reduceMul, Nat.reduceSub, Int.reduceBNe, Int.reduceBEq, h24, h25, h26, hli]
    rw [aj]
    simp -implicitDefEqProofs only [go_sem, Nat.reduceBEq, ↓reduceIte, reduceCtorEq, Nat.reduceEqDiff, Nat.reduceAdd, Nat.reduceLeDiff, Int.reduceEq, Int.reduceLT, Int.reduceLE, Int.reduceAdd, Int.reduceToNat, Int.reduceNeg, Nat.reduceMul, Nat.reduceSub, Int.reduceBNe, Int.reduceBEq, h24, h25, h26, hli, decide_true]
    rw [aj, ah, aj]
    simp -implicitDefEqProofs only [go_sem, Nat.reduceBEq, ↓reduceIte, reduceCtorEq, Nat.reduceEqDiff, Nat.reduceAdd, Nat.reduceLeDiff, Int.reduceEq, Int.reduceLT, Int.reduceLE, Int.reduceAdd, Int.reduceToNat, Int.reduceNeg, Nat.reduceMul, Nat.reduceSub, Int.reduceBNe, Int.reduceBEq, h1, h3, h24, h25, h26, hcx, hcut', hnx, hli, hge, and_self, true_and, Int.toNat_natCast, eT, aU, nH, bB, hsetN, Tryz.underlying22, Tryz.underlying55]
    generalize hb5 : s.n = b5 at *
    obtain ⟨ka, kc, hkv1, _⟩ := hnr'.kid.isSlice
    obtain ⟨aa, ac, hav1, _⟩ := hnr'.att.isSlice
    obtain ⟨da, dc, hdv1, _⟩ := hnr'.dcl.isSlice
    simp only [List.length_map] at hkv1 hav1 hdv1
    refine ⟨⟨rfl, by rw [hkv1, hav1, hdv1]; rfl⟩, ?_⟩
    generalize hs1 : (s.new _).set _ _ = s5 at *
    refine Ep (fun ρ s => ∃ (vs : List Value) (hg : Hp), ρ 1 = .pointer (some ⟨b1, 0, none⟩) ∧ ρ 3 = .slice (some ⟨b3, 0, none⟩) ns.length ns.length ∧ ρ 5 = .pointer (some ⟨b5, 0, none⟩) ∧ ρ 24 = .slice (some ⟨x, o, sp⟩) ns.length vc ∧ ρ 25 = .int .i64 (ns.length : Nat) ∧ ρ 26 = .int .i64 (i : Nat) ∧ IC ns i n ∧ KV (dH ns (i + 1)) vs hg ∧ Own s ((b5, .cells (ndX n kv av dv) 55 true) :: (b3, .cells vs 47 true) :: (hg ++ ((b1, .cells [.slice (some ⟨x, o, sp⟩) ns.length vc] 24 true) :: r)))) ?_ ?_
    · have hcd := hon.get (List.mem_cons_of_mem _ (List.mem_cons_of_mem _ (List.mem_append_right _ List.mem_cons_self)))
      have hc5 := hon.head
      have f1 : (ndX n kv av dv)[1]? = some (.int .i64 n.par) := rfl
      by_cases hi0 : i = 0
      · subst hi0
        have t0 : (((0 : Nat) : Int) > 0) = False := eq_false (by omega)
        have hkv2 : KV (dH ns (0 + 1)) vs hg := by rw [zy hn]; exact hkv
        have hpo : IC ns 0 n := Or.inl rfl
        simp -implicitDefEqProofs only [go_sem, ↓aj, ↓ah, ak, Nat.reduceBEq, ↓reduceIte, reduceCtorEq, Nat.reduceEqDiff, Nat.reduceAdd, Nat.reduceLeDiff, Int.reduceEq, Int.reduceLT, Int.reduceLE, Int.reduceAdd, Int.reduceToNat, Int.reduceNeg, Nat.reduceMul, Nat.reduceSub, Int.reduceBNe, Int.reduceBEq, t0, h1, h3, h24, h25, h26, decide_false]
        refine ⟨fun h => absurd h (by decide), fun _ => ⟨vs, hg, ?_⟩⟩
        (repeat' first | assumption | exact rfl | apply And.intro)
      have t0 : ((i : Int) > 0) = True := eq_true (by omega)
      by_cases hpi : n.par ≥ i
      · have hr : bP ns = false := iW hn (by unfold ig; rw [decide_eq_false hi0, decide_eq_false (show ¬ n.par < i by omega)]; simp)
        rw [hr] at hk
        have tp : (n.par ≥ (i : Int)) = True := eq_true hpi
        simp -implicitDefEqProofs only [go_sem, ↓aj, ↓ah, ak, Nat.reduceBEq, ↓reduceIte, reduceCtorEq, Nat.reduceEqDiff, Nat.reduceAdd, Nat.reduceLeDiff, Int.reduceEq, Int.reduceLT, Int.reduceLE, Int.reduceAdd, Int.reduceToNat, Int.reduceNeg, Nat.reduceMul, Nat.reduceSub, Int.reduceBNe, Int.reduceBEq, t0, tp, h1, h3, h24, h25, h26, hc5, f1, decide_true, fE, aU, asz3, Tryz.underlying55, Tryz.underlying3]
        exact hk _ hon.tail.tail.right.tail
      have tp : (n.par ≥ (i : Int)) = False := eq_false hpi
      have hDr : DocX ((b5, .cells (ndX n kv av dv) 55 true) :: (b3, .cells vs 47 true) :: (hg ++ ((b1, .cells [.slice (some ⟨x, o, sp⟩) ns.length vc] 24 true) :: r))) (.slice (some ⟨x, o, sp⟩) ns.length vc) ns := hD.sub fun e he => List.mem_cons_of_mem _ (List.mem_cons_of_mem _ (List.mem_append_right _ (List.mem_cons_of_mem _ he)))
      simp -implicitDefEqProofs only [go_sem, ↓aj, ↓ah, ak, Nat.reduceBEq, ↓reduceIte, reduceCtorEq, Nat.reduceEqDiff, Nat.reduceAdd, Nat.reduceLeDiff, Int.reduceEq, Int.reduceLT, Int.reduceLE, Int.reduceAdd, Int.reduceToNat, Int.reduceNeg, Nat.reduceMul, Nat.reduceSub, Int.reduceBNe, Int.reduceBEq, t0, tp, h1, h3, h24, h25, h26, hc5, f1, hcd, hcl, Option.map_some, decide_true, decide_false, fE, aU, gT, asz3, Tryz.underlying55, Tryz.underlying24, Tryz.underlying3]
      refine au.enter Tryz.func38 rfl (by kernel_rfl) (xw _ _ _ ns n.par hDr hon _ _ fun s6 ho6 => ?_)
      cases hel : gI ns n.par with
      | false =>
        have hr : bP ns = false := iW hn (by unfold ig; rw [decide_eq_false hi0, hel]; simp)
        rw [hr] at hk
        simp -implicitDefEqProofs only [go_sem, ↓aj, ↓ah, ak, Nat.reduceBEq, ↓reduceIte, reduceCtorEq, Nat.reduceEqDiff, Nat.reduceAdd, Nat.reduceLeDiff, Int.reduceEq, Int.reduceLT, Int.reduceLE, Int.reduceAdd, Int.reduceToNat, Int.reduceNeg, Nat.reduceMul, Nat.reduceSub, Int.reduceBNe, Int.reduceBEq, Bool.not_false]
        exact hk _ ho6.tail.tail.right.tail
      | true =>
      have hp0 : 0 ≤ n.par := by
        by_cases h : 0 ≤ n.par
        · exact h
        · unfold gI at hel; rw [decide_eq_false h] at hel; cases hel
      obtain ⟨p, hp⟩ : ∃ p : Nat, n.par = p := ⟨n.par.toNat, by omega⟩
      have hpl : p < ns.length := by omega
      have hc6 := ho6.head
      have hc3 := ho6.tail.head
      obtain ⟨va, v, vb, ha, hm, hb, hvs, hvl, hge2, hG, hset⟩ := hkv.at (lN (ns := ns) (i := i) hpl)
      simp -implicitDefEqProofs only [go_sem, ↓aj, ↓ah, ak, Nat.reduceBEq, ↓reduceIte, reduceCtorEq, Nat.reduceEqDiff, Nat.reduceAdd, Nat.reduceLeDiff, Int.reduceEq, Int.reduceLT, Int.reduceLE, Int.reduceAdd, Int.reduceToNat, Int.reduceNeg, Nat.reduceMul, Nat.reduceSub, Int.reduceBNe, Int.reduceBEq, Bool.not_true]
      refine bG.of [(0, false, []), (1, false, []), (2, true, []), (3, false, []), (4, false, []), (5, true, []), (6, false, []), (7, true, []), (8, false, []), (9, false, [2, 5, 7]), (10, false, [2]), (11, false, []), (12, false, [])] [2, 5, 7] [(2, 9), (2, 10), (5, 9), (7, 9)] (by kernel_rfl) ?_
      simp -implicitDefEqProofs only [go_sem, ↓aj, ↓ah, ak, Nat.reduceBEq, ↓reduceIte, reduceCtorEq, Nat.reduceEqDiff, Nat.reduceAdd, Nat.reduceLeDiff, Int.reduceEq, Int.reduceLT, Int.reduceLE, Int.reduceAdd, Int.reduceToNat, Int.reduceNeg, Nat.reduceMul, Nat.reduceSub, Int.reduceBNe, Int.reduceBEq, h1, h3, h24, h25, h26, hc6, f1, hc3, hp, iM, Ez, fE, aU, asz3, Tryz.underlying55, Tryz.underlying3, Tryz.underlying47, Tryz.underlying67]
      have hvp : vs[p]? = some v := by rw [hvs, ← hvl]; simp
      rw [hge2] at ho6
      have ho7 := ho6.perm (EI _ _ ha hm hb _)
      have hpo : IC ns i n := Or.inr ⟨by omega, hel⟩
      have hn5 : ¬ b5 = s6.n := ho6.iE
      have hn3 : ¬ b3 = s6.n := ho6.tail.iE
      have lp : ((0 ≤ (p : Int)) = True) := eq_true (by omega)
      have lq : (((p : Int) < (ns.length : Int)) = True) := eq_true (by omega)
      refine ⟨⟨by omega, by omega⟩, ?_⟩
      simp -implicitDefEqProofs only [go_sem, ↓aj, ↓ah, ak, Nat.reduceBEq, ↓reduceIte, reduceCtorEq, Nat.reduceEqDiff, Nat.reduceAdd, Nat.reduceLeDiff, Int.reduceEq, Int.reduceLT, Int.reduceLE, Int.reduceAdd, Int.reduceToNat, Int.reduceNeg, Nat.reduceMul, Nat.reduceSub, Int.reduceBNe, Int.reduceBEq, aI (st := s6) (v := .int .i64 (i : Nat)) Tryz.underlying47 asz3 azc3 rfl rfl rfl (by decide), h1, h3, h24, h25, h26, hvp, hc6, hc3, hn5, hn3, f1, hp, lp, lq, and_self, true_and, fE, aU, Tryz.underlying55, iM, Ez, asz3, Tryz.underlying3, Tryz.underlying47, Tryz.underlying67, List.length_cons, List.length_nil]
      refine GV.fC (t := 47) (t' := 47) (c := [.int .i64 (i : Nat)]) Tryz.underlying47 (by rw [Tryz.underlying47]; rfl) asz3 azc3 aby3 hG ho7 rfl rfl (by have := vk ns (p : Int) i; omega) fun v' hm' s7 hG' ho8 => ?_
      have ho9 := (ho8.perm (EI _ _ ha hm' hb _).symm)
      have hc7 := ho9.head
      have hc8 := ho9.tail.head
      obtain ⟨w', hw'⟩ := hG'.isSlice
      subst hw'
      generalize hlk : (bF ns i (p : Int)).length + 1 = lk at *
      have hset7 : setL vs p [.slice w' lk lk] = va ++ .slice w' lk lk :: vb := by rw [hvs, ← hvl, gN _ _ _ (by simp)]; simp
      have hpl1 : p + 1 ≤ ns.length := hpl
      have ho10 := (ho9.perm (List.Perm.swap _ _ _)).set rfl (.cells (va ++ .slice w' lk lk :: vb) 47 true) rfl
      have hkv9 : KV (dH ns (i + 1)) (va ++ .slice w' lk lk :: vb) (ha ++ (hm' ++ hb)) := by
        rw [zA hn (by omega) hp hpl]
        exact hset _ _ hm' (by rw [List.length_append, List.length_singleton, hlk]; unfold xB at *; rw [List.map_append]; exact hG')
      have hvlen : vs.length = ns.length := by rw [hkv.len, jT]
      simp -implicitDefEqProofs only [go_sem, ↓aj, ↓ah, ak, Nat.reduceBEq, ↓reduceIte, reduceCtorEq, Nat.reduceEqDiff, Nat.reduceAdd, Nat.reduceLeDiff, Int.reduceEq, Int.reduceLT, Int.reduceLE, Int.reduceAdd, Int.reduceToNat, Int.reduceNeg, Nat.reduceMul, Nat.reduceSub, Int.reduceBNe, Int.reduceBEq, h1, h3, h24, h25, h26, hvp, hc7, hc8, f1, hp, lp, lq, hset7, hvlen, hpl1, and_self, true_and, fE, aU, iM, Ez, asz3, Tryz.underlying55, Tryz.underlying3, Tryz.underlying47, Tryz.underlying67]
      exact ⟨_, ha ++ (hm' ++ hb), hpo, hkv9, ho10.perm (List.Perm.swap _ _ _)⟩
    · rintro ρ s ⟨vs, hg, h1, h3, h5, h24, h25, h26, hpar, hkv, ho⟩
      have hc5 := ho.head
      subst hkv1 hav1 hdv1
      have f6 : (ndX n (.slice ka n.kids.length kc) (.slice aa n.atts.length ac) (.slice da n.dcls.length dc))[6]? = some (.slice aa n.atts.length ac) := rfl
      have f7 : (ndX n (.slice ka n.kids.length kc) (.slice aa n.atts.length ac) (.slice da n.dcls.length dc))[7]? = some (.slice da n.dcls.length dc) := rfl
      have f0 : (ndX n (.slice ka n.kids.length kc) (.slice aa n.atts.length ac) (.slice da n.dcls.length dc))[0]? = some (.int .i64 n.kind) := rfl
      by_cases hk1 : n.kind < 1
      · have hr : bP ns = false := iW hn (by unfold ig; simp [show ¬ 1 ≤ n.kind by omega])
        rw [hr] at hk
        have t1 : (n.kind < 1) = True := eq_true hk1
        simp -implicitDefEqProofs only [go_sem, ↓aj, ↓ah, ak, Nat.reduceBEq, ↓reduceIte, reduceCtorEq, Nat.reduceEqDiff, Nat.reduceAdd, Nat.reduceLeDiff, Int.reduceEq, Int.reduceLT, Int.reduceLE, Int.reduceAdd, Int.reduceToNat, Int.reduceNeg, Nat.reduceMul, Nat.reduceSub, Int.reduceBNe, Int.reduceBEq, t1, h5, h26, hc5, f0, f6, f7, fD, dB, bT, aU, iO, fI, asz3, Tryz.underlying55, Tryz.underlying52, Tryz.underlying53, Tryz.underlying3, decide_true, decide_false]
        exact hk _ ho.tail.tail.right.tail
      have t1 : (n.kind < 1) = False := eq_false hk1
      by_cases hk4 : n.kind > 4
      · have hr : bP ns = false := iW hn (by unfold ig; simp [show ¬ n.kind ≤ 4 by omega])
        rw [hr] at hk
        have t4 : (n.kind > 4) = True := eq_true hk4
        simp -implicitDefEqProofs only [go_sem, ↓aj, ↓ah, ak, Nat.reduceBEq, ↓reduceIte, reduceCtorEq, Nat.reduceEqDiff, Nat.reduceAdd, Nat.reduceLeDiff, Int.reduceEq, Int.reduceLT, Int.reduceLE, Int.reduceAdd, Int.reduceToNat, Int.reduceNeg, Nat.reduceMul, Nat.reduceSub, Int.reduceBNe, Int.reduceBEq, t1, t4, h5, h26, hc5, f0, f6, f7, fD, dB, bT, aU, iO, fI, asz3, Tryz.underlying55, Tryz.underlying52, Tryz.underlying53, Tryz.underlying3, decide_true, decide_false]
        exact hk _ ho.tail.tail.right.tail
      have t4 : (n.kind > 4) = False := eq_false hk4
      have hih : ∀ (g : ig ns i n = true) (j : Nat) (m : Nx), j < i + 1 → ns[j]? = some m → ig ns j m = true := fun g j m hj hm => by
        by_cases hji : j = i
        · subst hji
          rw [hn] at hm
          injection hm with hm
          rw [← hm]; exact g
        · exact hall j m (by omega) hm
      have hpx : (decide (i = 0) || (decide (n.par < i) && gI ns n.par)) = true := by
        rcases hpar with rfl | ⟨h1, h2⟩
        · rfl
        · rw [decide_eq_true h1, h2]; simp
      have w1 : IntKind.i64.wrap ((i : Int) + 1) = ((i + 1 : Nat) : Int) := by rw [cO (by omega)]; omega
      have hn' := hb1 n (List.mem_of_getElem? hn)
      have ws : IntKind.i64.wrap ((n.atts.length : Int) + (n.dcls.length : Int)) = ((n.atts.length + n.dcls.length : Nat) : Int) := by rw [cO (by omega)]; omega
      have hil' : i + 1 ≤ ns.length := hil
      have ho' := ho.tail
      by_cases hke : n.kind = 1
      · have hX : ig ns i n = true := by unfold ig; rw [hpx, hke]; rfl
        have te : (n.kind != 1) = false := by rw [hke]; rfl
        simp -implicitDefEqProofs only [go_sem, ↓aj, ↓ah, ak, Nat.reduceBEq, ↓reduceIte, reduceCtorEq, Nat.reduceEqDiff, Nat.reduceAdd, Nat.reduceLeDiff, Int.reduceEq, Int.reduceLT, Int.reduceLE, Int.reduceAdd, Int.reduceToNat, Int.reduceNeg, Nat.reduceMul, Nat.reduceSub, Int.reduceBNe, Int.reduceBEq, te, w1, ws, h5, h26, hc5, f0, f6, f7, t1, t4, fD, dB, bT, aU, iO, fI, asz3, Tryz.underlying55, Tryz.underlying52, Tryz.underlying53, Tryz.underlying3, decide_true, decide_false]
        have hih' := hih hX
        refine ⟨ns.length - (i + 1), by omega, i + 1, vs, hg, ?_⟩
        (repeat' first | assumption | exact rfl | apply And.intro)
      have te : (n.kind != 1) = true := by rw [bne_iff_ne]; exact hke
      simp -implicitDefEqProofs only [go_sem, ↓aj, ↓ah, ak, Nat.reduceBEq, ↓reduceIte, reduceCtorEq, Nat.reduceEqDiff, Nat.reduceAdd, Nat.reduceLeDiff, Int.reduceEq, Int.reduceLT, Int.reduceLE, Int.reduceAdd, Int.reduceToNat, Int.reduceNeg, Nat.reduceMul, Nat.reduceSub, Int.reduceBNe, Int.reduceBEq, te, w1, ws, h5, h26, hc5, f0, f6, f7, t1, t4, fD, dB, bT, aU, iO, fI, asz3, Tryz.underlying55, Tryz.underlying52, Tryz.underlying53, Tryz.underlying3, decide_true, decide_false]
      refine ⟨fun hz => ?_, fun hz => ?_⟩
      · have hr : bP ns = false := iW hn (by unfold ig; rw [decide_eq_false hke, decide_eq_false (show ¬ n.atts.length + n.dcls.length = 0 by omega)]; simp)
        rw [hr] at hk
        exact hk _ ho.tail.tail.right.tail
      · have hih' := hih (by unfold ig; rw [hpx, decide_eq_true (show 1 ≤ n.kind by omega), decide_eq_true (show n.kind ≤ 4 by omega), decide_eq_true (show n.atts.length + n.dcls.length = 0 by omega)]; simp)
        refine ⟨ns.length - (i + 1), by omega, i + 1, vs, hg, ?_⟩
        (repeat' first | assumption | exact rfl | apply And.intro)
  rintro ρ s ⟨vs, hg, h1, h3, hkv, ho, hall⟩
  have hcd := ho.tail.right.head
  simp -implicitDefEqProofs only [go_sem, ↓aj, ↓ah, ak, Nat.reduceBEq, ↓reduceIte, reduceCtorEq, Nat.reduceEqDiff, Nat.reduceAdd, Nat.reduceLeDiff, Int.reduceEq, Int.reduceLT, Int.reduceLE, Int.reduceAdd, Int.reduceToNat, Int.reduceNeg, Nat.reduceMul, Nat.reduceSub, Int.reduceBNe, Int.reduceBEq, h1, h3, hcd, jg, eT, Tryz.underlying22, List.getElem?_cons_zero]
  refine ⟨fun m ρ s => ∃ i : Nat, m = ns.length - i ∧ i ≤ ns.length ∧ ρ 1 = .pointer (some ⟨b1, 0, none⟩) ∧ ρ 3 = .slice (some ⟨b3, 0, none⟩) ns.length ns.length ∧ ρ 81 = .slice (some ⟨x, o, sp⟩) ns.length vc ∧ ρ 82 = .int .i64 (ns.length : Nat) ∧ ρ 83 = .int .i64 (i : Nat) ∧ Own s ((b3, .cells vs 47 true) :: (hg ++ ((b1, .cells [.slice (some ⟨x, o, sp⟩) ns.length vc] 24 true) :: r))) ∧ ∀ (j : Nat) (n : Nx), j < i → ns[j]? = some n → n.kids = u7 ns j,
    ⟨_, 0, rfl, Nat.zero_le _, h1, h3, rfl, rfl, rfl, ho, fun j n h => by omega⟩, ?_⟩
  clear h1 h3 ho hcd
  rintro _ ρ s ⟨i, rfl, hi, h1, h3, h24, h25, h26, ho, hkids⟩
  by_cases hil : i < ns.length
  case neg =>
    obtain rfl : i = ns.length := by omega
    have hr : bP ns = true := by
      unfold bP
      rw [he0, hn0, eB.2 fun j n _ hn => hall j n hn, eB.2 fun j n hj hn => decide_eq_true (hkids j n hj hn)]
      simp [hp0]
    rw [hr] at hk
    simp -implicitDefEqProofs only [go_sem, ↓aj, ↓ah, ak, Nat.reduceBEq, ↓reduceIte, reduceCtorEq, Nat.reduceEqDiff, Nat.reduceAdd, Nat.reduceLeDiff, Int.reduceEq, Int.reduceLT, Int.reduceLE, Int.reduceAdd, Int.reduceToNat, Int.reduceNeg, Nat.reduceMul, Nat.reduceSub, Int.reduceBNe, Int.reduceBEq, h1, h3, h24, h25, h26, Int.ofNat_lt, Nat.lt_irrefl, decide_false]
    exact hk _ ho.tail.right.tail
  obtain ⟨n, hn⟩ : ∃ n, ns[i]? = some n := ⟨ns[i], List.getElem?_eq_getElem hil⟩
  obtain ⟨x', o', sp', c', ccs', ty', own', kv, av, dv, hvx, hmem', hcut', hget', hnr'⟩ := hD.at hn
  injection hvx with hvx _ hvc
  injection hvx with hvx
  injection hvx with e1 e2 e3
  subst e1 e2 e3 hvc
  have hcx := ho.get (List.mem_cons_of_mem _ (List.mem_append_right _ (List.mem_cons_of_mem _ hmem')))
  have hnx : ¬ x = s.n := ho.fresh (List.mem_cons_of_mem _ (List.mem_append_right _ (List.mem_cons_of_mem _ hmem')))
  have hli : ((i : Int) < (ns.length : Int)) = True := eq_true (by omega)
  have hge : ((0 : Int) ≤ (i : Int)) = True := eq_true (by omega)
  have hon := (ho.new (.cells [.int .i64 0, .int .i64 0, .slice none 0 0, .string ⟨#[]⟩, .string ⟨#[]⟩, .string ⟨#[]⟩, .slice none 0 0, .slice none 0 0, .string ⟨#[]⟩] 55 true)).set rfl (.cells (ndX n kv av dv) 55 true) rfl
  have hsetN : setL [.int .i64 0, .int .i64 0, .slice none 0 0, .string ⟨#[]⟩, .string ⟨#[]⟩, .string ⟨#[]⟩, .slice none 0 0, .slice none 0 0, .string ⟨#[]⟩] 0 (ndX n kv av dv) = ndX n kv av dv := rfl
  obtain ⟨va, v, vb, ha, hm, hb, hvs, hvl, hge2, hG, _⟩ := hkv.at (lN (ns := ns) (i := ns.length) hil)
  have hvp : vs[i]? = some v := by rw [hvs, ← hvl]; simp
  simp -implicitDefEqProofs only [go_sem, ↓aj, ↓ah, ak, Nat.reduceBEq, ↓reduceIte, reduceCtorEq, Nat.reduceEqDiff, Nat.reduceAdd, Nat.reduceLeDiff, Int.reduceEq, Int.reduceLT, Int.reduceLE, Int.reduceAdd, Int.reduceToNat, Int.reduceNeg, Nat.reduceMul, Nat.reduceSub, Int.reduceBNe, Int.reduceBEq, h1, h3, h24, h25, h26, hcx, hcut', hnx, hli, hge, and_self, true_and, decide_true, Int.toNat_natCast, eT, aU, nH, bB, hsetN, Tryz.underlying22, Tryz.underlying55]
  generalize hb5 : s.n = b5 at *
  obtain ⟨ka, kc, hkv1, _⟩ := hnr'.kid.isSlice
  obtain ⟨aa, ac, hav1, _⟩ := hnr'.att.isSlice
  obtain ⟨da, dc, hdv1, _⟩ := hnr'.dcl.isSlice
  refine ⟨⟨rfl, by rw [hkv1, hav1, hdv1]; rfl⟩, ?_⟩
  generalize hs1 : (s.new _).set _ _ = s5 at *
  have hc5 := hon.head
  have hc3 := hon.tail.head
  have f2 : (ndX n kv av dv)[2]? = some kv := rfl
  refine bG.of [(0, false, []), (1, false, []), (2, false, []), (3, false, []), (4, false, []), (5, false, []), (6, false, []), (7, false, [])] [] [] (by kernel_rfl) ?_
  simp -implicitDefEqProofs only [go_sem, ↓aj, ↓ah, ak, Nat.reduceBEq, ↓reduceIte, reduceCtorEq, Nat.reduceEqDiff, Nat.reduceAdd, Nat.reduceLeDiff, Int.reduceEq, Int.reduceLT, Int.reduceLE, Int.reduceAdd, Int.reduceToNat, Int.reduceNeg, Nat.reduceMul, Nat.reduceSub, Int.reduceBNe, Int.reduceBEq, h1, h3, h24, h25, h26, hc5, hc3, f2, hvp, hli, hge, and_self, true_and, Int.toNat_natCast, kZ, iM, Ez, aU, asz3, Tryz.underlying55, Tryz.underlying3, Tryz.underlying47, Tryz.underlying67]
  skip
  have hfl : ∀ l : List Int, (kM l).flatten = xB l := fun l => by
    induction l with
    | nil => rfl
    | cons a l ih => unfold kM xB at *; rw [List.map_cons, List.flatten_cons, ih]; rfl
  have hx : Rws ((b5, Ob.cells (ndX n kv av dv) 55 true) :: (b3, .cells vs 47 true) :: (hg ++ ((b1, .cells [.slice (some ⟨x, o, sp⟩) ns.length vc] 24 true) :: r))) kv 1 (kM n.kids) := (show Rws r kv 1 (kM n.kids) from hnr'.kid).sub fun e he => List.mem_cons_of_mem _ (List.mem_cons_of_mem _ (List.mem_append_right _ (List.mem_cons_of_mem _ he)))
  have hy : Rws ((b5, Ob.cells (ndX n kv av dv) 55 true) :: (b3, .cells vs 47 true) :: (hg ++ ((b1, .cells [.slice (some ⟨x, o, sp⟩) ns.length vc] 24 true) :: r))) v 1 (kM (bF ns ns.length (i : Int))) := (GV.rows (r := []) (cs := kM (bF ns ns.length (i : Int))) (by rw [hfl]; exact hG) (fun c hc => by unfold kM at hc; obtain ⟨_, _, rfl⟩ := List.mem_map.1 hc; rfl) (by simp [kM])).sub fun e he => List.mem_cons_of_mem _ (List.mem_cons_of_mem _ (List.mem_append_left _ (by rw [hge2]; simp at he; simp [he])))
  refine au.enter Tryz.func39 rfl (by kernel_rfl) (DI _ _ _ _ _ _ hx hy (by have := (hb1 n (List.mem_of_getElem? hn)).2.2; omega) hon _ _ fun s6 ho6 => ?_)
  by_cases hke : n.kids = bF ns ns.length (i : Int)
  · rw [decide_eq_true hke]
    have w1 : IntKind.i64.wrap ((i : Int) + 1) = ((i + 1 : Nat) : Int) := by rw [cO (by omega)]; omega
    simp -implicitDefEqProofs only [go_sem, ↓aj, ↓ah, ak, Nat.reduceBEq, ↓reduceIte, reduceCtorEq, Nat.reduceEqDiff, Nat.reduceAdd, Nat.reduceLeDiff, Int.reduceEq, Int.reduceLT, Int.reduceLE, Int.reduceAdd, Int.reduceToNat, Int.reduceNeg, Nat.reduceMul, Nat.reduceSub, Int.reduceBNe, Int.reduceBEq, h1, h3, h24, h25, h26, w1, Bool.not_true]
    have ho7 := ho6.tail
    have hil' : i + 1 ≤ ns.length := hil
    have hkids' : ∀ (j : Nat) (m : Nx), j < i + 1 → ns[j]? = some m → m.kids = u7 ns j := fun j m hj hm => by
      by_cases hji : j = i
      · subst hji
        rw [hn] at hm
        injection hm with hm
        rw [← hm]; exact hke
      · exact hkids j m (by omega) hm
    refine ⟨ns.length - (i + 1), by omega, i + 1, ?_⟩
    (repeat' first | assumption | exact rfl | apply And.intro)
  · rw [decide_eq_false hke]
    have hr : bP ns = false := by
      cases h : bP ns with
      | false => rfl
      | true =>
        unfold bP at h
        simp only [Bool.and_eq_true] at h
        exact absurd (of_decide_eq_true (eB.1 h.2.2 i n hil hn)) hke
    rw [hr] at hk
    simp -implicitDefEqProofs only [go_sem, ↓aj, ↓ah, ak, Nat.reduceBEq, ↓reduceIte, reduceCtorEq, Nat.reduceEqDiff, Nat.reduceAdd, Nat.reduceLeDiff, Int.reduceEq, Int.reduceLT, Int.reduceLE, Int.reduceAdd, Int.reduceToNat, Int.reduceNeg, Nat.reduceMul, Nat.reduceSub, Int.reduceBNe, Int.reduceBEq, Bool.not_false]
    exact hk _ ho6.tail.tail.right.tail
end Go.Proofs.YtigjbehgfjjlkaaGreatDoor
set_option linter.unusedVariables false
set_option linter.unusedSimpArgs false
namespace Go.Proofs.YtigjbehgfjjlkaaGreatDoor
open Go Go.Abs Go.RowKit Go.Xml
variable {base : Nat} {w0 : World} {G : Nat}
def BndX (ns : List Nx) : Prop := ns.length ≤ 1000000 ∧ ∀ n ∈ ns, n.atts.length ≤ 1000000 ∧ n.dcls.length ≤ 1000000 ∧ n.kids.length ≤ 1000000
end Go.Proofs.YtigjbehgfjjlkaaGreatDoor
