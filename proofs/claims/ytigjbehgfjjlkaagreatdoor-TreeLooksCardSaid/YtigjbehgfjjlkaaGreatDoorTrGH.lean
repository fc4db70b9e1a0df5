/- An element's attribute and its text (tree.Attr, tree.Text). No conditions. -/
import Derived.Test.YtigjbehgfjjlkaaGreatDoorTrGG
import Derived.Test.YtigjbehgfjjlkaaGreatDoorTrGB
import Derived.Test.YtigjbehgfjjlkaaGreatDoorTrGF
set_option linter.unusedVariables false
set_option linter.unusedSimpArgs false
namespace Go.Proofs.YtigjbehgfjjlkaaGreatDoor
open Go Go.Abs Go.RowKit Go.Xml
variable {base : Nat} {w0 : World} {G : Nat}
def attR (ns : List Nx) (i : Int) (lo : Tx) : Option Tx := match nodeAt ns i with | some n => attX n lo | none => none
set_option maxRecDepth 10000 in
theorem BX (st : St) (r : Hp) (v : Value) (ns : List Nx) (i : Int) (lo : Tx) (hD : DocX r v ns) (hb : BndX ns) (hO : Own st r) (k q : Value → St → Prop)
    (hk : ∀ st', Own st' r → k (if bg ns i && aH ns then optR (attR ns i lo) else optR none) st') : aA (C base w0 G) 24 [.agg #[v], .int .i64 i, .string (tx lo)] st k q := by
  obtain ⟨va, vc, hva⟩ := hD.isSlice
  subst hva
  refine aA.of (cx := C base w0 G) mixed Tryz.func24 rfl (by kernel_rfl) (by simp [Tryz.ntmps24]) ?_
  simp only [Tryz.results24]
  have ho1 := hO.new (.cells [.slice va ns.length vc] 24 true)
  have hD1 := hD.sub (H' := (st.n, Ob.cells [.slice va ns.length vc] 24 true) :: r) fun e he => List.mem_cons_of_mem _ he
  have hcl : cut [Value.slice va ns.length vc] 0 1 = some [Value.slice va ns.length vc] := rfl
  simp -implicitDefEqProofs only [go_sem, ↓aj, ↓ah, ak, Nat.reduceBEq, ↓reduceIte, reduceCtorEq, Nat.reduceEqDiff, Nat.reduceAdd, Nat.reduceLeDiff, Int.reduceEq, Int.reduceLT, Int.reduceLE, Int.reduceAdd, Int.reduceToNat, Int.reduceNeg, Nat.reduceMul, Nat.reduceSub, Int.reduceBNe, Int.reduceBEq, abox, hcl, bW, Tryz.underlying24, Option.map_some]
  refine ay.enter Tryz.func42 rfl (by kernel_rfl) (q8 _ _ _ ns i hD1 hb ho1 _ _ fun s1 ho => ?_)
  have hc1 := ho.head
  generalize hb1 : st.n = b1 at *
  cases hat : bg ns i && aH ns with
  | false =>
    rw [hat, if_neg (by decide)] at hk
    simp -implicitDefEqProofs only [go_sem, ↓aj, ↓ah, ak, Nat.reduceBEq, ↓reduceIte, reduceCtorEq, Nat.reduceEqDiff, Nat.reduceAdd, Nat.reduceLeDiff, Int.reduceEq, Int.reduceLT, Int.reduceLE, Int.reduceAdd, Int.reduceToNat, Int.reduceNeg, Nat.reduceMul, Nat.reduceSub, Int.reduceBNe, Int.reduceBEq]
    exact hk _ ho.tail
  | true =>
  rw [hat, if_pos rfl] at hk
  obtain ⟨j, n, rfl, hn, _⟩ := oK ((Bool.and_eq_true _ _).mp hat).1
  have har : attR ns (j : Int) lo = attX n lo := by unfold attR; rw [bO, hn]
  rw [har] at hk
  obtain ⟨x, o, sp', c, ccs, ty, own, kv, av, dv, hvx, hmem, hcut, hget, hnr⟩ := hD.at hn
  injection hvx with hvx _ hvc
  subst hvx hvc
  have hjl := (List.getElem?_eq_some_iff.1 hn).1
  have hcx := ho.get (List.mem_cons_of_mem _ hmem)
  have hlj : ((j : Int) < (ns.length : Int)) = True := eq_true (by omega)
  have hge : ((0 : Int) ≤ (j : Int)) = True := eq_true (by omega)
  have hbk := (hb.2 n (List.mem_of_getElem? hn)).1
  simp -implicitDefEqProofs only [go_sem, ↓aj, ↓ah, ak, Nat.reduceBEq, ↓reduceIte, reduceCtorEq, Nat.reduceEqDiff, Nat.reduceAdd, Nat.reduceLeDiff, Int.reduceEq, Int.reduceLT, Int.reduceLE, Int.reduceAdd, Int.reduceToNat, Int.reduceNeg, Nat.reduceMul, Nat.reduceSub, Int.reduceBNe, Int.reduceBEq, hc1, hcx, hcut, hlj, hge, and_self, true_and, decide_true, Int.toNat_natCast, aQ, aU, aC, Tryz.underlying22, Tryz.underlying55, List.getElem?_cons_zero, Option.map_some]
  refine ay.enter Tryz.func41 rfl (by kernel_rfl) (BO _ _ n kv av dv lo (hnr.sub fun e he => List.mem_cons_of_mem _ he) hbk ho _ _ fun s2 ho2 => ?_)
  obtain ⟨u, ub, hu⟩ : ∃ u b, optR (attX n lo) = .tuple #[.string (tx u), .bool b] := by
    cases attX n lo with
    | none => exact ⟨[], false, rfl⟩
    | some u => exact ⟨u, true, rfl⟩
  rw [hu] at hk ⊢
  simp -implicitDefEqProofs only [go_sem, ↓aj, ↓ah, ak, Nat.reduceBEq, ↓reduceIte, reduceCtorEq, Nat.reduceEqDiff, Nat.reduceAdd, Nat.reduceLeDiff, Int.reduceEq, Int.reduceLT, Int.reduceLE, Int.reduceAdd, Int.reduceToNat, Int.reduceNeg, Nat.reduceMul, Nat.reduceSub, Int.reduceBNe, Int.reduceBEq, List.getElem?_cons_succ, List.getElem?_cons_zero]
  exact hk _ ho2.tail
def txtP : Option Tx → Value
  | some t => .tuple #[.string (tx t), .int .i64 0]
  | none => .tuple #[.string ⟨#[]⟩, .int .i64 10]
def txtR (ns : List Nx) (i : Int) : Option Tx := match nodeAt ns i with | some n => dN ns n.kids | none => none
theorem ug {ns : List Nx} {k : Nat} {ks : List Int} {m : Nx} (hm : ns[k]? = some m) : dN ns ((k : Int) :: ks) = if m.kind = 1 then none else match dN ns ks with | some t => some (if m.kind = 2 then m.val ++ t else t) | none => none := by
  conv => lhs; unfold dN
  rw [bO, hm]
  rfl
set_option maxRecDepth 10000 in
theorem BZ (st : St) (r : Hp) (v : Value) (ns : List Nx) (i : Int) (hD : DocX r v ns) (hb : BndX ns) (hz : ∀ n ∈ ns, SzX n) (hO : Own st r) (k q : Value → St → Prop)
    (hk : ∀ st', Own st' r → k (if bg ns i && aH ns then txtP (txtR ns i) else .tuple #[.string ⟨#[]⟩, .int .i64 2]) st') : aA (C base w0 G) 25 [.agg #[v], .int .i64 i] st k q := by
  obtain ⟨va, vc, hva⟩ := hD.isSlice
  subst hva
  refine aA.of (cx := C base w0 G) mixed Tryz.func25 rfl (by kernel_rfl) (by simp [Tryz.ntmps25]) ?_
  simp only [Tryz.results25]
  have ho1 := hO.new (.cells [.slice va ns.length vc] 24 true)
  have hD1 := hD.sub (H' := (st.n, Ob.cells [.slice va ns.length vc] 24 true) :: r) fun e he => List.mem_cons_of_mem _ he
  have hcl : cut [Value.slice va ns.length vc] 0 1 = some [Value.slice va ns.length vc] := rfl
  simp -implicitDefEqProofs only [go_sem, ↓aj, ↓ah, ak, Nat.reduceBEq, ↓reduceIte, reduceCtorEq, Nat.reduceEqDiff, Nat.reduceAdd, Nat.reduceLeDiff, Int.reduceEq, Int.reduceLT, Int.reduceLE, Int.reduceAdd, Int.reduceToNat, Int.reduceNeg, Nat.reduceMul, Nat.reduceSub, Int.reduceBNe, Int.reduceBEq, abox, hcl, bW, Tryz.underlying24, Option.map_some]
  refine ay.enter Tryz.func42 rfl (by kernel_rfl) (q8 _ _ _ ns i hD1 hb ho1 _ _ fun s1 ho => ?_)
  have hc1 := ho.head
  generalize hb1 : st.n = b1 at *
  cases hat : bg ns i && aH ns with
  | false =>
    rw [hat, if_neg (by decide)] at hk
    simp -implicitDefEqProofs only [go_sem, ↓aj, ↓ah, ak, Nat.reduceBEq, ↓reduceIte, reduceCtorEq, Nat.reduceEqDiff, Nat.reduceAdd, Nat.reduceLeDiff, Int.reduceEq, Int.reduceLT, Int.reduceLE, Int.reduceAdd, Int.reduceToNat, Int.reduceNeg, Nat.reduceMul, Nat.reduceSub, Int.reduceBNe, Int.reduceBEq]
    exact hk _ ho.tail
  | true =>
  rw [hat, if_pos rfl] at hk
  obtain ⟨j, n, rfl, hn, _⟩ := oK ((Bool.and_eq_true _ _).mp hat).1
  have hR := RtX.of ((Bool.and_eq_true _ _).mp hat).2
  have har : txtR ns (j : Int) = dN ns n.kids := by unfold txtR; rw [bO, hn]
  rw [har] at hk
  obtain ⟨x, o, sp', c, ccs, ty, own, kv, av, dv, hvx, hmem, hcut, hget, hnr⟩ := hD.at hn
  injection hvx with hvx _ hvc
  subst hvx hvc
  have hjl := (List.getElem?_eq_some_iff.1 hn).1
  have hob := ho.new (.cells [.pointer none, .slice none 0 0] 64 true)
  have hnb : ¬ b1 = s1.n := ho.eX
  have hcx := ho.get (List.mem_cons_of_mem _ hmem)
  have hnx : ¬ x = s1.n := ho.fresh (List.mem_cons_of_mem _ hmem)
  have q2 := hget 2 (by decide)
  change ccs[o + j * 9 + 2]? = some kv at q2
  have hlj : ((j : Int) < (ns.length : Int)) = True := eq_true (by omega)
  have hge : ((0 : Int) ≤ (j : Int)) = True := eq_true (by omega)
  have hKR : Rws r kv 1 (n.kids.map fun k => [Value.int .i64 k]) := hnr.kid
  obtain ⟨ka, kc, hkv1, _⟩ := hnr.kid.isSlice
  rw [List.length_map] at hkv1
  subst hkv1
  have hbk := (hb.2 n (List.mem_of_getElem? hn)).2.2
  simp -implicitDefEqProofs only [go_sem, ↓aj, ↓ah, ak, Nat.reduceBEq, ↓reduceIte, reduceCtorEq, Nat.reduceEqDiff, Nat.reduceAdd, Nat.reduceLeDiff, Int.reduceEq, Int.reduceLT, Int.reduceLE, Int.reduceAdd, Int.reduceToNat, Int.reduceNeg, Nat.reduceMul, Nat.reduceSub, Int.reduceBNe, Int.reduceBEq, hc1, hnb, hcx, hnx, q2, hlj, hge, bB, yZ, and_self, true_and, decide_true, Int.toNat_natCast, aQ, dR, aU, aC, bK, Tryz.underlying22, Tryz.underlying55, Tryz.underlying47, List.getElem?_cons_zero]
  generalize hs2 : St.new s1 _ = s2 at *
  generalize hbb : s1.n = b at *
  refine ⟨fun m ρ s => ∃ (t : Nat) (acc : Tx) (h : Hp), m = n.kids.length - t ∧ t ≤ n.kids.length ∧ acc.length ≤ t * 1000000 ∧ dN ns n.kids = (dN ns (n.kids.drop t)).map (acc ++ ·) ∧ ρ 2 = .pointer (some ⟨b1, 0, none⟩) ∧ ρ 6 = .pointer (some ⟨b, 0, none⟩) ∧ ρ 18 = .slice ka n.kids.length kc ∧ ρ 19 = .int .i64 (n.kids.length : Nat) ∧ ρ 20 = .int .i64 (t : Nat) ∧ Bld b (nb8 acc) h ∧ Own s (h ++ ((b1, .cells [.slice (some ⟨x, o, sp'⟩) ns.length vc] 24 true) :: r)),
    ⟨_, 0, [], [(b, .cells [.pointer none, .slice none 0 0] 64 true)], rfl, Nat.zero_le _, Nat.zero_le _, by rw [List.drop_zero]; cases dN ns n.kids <;> rfl, rfl, rfl, rfl, rfl, rfl, Bld.new b, hob⟩, ?_⟩
  clear hob hc1 hcx
  rintro _ ρ s ⟨t, acc, h, rfl, ht, hal, htx, h2, h6, h18, h19, h20, hB, ho⟩
  by_cases htl : t < n.kids.length
  case neg =>
    obtain rfl : t = n.kids.length := by omega
    rw [List.drop_length] at htx
    have : dN ns n.kids = some acc := by rw [htx]; simp [dN]
    rw [this] at hk
    simp -implicitDefEqProofs only [go_sem, ↓aj, ↓ah, ak, Nat.reduceBEq, ↓reduceIte, reduceCtorEq, Nat.reduceEqDiff, Nat.reduceAdd, Nat.reduceLeDiff, Int.reduceEq, Int.reduceLT, Int.reduceLE, Int.reduceAdd, Int.reduceToNat, Int.reduceNeg, Nat.reduceMul, Nat.reduceSub, Int.reduceBNe, Int.reduceBEq, h2, h6, h18, h19, h20, Int.ofNat_lt, Nat.lt_irrefl, decide_false]
    refine ay.enter Tryz.func31 rfl (by kernel_rfl) (kR s _ h b _ hB (by omega) ho _ _ fun s4 ho4 => ?_)
    simp -implicitDefEqProofs only [go_sem, ↓aj, ↓ah, ak, Nat.reduceBEq, ↓reduceIte, reduceCtorEq, Nat.reduceEqDiff, Nat.reduceAdd, Nat.reduceLeDiff, Int.reduceEq, Int.reduceLT, Int.reduceLE, Int.reduceAdd, Int.reduceToNat, Int.reduceNeg, Nat.reduceMul, Nat.reduceSub, Int.reduceBNe, Int.reduceBEq]
    exact hk _ ho4.tail
  obtain ⟨kk, hkk⟩ : ∃ kk, n.kids[t]? = some kk := ⟨n.kids[t], List.getElem?_eq_getElem htl⟩
  obtain ⟨kj, m, rfl, hij, hkl, hm, hmp⟩ := hR.tQ hn (List.mem_of_getElem? hkk)
  obtain ⟨y, yo, ysp, yc, ycs, yty, yown, hvy, hmy, hcy⟩ := hKR.mem (i := t) (l := [.int .i64 (kj : Nat)]) (by simp [hkk])
  rw [List.length_map] at hvy
  injection hvy with hvy _ hvyc
  subst hvy hvyc
  have hdrop : n.kids.drop t = (kj : Int) :: n.kids.drop (t + 1) := by rw [List.drop_eq_getElem_cons htl]; congr 1; exact (List.getElem?_eq_some_iff.1 hkk).2
  rw [hdrop, ug hm] at htx
  have hcy' := ho.get (List.mem_append_right h (List.mem_cons_of_mem _ hmy))
  have hc1 := ho.get (List.mem_append_right h (List.mem_cons_self ..))
  have q0 := bq hcy (show 0 < 1 by decide)
  simp only [Nat.mul_one, Nat.add_zero, List.getElem?_cons_zero] at q0
  obtain ⟨x', o', sp2, c', ccs', ty', own', kv', av', dv', hvx, hmem', hcut', hget', hnr'⟩ := hD.at hm
  injection hvx with hvx _ hvc
  injection hvx with hvx
  injection hvx with e1 e2 e3
  subst e1 e2 e3 hvc
  have hcx := ho.get (List.mem_append_right h (List.mem_cons_of_mem _ hmem'))
  have p0 := hget' 0 (by decide)
  rw [Nat.add_zero] at p0
  change ccs'[o + kj * 9]? = some (.int .i64 m.kind) at p0
  have p8 := hget' 8 (by decide)
  change ccs'[o + kj * 9 + 8]? = some (.string (tx m.val)) at p8
  have hlt : ((t : Int) < (n.kids.length : Int)) = True := eq_true (by omega)
  have hgt : ((0 : Int) ≤ (t : Int)) = True := eq_true (by omega)
  have hlk : ((kj : Int) < (ns.length : Int)) = True := eq_true (by omega)
  have hgk : ((0 : Int) ≤ (kj : Int)) = True := eq_true (by omega)
  have w1 : IntKind.i64.wrap ((t : Int) + 1) = ((t + 1 : Nat) : Int) := by rw [bH (by omega)]; omega
  have htl' : t + 1 ≤ n.kids.length := htl
  have hzm := (hz m (List.mem_of_getElem? hm)).val
  by_cases hk1 : m.kind = 1
  · rw [if_pos hk1] at htx
    have : dN ns n.kids = none := htx
    rw [this] at hk
    have t1 : (m.kind == 1) = true := by rw [hk1]; rfl
    simp -implicitDefEqProofs only [go_sem, ↓aj, ↓ah, ak, Nat.reduceBEq, ↓reduceIte, reduceCtorEq, Nat.reduceEqDiff, Nat.reduceAdd, Nat.reduceLeDiff, Int.reduceEq, Int.reduceLT, Int.reduceLE, Int.reduceAdd, Int.reduceToNat, Int.reduceNeg, Nat.reduceMul, Nat.reduceSub, Int.reduceBNe, Int.reduceBEq, t1, h2, h6, h18, h19, h20, hlt, hgt, hlk, hgk, hcy', q0, hc1, hcx, p0, and_self, true_and, decide_true, Int.toNat_natCast, Nat.mul_one, Nat.add_zero, aQ, aN, asz3, bK, aU, aC, Tryz.underlying3, Tryz.underlying47, Tryz.underlying22, Tryz.underlying55, List.getElem?_cons_zero]
    exact hk _ ho.right.tail
  rw [if_neg hk1] at htx
  have t1 : (m.kind == 1) = false := beq_eq_false_iff_ne.2 hk1
  by_cases hk2 : m.kind = 2
  · have t2 : (m.kind == 2) = true := by rw [hk2]; rfl
    have htx' : dN ns n.kids = (dN ns (n.kids.drop (t + 1))).map ((acc ++ m.val) ++ ·) := by
      rw [htx]
      cases dN ns (n.kids.drop (t + 1)) with
      | none => rfl
      | some u => simp [hk2]
    simp -implicitDefEqProofs only [go_sem, ↓aj, ↓ah, ak, Nat.reduceBEq, ↓reduceIte, reduceCtorEq, Nat.reduceEqDiff, Nat.reduceAdd, Nat.reduceLeDiff, Int.reduceEq, Int.reduceLT, Int.reduceLE, Int.reduceAdd, Int.reduceToNat, Int.reduceNeg, Nat.reduceMul, Nat.reduceSub, Int.reduceBNe, Int.reduceBEq, t1, t2, h2, h6, h18, h19, h20, hlt, hgt, hlk, hgk, hcy', q0, hc1, hcx, p0, p8, and_self, true_and, decide_true, Int.toNat_natCast, Nat.mul_one, Nat.add_zero, aQ, aN, eD, asz3, asz9, bK, aU, aC, Tryz.underlying3, Tryz.underlying9, Tryz.underlying47, Tryz.underlying22, Tryz.underlying55, List.getElem?_cons_zero]
    refine ay.enter Tryz.func48 rfl (by kernel_rfl) (dw s _ h b acc m.val hB (by omega) ho _ _ fun h' s4 hB4 ho4 => ?_)
    simp -implicitDefEqProofs only [go_sem, ↓aj, ↓ah, ak, Nat.reduceBEq, ↓reduceIte, reduceCtorEq, Nat.reduceEqDiff, Nat.reduceAdd, Nat.reduceLeDiff, Int.reduceEq, Int.reduceLT, Int.reduceLE, Int.reduceAdd, Int.reduceToNat, Int.reduceNeg, Nat.reduceMul, Nat.reduceSub, Int.reduceBNe, Int.reduceBEq, h2, h6, h18, h19, h20, w1]
    have hal' : (acc ++ m.val).length ≤ (t + 1) * 1000000 := by rw [List.length_append]; omega
    refine ⟨n.kids.length - (t + 1), by omega, t + 1, acc ++ m.val, h', ?_⟩
    (repeat' first | assumption | exact rfl | apply And.intro)
  · have t2 : (m.kind == 2) = false := beq_eq_false_iff_ne.2 hk2
    have htx' : dN ns n.kids = (dN ns (n.kids.drop (t + 1))).map (acc ++ ·) := by
      rw [htx]
      cases dN ns (n.kids.drop (t + 1)) with
      | none => rfl
      | some u => simp [hk2]
    simp -implicitDefEqProofs only [go_sem, ↓aj, ↓ah, ak, Nat.reduceBEq, ↓reduceIte, reduceCtorEq, Nat.reduceEqDiff, Nat.reduceAdd, Nat.reduceLeDiff, Int.reduceEq, Int.reduceLT, Int.reduceLE, Int.reduceAdd, Int.reduceToNat, Int.reduceNeg, Nat.reduceMul, Nat.reduceSub, Int.reduceBNe, Int.reduceBEq, t1, t2, h2, h6, h18, h19, h20, hlt, hgt, hlk, hgk, hcy', q0, hc1, hcx, p0, w1, and_self, true_and, decide_true, Int.toNat_natCast, Nat.mul_one, Nat.add_zero, aQ, aN, asz3, bK, aU, aC, Tryz.underlying3, Tryz.underlying47, Tryz.underlying22, Tryz.underlying55, List.getElem?_cons_zero]
    have hal' : acc.length ≤ (t + 1) * 1000000 := Nat.le_trans hal (Nat.mul_le_mul_right _ (Nat.le_succ t))
    refine ⟨n.kids.length - (t + 1), by omega, t + 1, acc, h, ?_⟩
    (repeat' first | assumption | exact rfl | apply And.intro)
end Go.Proofs.YtigjbehgfjjlkaaGreatDoor
set_option linter.unusedVariables false
set_option linter.unusedSimpArgs false
namespace Go.Proofs.YtigjbehgfjjlkaaGreatDoor
open Go Go.Abs Go.RowKit Go.Xml
variable {base : Nat} {w0 : World} {G : Nat}
theorem mM (ns : List Nx) (p : Int) (m : Nat) : ∀ d, ∃ rest, aG ns (m + d) p = aG ns m p ++ rest
  | 0 => ⟨[], by rw [List.append_nil]; rfl⟩
  | d + 1 => by
    obtain ⟨rest, h⟩ := mM ns p m d
    rw [← Nat.add_assoc, dh]
    split
    · split
      · exact ⟨rest ++ [((m + d : Nat) : Int)], by rw [h, List.append_assoc]⟩
      · exact ⟨rest, h⟩
    · exact ⟨rest, h⟩
theorem uh (ns : List Nx) (p : Int) : aG ns 1 p = [] := by
  rw [dh]
  split
  · rw [if_neg (by omega)]; rfl
  · rfl
def fitP (ns : List Nx) (sp lo : Tx) (k : Int) : Bool := match nodeAt ns k with | some m => gX m sp lo | none => false
theorem uj {n : Nx} {sp lo : Tx} (h : ¬ (n.kind = 1 ∧ n.spc = sp ∧ (lo = [] ∨ n.loc = lo))) : gX n sp lo = false := by
  cases hf : gX n sp lo with
  | false => rfl
  | true =>
    unfold gX at hf
    simp only [Bool.and_eq_true, Bool.or_eq_true, decide_eq_true_eq] at hf
    exact absurd hf h
theorem vR {n : Nx} {sp lo : Tx} (h : n.kind = 1 ∧ n.spc = sp ∧ (lo = [] ∨ n.loc = lo)) : gX n sp lo = true := by
  unfold gX
  simp only [Bool.and_eq_true, Bool.or_eq_true, decide_eq_true_eq]
  exact h
set_option maxRecDepth 10000 in
theorem Ca (st : St) (r : Hp) (v : Value) (ns : List Nx) (i : Int) (sp lo : Tx) (hD : DocX r v ns) (hb : BndX ns) (h0 : 0 < ns.length) (hO : Own st r) (k q : Value → St → Prop)
    (hk : ∀ v' h' st', Rws h' v' 1 (aV ((dH ns i).filter (fitP ns sp lo))) → Own st' (h' ++ r) → k v' st') : aA (C base w0 G) 26 [.agg #[v], .int .i64 i, .string (tx sp), .string (tx lo)] st k q := by
  obtain ⟨va, vc, hva⟩ := hD.isSlice
  subst hva
  refine aA.of (cx := C base w0 G) mixed Tryz.func26 rfl (by kernel_rfl) (by simp [Tryz.ntmps26]) ?_
  simp only [Tryz.results26]
  have ho := hO.new (.cells [.slice va ns.length vc] 24 true)
  simp -implicitDefEqProofs only [go_sem, ↓aj, ↓ah, ak, Nat.reduceBEq, ↓reduceIte, reduceCtorEq, Nat.reduceEqDiff, Nat.reduceAdd, Nat.reduceLeDiff, Int.reduceEq, Int.reduceLT, Int.reduceLE, Int.reduceAdd, Int.reduceToNat, Int.reduceNeg, Nat.reduceMul, Nat.reduceSub, Int.reduceBNe, Int.reduceBEq, abox]
  generalize hs1 : St.new st _ = s1 at *
  generalize hb1 : st.n = b1 at *
  refine ⟨fun m ρ s => ∃ (t : Nat) (lv : Value) (hg : Hp), m = ns.length - t ∧ 1 ≤ t ∧ t ≤ ns.length ∧ ρ 1 = .int .i64 i ∧ ρ 2 = .string (tx sp) ∧ ρ 3 = .string (tx lo) ∧ ρ 4 = .pointer (some ⟨b1, 0, none⟩) ∧ ρ 9 = lv ∧ ρ 10 = .int .i64 (t : Nat) ∧ GV lv (iZ ((aG ns t i).filter (fitP ns sp lo))) ((aG ns t i).filter (fitP ns sp lo)).length 1 3 hg ∧ Own s (hg ++ ((b1, .cells [.slice va ns.length vc] 24 true) :: r)),
    ⟨_, 1, _, [], rfl, Nat.le_refl _, h0, rfl, rfl, rfl, rfl, rfl, rfl, by rw [uh]; exact GV.nil, ho⟩, ?_⟩
  clear ho
  rintro _ ρ s ⟨t, lv, hg, rfl, ht1, ht, h1, h2, h3, h4, h9, h10, hG, ho⟩
  have hc1 := ho.get (List.mem_append_right hg (List.mem_cons_self ..))
  by_cases htl : t < ns.length
  case neg =>
    obtain rfl : t = ns.length := by omega
    simp -implicitDefEqProofs only [go_sem, ↓aj, ↓ah, ak, Nat.reduceBEq, ↓reduceIte, reduceCtorEq, Nat.reduceEqDiff, Nat.reduceAdd, Nat.reduceLeDiff, Int.reduceEq, Int.reduceLT, Int.reduceLE, Int.reduceAdd, Int.reduceToNat, Int.reduceNeg, Nat.reduceMul, Nat.reduceSub, Int.reduceBNe, Int.reduceBEq, h1, h2, h3, h4, h9, h10, hc1, Int.ofNat_lt, Nat.lt_irrefl, decide_false, aQ, aU, Tryz.underlying22, List.getElem?_cons_zero]
    have hfl : ∀ l : List Int, (aV l).flatten = iZ l := fun l => by
      induction l with
      | nil => rfl
      | cons a l ih => unfold aV iZ at *; rw [List.map_cons, List.flatten_cons, ih]; rfl
    refine hk lv hg s ?_ (ho.sub (List.Sublist.append_left (List.sublist_cons_self _ _) hg))
    have := GV.rows (r := []) (cs := aV ((aG ns ns.length i).filter (fitP ns sp lo))) (by rw [hfl]; exact hG) (fun c hc => by unfold aV at hc; obtain ⟨_, _, rfl⟩ := List.mem_map.1 hc; rfl) (by simp [aV])
    rw [List.append_nil] at this
    exact this
  obtain ⟨n, hn⟩ : ∃ n, ns[t]? = some n := ⟨ns[t], List.getElem?_eq_getElem htl⟩
  obtain ⟨x, o, sp', c, ccs, ty, own, kv, av, dv, hvx, hmem, hcut, hget, hnr⟩ := hD.at hn
  injection hvx with hvx _ hvc
  subst hvx hvc
  have hcx := ho.get (List.mem_append_right hg (List.mem_cons_of_mem _ hmem))
  have hnx : ¬ x = s.n := ho.fresh (List.mem_append_right hg (List.mem_cons_of_mem _ hmem))
  have hlt : ((t : Int) < (ns.length : Int)) = True := eq_true (by omega)
  have hgt : ((0 : Int) ≤ (t : Int)) = True := eq_true (by omega)
  have hon := (ho.new (.cells [.int .i64 0, .int .i64 0, .slice none 0 0, .string ⟨#[]⟩, .string ⟨#[]⟩, .string ⟨#[]⟩, .slice none 0 0, .slice none 0 0, .string ⟨#[]⟩] 55 true)).set rfl (.cells (ndX n kv av dv) 55 true) rfl
  have hsetN : setL [.int .i64 0, .int .i64 0, .slice none 0 0, .string ⟨#[]⟩, .string ⟨#[]⟩, .string ⟨#[]⟩, .slice none 0 0, .slice none 0 0, .string ⟨#[]⟩] 0 (ndX n kv av dv) = ndX n kv av dv := rfl
  obtain ⟨ka, kc, hkv1, _⟩ := hnr.kid.isSlice
  obtain ⟨aa, ac, hav1, _⟩ := hnr.att.isSlice
  obtain ⟨da, dc, hdv1, _⟩ := hnr.dcl.isSlice
  have w1 : IntKind.i64.wrap ((t : Int) + 1) = ((t + 1 : Nat) : Int) := by rw [bH (by have := hb.1; omega)]; omega
  have htl' : t + 1 ≤ ns.length := htl
  have ht1' : 1 ≤ t + 1 := by omega
  have hsucc : aG ns (t + 1) i = if n.par = i then aG ns t i ++ [(t : Int)] else aG ns t i := by
    rw [dh, hn]
    dsimp only
    by_cases hp : n.par = i
    · rw [if_pos ⟨by omega, hp⟩, if_pos hp]
    · rw [if_neg (fun h => hp h.2), if_neg hp]
  have hfp : fitP ns sp lo (t : Int) = gX n sp lo := by unfold fitP; rw [bO, hn]
  have f0 : (ndX n kv av dv)[0]? = some (.int .i64 n.kind) := rfl
  have f1 : (ndX n kv av dv)[1]? = some (.int .i64 n.par) := rfl
  have f4 : (ndX n kv av dv)[4]? = some (.string (tx n.loc)) := rfl
  have f5 : (ndX n kv av dv)[5]? = some (.string (tx n.spc)) := rfl
  rw [show (1 : Nat) = 1 from rfl] at ht1
  simp -implicitDefEqProofs only [go_sem, Nat.reduceBEq, ↓reduceIte, reduceCtorEq, Nat.reduceEqDiff, Nat.reduceAdd, Nat.reduceLeDiff, Int.reduceEq, Int.reduceLT, Int.reduceLE, Int.reduceAdd, Int.reduceToNat, Int.reduceNeg, Nat.reduceMul, Nat.reduceSub, Int.reduceBNe, Int.reduceBEq]
  rw [aj, aj]
  simp -implicitDefEqProofs only [go_sem, Nat.reduceBEq, ↓reduceIte, reduceCtorEq, Nat.reduceEqDiff, Nat.reduceAdd, Nat.reduceLeDiff, Int.reduceEq, Int.reduceLT, Int.reduceLE, Int.reduceAdd, Int.reduceToNat, Int.reduceNeg, Nat.reduceMul, Nat.reduceSub, Int.reduceBNe, Int.reduceBEq, h1, h2, h3, h4, h9, h10, hc1, hlt, decide_true, aQ, aU, Tryz.underlying22, List.getElem?_cons_zero]
  rw [aj, ah, aj]
  simp -implicitDefEqProofs only [go_sem, Nat.reduceBEq, ↓reduceIte, reduceCtorEq, Nat.reduceEqDiff, Nat.reduceAdd, Nat.reduceLeDiff, Int.reduceEq, Int.reduceLT, Int.reduceLE, Int.reduceAdd, Int.reduceToNat, Int.reduceNeg, Nat.reduceMul, Nat.reduceSub, Int.reduceBNe, Int.reduceBEq, h1, h2, h3, h4, h9, h10, hc1, hcx, hcut, hnx, hlt, hgt, and_self, true_and, decide_true, Int.toNat_natCast, aU, aC, jZ, bB, hsetN, aQ, Tryz.underlying22, Tryz.underlying55, List.getElem?_cons_zero]
  generalize hb5 : s.n = b5 at *
  refine ⟨⟨rfl, by rw [hkv1, hav1, hdv1]; rfl⟩, ?_⟩
  generalize hs5 : (s.new _).set _ _ = s5 at *
  have hc5 := hon.head
  have ho7 := hon.tail
  have hep := aB n.spc sp
  have hel := aB n.loc lo
  have hee : astr .eql (tx lo) ⟨#[]⟩ = some (.bool (decide (lo = []))) := aB lo []
  by_cases hp : n.par = i
  case neg =>
    have tp : (n.par == i) = false := beq_eq_false_iff_ne.2 hp
    have hsk : (aG ns (t + 1) i).filter (fitP ns sp lo) = (aG ns t i).filter (fitP ns sp lo) := by
      rw [hsucc, if_neg hp]
    rw [← hsk] at hG
    simp -implicitDefEqProofs only [go_sem, ↓aj, ↓ah, ak, Nat.reduceBEq, ↓reduceIte, reduceCtorEq, Nat.reduceEqDiff, Nat.reduceAdd, Nat.reduceLeDiff, Int.reduceEq, Int.reduceLT, Int.reduceLE, Int.reduceAdd, Int.reduceToNat, Int.reduceNeg, Nat.reduceMul, Nat.reduceSub, Int.reduceBNe, Int.reduceBEq, w1, tp, h1, h2, h3, h4, h9, h10, hc5, f0, f1, f4, f5, aN, aY, bX, gQ, aC, asz3, asz9, Tryz.underlying55, Tryz.underlying3, Tryz.underlying9]
    refine ⟨ns.length - (t + 1), by omega, t + 1, lv, hg, ?_⟩
    (repeat' first | assumption | exact rfl | apply And.intro)
  have tp : (n.par == i) = true := by rw [beq_iff_eq]; exact hp
  by_cases hke : n.kind = 1
  case neg =>
    have te : (n.kind == 1) = false := beq_eq_false_iff_ne.2 hke
    have hsk : (aG ns (t + 1) i).filter (fitP ns sp lo) = (aG ns t i).filter (fitP ns sp lo) := by
      rw [hsucc, if_pos hp, List.filter_append, List.filter_cons, hfp, uj (by rintro ⟨a1, a2, a3⟩; exact hke a1), if_neg (by decide), List.filter_nil, List.append_nil]
    rw [← hsk] at hG
    simp -implicitDefEqProofs only [go_sem, ↓aj, ↓ah, ak, Nat.reduceBEq, ↓reduceIte, reduceCtorEq, Nat.reduceEqDiff, Nat.reduceAdd, Nat.reduceLeDiff, Int.reduceEq, Int.reduceLT, Int.reduceLE, Int.reduceAdd, Int.reduceToNat, Int.reduceNeg, Nat.reduceMul, Nat.reduceSub, Int.reduceBNe, Int.reduceBEq, w1, tp, te, h1, h2, h3, h4, h9, h10, hc5, f0, f1, f4, f5, aN, aY, bX, gQ, aC, asz3, asz9, Tryz.underlying55, Tryz.underlying3, Tryz.underlying9]
    refine ⟨ns.length - (t + 1), by omega, t + 1, lv, hg, ?_⟩
    (repeat' first | assumption | exact rfl | apply And.intro)
  have te : (n.kind == 1) = true := by rw [hke]; rfl
  by_cases hsp : n.spc = sp
  case neg =>
    rw [decide_eq_false hsp] at hep
    have hsk : (aG ns (t + 1) i).filter (fitP ns sp lo) = (aG ns t i).filter (fitP ns sp lo) := by
      rw [hsucc, if_pos hp, List.filter_append, List.filter_cons, hfp, uj (by rintro ⟨a1, a2, a3⟩; exact hsp a2), if_neg (by decide), List.filter_nil, List.append_nil]
    rw [← hsk] at hG
    simp -implicitDefEqProofs only [go_sem, ↓aj, ↓ah, ak, Nat.reduceBEq, ↓reduceIte, reduceCtorEq, Nat.reduceEqDiff, Nat.reduceAdd, Nat.reduceLeDiff, Int.reduceEq, Int.reduceLT, Int.reduceLE, Int.reduceAdd, Int.reduceToNat, Int.reduceNeg, Nat.reduceMul, Nat.reduceSub, Int.reduceBNe, Int.reduceBEq, w1, tp, te, hep, h1, h2, h3, h4, h9, h10, hc5, f0, f1, f4, f5, aN, aY, bX, gQ, aC, asz3, asz9, Tryz.underlying55, Tryz.underlying3, Tryz.underlying9]
    refine ⟨ns.length - (t + 1), by omega, t + 1, lv, hg, ?_⟩
    (repeat' first | assumption | exact rfl | apply And.intro)
  rw [decide_eq_true hsp] at hep
  by_cases hle : lo = []
  · rw [decide_eq_true hle] at hee
    have hsk : (aG ns (t + 1) i).filter (fitP ns sp lo) = (aG ns t i).filter (fitP ns sp lo) ++ [(t : Int)] := by
      rw [hsucc, if_pos hp, List.filter_append, List.filter_cons, hfp, vR ⟨hke, hsp, .inl hle⟩, if_pos rfl, List.filter_nil]
    simp -implicitDefEqProofs only [go_sem, ↓aj, ↓ah, ak, Nat.reduceBEq, ↓reduceIte, reduceCtorEq, Nat.reduceEqDiff, Nat.reduceAdd, Nat.reduceLeDiff, Int.reduceEq, Int.reduceLT, Int.reduceLE, Int.reduceAdd, Int.reduceToNat, Int.reduceNeg, Nat.reduceMul, Nat.reduceSub, Int.reduceBNe, Int.reduceBEq, w1, tp, te, hep, hee, aK (st := s5) (v := .int .i64 (t : Nat)) Tryz.underlying47 asz3 azc3 rfl rfl rfl (by decide), Tryz.underlying47, h1, h2, h3, h4, h9, h10, hc5, f0, f1, f4, f5, aN, aY, bX, gQ, aC, asz3, asz9, Tryz.underlying55, Tryz.underlying3, Tryz.underlying9]
    have ho8 : Own s5 (hg ++ ((b5, Ob.cells (ndX n kv av dv) 55 true) :: (b1, .cells [.slice (some ⟨x, o, sp'⟩) ns.length vc] 24 true) :: r)) := hon.perm (aL hg _ _).symm
    refine GV.dQ (t := 47) (t' := 47) (c := [.int .i64 (t : Nat)]) Tryz.underlying47 (by rw [Tryz.underlying47]; rfl) asz3 azc3 aby3 hG ho8 rfl rfl (by have q1 := iC ns i t; have q2 := List.length_filter_le (fitP ns sp lo) (aG ns t i); have := hb.1; omega) fun v' hm' s7 hG' ho9 => ?_
    have ho10 := (ho9.perm (aL hm' _ _)).tail
    have hG2 : GV v' (iZ ((aG ns (t + 1) i).filter (fitP ns sp lo))) ((aG ns (t + 1) i).filter (fitP ns sp lo)).length 1 3 hm' := by
      rw [hsk, List.length_append, List.length_singleton]
      unfold iZ at *
      rw [List.map_append]
      exact hG'
    simp -implicitDefEqProofs only [go_sem, ↓aj, ↓ah, ak, Nat.reduceBEq, ↓reduceIte, reduceCtorEq, Nat.reduceEqDiff, Nat.reduceAdd, Nat.reduceLeDiff, Int.reduceEq, Int.reduceLT, Int.reduceLE, Int.reduceAdd, Int.reduceToNat, Int.reduceNeg, Nat.reduceMul, Nat.reduceSub, Int.reduceBNe, Int.reduceBEq, h1, h2, h3, h4, h9, h10, w1]
    refine ⟨ns.length - (t + 1), by omega, t + 1, v', hm', ?_⟩
    (repeat' first | assumption | exact rfl | apply And.intro)
  rw [decide_eq_false hle] at hee
  by_cases hll : n.loc = lo
  · rw [decide_eq_true hll] at hel
    have hsk : (aG ns (t + 1) i).filter (fitP ns sp lo) = (aG ns t i).filter (fitP ns sp lo) ++ [(t : Int)] := by
      rw [hsucc, if_pos hp, List.filter_append, List.filter_cons, hfp, vR ⟨hke, hsp, .inr hll⟩, if_pos rfl, List.filter_nil]
    simp -implicitDefEqProofs only [go_sem, ↓aj, ↓ah, ak, Nat.reduceBEq, ↓reduceIte, reduceCtorEq, Nat.reduceEqDiff, Nat.reduceAdd, Nat.reduceLeDiff, Int.reduceEq, Int.reduceLT, Int.reduceLE, Int.reduceAdd, Int.reduceToNat, Int.reduceNeg, Nat.reduceMul, Nat.reduceSub, Int.reduceBNe, Int.reduceBEq, w1, tp, te, hep, hee, hel, aK (st := s5) (v := .int .i64 (t : Nat)) Tryz.underlying47 asz3 azc3 rfl rfl rfl (by decide), Tryz.underlying47, h1, h2, h3, h4, h9, h10, hc5, f0, f1, f4, f5, aN, aY, bX, gQ, aC, asz3, asz9, Tryz.underlying55, Tryz.underlying3, Tryz.underlying9]
    have ho8 : Own s5 (hg ++ ((b5, Ob.cells (ndX n kv av dv) 55 true) :: (b1, .cells [.slice (some ⟨x, o, sp'⟩) ns.length vc] 24 true) :: r)) := hon.perm (aL hg _ _).symm
    refine GV.dQ (t := 47) (t' := 47) (c := [.int .i64 (t : Nat)]) Tryz.underlying47 (by rw [Tryz.underlying47]; rfl) asz3 azc3 aby3 hG ho8 rfl rfl (by have q1 := iC ns i t; have q2 := List.length_filter_le (fitP ns sp lo) (aG ns t i); have := hb.1; omega) fun v' hm' s7 hG' ho9 => ?_
    have ho10 := (ho9.perm (aL hm' _ _)).tail
    have hG2 : GV v' (iZ ((aG ns (t + 1) i).filter (fitP ns sp lo))) ((aG ns (t + 1) i).filter (fitP ns sp lo)).length 1 3 hm' := by
      rw [hsk, List.length_append, List.length_singleton]
      unfold iZ at *
      rw [List.map_append]
      exact hG'
    simp -implicitDefEqProofs only [go_sem, ↓aj, ↓ah, ak, Nat.reduceBEq, ↓reduceIte, reduceCtorEq, Nat.reduceEqDiff, Nat.reduceAdd, Nat.reduceLeDiff, Int.reduceEq, Int.reduceLT, Int.reduceLE, Int.reduceAdd, Int.reduceToNat, Int.reduceNeg, Nat.reduceMul, Nat.reduceSub, Int.reduceBNe, Int.reduceBEq, h1, h2, h3, h4, h9, h10, w1]
    refine ⟨ns.length - (t + 1), by omega, t + 1, v', hm', ?_⟩
    (repeat' first | assumption | exact rfl | apply And.intro)
  rw [decide_eq_false hll] at hel
  have hsk : (aG ns (t + 1) i).filter (fitP ns sp lo) = (aG ns t i).filter (fitP ns sp lo) := by
    rw [hsucc, if_pos hp, List.filter_append, List.filter_cons, hfp, uj (by rintro ⟨a1, a2, a3⟩; exact a3.elim hle hll), if_neg (by decide), List.filter_nil, List.append_nil]
  rw [← hsk] at hG
  simp -implicitDefEqProofs only [go_sem, ↓aj, ↓ah, ak, Nat.reduceBEq, ↓reduceIte, reduceCtorEq, Nat.reduceEqDiff, Nat.reduceAdd, Nat.reduceLeDiff, Int.reduceEq, Int.reduceLT, Int.reduceLE, Int.reduceAdd, Int.reduceToNat, Int.reduceNeg, Nat.reduceMul, Nat.reduceSub, Int.reduceBNe, Int.reduceBEq, w1, tp, te, hep, hee, hel, h1, h2, h3, h4, h9, h10, hc5, f0, f1, f4, f5, aN, aY, bX, gQ, aC, asz3, asz9, Tryz.underlying55, Tryz.underlying3, Tryz.underlying9]
  refine ⟨ns.length - (t + 1), by omega, t + 1, lv, hg, ?_⟩
  (repeat' first | assumption | exact rfl | apply And.intro)
set_option maxRecDepth 10000 in
theorem Cb (st : St) (r : Hp) (v : Value) (ns : List Nx) (i : Int) (hD : DocX r v ns) (hb : BndX ns) (hz : ∀ n ∈ ns, SzX n) (h0 : 0 < ns.length) (hO : Own st r) (k q : Value → St → Prop)
    (hk : ∀ st', Own st' r → k (optR (dN ns (dH ns i))) st') : aA (C base w0 G) 28 [.agg #[v], .int .i64 i] st k q := by
  obtain ⟨va, vc, hva⟩ := hD.isSlice
  subst hva
  refine aA.of (cx := C base w0 G) mixed Tryz.func28 rfl (by kernel_rfl) (by simp [Tryz.ntmps28]) ?_
  simp only [Tryz.results28]
  have ho := hO.new (.cells [.slice va ns.length vc] 24 true)
  simp -implicitDefEqProofs only [go_sem, ↓aj, ↓ah, ak, Nat.reduceBEq, ↓reduceIte, reduceCtorEq, Nat.reduceEqDiff, Nat.reduceAdd, Nat.reduceLeDiff, Int.reduceEq, Int.reduceLT, Int.reduceLE, Int.reduceAdd, Int.reduceToNat, Int.reduceNeg, Nat.reduceMul, Nat.reduceSub, Int.reduceBNe, Int.reduceBEq, abox]
  generalize hs1 : St.new st _ = s1 at *
  generalize hb1 : st.n = b1 at *
  generalize hres : dN ns (dH ns i) = res at *
  refine ⟨fun m ρ s => ∃ (t : Nat) (acc : Tx) (rest : List Int), m = ns.length - t ∧ 1 ≤ t ∧ t ≤ ns.length ∧ acc.length ≤ t * 1000000 ∧ dH ns i = aG ns t i ++ rest ∧ res = (dN ns rest).map (acc ++ ·) ∧ ρ 1 = .int .i64 i ∧ ρ 2 = .pointer (some ⟨b1, 0, none⟩) ∧ ρ 6 = .string (tx acc) ∧ ρ 7 = .int .i64 (t : Nat) ∧ Own s ((b1, .cells [.slice va ns.length vc] 24 true) :: r),
    ⟨_, 1, [], dH ns i, rfl, Nat.le_refl _, h0, Nat.zero_le _, by rw [uh]; rfl, by rw [hres]; cases res <;> rfl, rfl, rfl, rfl, rfl, ho⟩, ?_⟩
  clear ho
  rintro _ ρ s ⟨t, acc, rest, rfl, ht1, ht, hal, hrest, htx, h1, h2, h6, h7, ho⟩
  have hc1 := ho.head
  by_cases htl : t < ns.length
  case neg =>
    obtain rfl : t = ns.length := by omega
    have hr0 : rest = [] := by
      have : dH ns i = aG ns ns.length i := rfl
      rw [this] at hrest
      exact List.append_right_eq_self.1 hrest.symm
    subst hr0
    have : res = some acc := by rw [htx]; simp [dN]
    rw [this] at hk
    simp -implicitDefEqProofs only [go_sem, ↓aj, ↓ah, ak, Nat.reduceBEq, ↓reduceIte, reduceCtorEq, Nat.reduceEqDiff, Nat.reduceAdd, Nat.reduceLeDiff, Int.reduceEq, Int.reduceLT, Int.reduceLE, Int.reduceAdd, Int.reduceToNat, Int.reduceNeg, Nat.reduceMul, Nat.reduceSub, Int.reduceBNe, Int.reduceBEq, h1, h2, h6, h7, hc1, Int.ofNat_lt, Nat.lt_irrefl, decide_false, aQ, aU, Tryz.underlying22, List.getElem?_cons_zero]
    exact hk _ ho.tail
  obtain ⟨m, hm⟩ : ∃ n, ns[t]? = some n := ⟨ns[t], List.getElem?_eq_getElem htl⟩
  obtain ⟨x, o, sp', c, ccs, ty, own, kv, av, dv, hvx, hmem, hcut, hget, hnr⟩ := hD.at hm
  injection hvx with hvx _ hvc
  subst hvx hvc
  have hcx := ho.get (List.mem_cons_of_mem _ hmem)
  have p0 := hget 0 (by decide)
  rw [Nat.add_zero] at p0
  change ccs[o + t * 9]? = some (.int .i64 m.kind) at p0
  have p1 := hget 1 (by decide)
  change ccs[o + t * 9 + 1]? = some (.int .i64 m.par) at p1
  have p8 := hget 8 (by decide)
  change ccs[o + t * 9 + 8]? = some (.string (tx m.val)) at p8
  have hlt : ((t : Int) < (ns.length : Int)) = True := eq_true (by omega)
  have hgt : ((0 : Int) ≤ (t : Int)) = True := eq_true (by omega)
  have w1 : IntKind.i64.wrap ((t : Int) + 1) = ((t + 1 : Nat) : Int) := by rw [bH (by have := hb.1; omega)]; omega
  have htl' : t + 1 ≤ ns.length := htl
  have ht1' : 1 ≤ t + 1 := by omega
  have hsucc : aG ns (t + 1) i = if m.par = i then aG ns t i ++ [(t : Int)] else aG ns t i := by
    rw [dh, hm]
    dsimp only
    by_cases hp : m.par = i
    · rw [if_pos ⟨by omega, hp⟩, if_pos hp]
    · rw [if_neg (fun h => hp h.2), if_neg hp]
  obtain ⟨rest', hrest'⟩ := mM ns i (t + 1) (ns.length - (t + 1))
  rw [show t + 1 + (ns.length - (t + 1)) = ns.length by omega] at hrest'
  have hrest2 : dH ns i = aG ns (t + 1) i ++ rest' := hrest'
  have hzm := (hz m (List.mem_of_getElem? hm)).val
  have hal2 : acc.length ≤ (t + 1) * 1000000 := Nat.le_trans hal (Nat.mul_le_mul_right _ (Nat.le_succ t))
  have hal3 : (acc ++ m.val).length ≤ (t + 1) * 1000000 := by rw [List.length_append]; omega
  by_cases hp : m.par = i
  case neg =>
    rw [if_neg hp] at hsucc
    have hrr : rest' = rest := by
      rw [hsucc, hrest] at hrest2
      exact (List.append_cancel_left hrest2).symm
    rw [← hrr] at htx
    have tp : (m.par != i) = true := by rw [bne_iff_ne]; exact hp
    simp -implicitDefEqProofs only [go_sem, ↓aj, ↓ah, ak, Nat.reduceBEq, ↓reduceIte, reduceCtorEq, Nat.reduceEqDiff, Nat.reduceAdd, Nat.reduceLeDiff, Int.reduceEq, Int.reduceLT, Int.reduceLE, Int.reduceAdd, Int.reduceToNat, Int.reduceNeg, Nat.reduceMul, Nat.reduceSub, Int.reduceBNe, Int.reduceBEq, tp, w1, h1, h2, h6, h7, hlt, hgt, hc1, hcx, p1, and_self, true_and, decide_true, Int.toNat_natCast, aQ, aY, asz3, aU, aC, Tryz.underlying3, Tryz.underlying22, Tryz.underlying55, List.getElem?_cons_zero]
    refine ⟨ns.length - (t + 1), by omega, t + 1, acc, rest', ?_⟩
    (repeat' first | assumption | exact rfl | apply And.intro)
  rw [if_pos hp] at hsucc
  have hrr : rest = (t : Int) :: rest' := by
    rw [hsucc, hrest, List.append_assoc] at hrest2
    exact List.append_cancel_left hrest2
  rw [hrr, ug hm] at htx
  have tp : (m.par != i) = false := by rw [hp]; simp
  by_cases hk1 : m.kind = 1
  · rw [if_pos hk1] at htx
    have : res = none := htx
    rw [this] at hk
    have t1 : (m.kind == 1) = true := by rw [hk1]; rfl
    simp -implicitDefEqProofs only [go_sem, ↓aj, ↓ah, ak, Nat.reduceBEq, ↓reduceIte, reduceCtorEq, Nat.reduceEqDiff, Nat.reduceAdd, Nat.reduceLeDiff, Int.reduceEq, Int.reduceLT, Int.reduceLE, Int.reduceAdd, Int.reduceToNat, Int.reduceNeg, Nat.reduceMul, Nat.reduceSub, Int.reduceBNe, Int.reduceBEq, tp, t1, h1, h2, h6, h7, hlt, hgt, hc1, hcx, p0, p1, and_self, true_and, decide_true, Int.toNat_natCast, Nat.add_zero, aQ, aN, aY, asz3, aU, aC, Tryz.underlying3, Tryz.underlying22, Tryz.underlying55, List.getElem?_cons_zero]
    exact hk _ ho.tail
  rw [if_neg hk1] at htx
  have t1 : (m.kind == 1) = false := beq_eq_false_iff_ne.2 hk1
  by_cases hk2 : m.kind = 2
  · have t2 : (m.kind == 2) = true := by rw [hk2]; rfl
    have htx' : res = (dN ns rest').map ((acc ++ m.val) ++ ·) := by
      rw [htx]
      cases dN ns rest' with
      | none => rfl
      | some u => simp [hk2]
    have ca : astr .add (tx acc) (tx m.val) = some (.string (tx (acc ++ m.val))) := addX rfl (by have := hb.1; omega)
    simp -implicitDefEqProofs only [go_sem, ↓aj, ↓ah, ak, Nat.reduceBEq, ↓reduceIte, reduceCtorEq, Nat.reduceEqDiff, Nat.reduceAdd, Nat.reduceLeDiff, Int.reduceEq, Int.reduceLT, Int.reduceLE, Int.reduceAdd, Int.reduceToNat, Int.reduceNeg, Nat.reduceMul, Nat.reduceSub, Int.reduceBNe, Int.reduceBEq, tp, t1, t2, ca, w1, h1, h2, h6, h7, hlt, hgt, hc1, hcx, p0, p1, p8, and_self, true_and, decide_true, Int.toNat_natCast, Nat.add_zero, aQ, aN, aY, eD, asz3, asz9, aU, aC, Tryz.underlying3, Tryz.underlying9, Tryz.underlying22, Tryz.underlying55, List.getElem?_cons_zero]
    refine ⟨ns.length - (t + 1), by omega, t + 1, acc ++ m.val, rest', ?_⟩
    (repeat' first | assumption | exact rfl | apply And.intro)
  · have t2 : (m.kind == 2) = false := beq_eq_false_iff_ne.2 hk2
    have htx' : res = (dN ns rest').map (acc ++ ·) := by
      rw [htx]
      cases dN ns rest' with
      | none => rfl
      | some u => simp [hk2]
    simp -implicitDefEqProofs only [go_sem, ↓aj, ↓ah, ak, Nat.reduceBEq, ↓reduceIte, reduceCtorEq, Nat.reduceEqDiff, Nat.reduceAdd, Nat.reduceLeDiff, Int.reduceEq, Int.reduceLT, Int.reduceLE, Int.reduceAdd, Int.reduceToNat, Int.reduceNeg, Nat.reduceMul, Nat.reduceSub, Int.reduceBNe, Int.reduceBEq, tp, t1, t2, w1, h1, h2, h6, h7, hlt, hgt, hc1, hcx, p0, p1, p8, and_self, true_and, decide_true, Int.toNat_natCast, Nat.add_zero, aQ, aN, aY, eD, asz3, asz9, aU, aC, Tryz.underlying3, Tryz.underlying9, Tryz.underlying22, Tryz.underlying55, List.getElem?_cons_zero]
    refine ⟨ns.length - (t + 1), by omega, t + 1, acc, rest', ?_⟩
    (repeat' first | assumption | exact rfl | apply And.intro)
end Go.Proofs.YtigjbehgfjjlkaaGreatDoor
set_option linter.unusedVariables false
set_option linter.unusedSimpArgs false
namespace Go.Proofs.YtigjbehgfjjlkaaGreatDoor
open Go Go.Abs Go.RowKit Go.Xml
variable {base : Nat} {w0 : World} {G : Nat}
set_option maxRecDepth 10000 in
theorem zW (st : St) (r : Hp) (v : Value) (ns : List Nx) (I J : Int) (sp lo : Tx) (hM : eH w0) (hT : dG w0) (hD : DocX r v ns) (hO : Own st r) (k q : Value → St → Prop) (hk : ∀ st', k (.bool true) st') : aA (C base w0 3) 6 [.agg #[v], .agg (askC I J sp lo).toArray] st k q := by
  obtain ⟨va, vc, hva⟩ := hD.isSlice
  subst hva
  refine aA.of (cx := C base w0 3) mixed Tryz.func6 rfl (by kernel_rfl) (by simp [Tryz.ntmps6]) ?_
  simp only [Tryz.results6]
  have ho1 := (hO.new (.cells [.slice va ns.length vc] 24 true)).new (.cells (askC I J sp lo) 37 true)
  rw [rZ] at ho1
  have hD1 := hD.sub (H' := (st.n + 1, Ob.cells (askC I J sp lo) 37 true) :: (st.n, Ob.cells [.slice va ns.length vc] 24 true) :: r) fun e he => List.mem_cons_of_mem _ (List.mem_cons_of_mem _ he)
  have hcl : cut [Value.slice va ns.length vc] 0 1 = some [Value.slice va ns.length vc] := rfl
  simp -implicitDefEqProofs only [go_sem, ↓aj, ↓ah, ak, Nat.reduceBEq, ↓reduceIte, reduceCtorEq, Nat.reduceEqDiff, Nat.reduceAdd, Nat.reduceLeDiff, Int.reduceEq, Int.reduceLT, Int.reduceLE, Int.reduceAdd, Int.reduceToNat, Int.reduceNeg, Nat.reduceMul, Nat.reduceSub, Int.reduceBNe, Int.reduceBEq, abox]
  generalize hS1 : (St.new (St.new st _) _) = S1 at *
  generalize hb2 : st.n + 1 = b2 at *
  generalize hb1 : st.n = b1 at *
  refine ay.enter Tryz.func7 rfl (by kernel_rfl) (qJ _ _ hM hT ho1 _ _ fun s1 ho => ?_)
  clear ho1
  have hc1 := ho.tail.head
  simp -implicitDefEqProofs only [go_sem, ↓aj, ↓ah, ak, Nat.reduceBEq, ↓reduceIte, reduceCtorEq, Nat.reduceEqDiff, Nat.reduceAdd, Nat.reduceLeDiff, Int.reduceEq, Int.reduceLT, Int.reduceLE, Int.reduceAdd, Int.reduceToNat, Int.reduceNeg, Nat.reduceMul, Nat.reduceSub, Int.reduceBNe, Int.reduceBEq, hc1, hcl, bW, Tryz.underlying24, Option.map_some]
  refine ay.enter Tryz.func8 rfl (by kernel_rfl) (zR _ _ _ ns hD1 ho _ _ fun s2 ho2 => ?_)
  cases hs : dI ns with
  | false =>
    simp -implicitDefEqProofs only [go_sem, ↓aj, ↓ah, ak, Nat.reduceBEq, ↓reduceIte, reduceCtorEq, Nat.reduceEqDiff, Nat.reduceAdd, Nat.reduceLeDiff, Int.reduceEq, Int.reduceLT, Int.reduceLE, Int.reduceAdd, Int.reduceToNat, Int.reduceNeg, Nat.reduceMul, Nat.reduceSub, Int.reduceBNe, Int.reduceBEq]
    refine ay.enter Tryz.func7 rfl (by kernel_rfl) (qJ _ _ hM hT ho2 _ _ fun s3 ho3 => ?_)
    simp -implicitDefEqProofs only [go_sem, ↓aj, ↓ah, ak, Nat.reduceBEq, ↓reduceIte, reduceCtorEq, Nat.reduceEqDiff, Nat.reduceAdd, Nat.reduceLeDiff, Int.reduceEq, Int.reduceLT, Int.reduceLE, Int.reduceAdd, Int.reduceToNat, Int.reduceNeg, Nat.reduceMul, Nat.reduceSub, Int.reduceBNe, Int.reduceBEq]
    exact hk _
  | true =>
  have hb := D9 hs
  have hz : ∀ n ∈ ns, SzX n := fun n hn => ((zS hs).2 n hn).2.1
  have a0 : (askC I J sp lo)[0]? = some (.int .i64 I) := rfl
  have a1 : (askC I J sp lo)[1]? = some (.int .i64 J) := rfl
  have a2 : (askC I J sp lo)[2]? = some (.string (tx sp)) := rfl
  have a3 : (askC I J sp lo)[3]? = some (.string (tx lo)) := rfl
  generalize askC I J sp lo = ask at *
  have hc2 := ho2.tail.head
  have hd2 := ho2.head
  have hbb : ∀ b : Bool, (b != b) = false := fun b => by cases b <;> rfl
  simp -implicitDefEqProofs only [go_sem, ↓aj, ↓ah, ak, Nat.reduceBEq, ↓reduceIte, reduceCtorEq, Nat.reduceEqDiff, Nat.reduceAdd, Nat.reduceLeDiff, Int.reduceEq, Int.reduceLT, Int.reduceLE, Int.reduceAdd, Int.reduceToNat, Int.reduceNeg, Nat.reduceMul, Nat.reduceSub, Int.reduceBNe, Int.reduceBEq]
  refine bG.of [(0, false, []), (2, true, []), (1, false, [2]), (3, false, []), (4, false, [])] [2] [(2, 1)] (by kernel_rfl) ?_
  simp -implicitDefEqProofs only [go_sem, ↓aj, ↓ah, ak, Nat.reduceBEq, ↓reduceIte, reduceCtorEq, Nat.reduceEqDiff, Nat.reduceAdd, Nat.reduceLeDiff, Int.reduceEq, Int.reduceLT, Int.reduceLE, Int.reduceAdd, Int.reduceToNat, Int.reduceNeg, Nat.reduceMul, Nat.reduceSub, Int.reduceBNe, Int.reduceBEq, hc2, hcl, bW, Tryz.underlying24, Option.map_some]
  refine ay.enter Tryz.func13 rfl (by kernel_rfl) (nu _ _ _ ns hD1 hb ho2 _ _ fun s3 ho3 => ?_)
  have hc3 := ho3.tail.head
  simp -implicitDefEqProofs only [go_sem, ↓aj, ↓ah, ak, Nat.reduceBEq, ↓reduceIte, reduceCtorEq, Nat.reduceEqDiff, Nat.reduceAdd, Nat.reduceLeDiff, Int.reduceEq, Int.reduceLT, Int.reduceLE, Int.reduceAdd, Int.reduceToNat, Int.reduceNeg, Nat.reduceMul, Nat.reduceSub, Int.reduceBNe, Int.reduceBEq, hc2, hc3, hcl, bW, Tryz.underlying24, Option.map_some]
  refine ay.enter Tryz.func10 rfl (by kernel_rfl) (qH _ _ _ ns hD1 hb ho3 _ _ fun s4 ho4 => ?_)
  have hc4 := ho4.tail.head
  have hd4 := ho4.head
  simp -implicitDefEqProofs only [go_sem, ↓aj, ↓ah, ak, Nat.reduceBEq, ↓reduceIte, reduceCtorEq, Nat.reduceEqDiff, Nat.reduceAdd, Nat.reduceLeDiff, Int.reduceEq, Int.reduceLT, Int.reduceLE, Int.reduceAdd, Int.reduceToNat, Int.reduceNeg, Nat.reduceMul, Nat.reduceSub, Int.reduceBNe, Int.reduceBEq, hc2, hc3, hc4, hd4, hbb, Tryz.underlying4, a0, a1, a2, a3, hcl, bW, asz3, asz9, gK, gL, gM, gN, Tryz.underlying37, Tryz.underlying24, Tryz.underlying3, Tryz.underlying9, Option.map_some, List.getElem?_cons_succ, List.getElem?_cons_zero]
  refine ay.enter Tryz.func22 rfl (by kernel_rfl) (vQ _ _ _ ns I sp lo hD1 hb ho4 _ _ fun kv' hk' s5 hKR ho5 => ?_)
  have hc5 := ho5.right.tail.head
  have hd5 := ho5.right.head
  obtain ⟨ka', kc', hkv', _⟩ := hKR.isSlice
  rw [aV, List.length_map] at hkv'
  have hD5 := hD1.sub (H' := hk' ++ ((b2, Ob.cells ask 37 true) :: (b1, .cells [.slice va ns.length vc] 24 true) :: r)) fun e he => List.mem_append_right _ he
  simp -implicitDefEqProofs only [go_sem, ↓aj, ↓ah, ak, Nat.reduceBEq, ↓reduceIte, reduceCtorEq, Nat.reduceEqDiff, Nat.reduceAdd, Nat.reduceLeDiff, Int.reduceEq, Int.reduceLT, Int.reduceLE, Int.reduceAdd, Int.reduceToNat, Int.reduceNeg, Nat.reduceMul, Nat.reduceSub, Int.reduceBNe, Int.reduceBEq, hc5, hd5, a0, a1, a2, a3, hcl, bW, asz3, asz9, gK, gL, gM, gN, Tryz.underlying37, Tryz.underlying24, Tryz.underlying3, Tryz.underlying9, Option.map_some, List.getElem?_cons_succ, List.getElem?_cons_zero]
  refine ay.enter Tryz.func23 rfl (by kernel_rfl) (FN _ _ _ ns I sp lo hD5 hb ho5 _ _ fun s6 ho6 => ?_)
  have hc6 := ho6.right.tail.head
  have hd6 := ho6.right.head
  obtain ⟨oa, oe, hone⟩ : ∃ a e, (if bg ns I && aH ns then oJ (lC ns I sp lo) else Value.tuple #[.int .i64 0, .int .i64 2]) = .tuple #[.int .i64 a, .int .i64 e] := by
    split
    · exact FL _
    · exact ⟨_, _, rfl⟩
  rw [hone]
  simp -implicitDefEqProofs only [go_sem, ↓aj, ↓ah, ak, Nat.reduceBEq, ↓reduceIte, reduceCtorEq, Nat.reduceEqDiff, Nat.reduceAdd, Nat.reduceLeDiff, Int.reduceEq, Int.reduceLT, Int.reduceLE, Int.reduceAdd, Int.reduceToNat, Int.reduceNeg, Nat.reduceMul, Nat.reduceSub, Int.reduceBNe, Int.reduceBEq, hc6, hd6, a0, a1, a2, a3, hcl, bW, asz3, asz9, gK, gL, gM, gN, Tryz.underlying37, Tryz.underlying24, Tryz.underlying3, Tryz.underlying9, Option.map_some, List.getElem?_cons_succ, List.getElem?_cons_zero]
  refine ay.enter Tryz.func24 rfl (by kernel_rfl) (BX _ _ _ ns I lo hD5 hb ho6 _ _ fun s7 ho7 => ?_)
  have hc7 := ho7.right.tail.head
  have hd7 := ho7.right.head
  obtain ⟨au, ab, hatt⟩ := CF (if bg ns I && aH ns then attR ns I lo else none)
  rw [show (if bg ns I && aH ns then optR (attR ns I lo) else optR none) = optR (if bg ns I && aH ns then attR ns I lo else none) by split <;> rfl, hatt]
  simp -implicitDefEqProofs only [go_sem, ↓aj, ↓ah, ak, Nat.reduceBEq, ↓reduceIte, reduceCtorEq, Nat.reduceEqDiff, Nat.reduceAdd, Nat.reduceLeDiff, Int.reduceEq, Int.reduceLT, Int.reduceLE, Int.reduceAdd, Int.reduceToNat, Int.reduceNeg, Nat.reduceMul, Nat.reduceSub, Int.reduceBNe, Int.reduceBEq, hc7, hd7, a0, a1, a2, a3, hcl, bW, asz3, asz9, gK, gL, gM, gN, Tryz.underlying37, Tryz.underlying24, Tryz.underlying3, Tryz.underlying9, Option.map_some, List.getElem?_cons_succ, List.getElem?_cons_zero]
  refine ay.enter Tryz.func25 rfl (by kernel_rfl) (BZ _ _ _ ns I hD5 hb hz ho7 _ _ fun s8 ho8 => ?_)
  have hc8 := ho8.right.tail.head
  have hd8 := ho8.right.head
  obtain ⟨tu, te, htext⟩ : ∃ u e, (if bg ns I && aH ns then txtP (txtR ns I) else Value.tuple #[.string ⟨#[]⟩, .int .i64 2]) = .tuple #[.string (tx u), .int .i64 e] := by
    split
    · cases txtR ns I with
      | none => exact ⟨[], 10, rfl⟩
      | some t => exact ⟨t, 0, rfl⟩
    · exact ⟨[], 2, rfl⟩
  rw [htext]
  simp -implicitDefEqProofs only [go_sem, ↓aj, ↓ah, ak, Nat.reduceBEq, ↓reduceIte, reduceCtorEq, Nat.reduceEqDiff, Nat.reduceAdd, Nat.reduceLeDiff, Int.reduceEq, Int.reduceLT, Int.reduceLE, Int.reduceAdd, Int.reduceToNat, Int.reduceNeg, Nat.reduceMul, Nat.reduceSub, Int.reduceBNe, Int.reduceBEq, hc8, hd8, a0, a1, a2, a3, hcl, bW, asz3, asz9, gK, gL, gM, gN, Tryz.underlying37, Tryz.underlying24, Tryz.underlying3, Tryz.underlying9, Option.map_some, List.getElem?_cons_succ, List.getElem?_cons_zero]
  refine ay.enter Tryz.func19 rfl (by kernel_rfl) (BQ _ _ _ ns I hD5 hb ho8 _ _ fun s9 ho9 => ?_)
  have hc9 := ho9.right.tail.head
  have hd9 := ho9.right.head
  have e0 : (⟨#[]⟩ : ByteArray) = tx [] := rfl
  rw [Bool.and_comm (aH ns) (bg ns I)]
  cases hat : bg ns I && aH ns with
  | false =>
    rw [hat, if_neg (by decide)] at hone hatt htext
    simp only [Value.tuple.injEq, Array.mk.injEq, List.cons.injEq, Value.int.injEq, true_and, and_true] at hone
    obtain ⟨rfl, rfl⟩ := hone
    have hu1 : au = [] ∧ ab = false := by
      unfold optR at hatt
      simp only [Value.tuple.injEq, Array.mk.injEq, List.cons.injEq, Value.string.injEq, Value.bool.injEq, and_true] at hatt
      exact ⟨(wV (a := []) (b := au) hatt.1).symm, hatt.2.symm⟩
    obtain ⟨rfl, rfl⟩ := hu1
    have hu2 : tu = [] ∧ te = 2 := by
      simp only [Value.tuple.injEq, Array.mk.injEq, List.cons.injEq, Value.string.injEq, Value.int.injEq, true_and, and_true] at htext
      exact ⟨(wV (a := []) (b := tu) htext.1).symm, htext.2.symm⟩
    obtain ⟨rfl, rfl⟩ := hu2
    have hkr : lC ns I sp lo = [] := by unfold lC; rw [hat]; rfl
    rw [hkr] at hkv'
    subst hkv'
    simp -implicitDefEqProofs only [go_sem, ↓aj, ↓ah, ak, Nat.reduceBEq, ↓reduceIte, reduceCtorEq, Nat.reduceEqDiff, Nat.reduceAdd, Nat.reduceLeDiff, Int.reduceEq, Int.reduceLT, Int.reduceLE, Int.reduceAdd, Int.reduceToNat, Int.reduceNeg, Nat.reduceMul, Nat.reduceSub, Int.reduceBNe, Int.reduceBEq, e0, aB, decide_true, List.length_nil, Tryz.underlying47, Tryz.underlying27, a0, a1, a2, a3, hcl, bW, asz3, asz9, gK, gL, gM, gN, Tryz.underlying37, Tryz.underlying24, Tryz.underlying3, Tryz.underlying9, Option.map_some, List.getElem?_cons_succ, List.getElem?_cons_zero]
    exact hk _
  | true =>
  have hR := RtX.of ((Bool.and_eq_true _ _).mp hat).2
  obtain ⟨j, n, rfl, hn, _⟩ := oK ((Bool.and_eq_true _ _).mp hat).1
  have hjl := (List.getElem?_eq_some_iff.1 hn).1
  rw [hat, if_pos rfl] at hone hatt htext
  have hkids := hR.kid j n hn
  have hkr : lC ns (j : Int) sp lo = (dH ns (j : Int)).filter (fitP ns sp lo) := by
    unfold lC
    rw [hat, if_pos rfl, bO, hn, ← hkids]
    rfl
  have har : attR ns (j : Int) lo = attX n lo := by unfold attR; rw [bO, hn]
  have htr : txtR ns (j : Int) = dN ns (dH ns (j : Int)) := by unfold txtR; rw [bO, hn, ← hkids]
  rw [hkr] at hone hKR hkv'
  rw [har] at hatt
  rw [htr] at htext
  have hwl : ((dH ns (j : Int)).filter (fitP ns sp lo)).length ≤ 1000000 := by
    have q1 := iC ns (j : Int) ns.length
    have q2 := List.length_filter_le (fitP ns sp lo) (dH ns (j : Int))
    have q3 : (dH ns (j : Int)).length = (aG ns ns.length (j : Int)).length := rfl
    have := hb.1
    omega
  generalize hwant : (dH ns (j : Int)).filter (fitP ns sp lo) = want at *
  simp -implicitDefEqProofs only [go_sem, ↓aj, ↓ah, ak, Nat.reduceBEq, ↓reduceIte, reduceCtorEq, Nat.reduceEqDiff, Nat.reduceAdd, Nat.reduceLeDiff, Int.reduceEq, Int.reduceLT, Int.reduceLE, Int.reduceAdd, Int.reduceToNat, Int.reduceNeg, Nat.reduceMul, Nat.reduceSub, Int.reduceBNe, Int.reduceBEq, hc9, hd9, a0, a1, a2, a3, hcl, bW, asz3, asz9, gK, gL, gM, gN, Tryz.underlying37, Tryz.underlying24, Tryz.underlying3, Tryz.underlying9, Option.map_some, List.getElem?_cons_succ, List.getElem?_cons_zero]
  refine ay.enter Tryz.func26 rfl (by kernel_rfl) (Ca _ _ _ ns (j : Int) sp lo hD5 hb (by omega) ho9 _ _ fun wv wh s10 hWR ho10 => ?_)
  rw [hwant] at hWR
  have hc10 := ho10.right.right.tail.head
  have hd10 := ho10.right.right.head
  obtain ⟨wa, wc, hwv, _⟩ := hWR.isSlice
  rw [aV, List.length_map] at hwv
  have hD10 := hD5.sub (H' := wh ++ (hk' ++ ((b2, Ob.cells ask 37 true) :: (b1, .cells [.slice va ns.length vc] 24 true) :: r))) fun e he => List.mem_append_right _ he
  obtain ⟨x, o, sp', c, ccs, ty, own, kv, av, dv, hvx, hmem, hcut, hget, hnr⟩ := hD10.at hn
  injection hvx with hvx _ hvc
  subst hvx hvc
  have hcx := ho10.get hmem
  have hlj : ((j : Int) < (ns.length : Int)) = True := eq_true (by omega)
  have hgj : ((0 : Int) ≤ (j : Int)) = True := eq_true (by omega)
  simp -implicitDefEqProofs only [go_sem, ↓aj, ↓ah, ak, Nat.reduceBEq, ↓reduceIte, reduceCtorEq, Nat.reduceEqDiff, Nat.reduceAdd, Nat.reduceLeDiff, Int.reduceEq, Int.reduceLT, Int.reduceLE, Int.reduceAdd, Int.reduceToNat, Int.reduceNeg, Nat.reduceMul, Nat.reduceSub, Int.reduceBNe, Int.reduceBEq, hc10, hd10, a0, a1, a2, a3, hcl, bW, asz3, asz9, gK, gL, gM, gN, Tryz.underlying37, Tryz.underlying24, Tryz.underlying3, Tryz.underlying9, Option.map_some, List.getElem?_cons_succ, List.getElem?_cons_zero]
  refine bG.of [(0, false, []), (1, false, []), (2, false, []), (3, false, []), (4, false, []), (5, false, []), (6, false, []), (7, false, []), (8, false, []), (9, false, []), (10, false, []), (11, false, []), (12, false, []), (13, false, [])] [] [] (by kernel_rfl) ?_
  simp -implicitDefEqProofs only [go_sem, ↓aj, ↓ah, ak, Nat.reduceBEq, ↓reduceIte, reduceCtorEq, Nat.reduceEqDiff, Nat.reduceAdd, Nat.reduceLeDiff, Int.reduceEq, Int.reduceLT, Int.reduceLE, Int.reduceAdd, Int.reduceToNat, Int.reduceNeg, Nat.reduceMul, Nat.reduceSub, Int.reduceBNe, Int.reduceBEq, hc10, hd10, hcx, hcut, hlj, hgj, and_self, true_and, decide_true, Int.toNat_natCast, aQ, aU, aC, Tryz.underlying22, Tryz.underlying55, a0, a1, a2, a3, hcl, bW, asz3, asz9, gK, gL, gM, gN, Tryz.underlying37, Tryz.underlying24, Tryz.underlying3, Tryz.underlying9, Option.map_some, List.getElem?_cons_succ, List.getElem?_cons_zero]
  refine ay.enter Tryz.func27 rfl (by kernel_rfl) (BP _ _ n kv av dv lo hnr (hb.2 n (List.mem_of_getElem? hn)).1 ho10 _ _ fun s11 ho11 => ?_)
  have hc11 := ho11.right.right.tail.head
  have hd11 := ho11.right.right.head
  have hcx11 := ho11.get hmem
  rw [hatt]
  simp -implicitDefEqProofs only [go_sem, ↓aj, ↓ah, ak, Nat.reduceBEq, ↓reduceIte, reduceCtorEq, Nat.reduceEqDiff, Nat.reduceAdd, Nat.reduceLeDiff, Int.reduceEq, Int.reduceLT, Int.reduceLE, Int.reduceAdd, Int.reduceToNat, Int.reduceNeg, Nat.reduceMul, Nat.reduceSub, Int.reduceBNe, Int.reduceBEq, hc10, hd10, hcx, hc11, hd11, hcx11, hcut, hlj, hgj, and_self, true_and, decide_true, Int.toNat_natCast, aQ, aU, aC, Tryz.underlying22, Tryz.underlying55, a0, a1, a2, a3, hcl, bW, asz3, asz9, gK, gL, gM, gN, Tryz.underlying37, Tryz.underlying24, Tryz.underlying3, Tryz.underlying9, Option.map_some, List.getElem?_cons_succ, List.getElem?_cons_zero]
  refine ay.enter Tryz.func28 rfl (by kernel_rfl) (Cb _ _ _ ns (j : Int) hD10 hb hz (by omega) ho11 _ _ fun s12 ho12 => ?_)
  have hKR12 := hKR.sub (h' := wh ++ (hk' ++ ((b2, Ob.cells ask 37 true) :: (b1, .cells [.slice (some ⟨x, o, sp'⟩) ns.length vc] 24 true) :: r))) fun e he => List.mem_append_right _ (List.mem_append_left _ he)
  have hWR12 := hWR.sub (h' := wh ++ (hk' ++ ((b2, Ob.cells ask 37 true) :: (b1, .cells [.slice (some ⟨x, o, sp'⟩) ns.length vc] 24 true) :: r))) fun e he => List.mem_append_left _ he
  obtain ⟨ru, rb, hrt⟩ := CF (dN ns (dH ns (j : Int)))
  rw [hrt]
  simp -implicitDefEqProofs only [go_sem, ↓aj, ↓ah, ak, Nat.reduceBEq, ↓reduceIte, reduceCtorEq, Nat.reduceEqDiff, Nat.reduceAdd, Nat.reduceLeDiff, Int.reduceEq, Int.reduceLT, Int.reduceLE, Int.reduceAdd, Int.reduceToNat, Int.reduceNeg, Nat.reduceMul, Nat.reduceSub, Int.reduceBNe, Int.reduceBEq, a0, a1, a2, a3, hcl, bW, asz3, asz9, gK, gL, gM, gN, Tryz.underlying37, Tryz.underlying24, Tryz.underlying3, Tryz.underlying9, Option.map_some, List.getElem?_cons_succ, List.getElem?_cons_zero]
  refine ay.enter Tryz.func29 rfl (by kernel_rfl) (tN _ _ _ _ want want hKR12 hWR12 (by omega) ho12 _ _ fun s13 ho13 => ?_)
  rw [decide_eq_true (show want = want from rfl)]
  have htt : (ru = tu ∧ te = 0 ∧ rb = true) ∨ (ru = tu ∧ te = 10 ∧ rb = false) := by
    cases htz : dN ns (dH ns (j : Int)) with
    | none =>
      rw [htz] at hrt htext
      unfold optR at hrt
      unfold txtP at htext
      simp only [Value.tuple.injEq, Array.mk.injEq, List.cons.injEq, Value.string.injEq, Value.bool.injEq, Value.int.injEq, true_and, and_true] at hrt htext
      exact .inr ⟨wV (hrt.1.symm.trans htext.1), htext.2.symm, hrt.2.symm⟩
    | some t =>
      rw [htz] at hrt htext
      unfold optR at hrt
      unfold txtP at htext
      simp only [Value.tuple.injEq, Array.mk.injEq, List.cons.injEq, Value.string.injEq, Value.bool.injEq, Value.int.injEq, true_and, and_true] at hrt htext
      exact .inl ⟨wV (hrt.1.symm.trans htext.1), htext.2.symm, hrt.2.symm⟩
  clear hrt htext hKR hWR hwant hkids hatt
  rcases htt with ⟨rfl, rfl, rfl⟩ | ⟨rfl, rfl, rfl⟩
  · cases want with
    | nil =>
      unfold oJ at hone
      simp only [Value.tuple.injEq, Array.mk.injEq, List.cons.injEq, Value.int.injEq, true_and, and_true] at hone
      obtain ⟨rfl, rfl⟩ := hone
      subst hwv
      simp -implicitDefEqProofs only [go_sem, ↓aj, ↓ah, ak, Nat.reduceBEq, ↓reduceIte, reduceCtorEq, Nat.reduceEqDiff, Nat.reduceAdd, Nat.reduceLeDiff, Int.reduceEq, Int.reduceLT, Int.reduceLE, Int.reduceAdd, Int.reduceToNat, Int.reduceNeg, Nat.reduceMul, Nat.reduceSub, Int.reduceBNe, Int.reduceBEq, hbb, bI, decide_true, Bool.true_and, Bool.and_false, List.length_nil, Tryz.underlying4, Tryz.underlying47, Tryz.underlying27, List.getElem?_cons_succ, List.getElem?_cons_zero]
      exact hk _
    | cons z zs =>
      cases zs with
      | nil =>
        unfold oJ at hone
        simp only [Value.tuple.injEq, Array.mk.injEq, List.cons.injEq, Value.int.injEq, true_and, and_true] at hone
        obtain ⟨rfl, rfl⟩ := hone
        obtain ⟨y, yo, ysp, yc, ycs, yty, yown, hvy, hmy, hcy⟩ := hWR12.mem (i := 0) (l := [.int .i64 z]) rfl
        rw [aV, List.length_map] at hvy
        subst hvy
        have hcy' := ho13.get hmy
        have y0 := bq hcy (show 0 < 1 by decide)
        simp only [Nat.zero_mul, Nat.add_zero, List.getElem?_cons_zero] at y0
        simp -implicitDefEqProofs only [go_sem, ↓aj, ↓ah, ak, Nat.reduceBEq, ↓reduceIte, reduceCtorEq, Nat.reduceEqDiff, Nat.reduceAdd, Nat.reduceLeDiff, Int.reduceEq, Int.reduceLT, Int.reduceLE, Int.reduceAdd, Int.reduceToNat, Int.reduceNeg, Nat.reduceMul, Nat.reduceSub, Int.reduceBNe, Int.reduceBEq, hbb, hcy', y0, bI, decide_true, Bool.true_and, Bool.and_false, List.length_cons, List.length_nil, Nat.add_zero, bK, asz3, Tryz.underlying4, Tryz.underlying47, Tryz.underlying3, Tryz.underlying27, List.getElem?_cons_succ, List.getElem?_cons_zero]
        exact hk _
      | cons z' zs =>
        have n0 : (((zs.length + 2 : Nat) : Int) == 0) = false := beq_eq_false_iff_ne.2 (by omega)
        have n1 : (((zs.length + 2 : Nat) : Int) == 1) = false := beq_eq_false_iff_ne.2 (by omega)
        have e1 : (z :: z' :: zs).length = zs.length + 2 := rfl
        rw [e1] at hwv
        unfold oJ at hone
        simp only [Value.tuple.injEq, Array.mk.injEq, List.cons.injEq, Value.int.injEq, true_and, and_true] at hone
        obtain ⟨rfl, rfl⟩ := hone
        subst hwv
        simp -implicitDefEqProofs only [go_sem, ↓aj, ↓ah, ak, Nat.reduceBEq, ↓reduceIte, reduceCtorEq, Nat.reduceEqDiff, Nat.reduceAdd, Nat.reduceLeDiff, Int.reduceEq, Int.reduceLT, Int.reduceLE, Int.reduceAdd, Int.reduceToNat, Int.reduceNeg, Nat.reduceMul, Nat.reduceSub, Int.reduceBNe, Int.reduceBEq, hbb, n0, n1, bI, decide_true, Bool.true_and, Bool.and_false, Tryz.underlying4, Tryz.underlying47, Tryz.underlying27, List.getElem?_cons_succ, List.getElem?_cons_zero]
        exact hk _
  · cases want with
    | nil =>
      unfold oJ at hone
      simp only [Value.tuple.injEq, Array.mk.injEq, List.cons.injEq, Value.int.injEq, true_and, and_true] at hone
      obtain ⟨rfl, rfl⟩ := hone
      subst hwv
      simp -implicitDefEqProofs only [go_sem, ↓aj, ↓ah, ak, Nat.reduceBEq, ↓reduceIte, reduceCtorEq, Nat.reduceEqDiff, Nat.reduceAdd, Nat.reduceLeDiff, Int.reduceEq, Int.reduceLT, Int.reduceLE, Int.reduceAdd, Int.reduceToNat, Int.reduceNeg, Nat.reduceMul, Nat.reduceSub, Int.reduceBNe, Int.reduceBEq, hbb, bI, decide_true, Bool.true_and, Bool.and_false, List.length_nil, Tryz.underlying4, Tryz.underlying47, Tryz.underlying27, List.getElem?_cons_succ, List.getElem?_cons_zero]
      exact hk _
    | cons z zs =>
      cases zs with
      | nil =>
        unfold oJ at hone
        simp only [Value.tuple.injEq, Array.mk.injEq, List.cons.injEq, Value.int.injEq, true_and, and_true] at hone
        obtain ⟨rfl, rfl⟩ := hone
        obtain ⟨y, yo, ysp, yc, ycs, yty, yown, hvy, hmy, hcy⟩ := hWR12.mem (i := 0) (l := [.int .i64 z]) rfl
        rw [aV, List.length_map] at hvy
        subst hvy
        have hcy' := ho13.get hmy
        have y0 := bq hcy (show 0 < 1 by decide)
        simp only [Nat.zero_mul, Nat.add_zero, List.getElem?_cons_zero] at y0
        simp -implicitDefEqProofs only [go_sem, ↓aj, ↓ah, ak, Nat.reduceBEq, ↓reduceIte, reduceCtorEq, Nat.reduceEqDiff, Nat.reduceAdd, Nat.reduceLeDiff, Int.reduceEq, Int.reduceLT, Int.reduceLE, Int.reduceAdd, Int.reduceToNat, Int.reduceNeg, Nat.reduceMul, Nat.reduceSub, Int.reduceBNe, Int.reduceBEq, hbb, hcy', y0, bI, decide_true, Bool.true_and, Bool.and_false, List.length_cons, List.length_nil, Nat.add_zero, bK, asz3, Tryz.underlying4, Tryz.underlying47, Tryz.underlying3, Tryz.underlying27, List.getElem?_cons_succ, List.getElem?_cons_zero]
        exact hk _
      | cons z' zs =>
        have n0 : (((zs.length + 2 : Nat) : Int) == 0) = false := beq_eq_false_iff_ne.2 (by omega)
        have n1 : (((zs.length + 2 : Nat) : Int) == 1) = false := beq_eq_false_iff_ne.2 (by omega)
        have e1 : (z :: z' :: zs).length = zs.length + 2 := rfl
        rw [e1] at hwv
        unfold oJ at hone
        simp only [Value.tuple.injEq, Array.mk.injEq, List.cons.injEq, Value.int.injEq, true_and, and_true] at hone
        obtain ⟨rfl, rfl⟩ := hone
        subst hwv
        simp -implicitDefEqProofs only [go_sem, ↓aj, ↓ah, ak, Nat.reduceBEq, ↓reduceIte, reduceCtorEq, Nat.reduceEqDiff, Nat.reduceAdd, Nat.reduceLeDiff, Int.reduceEq, Int.reduceLT, Int.reduceLE, Int.reduceAdd, Int.reduceToNat, Int.reduceNeg, Nat.reduceMul, Nat.reduceSub, Int.reduceBNe, Int.reduceBEq, hbb, n0, n1, bI, decide_true, Bool.true_and, Bool.and_false, Tryz.underlying4, Tryz.underlying47, Tryz.underlying27, List.getElem?_cons_succ, List.getElem?_cons_zero]
        exact hk _
end Go.Proofs.YtigjbehgfjjlkaaGreatDoor
