/- The document's first bad code point is the program's. No conditions. -/
import Derived.Test.YtohgmkjhbacmpaaGreatDoorXmGE
import Derived.Test.YtohgmkjhbacmpaaGreatDoorXmGF
import Derived.Test.YtohgmkjhbacmpaaGreatDoorXmGD
import Derived.Test.YtohgmkjhbacmpaaGreatDoorXmGH
set_option linter.unusedVariables false
set_option linter.unusedSimpArgs false
namespace Go.Proofs.YtohgmkjhbacmpaaGreatDoor
open Go Go.Abs Go.RowKit Go.Xml
variable {base : Nat} {w0 : World} {G : Nat}
set_option maxRecDepth 10000 in
theorem Fh (st : St) (r : Hp) (X : Value) (l : Tx) (hX : Nb r X (nb8 l)) (hS : Sl Tryz.prog r X 1) (hl : l.length ≤ 1000000) (hO : Own st r) (k q : Value → St → Prop) (hk : ∀ st', Own st' r → k (.int .i64 (badV l)) st') : ay (C base w0 G) 12 [X] st k q := by
  obtain ⟨xa, xc, hxs⟩ := hX.isSlice
  rw [aB] at hxs
  refine ay.of (cx := C base w0 G) mixed Tryz.func12 rfl (by kernel_rfl) (by simp [Tryz.ntmps12]) ?_
  simp only [Tryz.results12]
  simp -implicitDefEqProofs only [go_sem, ↓aj, ↓ah, astr, ak, Nat.reduceBEq, ↓reduceIte, reduceCtorEq, Nat.reduceEqDiff, Nat.reduceAdd, Nat.reduceLeDiff, Int.reduceEq, Int.reduceLT, Int.reduceLE, Int.reduceAdd, Int.reduceToNat, Int.reduceNeg, Nat.reduceMul, Nat.reduceSub, Int.reduceBNe, Int.reduceBEq]
  refine ⟨fun m ρ s => ∃ (i f : Nat), m = l.length + 4 - i ∧ i ≤ l.length + 3 ∧ (l.drop i).length < f ∧ bad l = badF f (l.drop i) i ∧ ρ 0 = X ∧ ρ 3 = .int .i64 i ∧ Own s r, ⟨_, 0, l.length + 1, rfl, Nat.zero_le _, Nat.lt_succ_self _, rfl, rfl, rfl, hO⟩, ?_⟩
  rintro _ ρ s ⟨i, f, rfl, hi, hf, hb, h0, h3, hs⟩
  by_cases him : i < l.length
  · obtain ⟨v, hsl, hv, hSv⟩ := hX.part (lo := some (.int .i64 (i : Nat))) (hi := none) (l := i) (r := l.length) hS hs Tryz.underlying22 asz5 (fun c hc => by rw [aB] at hc ⊢; exact l9 (Nat.le_of_lt him) hc) (Nat.le_of_lt him) (by rw [aB]; exact Nat.le_refl _)
    have hvl : ((nb8 l).drop i).take (l.length - i) = nb8 (l.drop i) := by rw [rT, List.take_of_length_le (by rw [aB, List.length_drop]; exact Nat.le_refl _)]
    rw [hvl] at hv
    have hne : l.drop i ≠ [] := fun e => by have := congrArg List.length e; simp at this; omega
    obtain ⟨f', rfl⟩ : ∃ f', f = f' + 1 := ⟨f - 1, by omega⟩
    rw [lq f' _ i hne] at hb
    have hw := lg (l.drop i)
    have hone := Ak (l.drop i) hne
    rw [hxs] at hsl h0
    simp -implicitDefEqProofs only [go_sem, ↓aj, ↓ah, astr, ak, Nat.reduceBEq, ↓reduceIte, reduceCtorEq, Nat.reduceEqDiff, Nat.reduceAdd, Nat.reduceLeDiff, Int.reduceEq, Int.reduceLT, Int.reduceLE, Int.reduceAdd, Int.reduceToNat, Int.reduceNeg, Nat.reduceMul, Nat.reduceSub, Int.reduceBNe, Int.reduceBEq, h0, h3, him, Int.ofNat_lt, decide_true, hsl, Tryz.underlying22]
    refine au.enter Tryz.func22 rfl (by kernel_rfl) (ER s r v (l.drop i) hv (by rw [List.length_drop]; omega) hs _ _ ?_)
    rw [List.drop_drop] at hb
    have hitV : bad l = some i → badV l = i := fun h => by unfold badV; rw [h]
    rcases hone with ⟨e1, e2⟩ | ⟨e1, e2⟩
    · rw [e1]
      unfold oneV
      generalize (Lib.decodeL (l.drop i)).1 = c at *
      generalize (Lib.decodeL (l.drop i)).2 = n at *
      have wn : IntKind.i64.wrap ((i : Int) + (n : Nat)) = ((i + n : Nat) : Int) := by rw [aS (by omega)]; rfl
      have n0 : ((n : Int) == 0) = false := by rw [beq_eq_false_iff_ne]; omega
      simp -implicitDefEqProofs only [go_sem, ↓aj, ↓ah, astr, ak, Nat.reduceBEq, ↓reduceIte, reduceCtorEq, Nat.reduceEqDiff, Nat.reduceAdd, Nat.reduceLeDiff, Int.reduceEq, Int.reduceLT, Int.reduceLE, Int.reduceAdd, Int.reduceToNat, Int.reduceNeg, Nat.reduceMul, Nat.reduceSub, Int.reduceBNe, Int.reduceBEq, h0, h3, n0, List.getElem?_cons_zero, List.getElem?_cons_succ]
      refine au.enter Tryz.func15 rfl (by kernel_rfl) (Cr _ c _ _ ?_)
      cases hch : cK c with
      | false =>
        rw [if_pos (.inr hch)] at hb
        rw [hitV hb] at hk
        simp -implicitDefEqProofs only [go_sem, ↓aj, ↓ah, astr, ak, Nat.reduceBEq, ↓reduceIte, reduceCtorEq, Nat.reduceEqDiff, Nat.reduceAdd, Nat.reduceLeDiff, Int.reduceEq, Int.reduceLT, Int.reduceLE, Int.reduceAdd, Int.reduceToNat, Int.reduceNeg, Nat.reduceMul, Nat.reduceSub, Int.reduceBNe, Int.reduceBEq, h0, h3, Bool.not_false]
        exact hk _ hs
      | true =>
        rw [if_neg (by rw [hch]; intro h; rcases h with h | h; exact e2 h; cases h)] at hb
        simp -implicitDefEqProofs only [go_sem, ↓aj, ↓ah, astr, ak, Nat.reduceBEq, ↓reduceIte, reduceCtorEq, Nat.reduceEqDiff, Nat.reduceAdd, Nat.reduceLeDiff, Int.reduceEq, Int.reduceLT, Int.reduceLE, Int.reduceAdd, Int.reduceToNat, Int.reduceNeg, Nat.reduceMul, Nat.reduceSub, Int.reduceBNe, Int.reduceBEq, h0, h3, Bool.not_true, wn]
        exact ⟨l.length + 4 - (i + n), by omega, i + n, f', rfl, by omega, by rw [List.length_drop] at hf ⊢; omega, hb, hxs.symm, rfl, hs⟩
    · rw [e1]
      unfold oneV
      rw [if_pos (.inl e2)] at hb
      rw [hitV hb] at hk
      simp -implicitDefEqProofs only [go_sem, ↓aj, ↓ah, astr, ak, Nat.reduceBEq, ↓reduceIte, reduceCtorEq, Nat.reduceEqDiff, Nat.reduceAdd, Nat.reduceLeDiff, Int.reduceEq, Int.reduceLT, Int.reduceLE, Int.reduceAdd, Int.reduceToNat, Int.reduceNeg, Nat.reduceMul, Nat.reduceSub, Int.reduceBNe, Int.reduceBEq, h0, h3, List.getElem?_cons_zero, List.getElem?_cons_succ, show (((0 : Nat) : Int) == 0) = true from rfl]
      exact hk _ hs
  · have e : l.drop i = [] := List.drop_eq_nil_of_le (by omega)
    rw [e, sG] at hb
    rw [hxs] at h0
    have hV : badV l = -1 := by unfold badV; rw [hb]
    rw [hV] at hk
    simp -implicitDefEqProofs only [go_sem, ↓aj, ↓ah, astr, ak, Nat.reduceBEq, ↓reduceIte, reduceCtorEq, Nat.reduceEqDiff, Nat.reduceAdd, Nat.reduceLeDiff, Int.reduceEq, Int.reduceLT, Int.reduceLE, Int.reduceAdd, Int.reduceToNat, Int.reduceNeg, Nat.reduceMul, Nat.reduceSub, Int.reduceBNe, Int.reduceBEq, h0, h3, him, Int.ofNat_lt, decide_false, Tryz.underlying22]
    exact hk _ hs
end Go.Proofs.YtohgmkjhbacmpaaGreatDoor
set_option linter.unusedVariables false
set_option linter.unusedSimpArgs false
namespace Go.Proofs.YtohgmkjhbacmpaaGreatDoor
open Go Go.Abs Go.RowKit Go.Xml
variable {base : Nat} {w0 : World} {G : Nat}
theorem I9 : aqT Tryz.prog 52 = some [(0, 9), (1, 9), (2, 9), (3, 9)] := by kernel_rfl
theorem Ja : aqT Tryz.prog 62 = some [(0, 9), (1, 9)] := by kernel_rfl
theorem Jb (x : Att) : aqF Tryz.prog (attC x) (attC x) [(0, 9), (1, 9), (2, 9), (3, 9)] = some true := by
  simp [aqF, alf2, Tryz.underlying9, attC]
theorem Jc (x : Dcl) : aqF Tryz.prog (dclC x) (dclC x) [(0, 9), (1, 9)] = some true := by
  simp [aqF, alf2, Tryz.underlying9, dclC]
set_option maxRecDepth 10000 in
theorem CK (st : St) (r : Hp) (va vb : Value) (xs : List Nat) (hn : xs.length ≤ 1000000) (ha : Rws r va 1 (xs.map fun c => [Value.int .i64 (c : Nat)])) (hb : Rws r vb 1 (xs.map fun c => [Value.int .i64 (c : Nat)])) (hO : Own st r) (k q : Value → St → Prop) (hk : k (.bool true) st) : ay (C base w0 G) 24 [va, vb] st k q := by
  obtain ⟨aa, ca, hva, _⟩ := ha.isSlice
  obtain ⟨ab, cb, hvb, _⟩ := hb.isSlice
  rw [List.length_map] at hva hvb
  refine ay.of (cx := C base w0 G) mixed Tryz.func24 rfl (by kernel_rfl) (by simp [Tryz.ntmps24]) ?_
  simp only [Tryz.results24]
  simp -implicitDefEqProofs only [go_sem, ↓aj, ↓ah, ak, Nat.reduceBEq, ↓reduceIte, reduceCtorEq, Nat.reduceEqDiff, Nat.reduceAdd, Nat.reduceLeDiff, Int.reduceEq, Int.reduceLT, Int.reduceLE, Int.reduceAdd, Int.reduceToNat, Int.reduceNeg, Nat.reduceMul, Nat.reduceSub, Int.reduceBNe, Int.reduceBEq, hva, hvb, Tryz.underlying30, show ((xs.length : Int) != (xs.length : Int)) = false by simp]
  refine ⟨fun m ρ s => ∃ i : Nat, m = xs.length - i ∧ i ≤ xs.length ∧ ρ 0 = va ∧ ρ 1 = vb ∧ ρ 5 = .int .i64 i ∧ s = st, ⟨_, 0, rfl, Nat.zero_le _, hva.symm, hvb.symm, rfl, rfl⟩, ?_⟩
  rintro _ ρ s ⟨i, rfl, hi, h0, h1, h5, rfl⟩
  by_cases him : i < xs.length
  · obtain ⟨x, o, sp, c', ccs, ty, own, hvx, hmem, hcut⟩ := ha.mem (i := i) (l := [.int .i64 (xs[i] : Nat)]) (by simp [him])
    obtain ⟨x2, o2, sp2, c2', ccs2, ty2, own2, hvx2, hmem2, hcut2⟩ := hb.mem (i := i) (l := [.int .i64 (xs[i] : Nat)]) (by simp [him])
    rw [List.length_map] at hvx hvx2
    have hcx := hO.get hmem
    have hcx2 := hO.get hmem2
    have w1 : IntKind.i64.wrap ((i : Int) + 1) = ((i + 1 : Nat) : Int) := by rw [aS (by omega)]; rfl
    have g1 := gL hcut (j := 0) (by decide)
    have g2 := gL hcut2 (j := 0) (by decide)
    rw [Nat.add_zero, Nat.mul_one] at g1 g2
    generalize xs[i] = X at *
    change _ = some (Value.int .i64 (X : Nat)) at g1
    change _ = some (Value.int .i64 (X : Nat)) at g2
    have z0 : (0 ≤ (i : Int)) = True := by simp
    simp -implicitDefEqProofs only [go_sem, ↓aj, ↓ah, ak, Nat.reduceBEq, ↓reduceIte, reduceCtorEq, Nat.reduceEqDiff, Nat.reduceAdd, Nat.reduceLeDiff, Int.reduceEq, Int.reduceLT, Int.reduceLE, Int.reduceAdd, Int.reduceToNat, Int.reduceNeg, Nat.reduceMul, Nat.reduceSub, Int.reduceBNe, Int.reduceBEq, h0, h1, h5, hvx, him, Int.ofNat_lt, decide_true, Tryz.underlying30]
    refine bI.of [(0, false, []), (1, false, []), (2, false, []), (3, false, []), (4, false, []), (5, false, []), (6, false, []), (7, false, []), (8, false, [])] [] [] (by kernel_rfl) ?_
    simp -implicitDefEqProofs only [go_sem, ↓aj, ↓ah, ak, Nat.reduceBEq, ↓reduceIte, reduceCtorEq, Nat.reduceEqDiff, Nat.reduceAdd, Nat.reduceLeDiff, Int.reduceEq, Int.reduceLT, Int.reduceLE, Int.reduceAdd, Int.reduceToNat, Int.reduceNeg, Nat.reduceMul, Nat.reduceSub, Int.reduceBNe, Int.reduceBEq, h0, h1, h5, hvx, hvx2, him, Int.ofNat_lt, decide_true, Int.natCast_nonneg, and_self, Int.toNat_natCast, hcx, hcx2, g1, g2, asz3, Tryz.underlying30, Tryz.underlying3, Option.map_some, show ((X : Int) != (X : Int)) = false by simp, w1, z0, and_self, Int.toNat_natCast, Nat.mul_one]
    exact ⟨xs.length - (i + 1), by omega, i + 1, rfl, by omega, rfl⟩
  · obtain rfl : i = xs.length := by omega
    simp -implicitDefEqProofs only [go_sem, ↓aj, ↓ah, ak, Nat.reduceBEq, ↓reduceIte, reduceCtorEq, Nat.reduceEqDiff, Nat.reduceAdd, Nat.reduceLeDiff, Int.reduceEq, Int.reduceLT, Int.reduceLE, Int.reduceAdd, Int.reduceToNat, Int.reduceNeg, Nat.reduceMul, Nat.reduceSub, Int.reduceBNe, Int.reduceBEq, h0, h1, h5, hva, Int.ofNat_lt, Nat.lt_irrefl, decide_false, Tryz.underlying30]
    exact hk
structure NdR (H : Hp) (n : Nd) (kv av dv : Value) : Prop where
  kid : Rws H kv 1 (n.kids.map fun c => [Value.int .i64 (c : Nat)])
  att : Rws H av 4 (n.atts.map attC)
  dcl : Rws H dv 2 (n.dcls.map dclC)
theorem NdR.sub {H H' : Hp} {n : Nd} {kv av dv : Value} (h : NdR H n kv av dv) (hs : ∀ e ∈ H, e ∈ H') : NdR H' n kv av dv := ⟨h.kid.sub hs, h.att.sub hs, h.dcl.sub hs⟩
theorem Ap.full {v : Value} {ns : List Nd} {cs : List (List Value)} {h : Hp} (hT : Ap v ns cs h) {i : Nat} {n : Nd} (hi : ns[i]? = some n) :
    ∃ B kv av dv, v = .slice (some ⟨B, 0, some 0⟩) ns.length ns.length ∧ (B, Ob.cells cs.flatten 34 true) ∈ h ∧ cut cs.flatten (i * 9) 9 = some (ndC n kv av dv) ∧ (∀ j, j < 9 → cs.flatten[i * 9 + j]? = (ndC n kv av dv)[j]?) ∧ NdR h n kv av dv := by
  obtain ⟨hn, hx, rfl, hG, hN⟩ := hT.rows
  obtain ⟨cl, c9⟩ := hN.len
  have hil := (List.getElem?_eq_some_iff.1 hi).1
  obtain ⟨B, hv, hB⟩ := GV.blk hG (by omega)
  obtain ⟨c, h1, h2, h3, a1, a2, ⟨kv, av, dv, hk, ha, hd, rfl, rfl, gk, ga, gd⟩, _⟩ := hN.at hi
  refine ⟨B, kv, av, dv, hv, by rw [hB]; simp, jD c9 a1, fun j hj => flat_get c9 a1 hj, ⟨?_, ?_, ?_⟩⟩
  · have := GV.rows (r := []) (cs := n.kids.map fun c => [Value.int .i64 (c : Nat)]) (n := n.kids.length) (sz := 1) (e := 3) (hg := hk) (v := kv) (by
      have e : (n.kids.map fun c => [Value.int .i64 (c : Nat)]).flatten = kK n.kids := by
        unfold kK
        induction n.kids with
        | nil => rfl
        | cons a l ih => simp only [List.map_cons, List.flatten_cons, ih]; rfl
      rw [e]; exact gk) (fun c hc => by obtain ⟨d, _, rfl⟩ := List.mem_map.1 hc; rfl) (List.length_map _)
    exact this.sub fun e he => by rw [a2]; simp at he ⊢; simp [he]
  · have := GV.rows (r := []) (cs := n.atts.map attC) (n := n.atts.length) (sz := 4) (e := 52) (hg := ha) (v := av) ga (fun c hc => by obtain ⟨d, _, rfl⟩ := List.mem_map.1 hc; rfl) (List.length_map _)
    exact this.sub fun e he => by rw [a2]; simp at he ⊢; simp [he]
  · exact (lu (r := []) gd).sub fun e he => by rw [a2]; simp at he ⊢; simp [he]
set_option maxRecDepth 10000 in
theorem CO (st : St) (r : Hp) (n : Nd) (kv av dv kv' av' dv' : Value) (r1 : NdR r n kv av dv) (r2 : NdR r n kv' av' dv') (hb : n.kids.length ≤ 1000000 ∧ n.atts.length ≤ 1000000 ∧ n.dcls.length ≤ 1000000) (hO : Own st r) (k q : Value → St → Prop) (hk : ∀ st', Own st' r → k (.bool true) st') : ay (C base w0 G) 14 [.agg (ndC n kv av dv).toArray, .agg (ndC n kv' av' dv').toArray] st k q := by
  obtain ⟨b1, b2, b3⟩ := hb
  obtain ⟨ka, kc, hkv, _⟩ := r1.kid.isSlice
  obtain ⟨ka', kc', hkv', _⟩ := r2.kid.isSlice
  obtain ⟨aa, ac, hav, _⟩ := r1.att.isSlice
  obtain ⟨aa', ac', hav', _⟩ := r2.att.isSlice
  obtain ⟨da, dc, hdv, _⟩ := r1.dcl.isSlice
  obtain ⟨da', dc', hdv', _⟩ := r2.dcl.isSlice
  rw [List.length_map] at hkv hkv' hav hav' hdv hdv'
  subst hkv hkv' hav hav' hdv hdv'
  refine ay.of (cx := C base w0 G) mixed Tryz.func14 rfl (by kernel_rfl) (by simp [Tryz.ntmps14]) ?_
  simp only [Tryz.results14]
  have ho1 := (hO.new (.cells (ndC n (.slice ka n.kids.length kc) (.slice aa n.atts.length ac) (.slice da n.dcls.length dc)) 34 true)).new (.cells (ndC n (.slice ka' n.kids.length kc') (.slice aa' n.atts.length ac') (.slice da' n.dcls.length dc')) 34 true)
  have hc2 := ho1.head
  have hc1 := ho1.tail.head
  have hne : ¬ st.n = st.n + 1 := by omega
  have hne' : ¬ st.n + 1 = st.n := by omega
  have q1 : ((n.atts.length : Int) != (n.atts.length : Int)) = false := by simp
  have q2 : ((n.dcls.length : Int) != (n.dcls.length : Int)) = false := by simp
  unfold ndC at hc1 hc2
  simp -implicitDefEqProofs only [go_sem, ↓aj, ↓ah, ak, Nat.reduceBEq, ↓reduceIte, reduceCtorEq, Nat.reduceEqDiff, Nat.reduceAdd, Nat.reduceLeDiff, Int.reduceEq, Int.reduceLT, Int.reduceLE, Int.reduceAdd, Int.reduceToNat, Int.reduceNeg, Nat.reduceMul, Nat.reduceSub, Int.reduceBNe, Int.reduceBEq, List.append_eq, List.cons_append, List.nil_append, abox, ndC, hne, hne', nD, kY, nE, xI, xJ, Dh, eO, dQ, xK, asz3, asz9, qc, Tryz.underlying3, Tryz.underlying9, Tryz.underlying30, List.getElem?_cons_zero, List.getElem?_cons_succ, eH, decide_true, Bool.not_true, show (n.kind != n.kind) = false by simp, show (n.par != n.par) = false by simp]
  refine au.enter Tryz.func24 rfl (by kernel_rfl) (CK _ _ _ _ n.kids b1 (r1.kid.sub fun e he => List.mem_cons_of_mem _ (List.mem_cons_of_mem _ he)) (r2.kid.sub fun e he => List.mem_cons_of_mem _ (List.mem_cons_of_mem _ he)) ho1 _ _ ?_)
  simp -implicitDefEqProofs only [go_sem, ↓aj, ↓ah, ak, Nat.reduceBEq, ↓reduceIte, reduceCtorEq, Nat.reduceEqDiff, Nat.reduceAdd, Nat.reduceLeDiff, Int.reduceEq, Int.reduceLT, Int.reduceLE, Int.reduceAdd, Int.reduceToNat, Int.reduceNeg, Nat.reduceMul, Nat.reduceSub, Int.reduceBNe, Int.reduceBEq, List.append_eq, List.cons_append, List.nil_append, ndC, hne, hne', eO, dQ, ko, iK, Tryz.underlying31, Tryz.underlying32, hc1, hc2, cut1, List.getElem?_cons_zero, List.getElem?_cons_succ, q1, q2, decide_true, Bool.not_true, Bool.not_false]
  change Own ((st.new (.cells [.int .i64 n.kind, .int .i64 n.par, .slice ka n.kids.length kc, .string (tx n.pre), .string (tx n.loc), .string (tx n.spc), .slice aa n.atts.length ac, .slice da n.dcls.length dc, .string (tx n.val)] 34 true)).new (.cells [.int .i64 n.kind, .int .i64 n.par, .slice ka' n.kids.length kc', .string (tx n.pre), .string (tx n.loc), .string (tx n.spc), .slice aa' n.atts.length ac', .slice da' n.dcls.length dc', .string (tx n.val)] 34 true)) _ at ho1
  change ((st.new (.cells [.int .i64 n.kind, .int .i64 n.par, .slice ka n.kids.length kc, .string (tx n.pre), .string (tx n.loc), .string (tx n.spc), .slice aa n.atts.length ac, .slice da n.dcls.length dc, .string (tx n.val)] 34 true)).new (.cells [.int .i64 n.kind, .int .i64 n.par, .slice ka' n.kids.length kc', .string (tx n.pre), .string (tx n.loc), .string (tx n.spc), .slice aa' n.atts.length ac', .slice da' n.dcls.length dc', .string (tx n.val)] 34 true)).H st.n = _ at hc1
  change ((st.new (.cells [.int .i64 n.kind, .int .i64 n.par, .slice ka n.kids.length kc, .string (tx n.pre), .string (tx n.loc), .string (tx n.spc), .slice aa n.atts.length ac, .slice da n.dcls.length dc, .string (tx n.val)] 34 true)).new (.cells [.int .i64 n.kind, .int .i64 n.par, .slice ka' n.kids.length kc', .string (tx n.pre), .string (tx n.loc), .string (tx n.spc), .slice aa' n.atts.length ac', .slice da' n.dcls.length dc', .string (tx n.val)] 34 true)).H (st.n + 1) = _ at hc2
  generalize hst : ((st.new (Ob.cells [.int .i64 n.kind, .int .i64 n.par, .slice ka n.kids.length kc, .string (tx n.pre), .string (tx n.loc), .string (tx n.spc), .slice aa n.atts.length ac, .slice da n.dcls.length dc, .string (tx n.val)] 34 true)).new (Ob.cells [.int .i64 n.kind, .int .i64 n.par, .slice ka' n.kids.length kc', .string (tx n.pre), .string (tx n.loc), .string (tx n.spc), .slice aa' n.atts.length ac', .slice da' n.dcls.length dc', .string (tx n.val)] 34 true)) = s0 at *
  refine ⟨fun m ρ s => ∃ i : Nat, m = n.atts.length - i ∧ i ≤ n.atts.length ∧ ρ 2 = .pointer (some ⟨st.n, 0, none⟩) ∧ ρ 3 = .pointer (some ⟨st.n + 1, 0, none⟩) ∧ ρ 5 = .int .i64 i ∧ s0 = s, ⟨_, 0, rfl, Nat.zero_le _, rfl, rfl, rfl, rfl⟩, ?_⟩
  rintro _ ρ s ⟨i, rfl, hi, h2, h3, h5, rfl⟩
  by_cases him : i < n.atts.length
  · obtain ⟨x, o, sp, c', ccs, ty, own, hvx, hmem, hcut⟩ := r1.att.mem (i := i) (l := attC n.atts[i]) (by simp [him])
    obtain ⟨x2, o2, sp2, c2', ccs2, ty2, own2, hvx2, hmem2, hcut2⟩ := r2.att.mem (i := i) (l := attC n.atts[i]) (by simp [him])
    rw [List.length_map] at hvx hvx2
    injection hvx with hvx _ hcc
    injection hvx2 with hvx2 _ hcc2
    subst hvx hvx2 hcc hcc2
    have hcx := ho1.get (List.mem_cons_of_mem _ (List.mem_cons_of_mem _ hmem))
    have hcx2 := ho1.get (List.mem_cons_of_mem _ (List.mem_cons_of_mem _ hmem2))
    have w1 : IntKind.i64.wrap ((i : Int) + 1) = ((i + 1 : Nat) : Int) := by rw [aS (by omega)]; rfl
    have hq := Jb n.atts[i]
    generalize n.atts[i] = X at *
    simp -implicitDefEqProofs only [go_sem, ↓aj, ↓ah, ak, Nat.reduceBEq, ↓reduceIte, reduceCtorEq, Nat.reduceEqDiff, Nat.reduceAdd, Nat.reduceLeDiff, Int.reduceEq, Int.reduceLT, Int.reduceLE, Int.reduceAdd, Int.reduceToNat, Int.reduceNeg, Nat.reduceMul, Nat.reduceSub, Int.reduceBNe, Int.reduceBEq, h2, h3, h5, hc1, hc2, hne, hne', him, Int.ofNat_lt, decide_true, Tryz.underlying31, eO, cut1, ko, List.getElem?_cons_zero, List.getElem?_cons_succ]
    refine bI.of [(0, false, []), (1, false, []), (2, false, []), (3, false, []), (4, false, []), (5, false, []), (6, false, []), (7, false, []), (8, false, []), (9, false, []), (10, false, [])] [] [] (by kernel_rfl) ?_
    simp -implicitDefEqProofs only [go_sem, ↓aj, ↓ah, ak, Nat.reduceBEq, ↓reduceIte, reduceCtorEq, Nat.reduceEqDiff, Nat.reduceAdd, Nat.reduceLeDiff, Int.reduceEq, Int.reduceLT, Int.reduceLE, Int.reduceAdd, Int.reduceToNat, Int.reduceNeg, Nat.reduceMul, Nat.reduceSub, Int.reduceBNe, Int.reduceBEq, h2, h3, h5, hc1, hc2, hne, hne', him, Int.ofNat_lt, decide_true, Int.natCast_nonneg, and_self, Int.toNat_natCast, hcx, hcx2, hcut, hcut2, iL, ko, Tryz.underlying31, Tryz.underlying52, Option.map_some, I9, hq, Bool.not_true, w1, eO, cut1, List.getElem?_cons_zero, List.getElem?_cons_succ]
    exact ⟨n.atts.length - (i + 1), by omega, i + 1, rfl, by omega, rfl⟩
  obtain rfl : i = n.atts.length := by omega
  simp -implicitDefEqProofs only [go_sem, ↓aj, ↓ah, ak, Nat.reduceBEq, ↓reduceIte, reduceCtorEq, Nat.reduceEqDiff, Nat.reduceAdd, Nat.reduceLeDiff, Int.reduceEq, Int.reduceLT, Int.reduceLE, Int.reduceAdd, Int.reduceToNat, Int.reduceNeg, Nat.reduceMul, Nat.reduceSub, Int.reduceBNe, Int.reduceBEq, h2, h3, h5, hc1, hc2, hne, hne', Int.ofNat_lt, Nat.lt_irrefl, decide_false, Tryz.underlying31, eO, cut1, ko, List.getElem?_cons_zero, List.getElem?_cons_succ]
  refine ⟨fun m ρ s => ∃ i : Nat, m = n.dcls.length - i ∧ i ≤ n.dcls.length ∧ ρ 2 = .pointer (some ⟨st.n, 0, none⟩) ∧ ρ 3 = .pointer (some ⟨st.n + 1, 0, none⟩) ∧ ρ 6 = .int .i64 i ∧ s0 = s, ⟨_, 0, rfl, Nat.zero_le _, h2, h3, rfl, rfl⟩, ?_⟩
  rintro _ ρ s ⟨i, rfl, hi, h2, h3, h5, rfl⟩
  by_cases him : i < n.dcls.length
  · obtain ⟨x, o, sp, c', ccs, ty, own, hvx, hmem, hcut⟩ := r1.dcl.mem (i := i) (l := dclC n.dcls[i]) (by simp [him])
    obtain ⟨x2, o2, sp2, c2', ccs2, ty2, own2, hvx2, hmem2, hcut2⟩ := r2.dcl.mem (i := i) (l := dclC n.dcls[i]) (by simp [him])
    rw [List.length_map] at hvx hvx2
    injection hvx with hvx _ hcc
    injection hvx2 with hvx2 _ hcc2
    subst hvx hvx2 hcc hcc2
    have hcx := ho1.get (List.mem_cons_of_mem _ (List.mem_cons_of_mem _ hmem))
    have hcx2 := ho1.get (List.mem_cons_of_mem _ (List.mem_cons_of_mem _ hmem2))
    have w1 : IntKind.i64.wrap ((i : Int) + 1) = ((i + 1 : Nat) : Int) := by rw [aS (by omega)]; rfl
    have hq := Jc n.dcls[i]
    generalize n.dcls[i] = X at *
    simp -implicitDefEqProofs only [go_sem, ↓aj, ↓ah, ak, Nat.reduceBEq, ↓reduceIte, reduceCtorEq, Nat.reduceEqDiff, Nat.reduceAdd, Nat.reduceLeDiff, Int.reduceEq, Int.reduceLT, Int.reduceLE, Int.reduceAdd, Int.reduceToNat, Int.reduceNeg, Nat.reduceMul, Nat.reduceSub, Int.reduceBNe, Int.reduceBEq, h2, h3, h5, hc1, hc2, hne, hne', him, Int.ofNat_lt, decide_true, Tryz.underlying32, dQ, cut1, iK, List.getElem?_cons_zero, List.getElem?_cons_succ]
    refine bI.of [(0, false, []), (1, false, []), (2, false, []), (3, false, []), (4, false, []), (5, false, []), (6, false, []), (7, false, []), (8, false, []), (9, false, []), (10, false, [])] [] [] (by kernel_rfl) ?_
    simp -implicitDefEqProofs only [go_sem, ↓aj, ↓ah, ak, Nat.reduceBEq, ↓reduceIte, reduceCtorEq, Nat.reduceEqDiff, Nat.reduceAdd, Nat.reduceLeDiff, Int.reduceEq, Int.reduceLT, Int.reduceLE, Int.reduceAdd, Int.reduceToNat, Int.reduceNeg, Nat.reduceMul, Nat.reduceSub, Int.reduceBNe, Int.reduceBEq, h2, h3, h5, hc1, hc2, hne, hne', him, Int.ofNat_lt, decide_true, Int.natCast_nonneg, and_self, Int.toNat_natCast, hcx, hcx2, hcut, hcut2, kH, iK, Tryz.underlying32, Tryz.underlying62, Option.map_some, Ja, hq, Bool.not_true, w1, dQ, cut1, List.getElem?_cons_zero, List.getElem?_cons_succ]
    exact ⟨n.dcls.length - (i + 1), by omega, i + 1, rfl, by omega, rfl⟩
  obtain rfl : i = n.dcls.length := by omega
  simp -implicitDefEqProofs only [go_sem, ↓aj, ↓ah, ak, Nat.reduceBEq, ↓reduceIte, reduceCtorEq, Nat.reduceEqDiff, Nat.reduceAdd, Nat.reduceLeDiff, Int.reduceEq, Int.reduceLT, Int.reduceLE, Int.reduceAdd, Int.reduceToNat, Int.reduceNeg, Nat.reduceMul, Nat.reduceSub, Int.reduceBNe, Int.reduceBEq, h2, h3, h5, hc1, hc2, hne, hne', Int.ofNat_lt, Nat.lt_irrefl, decide_false, Tryz.underlying32, dQ, cut1, iK, List.getElem?_cons_zero, List.getElem?_cons_succ]
  exact hk _ ho1.tail.tail
def DocV (H : Hp) (v : Value) (ns : List Nd) : Prop := ∃ cs : List (List Value), cs.length = ns.length ∧ Rws H v 9 cs ∧ ∀ (i : Nat) (n : Nd), ns[i]? = some n → ∃ kv av dv, cs[i]? = some (ndC n kv av dv) ∧ NdR H n kv av dv
theorem DocV.sub {H H' : Hp} {v : Value} {ns : List Nd} (h : DocV H v ns) (hs : ∀ e ∈ H, e ∈ H') : DocV H' v ns := by
  obtain ⟨cs, h1, h2, h3⟩ := h
  exact ⟨cs, h1, h2.sub hs, fun i n hi => by obtain ⟨kv, av, dv, a, b⟩ := h3 i n hi; exact ⟨kv, av, dv, a, b.sub hs⟩⟩
theorem DocV.isSlice {H : Hp} {v : Value} {ns : List Nd} (h : DocV H v ns) : ∃ a c, v = .slice a ns.length c := by
  obtain ⟨cs, h1, h2, h3⟩ := h
  obtain ⟨a, c, h, _⟩ := h2.isSlice
  exact ⟨a, c, by rw [← h1]; exact h⟩
theorem DocV.at {H : Hp} {v : Value} {ns : List Nd} (h : DocV H v ns) {i : Nat} {n : Nd} (hi : ns[i]? = some n) :
    ∃ x o sp c ccs ty own kv av dv, v = .slice (some ⟨x, o, sp⟩) ns.length c ∧ (x, Ob.cells ccs ty own) ∈ H ∧ cut ccs (o + i * 9) 9 = some (ndC n kv av dv) ∧ (∀ j, j < 9 → ccs[o + i * 9 + j]? = (ndC n kv av dv)[j]?) ∧ NdR H n kv av dv := by
  obtain ⟨cs, h1, h2, h3⟩ := h
  obtain ⟨kv, av, dv, a, b⟩ := h3 i n hi
  obtain ⟨x, o, sp, c, ccs, ty, own, g1, g2, g3⟩ := h2.mem a
  exact ⟨x, o, sp, c, ccs, ty, own, kv, av, dv, by rw [← h1]; exact g1, g2, g3, fun j hj => gL g3 hj, b⟩
theorem DocH.view {v : Value} {ns : List Nd} {h : Hp} (hD : DocH v ns h) : DocV h v ns := by
  obtain ⟨cs, hn, hx, rfl, hG, hN⟩ := hD
  have hT : Ap v ns cs (hn ++ hx) := ⟨hn, hx, rfl, hG, hN⟩
  obtain ⟨cl, c9⟩ := hN.len
  refine ⟨cs, cl, by
    have := GV.rows (r := hx) hG c9 cl
    exact this, fun i n hi => ?_⟩
  obtain ⟨B, kv, av, dv, _, _, a3, _, a5⟩ := hT.full hi
  have hil := (List.getElem?_eq_some_iff.1 hi).1
  refine ⟨kv, av, dv, ?_, a5⟩
  obtain ⟨c, hc⟩ : ∃ c, cs[i]? = some c := ⟨cs[i]'(by omega), by simp⟩
  rw [hc]
  rw [jD c9 hc] at a3
  exact a3
def Small (ns : List Nd) : Prop := ns.length ≤ 1000000 ∧ ∀ n ∈ ns, n.kids.length ≤ 1000000 ∧ n.atts.length ≤ 1000000 ∧ n.dcls.length ≤ 1000000
set_option maxRecDepth 10000 in
theorem um (st : St) (r : Hp) (v v' : Value) (ns : List Nd) (h1 : DocV r v ns) (h2 : DocV r v' ns) (hb : Small ns) (hO : Own st r) (k q : Value → St → Prop) (hk : ∀ st', Own st' r → k (.bool true) st') : ay (C base w0 G) 13 [v, v'] st k q := by
  obtain ⟨aa, ca, hva⟩ := h1.isSlice
  obtain ⟨ab, cb, hvb⟩ := h2.isSlice
  obtain ⟨b0, b1⟩ := hb
  refine ay.of (cx := C base w0 G) mixed Tryz.func13 rfl (by kernel_rfl) (by simp [Tryz.ntmps13]) ?_
  simp only [Tryz.results13]
  simp -implicitDefEqProofs only [go_sem, ↓aj, ↓ah, ak, Nat.reduceBEq, ↓reduceIte, reduceCtorEq, Nat.reduceEqDiff, Nat.reduceAdd, Nat.reduceLeDiff, Int.reduceEq, Int.reduceLT, Int.reduceLE, Int.reduceAdd, Int.reduceToNat, Int.reduceNeg, Nat.reduceMul, Nat.reduceSub, Int.reduceBNe, Int.reduceBEq, hva, hvb, Tryz.underlying24, show ((ns.length : Int) != (ns.length : Int)) = false by simp]
  refine ⟨fun m ρ s => ∃ i : Nat, m = ns.length - i ∧ i ≤ ns.length ∧ ρ 0 = v ∧ ρ 1 = v' ∧ ρ 5 = .int .i64 i ∧ Own s r, ⟨_, 0, rfl, Nat.zero_le _, hva.symm, hvb.symm, rfl, hO⟩, ?_⟩
  rintro _ ρ s ⟨i, rfl, hi, g0, g1, g5, hs⟩
  by_cases him : i < ns.length
  · obtain ⟨x, o, sp, c, ccs, ty, own, kv, av, dv, hvx, hmem, hcut, _, r1⟩ := h1.at (i := i) (n := ns[i]) (by simp [him])
    obtain ⟨x2, o2, sp2, c2, ccs2, ty2, own2, kv2, av2, dv2, hvx2, hmem2, hcut2, _, r2⟩ := h2.at (i := i) (n := ns[i]) (by simp [him])
    have hcx := hs.get hmem
    have hcx2 := hs.get hmem2
    have w1 : IntKind.i64.wrap ((i : Int) + 1) = ((i + 1 : Nat) : Int) := by rw [aS (by omega)]; rfl
    have hbn := b1 ns[i] (List.getElem_mem ..)
    generalize ns[i] = X at *
    simp -implicitDefEqProofs only [go_sem, ↓aj, ↓ah, ak, Nat.reduceBEq, ↓reduceIte, reduceCtorEq, Nat.reduceEqDiff, Nat.reduceAdd, Nat.reduceLeDiff, Int.reduceEq, Int.reduceLT, Int.reduceLE, Int.reduceAdd, Int.reduceToNat, Int.reduceNeg, Nat.reduceMul, Nat.reduceSub, Int.reduceBNe, Int.reduceBEq, g0, g1, g5, hvx, him, Int.ofNat_lt, decide_true, Tryz.underlying24]
    refine bI.of [(0, false, []), (1, false, []), (2, false, []), (3, false, []), (4, false, []), (5, false, []), (6, false, []), (7, false, []), (8, false, []), (9, false, [])] [] [] (by kernel_rfl) ?_
    simp -implicitDefEqProofs only [go_sem, ↓aj, ↓ah, ak, Nat.reduceBEq, ↓reduceIte, reduceCtorEq, Nat.reduceEqDiff, Nat.reduceAdd, Nat.reduceLeDiff, Int.reduceEq, Int.reduceLT, Int.reduceLE, Int.reduceAdd, Int.reduceToNat, Int.reduceNeg, Nat.reduceMul, Nat.reduceSub, Int.reduceBNe, Int.reduceBEq, g0, g1, g5, hvx, hvx2, him, Int.ofNat_lt, decide_true, hcx, hcx2, hcut, hcut2, dW, Tryz.underlying24, Tryz.underlying34, Option.map_some, Int.natCast_nonneg, and_self, Int.toNat_natCast]
    refine au.enter Tryz.func14 rfl (by kernel_rfl) (CO _ _ X kv av dv kv2 av2 dv2 r1 r2 hbn hs _ _ fun s1 ho1 => ?_)
    simp -implicitDefEqProofs only [go_sem, ↓aj, ↓ah, ak, Nat.reduceBEq, ↓reduceIte, reduceCtorEq, Nat.reduceEqDiff, Nat.reduceAdd, Nat.reduceLeDiff, Int.reduceEq, Int.reduceLT, Int.reduceLE, Int.reduceAdd, Int.reduceToNat, Int.reduceNeg, Nat.reduceMul, Nat.reduceSub, Int.reduceBNe, Int.reduceBEq, g0, g1, g5, hvx, hvx2, him, Int.ofNat_lt, decide_true, w1, Bool.not_true]
    exact ⟨ns.length - (i + 1), by omega, i + 1, rfl, by omega, rfl, ho1⟩
  · obtain rfl : i = ns.length := by omega
    simp -implicitDefEqProofs only [go_sem, ↓aj, ↓ah, ak, Nat.reduceBEq, ↓reduceIte, reduceCtorEq, Nat.reduceEqDiff, Nat.reduceAdd, Nat.reduceLeDiff, Int.reduceEq, Int.reduceLT, Int.reduceLE, Int.reduceAdd, Int.reduceToNat, Int.reduceNeg, Nat.reduceMul, Nat.reduceSub, Int.reduceBNe, Int.reduceBEq, g0, g1, g5, hva, Int.ofNat_lt, Nat.lt_irrefl, decide_false, Tryz.underlying24]
    exact hk _ hs
end Go.Proofs.YtohgmkjhbacmpaaGreatDoor
set_option linter.unusedVariables false
set_option linter.unusedSimpArgs false
namespace Go.Proofs.YtohgmkjhbacmpaaGreatDoor
open Go Go.Abs Go.RowKit Go.Xml
theorem DC : ∀ (f : Nat) {r r' : RS}, RI r → allR f r = .ok r' → RI r'
  | 0, r, r', h, ha => by
    unfold allR at ha
    split at ha
    · injection ha with ha; subst ha; exact h
    · cases ha
  | f + 1, r, r', h, ha => by
    unfold allR at ha
    split at ha
    · injection ha with ha; subst ha; exact h
    · rename_i hne
      split at ha
      · cases ha
      · rename_i r1 h1
        exact DC f (kM h hne h1).1 ha
theorem qC {b : Tx} {ns : List Nd} (h : bL b = .ok ns) : ns.length ≤ 4096 ∧ ∀ n ∈ ns, n.dcls.length ≤ 1000000 := by
  unfold bL at h
  split at h
  · cases h
  rename_i h64
  split at h
  · cases h
  unfold allF at h
  split at h
  · cases h
  rename_i s1 h1
  split at h
  · cases h
  rename_i r h2
  split at h
  · injection h with h
    subst h
    have hl := oV b
    have hf := tq h1
    have hI := DC _ (RI.start s1 (by omega)) h2
    exact ⟨hI.many, hI.dcl⟩
  · cases h
def AI (ns : List Nd) : Prop := ∀ n ∈ ns, n.atts.length ≤ 32
theorem AI.kid {ns : List Nd} (h : AI ns) (p c : Nat) : AI (aJ ns p c) := fun n hn => by
  rcases vO hn with h1 | ⟨m, h1, rfl⟩
  · exact h n h1
  · exact h m h1
theorem AI.snoc {ns : List Nd} (h : AI ns) {m : Nd} (hm : m.atts.length ≤ 32) : AI (ns ++ [m]) := fun n hn => by
  rcases List.mem_append.1 hn with h1 | h1
  · exact h n h1
  · rw [List.mem_singleton.1 h1]; exact hm
theorem yO {r r' : RS} {n : Nd} {i : Nat} (h : AI r.ns) (hn : n.atts.length ≤ 32) (ha : addF n r = .ok (i, r')) : AI r'.ns := by
  unfold addF at ha
  split at ha
  · cases ha
  · split at ha
    · injection ha with ha; injection ha with _ ha; rw [← ha]; exact h.snoc hn
    · injection ha with ha; injection ha with _ ha; rw [← ha]; exact (h.kid _ _).snoc hn
theorem uo {r r' : RS} {t : Tx} (h : AI r.ns) (ha : aR t r = .ok r') : AI r'.ns := by
  unfold aR at ha
  split at ha
  · injection ha with ha; rw [← ha]; exact h
  split at ha
  · cases ha
  split at ha
  · injection ha with ha
    rw [← ha]
    intro n hn
    obtain ⟨j, hj⟩ := List.mem_iff_getElem?.1 hn
    dsimp only at hj
    rw [List.getElem?_modify] at hj
    cases hx : r.ns[j]? with
    | none => rw [hx] at hj; cases hj
    | some m =>
      rw [hx] at hj
      change some _ = some n at hj
      injection hj with hj
      have := h m (List.mem_of_getElem? hx)
      rw [← hj]
      split <;> exact this
  · split at ha
    · rename_i g
      injection ha with ha
      rw [← ha]
      exact yO h (by simp [nd0]) g
    · cases ha
theorem pO {r : RS} {ds : List Dcl} : ∀ {l acc l' : List Att}, eZ r ds acc l = .ok l' → l'.length = acc.length + l.length
  | [], acc, l', h => by unfold eZ at h; injection h with h; rw [h]; rfl
  | a :: l, acc, l', h => by
    unfold eZ at h
    split at h
    · have := pO h; rw [this]; simp; omega
    · split at h
      · have := pO h; rw [this]; simp; omega
      · cases h
theorem uq : ∀ (f : Nat) {nms nms' : List Tx} {n n' : Nd} {s s' : Tx}, bE f nms n s = .ok (nms', n', s') → n'.atts.length + nms.length ≤ n.atts.length + nms'.length
  | 0, _, _, _, _, _, _, h => by cases h
  | f + 1, nms, nms', n, n', s, s', h => by
    unfold bE at h
    split at h
    · cases hn : bC (aD s).2 with
      | error e => rw [hn] at h; cases h
      | ok x =>
        obtain ⟨nm, s1⟩ := x
        rw [hn] at h
        dsimp only at h
        cases he : eqF s1 with
        | error e => rw [he] at h; cases h
        | ok s2 =>
          rw [he] at h
          dsimp only at h
          cases hq : gY s2 with
          | error e => rw [hq] at h; cases h
          | ok y =>
            obtain ⟨v, s3⟩ := y
            rw [hq] at h
            have := uq f h
            have hp : (bZ nm v n).atts.length ≤ n.atts.length + 1 := by
              unfold bZ
              split
              · simp
              split
              · split <;> simp
              · simp
            rw [List.length_append] at this
            simp at this
            omega
    · injection h with h
      injection h with h1 h2
      injection h2 with h2 _
      rw [← h1, ← h2]
      omega
theorem Fj {r r' : RS} (h : AI r.ns) (ha : aZ r = .ok r') : AI r'.ns := by
  unfold aZ at ha
  split at ha
  · cases ha
  cases hn : bC r.s with
  | error e => rw [hn] at ha; cases ha
  | ok x =>
    obtain ⟨nm, s1⟩ := x
    rw [hn] at ha
    dsimp only at ha
    cases hat : bE (s1.length + 1) [] (dF nm) s1 with
    | error e => rw [hat] at ha; cases ha
    | ok y =>
      obtain ⟨nms, n, s2⟩ := y
      rw [hat] at ha
      dsimp only at ha
      split at ha
      · cases ha
      split at ha
      · cases ha
      rename_i h32
      split at ha
      · cases ha
      cases hs : bg r n with
      | error e => rw [hs] at ha; cases ha
      | ok n' =>
        rw [hs] at ha
        dsimp only at ha
        split at ha
        · cases ha
        cases hd : addF n' { r with s := (hasF [62] (hasF [47] s2).2).2 } with
        | error e => rw [hd] at ha; cases ha
        | ok z =>
          obtain ⟨a, r1⟩ := z
          rw [hd] at ha
          dsimp only at ha
          injection ha with ha
          have hl := uq _ hat
          have hh : (dF nm).atts = [] := by unfold dF; split <;> rfl
          rw [hh] at hl
          have hl2 : n'.atts.length = n.atts.length := by
            unfold bg at hs
            split at hs
            · cases hs
            split at hs
            · split at hs
              · rename_i l' hx
                injection hs with hs
                have := pO hx
                rw [← hs]
                simpa using this
              · cases hs
            · cases hs
          have := yO (r := { r with s := (hasF [62] (hasF [47] s2).2).2 }) h (n := n') (by simp at hl; omega) hd
          rw [← ha]
          exact this
theorem uw {r r' : RS} {n : Nd} {s : Tx} (h : AI r.ns) (hn : n.atts.length ≤ 32) (ha : (if r.stk = [] then (.ok { r with s := s } : Ex RS) else match addF n { r with s := s } with | .error e => .error e | .ok (_, r') => .ok r') = .ok r') : AI r'.ns := by
  split at ha
  · injection ha with ha; rw [← ha]; exact h
  · cases hd : addF n { r with s := s } with
    | error e => rw [hd] at ha; cases ha
    | ok z =>
      obtain ⟨a, r1⟩ := z
      rw [hd] at ha
      injection ha with ha
      rw [← ha]
      exact yO (r := { r with s := s }) h hn hd
theorem G9 {r r' : RS} (h : AI r.ns) (ha : gq r = .ok r') : AI r'.ns := by
  unfold gq at ha
  split at ha
  · unfold aO at ha
    dsimp only at ha
    split at ha
    · cases ha
    · split at ha
      · exact uw h (n := { nd0 with kind := 3, val := _ }) (by simp [nd0]) ha
      · cases ha
  split at ha
  · cases ha
  split at ha
  · split at ha
    · cases ha
    · refine uo ?_ ha; exact h
  split at ha
  · unfold dx at ha
    dsimp only at ha
    split at ha
    · cases ha
    · split at ha
      · cases ha
      split at ha
      · exact uw h (n := { nd0 with kind := 4, loc := _, val := _ }) (by simp [nd0]) ha
      · split at ha
        · split at ha
          · cases ha
          · exact uw h (n := { nd0 with kind := 4, loc := _, val := _ }) (by simp [nd0]) ha
        · cases ha
  split at ha
  · unfold endF at ha
    dsimp only at ha
    split at ha
    · cases ha
    · split at ha
      · cases ha
      · split at ha
        · injection ha with ha; rw [← ha]; exact h
        · cases ha
  split at ha
  · refine Fj ?_ ha; exact h
  · injection ha with ha; rw [← ha]; exact h
theorem He {r r' : RS} (h : AI r.ns) (ha : aP r = .ok r') : AI r'.ns := by
  unfold aP at ha
  split at ha
  · exact G9 h ha
  split at ha
  · split at ha
    · cases ha
    · refine uo ?_ ha; exact h
  split at ha
  · cases ha
  unfold dw at ha
  split at ha
  · split at ha
    · injection ha with ha; rw [← ha]; exact h
    · cases ha
  split at ha
  · cases ha
  split at ha
  · cases ha
  · rename_i g
    injection ha with ha
    rw [← ha]
    have := uo h g
    exact this
theorem DF : ∀ (f : Nat) {r r' : RS}, AI r.ns → allR f r = .ok r' → AI r'.ns
  | 0, r, r', h, ha => by
    unfold allR at ha
    split at ha
    · injection ha with ha; subst ha; exact h
    · cases ha
  | f + 1, r, r', h, ha => by
    unfold allR at ha
    split at ha
    · injection ha with ha; subst ha; exact h
    · split at ha
      · cases ha
      · rename_i r1 h1
        exact DF f (He h h1) ha
theorem CP {b : Tx} {ns : List Nd} (h : bL b = .ok ns) : AI ns := by
  unfold bL at h
  split at h
  · cases h
  split at h
  · cases h
  unfold allF at h
  split at h
  · cases h
  split at h
  · cases h
  rename_i r h2
  split at h
  · injection h with h
    subst h
    exact DF _ (fun n hn => by cases hn) h2
  · cases h
theorem DI : ∀ {ns : List Nd} {i : Nat} {n : Nd}, ns[i]? = some n → n.kids.length ≤ bM ns
  | [], i, n, h => by simp at h
  | m :: ns, 0, n, h => by
    simp at h; subst h
    show _ ≤ m.kids.length + bM ns
    omega
  | m :: ns, i + 1, n, h => by
    have := DI (ns := ns) (i := i) (by simpa using h)
    show _ ≤ m.kids.length + bM ns
    omega
theorem AL {b : Tx} {ns : List Nd} (hp : bL b = .ok ns) {i : Nat} {n : Nd} (hn : ns[i]? = some n) : n.kids.length ≤ 1000000 ∧ n.atts.length ≤ 1000000 ∧ n.dcls.length ≤ 1000000 := by
  have hm := List.mem_of_getElem? hn
  obtain ⟨h1, h2⟩ := qC hp
  obtain ⟨_, h3⟩ := Am hp
  have h4 := CP hp n hm
  have h5 := DI hn
  exact ⟨by omega, by omega, h2 n hm⟩
end Go.Proofs.YtohgmkjhbacmpaaGreatDoor
set_option linter.unusedVariables false
set_option linter.unusedSimpArgs false
namespace Go.Proofs.YtohgmkjhbacmpaaGreatDoor
open Go Go.Abs Go.RowKit Go.Xml
variable {base : Nat} {w0 : World} {G : Nat}
theorem uy : ∀ (l : Tx) (p c : UInt8), bO p (l ++ [c]) = bO p l ++ (if c = 10 ∧ l.getLastD p ≠ 13 then [13, c] else [c])
  | [], p, c => by
    show bO p [c] = _
    unfold bO
    show (if c = 10 ∧ p ≠ 13 then 13 :: c :: bO c [] else c :: bO c []) = [] ++ (if c = 10 ∧ p ≠ 13 then [13, c] else [c])
    split <;> rfl
  | d :: l, p, c => by
    rw [List.cons_append]
    conv => lhs; unfold bO
    rw [uy l d c, show (d :: l).getLastD p = l.getLastD d by cases l <;> rfl]
    conv => rhs; unfold bO
    split <;> rfl
theorem CQ (d : UInt8) (l : Tx) (p : UInt8) : (d :: l).getLastD p = l.getLastD d := by cases l <;> rfl
theorem uz : ∀ (l : Tx) (c p : UInt8), (l ++ [c]).getLastD p = c
  | [], c, p => rfl
  | d :: l, c, p => by rw [List.cons_append, CQ, uz l c d]
theorem Fp {s : Tx} {i : Nat} (h : i < s.length) : bO 0 (s.take (i + 1)) = bO 0 (s.take i) ++ (if s.getD i 0 = 10 ∧ (i = 0 ∨ s.getD (i - 1) 0 ≠ 13) then [13, s.getD i 0] else [s.getD i 0]) := by
  have e : s.take (i + 1) = s.take i ++ [s.getD i 0] := by
    rw [List.take_succ_eq_append_getElem h, List.getD_eq_getElem?_getD, List.getElem?_eq_getElem h]; rfl
  rw [e, uy]
  have e2 : ((s.take i).getLastD 0 ≠ 13) ↔ (i = 0 ∨ s.getD (i - 1) 0 ≠ 13) := by
    cases i with
    | zero => simp
    | succ i =>
      have : (s.take (i + 1)).getLastD 0 = s.getD i 0 := by
        rw [List.take_succ_eq_append_getElem (by omega), List.getD_eq_getElem?_getD, List.getElem?_eq_getElem (by omega), uz]
        rfl
      rw [this]
      simp
  by_cases h1 : s.getD i 0 = 10 ∧ (i = 0 ∨ s.getD (i - 1) 0 ≠ 13)
  · rw [if_pos h1, if_pos ⟨h1.1, e2.2 h1.2⟩]
  · rw [if_neg h1, if_neg (fun g => h1 ⟨g.1, e2.1 g.2⟩)]
theorem mod5 (a : Int) : ∃ x : Nat, (IntKind.i64.wrap (a.tmod 5 + 5)).tmod 5 = (x : Int) ∧ x < 5 := by
  have g1 := Int.tmod_lt_of_pos a (b := 5) (by decide)
  have g2 : -5 < a.tmod 5 := by
    by_cases h : a < 0
    · have h3 := Int.tmod_lt_of_pos (-a) (b := 5) (by decide)
      rw [Int.neg_tmod] at h3
      omega
    · have := Int.tmod_nonneg 5 (show 0 ≤ a by omega); omega
  rw [aS (by omega)]
  have h1 := Int.tmod_lt_of_pos (a.tmod 5 + 5) (b := 5) (by decide)
  have h2 := Int.tmod_nonneg 5 (show 0 ≤ a.tmod 5 + 5 by omega)
  exact ⟨((a.tmod 5 + 5).tmod 5).toNat, by omega, by omega⟩
def arR : List Value := [.string (tx (around 0)), .string (tx (around 1)), .string (tx (around 2)), .string (tx (around 3)), .string (tx (around 4))]
theorem DJ {i : Nat} (h : i < 5) : arR[i]? = some (.string (tx (around i))) := by
  match i, h with
  | 0, _ => rfl
  | 1, _ => rfl
  | 2, _ => rfl
  | 3, _ => rfl
  | 4, _ => rfl
theorem five {st : St} : aG Tryz.prog st 42 5 [(0, .string (tx (around 0))), (1, .string (tx (around 1))), (2, .string (tx (around 2))), (3, .string (tx (around 3))), (4, .string (tx (around 4)))] = some (.slice (some ⟨st.n, 0, none⟩) 5 5, st.new (.cells arR 9 true)) := by
  simp [aG, Tryz.underlying42, asz9, azc9, gM, zeros, isTuple, Value.cells, setL, List.replicate, arR]
def PR (l : Tx) (e : Int) (ns : List Nd) (h : Hp) (v : Value) : Prop := DocV h v ns ∧ Small ns ∧ (e = 0 ∧ bL l = .ok ns ∨ e ≠ 0 ∧ bL l = .error e ∧ ns = [])
theorem Hf {b : Tx} {ns : List Nd} (hp : bL b = .ok ns) : Small ns := by
  obtain ⟨h1, _⟩ := qC hp
  exact ⟨by omega, fun n hn => by obtain ⟨i, hi⟩ := List.mem_iff_getElem?.1 hn; exact AL hp hi⟩
theorem DK (h : Hp) : DocV h (.slice none 0 0) [] := ⟨[], rfl, .inl ⟨rfl, .inl rfl⟩, fun i n hi => by simp at hi⟩
set_option maxRecDepth 10000 in
theorem uY (st : St) (r : Hp) (X : Value) (l : Tx) (fr ln : Bool) (za zc : Int) (hM : dR w0) (hT : cO w0) (hX : Nb r X (nb8 l)) (hS : Sl Tryz.prog r X 1) (hO : Own st r) (k q : Value → St → Prop) (hk : ∀ st', k (.bool true) st') : ay (C base w0 3) 4 [X, .agg #[.bool fr, .bool ln, .int .i64 za, .int .i64 zc]] st k q := by
  obtain ⟨xa, xc, hxs⟩ := hX.isSlice
  rw [aB] at hxs
  obtain ⟨a, ha, ha5⟩ := mod5 za
  obtain ⟨c, hc, hc5⟩ := mod5 zc
  refine ay.of (cx := C base w0 3) mixed Tryz.func4 rfl (by kernel_rfl) (by simp [Tryz.ntmps4]) ?_
  simp only [Tryz.results4]
  have hO1 := hO.new (.cells [.bool fr, .bool ln, .int .i64 za, .int .i64 zc] 40 true)
  simp -implicitDefEqProofs only [go_sem, ↓aj, ↓ah, ak, Nat.reduceBEq, ↓reduceIte, reduceCtorEq, Nat.reduceEqDiff, Nat.reduceAdd, Nat.reduceLeDiff, Int.reduceEq, Int.reduceLT, Int.reduceLE, Int.reduceAdd, Int.reduceToNat, Int.reduceNeg, Nat.reduceMul, Nat.reduceSub, Int.reduceBNe, Int.reduceBEq, abox]
  generalize hbx : st.n = bx at *
  generalize hst : st.new _ = st1 at *
  have hXs := hX.sub (h' := (bx, Ob.cells [.bool fr, .bool ln, .int .i64 za, .int .i64 zc] 40 true) :: r) fun e he => List.mem_cons_of_mem _ he
  have hSs := hS.sub (h' := (bx, Ob.cells [.bool fr, .bool ln, .int .i64 za, .int .i64 zc] 40 true) :: r) fun e he => List.mem_cons_of_mem _ he
  clear hX hS
  refine au.enter Tryz.func8 rfl (by kernel_rfl) (mF _ _ hM hT hO1 _ _ fun s1 ho1 => ?_)
  by_cases hlen : l.length > 5000
  · simp -implicitDefEqProofs only [go_sem, ↓aj, ↓ah, ak, Nat.reduceBEq, ↓reduceIte, reduceCtorEq, Nat.reduceEqDiff, Nat.reduceAdd, Nat.reduceLeDiff, Int.reduceEq, Int.reduceLT, Int.reduceLE, Int.reduceAdd, Int.reduceToNat, Int.reduceNeg, Nat.reduceMul, Nat.reduceSub, Int.reduceBNe, Int.reduceBEq, Bool.not_true, hxs, Tryz.underlying22, show ((l.length : Int) > 5000) = True by simp; omega, decide_true]
    refine au.enter Tryz.func8 rfl (by kernel_rfl) (mF s1 _ hM hT ho1 _ _ fun s2 ho2 => ?_)
    simp -implicitDefEqProofs only [go_sem, ↓aj, ↓ah, ak, Nat.reduceBEq, ↓reduceIte, reduceCtorEq, Nat.reduceEqDiff, Nat.reduceAdd, Nat.reduceLeDiff, Int.reduceEq, Int.reduceLT, Int.reduceLE, Int.reduceAdd, Int.reduceToNat, Int.reduceNeg, Nat.reduceMul, Nat.reduceSub, Int.reduceBNe, Int.reduceBEq]
    exact hk _
  simp -implicitDefEqProofs only [go_sem, ↓aj, ↓ah, ak, Nat.reduceBEq, ↓reduceIte, reduceCtorEq, Nat.reduceEqDiff, Nat.reduceAdd, Nat.reduceLeDiff, Int.reduceEq, Int.reduceLT, Int.reduceLE, Int.reduceAdd, Int.reduceToNat, Int.reduceNeg, Nat.reduceMul, Nat.reduceSub, Int.reduceBNe, Int.reduceBEq, Bool.not_true, hxs, Tryz.underlying22, show ((l.length : Int) > 5000) = False by simp; omega, decide_false]
  rw [← hxs]
  refine au.enter Tryz.func12 rfl (by kernel_rfl) (Fh s1 _ X l hXs hSs (by omega) ho1 _ _ fun s2 ho2 => ?_)
  by_cases hbad : (bad l).isSome = true
  · have hb : decide (badV l ≥ 0) = true := by rw [qP]; exact hbad
    simp -implicitDefEqProofs only [go_sem, ↓aj, ↓ah, ak, Nat.reduceBEq, ↓reduceIte, reduceCtorEq, Nat.reduceEqDiff, Nat.reduceAdd, Nat.reduceLeDiff, Int.reduceEq, Int.reduceLT, Int.reduceLE, Int.reduceAdd, Int.reduceToNat, Int.reduceNeg, Nat.reduceMul, Nat.reduceSub, Int.reduceBNe, Int.reduceBEq, hb]
    refine au.enter Tryz.func8 rfl (by kernel_rfl) (mF s2 _ hM hT ho2 _ _ fun s3 ho3 => ?_)
    simp -implicitDefEqProofs only [go_sem, ↓aj, ↓ah, ak, Nat.reduceBEq, ↓reduceIte, reduceCtorEq, Nat.reduceEqDiff, Nat.reduceAdd, Nat.reduceLeDiff, Int.reduceEq, Int.reduceLT, Int.reduceLE, Int.reduceAdd, Int.reduceToNat, Int.reduceNeg, Nat.reduceMul, Nat.reduceSub, Int.reduceBNe, Int.reduceBEq]
    exact hk _
  have hb : decide (badV l ≥ 0) = false := by rw [qP]; simpa using hbad
  have hgood : Good l := (tQ l).1 (by cases hh : bad l with | none => rfl | some x => rw [hh] at hbad; simp at hbad)
  simp -implicitDefEqProofs only [go_sem, astr, ak, Nat.reduceBEq, ↓reduceIte, reduceCtorEq, Nat.reduceEqDiff, Nat.reduceAdd, Nat.reduceLeDiff, Int.reduceEq, Int.reduceLT, Int.reduceLE, Int.reduceAdd, Int.reduceToNat, Int.reduceNeg, Nat.reduceMul, Nat.reduceSub, Int.reduceBNe, Int.reduceBEq, hb]
  have hfive : ∀ st, aG Tryz.prog st 42 5 [(0, .string ⟨#[]⟩), (1, .string ⟨#[32, 10]⟩), (2, .string ⟨#[60, 33, 45, 45, 32, 45, 32, 45, 45, 62]⟩), (3, .string ⟨#[60, 63, 103, 111, 32, 111, 110, 63, 62]⟩), (4, .string ⟨#[9, 60, 33, 45, 45, 45, 45, 62, 10, 60, 63, 97, 63, 62]⟩)] = _ := fun st => five (st := st)
  refine kX (fun ρ s => s2 = s ∧ ρ 0 = X ∧ ρ 3 = .pointer (some ⟨bx, 0, none⟩) ∧ (hasF wXml l).1 = false) ?_ ?_
  · by_cases h5 : 5 ≤ l.length
    · obtain ⟨v5, hv5, hN5, hS5⟩ := hXs.part (t := 22) (lo := none) (hi := some (.int .i64 (5 : Nat))) (l := 0) (r := 5) hSs ho2 Tryz.underlying22 asz5 (fun c hc => jP (by rw [aB] at hc; omega)) (by omega) (by rw [aB]; omega)
      change aslice Tryz.prog s2 22 X none (some (.int .i64 5)) none = some v5 at hv5
      have hsrc := hN5.src ho2
      have e5 : (((nb8 l).drop 0).take (5 - 0)) = nb8 (l.take 5) := by simp [nb8, List.map_take]
      rw [e5, aB] at hsrc
      have ex : (⟨#[60, 63, 120, 109, 108]⟩ : ByteArray) = tx wXml := rfl
      obtain ⟨va5, vc5, hvs5⟩ := hN5.isSlice
      rw [hxs] at hv5
      subst hvs5
      have hn5 : ((l.length : Int) ≥ 5) = True := eq_true (by omega)
      cases hpre : wXml.isPrefixOf l with
      | true =>
        have e : decide (l.take 5 = wXml) = true := by
          obtain ⟨t, ht⟩ := List.isPrefixOf_iff_prefix.1 hpre
          rw [← ht]; simp [wXml]
        simp -implicitDefEqProofs only [go_sem, ↓aj, ↓ah, ak, Nat.reduceBEq, ↓reduceIte, reduceCtorEq, Nat.reduceEqDiff, Nat.reduceAdd, Nat.reduceLeDiff, Int.reduceEq, Int.reduceLT, Int.reduceLE, Int.reduceAdd, Int.reduceToNat, Int.reduceNeg, Nat.reduceMul, Nat.reduceSub, Int.reduceBNe, Int.reduceBEq, hxs, hn5, hv5, ex, e, Tryz.underlying22, decide_true, gJ (l := l.take 5) Tryz.underlying22 Tryz.underlying5 Tryz.underlying9 hsrc ⟨_, _, _, rfl⟩, aA]
        exact hk _
      | false =>
        have e : decide (l.take 5 = wXml) = false := by
          rw [decide_eq_false_iff_not]
          intro e
          have : wXml <+: l := ⟨l.drop 5, by rw [← e, List.take_append_drop]⟩
          rw [List.isPrefixOf_iff_prefix.2 this] at hpre
          cases hpre
        simp -implicitDefEqProofs only [go_sem, ↓aj, ↓ah, ak, Nat.reduceBEq, ↓reduceIte, reduceCtorEq, Nat.reduceEqDiff, Nat.reduceAdd, Nat.reduceLeDiff, Int.reduceEq, Int.reduceLT, Int.reduceLE, Int.reduceAdd, Int.reduceToNat, Int.reduceNeg, Nat.reduceMul, Nat.reduceSub, Int.reduceBNe, Int.reduceBEq, hxs, hn5, hv5, ex, e, Tryz.underlying22, decide_true, gJ (l := l.take 5) Tryz.underlying22 Tryz.underlying5 Tryz.underlying9 hsrc ⟨_, _, _, rfl⟩, aA]
        unfold hasF; rw [hpre]; rfl
    · have hn5 : ((l.length : Int) ≥ 5) = False := eq_false (by omega)
      simp -implicitDefEqProofs only [go_sem, ↓aj, ↓ah, ak, Nat.reduceBEq, ↓reduceIte, reduceCtorEq, Nat.reduceEqDiff, Nat.reduceAdd, Nat.reduceLeDiff, Int.reduceEq, Int.reduceLT, Int.reduceLE, Int.reduceAdd, Int.reduceToNat, Int.reduceNeg, Nat.reduceMul, Nat.reduceSub, Int.reduceBNe, Int.reduceBEq, hxs, hn5, Tryz.underlying22, decide_false]
      cases hpre : wXml.isPrefixOf l with
      | true => have := qU hpre; exact absurd this (by show ¬ (5 ≤ l.length); exact h5)
      | false => unfold hasF; rw [hpre]; rfl
  rintro ρ s' ⟨rfl, h0, h3, hx⟩
  have ho3 := ho2.new (.cells arR 9 true)
  have hXa := hXs.sub (h' := (s2.n, Ob.cells arR 9 true) :: (bx, Ob.cells [.bool fr, .bool ln, .int .i64 za, .int .i64 zc] 40 true) :: r) fun e he => List.mem_cons_of_mem _ he
  have hSa := hSs.sub (h' := (s2.n, Ob.cells arR 9 true) :: (bx, Ob.cells [.bool fr, .bool ln, .int .i64 za, .int .i64 zc] 40 true) :: r) fun e he => List.mem_cons_of_mem _ he
  rw [aj]
  simp -implicitDefEqProofs only [go_sem, astr, ak, Nat.reduceBEq, ↓reduceIte, reduceCtorEq, Nat.reduceEqDiff, Nat.reduceAdd, Nat.reduceLeDiff, Int.reduceEq, Int.reduceLT, Int.reduceLE, Int.reduceAdd, Int.reduceToNat, Int.reduceNeg, Nat.reduceMul, Nat.reduceSub, Int.reduceBNe, Int.reduceBEq, hfive, h0, h3]
  generalize hba : s2.n = ba at *
  generalize hs3 : s2.new _ = s3 at *
  clear hs3 hfive hba ho2 hXs hSs ho1 hO1 hO hst hbx
  have hgH : (⟨#[]⟩ : ByteArray) = tx [] := rfl
  generalize hH1 : ((ba, Ob.cells arR 9 true) :: (bx, Ob.cells [.bool fr, .bool ln, .int .i64 za, .int .i64 zc] 40 true) :: r : Hp) = H1 at *
  have m1 : (ba, Ob.cells arR 9 true) ∈ H1 := by rw [← hH1]; simp
  have m2 : (bx, Ob.cells [.bool fr, .bool ln, .int .i64 za, .int .i64 zc] 40 true) ∈ H1 := by rw [← hH1]; simp
  refine kX (fun ρ s => ∃ bd v e ns h, ρ 0 = X ∧ ρ 3 = .pointer (some ⟨bx, 0, none⟩) ∧ ρ 5 = .slice (some ⟨ba, 0, none⟩) 5 5 ∧ ρ 6 = .pointer (some ⟨bd, 0, none⟩) ∧ ρ 7 = .int .i64 e ∧ Own s ((bd, .cells [v] 26 true) :: (h ++ H1)) ∧ PR l e ns h v) ?_ ?_
  · simp -implicitDefEqProofs only [go_sem, ↓aj, ↓ah, ak, Nat.reduceBEq, ↓reduceIte, reduceCtorEq, Nat.reduceEqDiff, Nat.reduceAdd, Nat.reduceLeDiff, Int.reduceEq, Int.reduceLT, Int.reduceLE, Int.reduceAdd, Int.reduceToNat, Int.reduceNeg, Nat.reduceMul, Nat.reduceSub, Int.reduceBNe, Int.reduceBEq, h0, h3]
    refine au.enter Tryz.func9 rfl (by kernel_rfl) (kN s3 H1 X l hM hT hXa hSa (by omega) ho3 _ _ (fun ns v h st' hp hD hO2 => ?_) (fun e st' hp hO2 => ?_))
    · obtain ⟨va, vc, hva⟩ := hD.view.isSlice
      have hpr : PR l 0 ns h v := ⟨hD.view, Hf hp, .inl ⟨rfl, hp⟩⟩
      subst hva
      have ho4 := (hO2.new (.cells [.slice none 0 0] 26 true)).set rfl (.cells [.slice va ns.length vc] 26 true) rfl
      simp -implicitDefEqProofs only [go_sem, ↓aj, ↓ah, ak, Nat.reduceBEq, ↓reduceIte, reduceCtorEq, Nat.reduceEqDiff, Nat.reduceAdd, Nat.reduceLeDiff, Int.reduceEq, Int.reduceLT, Int.reduceLE, Int.reduceAdd, Int.reduceToNat, Int.reduceNeg, Nat.reduceMul, Nat.reduceSub, Int.reduceBNe, Int.reduceBEq, h0, h3, bV, kG, kg, Tryz.underlying26, Tryz.underlying27, cut1, List.length_cons, List.length_nil, List.set_cons_zero, Option.map_some]
      exact ⟨_, _, 0, ns, h, by (repeat' first | assumption | exact rfl | apply And.intro)⟩
    · have he := Cv hp
      have hpr : PR l e [] [] (.slice none 0 0) := ⟨DK _, ⟨by simp, fun n hn => by cases hn⟩, .inr ⟨he, hp, rfl⟩⟩
      have ho4 := (hO2.new (.cells [.slice none 0 0] 26 true)).set rfl (.cells [.slice none 0 0] 26 true) rfl
      simp -implicitDefEqProofs only [go_sem, ↓aj, ↓ah, ak, Nat.reduceBEq, ↓reduceIte, reduceCtorEq, Nat.reduceEqDiff, Nat.reduceAdd, Nat.reduceLeDiff, Int.reduceEq, Int.reduceLT, Int.reduceLE, Int.reduceAdd, Int.reduceToNat, Int.reduceNeg, Nat.reduceMul, Nat.reduceSub, Int.reduceBNe, Int.reduceBEq, h0, h3, bV, kG, kg, Tryz.underlying26, Tryz.underlying27, cut1, List.length_cons, List.length_nil, List.set_cons_zero, Option.map_some]
      exact ⟨_, _, e, [], [], by (repeat' first | assumption | exact rfl | apply And.intro)⟩
  clear ho3 h0 h3
  rintro ρ s ⟨bd, v, e, ns, h, h0, h3, h5, h6, h7, hs, hpr⟩
  have c1 := hs.get (List.mem_cons_of_mem _ (List.mem_append_right _ m1))
  have c2 := hs.get (List.mem_cons_of_mem _ (List.mem_append_right _ m2))
  have hsr := (hXa.sub (h' := h ++ H1) fun e he => List.mem_append_right _ he).src hs.tail
  rw [aB, hxs] at hsr
  have f5 : ((5 : Int) = 0) = False := by simp
  have la := iY a
  have lc := iY c
  have hza : (0 ≤ (a : Int)) = True := eq_true (by omega)
  have hzc : (0 ≤ (c : Int)) = True := eq_true (by omega)
  have hla : ((a : Int) < 5) = True := eq_true (by omega)
  have hlc : ((c : Int) < 5) = True := eq_true (by omega)
  refine kX (fun ρ s' => s = s' ∧ ρ 3 = .pointer (some ⟨bx, 0, none⟩) ∧ ρ 5 = .slice (some ⟨ba, 0, none⟩) 5 5 ∧ ρ 6 = .pointer (some ⟨bd, 0, none⟩) ∧ ρ 7 = .int .i64 e ∧ ρ 8 = .string (tx (around a ++ l))) ?_ ?_
  · simp -implicitDefEqProofs only [go_sem, ↓aj, ↓ah, ak, Nat.reduceBEq, ↓reduceIte, reduceCtorEq, Nat.reduceEqDiff, Nat.reduceAdd, Nat.reduceLeDiff, Int.reduceEq, Int.reduceLT, Int.reduceLE, Int.reduceAdd, Int.reduceToNat, Int.reduceNeg, Nat.reduceMul, Nat.reduceSub, Int.reduceBNe, Int.reduceBEq, h0, h3, h5, h6, h7]
    refine bI.of [(0, false, []), (1, false, []), (2, false, []), (3, false, []), (4, false, []), (5, false, []), (6, false, []), (7, false, []), (8, false, []), (9, false, []), (10, false, []), (11, false, [])] [] [] (by kernel_rfl) ?_
    simp -implicitDefEqProofs only [go_sem, ↓aj, ↓ah, ak, Nat.reduceBEq, ↓reduceIte, reduceCtorEq, Nat.reduceEqDiff, Nat.reduceAdd, Nat.reduceLeDiff, Int.reduceEq, Int.reduceLT, Int.reduceLE, Int.reduceAdd, Int.reduceToNat, Int.reduceNeg, Nat.reduceMul, Nat.reduceSub, Int.reduceBNe, Int.reduceBEq, h0, h3, h5, h6, h7, c1, c2, f5, if_false, ha, hza, hla, and_self, Int.toNat_natCast, Nat.zero_add, Nat.mul_one, DJ ha5, hxs, Iz, asz3, asz9, Jr, Tryz.underlying3, Tryz.underlying9, Tryz.underlying42, List.getElem?_cons_zero, List.getElem?_cons_succ, gJ (l := l) Tryz.underlying22 Tryz.underlying5 Tryz.underlying9 hsr ⟨_, _, _, rfl⟩, dA (a := around a) (b := l) (by omega)]
  rintro ρ s' ⟨rfl, h3, h5, h6, h7, h8⟩
  obtain ⟨S, hS⟩ : ∃ S : Tx, S = if e = 0 then around a ++ (l ++ around c) else around a ++ l := ⟨_, rfl⟩
  have hSl : S.length ≤ 5028 := by rw [hS]; split <;> simp <;> omega
  refine kX (fun ρ s' => s = s' ∧ ρ 3 = .pointer (some ⟨bx, 0, none⟩) ∧ ρ 6 = .pointer (some ⟨bd, 0, none⟩) ∧ ρ 7 = .int .i64 e ∧ ρ 8 = .string (tx S)) ?_ ?_
  · by_cases he0 : e = 0
    · subst he0
      rw [if_pos rfl] at hS
      simp -implicitDefEqProofs only [go_sem, ↓aj, ↓ah, ak, Nat.reduceBEq, ↓reduceIte, reduceCtorEq, Nat.reduceEqDiff, Nat.reduceAdd, Nat.reduceLeDiff, Int.reduceEq, Int.reduceLT, Int.reduceLE, Int.reduceAdd, Int.reduceToNat, Int.reduceNeg, Nat.reduceMul, Nat.reduceSub, Int.reduceBNe, Int.reduceBEq, h3, h5, h6, h7, h8, Tryz.underlying27, c1, c2, f5, if_false, hc, hzc, hlc, and_self, Int.toNat_natCast, Nat.zero_add, Nat.mul_one, DJ hc5, IB, asz3, asz9, Jr, Tryz.underlying3, Tryz.underlying9, Tryz.underlying42, List.getElem?_cons_zero, List.getElem?_cons_succ, dA (a := around a ++ l) (b := around c) (by simp; omega)]
      rw [hS, List.append_assoc]
    · rw [if_neg he0] at hS
      have hn : (e == 0) = false := by rw [beq_eq_false_iff_ne]; exact he0
      simp -implicitDefEqProofs only [go_sem, ↓aj, ↓ah, ak, Nat.reduceBEq, ↓reduceIte, reduceCtorEq, Nat.reduceEqDiff, Nat.reduceAdd, Nat.reduceLeDiff, Int.reduceEq, Int.reduceLT, Int.reduceLE, Int.reduceAdd, Int.reduceToNat, Int.reduceNeg, Nat.reduceMul, Nat.reduceSub, Int.reduceBNe, Int.reduceBEq, h3, h5, h6, h7, h8, Tryz.underlying27, hn]
      rw [hS]
  clear h3 h5 h6 h7 h8
  rintro ρ s' ⟨rfl, h3, h6, h7, h8⟩
  obtain ⟨S1, hS1⟩ : ∃ S1 : Tx, S1 = if fr then eD ++ S else S := ⟨_, rfl⟩
  have hdl : eD.length = 39 := rfl
  have hS1l : S1.length ≤ 5067 := by rw [hS1]; split <;> (try rw [List.length_append]) <;> omega
  have ed : (⟨#[60, 63, 120, 109, 108, 32, 118, 101, 114, 115, 105, 111, 110, 61, 39, 49, 46, 48, 39, 32, 101, 110, 99, 111, 100, 105, 110, 103, 61, 34, 117, 116, 102, 45, 56, 34, 32, 63, 62]⟩ : ByteArray) = tx eD := rfl
  refine kX (fun ρ s' => s = s' ∧ ρ 3 = .pointer (some ⟨bx, 0, none⟩) ∧ ρ 6 = .pointer (some ⟨bd, 0, none⟩) ∧ ρ 7 = .int .i64 e ∧ ρ 8 = .string (tx S1)) ?_ ?_
  · cases fr with
    | true =>
      rw [if_pos rfl] at hS1
      simp -implicitDefEqProofs only [go_sem, ↓aj, ↓ah, ak, Nat.reduceBEq, ↓reduceIte, reduceCtorEq, Nat.reduceEqDiff, Nat.reduceAdd, Nat.reduceLeDiff, Int.reduceEq, Int.reduceLT, Int.reduceLE, Int.reduceAdd, Int.reduceToNat, Int.reduceNeg, Nat.reduceMul, Nat.reduceSub, Int.reduceBNe, Int.reduceBEq, h3, h6, h7, h8, c2, Di, asz4, Tryz.underlying4, List.getElem?_cons_zero, ed, dA (a := eD) (b := S) (by omega)]
      rw [hS1]
    | false =>
      rw [if_neg (by simp)] at hS1
      simp -implicitDefEqProofs only [go_sem, ↓aj, ↓ah, ak, Nat.reduceBEq, ↓reduceIte, reduceCtorEq, Nat.reduceEqDiff, Nat.reduceAdd, Nat.reduceLeDiff, Int.reduceEq, Int.reduceLT, Int.reduceLE, Int.reduceAdd, Int.reduceToNat, Int.reduceNeg, Nat.reduceMul, Nat.reduceSub, Int.reduceBNe, Int.reduceBEq, h3, h6, h7, h8, c2, Di, asz4, Tryz.underlying4, List.getElem?_cons_zero]
      rw [hS1]
  clear h3 h6 h7 h8
  rintro ρ s' ⟨rfl, h3, h6, h7, h8⟩
  have hdr : iZ fr ln S = if ln then bO 0 S1 else S1 := by rw [hS1]; rfl
  refine kX (fun ρ s' => s = s' ∧ ρ 6 = .pointer (some ⟨bd, 0, none⟩) ∧ ρ 7 = .int .i64 e ∧ ρ 8 = .string (tx (iZ fr ln S))) ?_ ?_
  · cases ln with
    | false =>
      rw [hdr, if_neg (by simp)]
      simp -implicitDefEqProofs only [go_sem, ↓aj, ↓ah, ak, Nat.reduceBEq, ↓reduceIte, reduceCtorEq, Nat.reduceEqDiff, Nat.reduceAdd, Nat.reduceLeDiff, Int.reduceEq, Int.reduceLT, Int.reduceLE, Int.reduceAdd, Int.reduceToNat, Int.reduceNeg, Nat.reduceMul, Nat.reduceSub, Int.reduceBNe, Int.reduceBEq, h3, h6, h7, h8, c2, Dj, asz4, Tryz.underlying4, List.getElem?_cons_zero, List.getElem?_cons_succ]
      (repeat' first | assumption | exact rfl | apply And.intro)
    | true =>
      rw [hdr, if_pos rfl]
      simp -implicitDefEqProofs only [go_sem, ↓aj, ↓ah, ak, Nat.reduceBEq, ↓reduceIte, reduceCtorEq, Nat.reduceEqDiff, Nat.reduceAdd, Nat.reduceLeDiff, Int.reduceEq, Int.reduceLT, Int.reduceLE, Int.reduceAdd, Int.reduceToNat, Int.reduceNeg, Nat.reduceMul, Nat.reduceSub, Int.reduceBNe, Int.reduceBEq, h3, h6, h7, h8, c2, Dj, asz4, Tryz.underlying4, List.getElem?_cons_zero, List.getElem?_cons_succ, hgH]
      refine ⟨fun m ρ s' => ∃ i : Nat, m = S1.length - i ∧ i ≤ S1.length ∧ ρ 6 = .pointer (some ⟨bd, 0, none⟩) ∧ ρ 7 = .int .i64 e ∧ ρ 8 = .string (tx S1) ∧ ρ 9 = .string (tx (bO 0 (S1.take i))) ∧ ρ 10 = .int .i64 (i : Nat) ∧ s = s', ⟨_, 0, rfl, Nat.zero_le _, h6, h7, h8, rfl, rfl, rfl⟩, ?_⟩
      clear h3 h6 h7 h8
      rintro _ ρ s' ⟨i, rfl, hi, h6, h7, h8, h9, h10, rfl⟩
      by_cases hil : i < S1.length
      · have wi : IntKind.i64.wrap ((i : Int) + 1) = ((i + 1 : Nat) : Int) := by rw [aS (by omega)]; rfl
        have hx1 := iB (P := Tryz.prog) (t := 9) (k := .i64) (l := S1) (i := i) Tryz.underlying9 hil
        have hlen9 := lI (S1.take i) 0
        rw [List.length_take, Nat.min_eq_left hi] at hlen9
        have htk := Fp hil
        have hsl : aslice Tryz.prog s 9 (.string (tx S1)) (some (.int .i64 (i : Nat))) (some (.int .i64 ((i + 1 : Nat) : Int))) none = some (.string (tx [S1.getD i 0])) := by
          rw [oQ (a := i) (b := i + 1) (c := S1.length) Tryz.underlying9 (xB (by omega) (by omega))]
          have e : (S1.take (i + 1)).drop i = [S1.getD i 0] := by
            rw [List.take_succ_eq_append_getElem hil, List.drop_append_of_le_length (by rw [List.length_take]; omega), List.drop_eq_nil_of_le (by rw [List.length_take]; omega), List.getD_eq_getElem?_getD, List.getElem?_eq_getElem hil]
            rfl
          rw [e]
        have e13 : (⟨#[13]⟩ : ByteArray) = tx [13] := rfl
        obtain ⟨N, hN⟩ : ∃ N, S1.getD i 0 = N := ⟨_, rfl⟩
        rw [hN] at hx1 htk hsl
        by_cases hn10 : N = 10
        · subst hn10
          have q10 : ((((10 : UInt8).toNat : Nat) : Int) == 10) = true := rfl
          by_cases hi0 : i = 0
          · have qi : ((i : Int) == 0) = true := by rw [beq_iff_eq]; omega
            rw [if_pos ⟨rfl, .inl hi0⟩] at htk
            simp -implicitDefEqProofs only [go_sem, ↓aj, ↓ah, ak, Nat.reduceBEq, ↓reduceIte, reduceCtorEq, Nat.reduceEqDiff, Nat.reduceAdd, Nat.reduceLeDiff, Int.reduceEq, Int.reduceLT, Int.reduceLE, Int.reduceAdd, Int.reduceToNat, Int.reduceNeg, Nat.reduceMul, Nat.reduceSub, Int.reduceBNe, Int.reduceBEq, h6, h7, h8, h9, h10, Tryz.underlying9, Tryz.underlying5, Tryz.underlying3, aH, Int.ofNat_lt, hil, decide_true, hx1, q10, qi, e13, wi, hsl, dA (a := bO 0 (S1.take i)) (b := [13]) (by simp; omega), dA (a := bO 0 (S1.take i) ++ [13]) (b := [10]) (by simp; omega)]
            exact ⟨_, by omega, i + 1, rfl, by omega, by rw [htk, List.append_assoc]; rfl, rfl⟩
          · have qi : ((i : Int) == 0) = false := by rw [beq_eq_false_iff_ne]; omega
            have wi1 : IntKind.i64.wrap ((i : Int) - 1) = ((i - 1 : Nat) : Int) := by rw [aS (by omega)]; omega
            have hx2 := iB (P := Tryz.prog) (t := 9) (k := .i64) (l := S1) (i := i - 1) Tryz.underlying9 (by omega)
            by_cases h13 : S1.getD (i - 1) 0 = 13
            · rw [if_neg (fun g => by rcases g.2 with g | g; exact hi0 g; exact g h13)] at htk
              have q13 : (((S1.getD (i - 1) 0).toNat : Int) != 13) = false := by rw [h13]; rfl
              simp -implicitDefEqProofs only [go_sem, ↓aj, ↓ah, ak, Nat.reduceBEq, ↓reduceIte, reduceCtorEq, Nat.reduceEqDiff, Nat.reduceAdd, Nat.reduceLeDiff, Int.reduceEq, Int.reduceLT, Int.reduceLE, Int.reduceAdd, Int.reduceToNat, Int.reduceNeg, Nat.reduceMul, Nat.reduceSub, Int.reduceBNe, Int.reduceBEq, h6, h7, h8, h9, h10, Tryz.underlying9, Tryz.underlying5, Tryz.underlying3, aH, Int.ofNat_lt, hil, decide_true, hx1, hx2, wi1, q10, qi, q13, e13, wi, hsl, dA (a := bO 0 (S1.take i)) (b := [10]) (by simp; omega)]
              exact ⟨_, by omega, i + 1, rfl, by omega, by rw [htk], rfl⟩
            · rw [if_pos ⟨rfl, .inr h13⟩] at htk
              have q13 : (((S1.getD (i - 1) 0).toNat : Int) != 13) = true := by
                rw [bne_iff_ne]
                intro g
                apply h13
                have : (S1.getD (i - 1) 0).toNat = 13 := by omega
                exact UInt8.toNat_inj.1 this
              simp -implicitDefEqProofs only [go_sem, ↓aj, ↓ah, ak, Nat.reduceBEq, ↓reduceIte, reduceCtorEq, Nat.reduceEqDiff, Nat.reduceAdd, Nat.reduceLeDiff, Int.reduceEq, Int.reduceLT, Int.reduceLE, Int.reduceAdd, Int.reduceToNat, Int.reduceNeg, Nat.reduceMul, Nat.reduceSub, Int.reduceBNe, Int.reduceBEq, h6, h7, h8, h9, h10, Tryz.underlying9, Tryz.underlying5, Tryz.underlying3, aH, Int.ofNat_lt, hil, decide_true, hx1, hx2, wi1, q10, qi, q13, e13, wi, hsl, dA (a := bO 0 (S1.take i)) (b := [13]) (by simp; omega), dA (a := bO 0 (S1.take i) ++ [13]) (b := [10]) (by simp; omega)]
              exact ⟨_, by omega, i + 1, rfl, by omega, by rw [htk, List.append_assoc]; rfl, rfl⟩
        · rw [if_neg (fun g => hn10 g.1)] at htk
          have q10 : (((N.toNat : Nat) : Int) == 10) = false := by
            rw [beq_eq_false_iff_ne]
            intro g
            apply hn10
            have : N.toNat = 10 := by omega
            exact UInt8.toNat_inj.1 this
          simp -implicitDefEqProofs only [go_sem, ↓aj, ↓ah, ak, Nat.reduceBEq, ↓reduceIte, reduceCtorEq, Nat.reduceEqDiff, Nat.reduceAdd, Nat.reduceLeDiff, Int.reduceEq, Int.reduceLT, Int.reduceLE, Int.reduceAdd, Int.reduceToNat, Int.reduceNeg, Nat.reduceMul, Nat.reduceSub, Int.reduceBNe, Int.reduceBEq, h6, h7, h8, h9, h10, Tryz.underlying9, Tryz.underlying5, Tryz.underlying3, aH, Int.ofNat_lt, hil, decide_true, hx1, q10, wi, hsl, dA (a := bO 0 (S1.take i)) (b := [N]) (by simp; omega)]
          exact ⟨_, by omega, i + 1, rfl, by omega, by rw [htk], rfl⟩
      · obtain rfl : i = S1.length := by omega
        rw [List.take_length] at h9
        simp -implicitDefEqProofs only [go_sem, ↓aj, ↓ah, ak, Nat.reduceBEq, ↓reduceIte, reduceCtorEq, Nat.reduceEqDiff, Nat.reduceAdd, Nat.reduceLeDiff, Int.reduceEq, Int.reduceLT, Int.reduceLE, Int.reduceAdd, Int.reduceToNat, Int.reduceNeg, Nat.reduceMul, Nat.reduceSub, Int.reduceBNe, Int.reduceBEq, h6, h7, h8, h9, h10, Tryz.underlying9, aH, Int.ofNat_lt, Nat.lt_irrefl, decide_false]
        (repeat' first | assumption | exact rfl | apply And.intro)
  clear h3 h6 h7 h8
  rintro ρ s' ⟨rfl, h6, h7, h8⟩
  obtain ⟨hv, hsm, hres⟩ := hpr
  have hD : bL (iZ fr ln S) = if e = 0 then .ok ns else .error e := by
    obtain ⟨d1, d2⟩ := AJ hgood hx (by omega) a c fr ln
    rcases hres with ⟨rfl, hp⟩ | ⟨he, hp, _⟩
    · rw [if_pos rfl] at hS ⊢
      rw [hS]; exact d1 ns hp
    · rw [if_neg he] at hS ⊢
      rw [hS]; exact d2 e hp
  have hDl : (iZ fr ln S).length ≤ 10134 := by
    rw [hdr]
    split
    · have := lI S1 0; omega
    · omega
  clear hdr hS hS1 hsr c1 c2
  generalize iZ fr ln S = D at *
  have hs2 := hs.new (.cells (nl (nb8 D)) 5 true)
  obtain ⟨n1, n2⟩ := sH D s.n _ (List.mem_cons_self (l := (bd, .cells [v] 26 true) :: (h ++ H1)))
  obtain ⟨va, vc, hva⟩ := hv.isSlice
  subst hva
  simp -implicitDefEqProofs only [go_sem, ↓aj, ↓ah, ak, Nat.reduceBEq, ↓reduceIte, reduceCtorEq, Nat.reduceEqDiff, Nat.reduceAdd, Nat.reduceLeDiff, Int.reduceEq, Int.reduceLT, Int.reduceLE, Int.reduceAdd, Int.reduceToNat, Int.reduceNeg, Nat.reduceMul, Nat.reduceSub, Int.reduceBNe, Int.reduceBEq, h6, h7, h8, jB Tryz.underlying9 Tryz.underlying22 Tryz.underlying5 asz5]
  refine au.enter Tryz.func9 rfl (by kernel_rfl) (kN _ _ _ D hM hT n1 n2 (by omega) hs2 _ _ (fun ns2 v2 h2 st' hp2 hD2 hO2 => ?_) (fun e2 st' hp2 hO2 => ?_))
  · rw [hp2] at hD
    split at hD
    case isFalse => cases hD
    rename_i he0
    injection hD with hD
    subst hD he0
    obtain ⟨vb, vd, hvb⟩ := hD2.view.isSlice
    have hv2 := hD2.view
    subst hvb
    have ho5 := (hO2.new (.cells [.slice none 0 0] 26 true)).set rfl (.cells [.slice vb ns2.length vd] 26 true) rfl
    have hcd := ho5.get (List.mem_cons_of_mem _ (List.mem_append_right _ (List.mem_cons_of_mem _ (List.mem_cons_self ..))))
    have hne : ¬ bd = st'.n := hO2.fresh (List.mem_append_right _ (List.mem_cons_of_mem _ (List.mem_cons_self ..)))
    have hcd' := hO2.get (List.mem_append_right _ (List.mem_cons_of_mem _ (List.mem_cons_self ..)))
    simp -implicitDefEqProofs only [go_sem, ↓aj, ↓ah, ak, Nat.reduceBEq, ↓reduceIte, reduceCtorEq, Nat.reduceEqDiff, Nat.reduceAdd, Nat.reduceLeDiff, Int.reduceEq, Int.reduceLT, Int.reduceLE, Int.reduceAdd, Int.reduceToNat, Int.reduceNeg, Nat.reduceMul, Nat.reduceSub, Int.reduceBNe, Int.reduceBEq, h6, h7, h8, hcd', hne, bV, kG, kg, iJ, xH, Tryz.underlying26, Tryz.underlying24, Tryz.underlying27, cut1, List.length_cons, List.length_nil, List.set_cons_zero, Option.map_some, List.getElem?_cons_zero]
    refine au.enter Tryz.func13 rfl (by kernel_rfl) (um _ _ _ _ ns2 (hv.sub fun x hx => by simp [hx]) (hv2.sub fun x hx => by simp [hx]) hsm ho5 _ _ fun s5 ho6 => ?_)
    simp -implicitDefEqProofs only [go_sem, ↓aj, ↓ah, ak, Nat.reduceBEq, ↓reduceIte, reduceCtorEq, Nat.reduceEqDiff, Nat.reduceAdd, Nat.reduceLeDiff, Int.reduceEq, Int.reduceLT, Int.reduceLE, Int.reduceAdd, Int.reduceToNat, Int.reduceNeg, Nat.reduceMul, Nat.reduceSub, Int.reduceBNe, Int.reduceBEq]
    exact hk _
  · rw [hp2] at hD
    split at hD
    · cases hD
    rename_i he0
    injection hD with hD
    subst hD
    have hns : ns = [] := by
      rcases hres with ⟨g, _⟩ | ⟨_, _, g⟩
      · exact absurd g he0
      · exact g
    subst hns
    have ho5 := (hO2.tail.new (.cells [.slice none 0 0] 26 true)).set rfl (.cells [.slice none 0 0] 26 true) rfl
    have hne : ¬ bd = st'.n := hO2.tail.ji
    have hcd' := hO2.tail.head
    have hee : (e2 == e2) = true := by simp
    simp -implicitDefEqProofs only [go_sem, ↓aj, ↓ah, ak, Nat.reduceBEq, ↓reduceIte, reduceCtorEq, Nat.reduceEqDiff, Nat.reduceAdd, Nat.reduceLeDiff, Int.reduceEq, Int.reduceLT, Int.reduceLE, Int.reduceAdd, Int.reduceToNat, Int.reduceNeg, Nat.reduceMul, Nat.reduceSub, Int.reduceBNe, Int.reduceBEq, h6, h7, h8, hee, hcd', hne, bV, kG, kg, iJ, xH, Tryz.underlying26, Tryz.underlying24, Tryz.underlying27, cut1, List.length_cons, List.length_nil, List.set_cons_zero, Option.map_some, List.getElem?_cons_zero]
    refine au.enter Tryz.func13 rfl (by kernel_rfl) (um _ _ _ _ [] (hv.sub fun x hx => by simp [hx]) (DK _) hsm ho5 _ _ fun s5 ho6 => ?_)
    simp -implicitDefEqProofs only [go_sem, ↓aj, ↓ah, ak, Nat.reduceBEq, ↓reduceIte, reduceCtorEq, Nat.reduceEqDiff, Nat.reduceAdd, Nat.reduceLeDiff, Int.reduceEq, Int.reduceLT, Int.reduceLE, Int.reduceAdd, Int.reduceToNat, Int.reduceNeg, Nat.reduceMul, Nat.reduceSub, Int.reduceBNe, Int.reduceBEq]
    exact hk _
end Go.Proofs.YtohgmkjhbacmpaaGreatDoor
