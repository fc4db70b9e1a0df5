/- The same trees, by the document: what is one tree is the same. No conditions. -/
import Derived.Test.YtohgmkjhbacmpaaGreatDoorXmGF
import Derived.Test.YtohgmkjhbacmpaaGreatDoorXmGD
import Derived.Test.YtohgmkjhbacmpaaGreatDoorXmGH
import Derived.Test.YtohgmkjhbacmpaaGreatDoorXmGE
set_option linter.unusedVariables false
set_option linter.unusedSimpArgs false
namespace Go.Proofs.YtohgmkjhbacmpaaGreatDoor
open Go Go.Abs Go.RowKit Go.Xml
variable {base : Nat} {w0 : World} {G : Nat}
theorem zB {P : Program} {st : St} {s t : TypeId} {j k : IntKind} {n : Int} {d : TypeDesc} (hs : P.underlying s = some d) (ht : P.underlying t = some (.int k)) : bS P st s t (.int j n) = some (.int k (k.wrap n), st) := by
  unfold bS; rw [hs, ht]
theorem G7 : aqT Tryz.prog 52 = some [(0, 9), (1, 9), (2, 9), (3, 9)] := by kernel_rfl
theorem G8 : aqT Tryz.prog 62 = some [(0, 9), (1, 9)] := by kernel_rfl
theorem G9 (x : Att) : aqF Tryz.prog (attC x) (attC x) [(0, 9), (1, 9), (2, 9), (3, 9)] = some true := by
  simp [aqF, alf2, Tryz.underlying9, attC]
theorem He (x : Dcl) : aqF Tryz.prog (dclC x) (dclC x) [(0, 9), (1, 9)] = some true := by
  simp [aqF, alf2, Tryz.underlying9, dclC]
set_option maxRecDepth 10000 in
theorem Bl (st : St) (r : Hp) (va vb : Value) (xs : List Nat) (hn : xs.length ≤ 1000000) (ha : Rws r va 1 (xs.map fun c => [Value.int .i64 (c : Nat)])) (hb : Rws r vb 1 (xs.map fun c => [Value.int .i64 (c : Nat)])) (hO : Own st r) (k q : Value → St → Prop) (hk : k (.bool true) st) : ay (C base w0 G) 24 [va, vb] st k q := by
  obtain ⟨aa, ca, hva, _⟩ := ha.isSlice
  obtain ⟨ab, cb, hvb, _⟩ := hb.isSlice
  rw [List.length_map] at hva hvb
  refine ay.of (cx := C base w0 G) mixed Tryz.func24 rfl (by kernel_rfl) (by simp [Tryz.ntmps24]) ?_
  simp only [Tryz.results24]
  simp -implicitDefEqProofs only [go_sem, ↓aj, ↓ah, ak, Nat.reduceBEq, ↓reduceIte, reduceCtorEq, Nat.reduceEqDiff, Nat.reduceAdd, Nat.reduceLeDiff, Int.reduceEq, Int.reduceLT, Int.reduceLE, Int.reduceAdd, Int.reduceToNat, Int.reduceNeg, Nat.reduceMul, Nat.reduceSub, Int.reduceBNe, Int.reduceBEq, hva, hvb, Tryz.underlying30, show ((xs.length : Int) != (xs.length : Int)) = false by simp]
  refine ⟨fun m ρ s => ∃ i : Nat, m = xs.length - i ∧ i ≤ xs.length ∧ ρ 0 = va ∧ ρ 1 = vb ∧ ρ 5 = .int .i64 i ∧ s = st, ⟨_, 0, rfl, Nat.zero_le _, hva.symm, hvb.symm, rfl, rfl⟩, ?_⟩
  rintro _ ρ s ⟨i, rfl, hi, h0, h1, h5, rfl⟩
  by_cases him : i < xs.length
  · obtain ⟨x, o, sp, c', ccs, ty, own, hvx, hmem, hcut⟩ := ha.mem (i := i) (l := [.int .i64 (xs[i] : Nat)]) (by simp [him])
    obtain ⟨x2, o2, sp2, c2', ccs2, ty2, own2, hvx2, hmem2, hcut2⟩ := hb.mem (i := i) (l := [.int .i64 (xs[i] : Nat)]) (by simp [him])
    rw [List.length_map] at hvx hvx2
    have hcx := hO.get hmem
    have hcx2 := hO.get hmem2
    have w1 : IntKind.i64.wrap ((i : Int) + 1) = ((i + 1 : Nat) : Int) := by rw [cZ (by omega)]; rfl
    have g1 := eG hcut (j := 0) (by decide)
    have g2 := eG hcut2 (j := 0) (by decide)
    rw [Nat.add_zero, Nat.mul_one] at g1 g2
    generalize xs[i] = X at *
    change _ = some (Value.int .i64 (X : Nat)) at g1
    change _ = some (Value.int .i64 (X : Nat)) at g2
    have z0 : (0 ≤ (i : Int)) = True := by simp
    simp -implicitDefEqProofs only [go_sem, ↓aj, ↓ah, ak, Nat.reduceBEq, ↓reduceIte, reduceCtorEq, Nat.reduceEqDiff, Nat.reduceAdd, Nat.reduceLeDiff, Int.reduceEq, Int.reduceLT, Int.reduceLE, Int.reduceAdd, Int.reduceToNat, Int.reduceNeg, Nat.reduceMul, Nat.reduceSub, Int.reduceBNe, Int.reduceBEq, h0, h1, h5, hvx, him, Int.ofNat_lt, decide_true, Tryz.underlying30]
    refine bJ.of [(0, false, []), (1, false, []), (2, false, []), (3, false, []), (4, false, []), (5, false, []), (6, false, []), (7, false, []), (8, false, [])] [] [] (by kernel_rfl) ?_
    simp -implicitDefEqProofs only [go_sem, ↓aj, ↓ah, ak, Nat.reduceBEq, ↓reduceIte, reduceCtorEq, Nat.reduceEqDiff, Nat.reduceAdd, Nat.reduceLeDiff, Int.reduceEq, Int.reduceLT, Int.reduceLE, Int.reduceAdd, Int.reduceToNat, Int.reduceNeg, Nat.reduceMul, Nat.reduceSub, Int.reduceBNe, Int.reduceBEq, h0, h1, h5, hvx, hvx2, him, Int.ofNat_lt, decide_true, Int.natCast_nonneg, and_self, Int.toNat_natCast, hcx, hcx2, g1, g2, asz3, Tryz.underlying30, Tryz.underlying3, Option.map_some, show ((X : Int) != (X : Int)) = false by simp, w1, z0, and_self, Int.toNat_natCast, Nat.mul_one]
    exact ⟨xs.length - (i + 1), by omega, i + 1, rfl, by omega, rfl⟩
  · obtain rfl : i = xs.length := by omega
    simp -implicitDefEqProofs only [go_sem, ↓aj, ↓ah, ak, Nat.reduceBEq, ↓reduceIte, reduceCtorEq, Nat.reduceEqDiff, Nat.reduceAdd, Nat.reduceLeDiff, Int.reduceEq, Int.reduceLT, Int.reduceLE, Int.reduceAdd, Int.reduceToNat, Int.reduceNeg, Nat.reduceMul, Nat.reduceSub, Int.reduceBNe, Int.reduceBEq, h0, h1, h5, hva, Int.ofNat_lt, Nat.lt_irrefl, decide_false, Tryz.underlying30]
    exact hk
structure NdR (H : Hp) (n : Nd) (kv av dv : Value) : Prop where
  kid : Rws H kv 1 (n.kids.map fun c => [Value.int .i64 (c : Nat)])
  att : Rws H av 4 (n.atts.map attC)
  dcl : Rws H dv 2 (n.dcls.map dclC)
theorem NdR.sub {H H' : Hp} {n : Nd} {kv av dv : Value} (h : NdR H n kv av dv) (hs : ∀ e ∈ H, e ∈ H') : NdR H' n kv av dv := ⟨h.kid.sub hs, h.att.sub hs, h.dcl.sub hs⟩
theorem zh.full {v : Value} {ns : List Nd} {cs : List (List Value)} {h : Hp} (hT : zh v ns cs h) {i : Nat} {n : Nd} (hi : ns[i]? = some n) :
    ∃ B kv av dv, v = .slice (some ⟨B, 0, some 0⟩) ns.length ns.length ∧ (B, Ob.cells cs.flatten 34 true) ∈ h ∧ cut cs.flatten (i * 9) 9 = some (ndC n kv av dv) ∧ (∀ j, j < 9 → cs.flatten[i * 9 + j]? = (ndC n kv av dv)[j]?) ∧ NdR h n kv av dv := by
  obtain ⟨hn, hx, rfl, hG, hN⟩ := hT.rows
  obtain ⟨cl, c9⟩ := hN.len
  have hil := (List.getElem?_eq_some_iff.1 hi).1
  obtain ⟨B, hv, hB⟩ := GV.blk hG (by omega)
  obtain ⟨c, h1, h2, h3, a1, a2, ⟨kv, av, dv, hk, ha, hd, rfl, rfl, gk, ga, gd⟩, _⟩ := hN.at hi
  refine ⟨B, kv, av, dv, hv, by rw [hB]; simp, jk c9 a1, fun j hj => flat_get c9 a1 hj, ⟨?_, ?_, ?_⟩⟩
  · have := GV.rows (r := []) (cs := n.kids.map fun c => [Value.int .i64 (c : Nat)]) (n := n.kids.length) (sz := 1) (e := 3) (hg := hk) (v := kv) (by
      have e : (n.kids.map fun c => [Value.int .i64 (c : Nat)]).flatten = jV n.kids := by
        unfold jV
        induction n.kids with
        | nil => rfl
        | cons a l ih => simp only [List.map_cons, List.flatten_cons, ih]; rfl
      rw [e]; exact gk) (fun c hc => by obtain ⟨d, _, rfl⟩ := List.mem_map.1 hc; rfl) (List.length_map _)
    exact this.sub fun e he => by rw [a2]; simp at he ⊢; simp [he]
  · have := GV.rows (r := []) (cs := n.atts.map attC) (n := n.atts.length) (sz := 4) (e := 52) (hg := ha) (v := av) ga (fun c hc => by obtain ⟨d, _, rfl⟩ := List.mem_map.1 hc; rfl) (List.length_map _)
    exact this.sub fun e he => by rw [a2]; simp at he ⊢; simp [he]
  · exact (kC (r := []) gd).sub fun e he => by rw [a2]; simp at he ⊢; simp [he]
set_option maxRecDepth 10000 in
theorem Bn (st : St) (r : Hp) (n : Nd) (kv av dv kv' av' dv' : Value) (r1 : NdR r n kv av dv) (r2 : NdR r n kv' av' dv') (hb : n.kids.length ≤ 1000000 ∧ n.atts.length ≤ 1000000 ∧ n.dcls.length ≤ 1000000) (hO : Own st r) (k q : Value → St → Prop) (hk : ∀ st', Own st' r → k (.bool true) st') : ay (C base w0 G) 14 [.agg (ndC n kv av dv).toArray, .agg (ndC n kv' av' dv').toArray] st k q := by
  obtain ⟨b1, b2, b3⟩ := hb
  obtain ⟨ka, kc, hkv, _⟩ := r1.kid.isSlice
  obtain ⟨ka', kc', hkv', _⟩ := r2.kid.isSlice
  obtain ⟨aa, ac, hav, _⟩ := r1.att.isSlice
  obtain ⟨aa', ac', hav', _⟩ := r2.att.isSlice
  obtain ⟨da, dc, hdv, _⟩ := r1.dcl.isSlice
  obtain ⟨da', dc', hdv', _⟩ := r2.dcl.isSlice
  rw [List.length_map] at hkv hkv' hav hav' hdv hdv'
  subst hkv hkv' hav hav' hdv hdv'
  refine ay.of (cx := C base w0 G) mixed Tryz.func14 rfl (by kernel_rfl) (by simp [Tryz.ntmps14]) ?_
  simp only [Tryz.results14]
  have ho1 := (hO.new (.cells (ndC n (.slice ka n.kids.length kc) (.slice aa n.atts.length ac) (.slice da n.dcls.length dc)) 34 true)).new (.cells (ndC n (.slice ka' n.kids.length kc') (.slice aa' n.atts.length ac') (.slice da' n.dcls.length dc')) 34 true)
  have hc2 := ho1.head
  have hc1 := ho1.tail.head
  have hne : ¬ st.n = st.n + 1 := by omega
  have hne' : ¬ st.n + 1 = st.n := by omega
  have q1 : ((n.atts.length : Int) != (n.atts.length : Int)) = false := by simp
  have q2 : ((n.dcls.length : Int) != (n.dcls.length : Int)) = false := by simp
  unfold ndC at hc1 hc2
  simp -implicitDefEqProofs only [go_sem, ↓aj, ↓ah, ak, Nat.reduceBEq, ↓reduceIte, reduceCtorEq, Nat.reduceEqDiff, Nat.reduceAdd, Nat.reduceLeDiff, Int.reduceEq, Int.reduceLT, Int.reduceLE, Int.reduceAdd, Int.reduceToNat, Int.reduceNeg, Nat.reduceMul, Nat.reduceSub, Int.reduceBNe, Int.reduceBEq, List.append_eq, List.cons_append, List.nil_append, abox, ndC, hne, hne', mG, kr, mH, vW, vX, BK, dF, dK, pX, asz3, asz9, oO, Tryz.underlying3, Tryz.underlying9, Tryz.underlying30, List.getElem?_cons_zero, List.getElem?_cons_succ, dY, decide_true, Bool.not_true, show (n.kind != n.kind) = false by simp, show (n.par != n.par) = false by simp]
  refine au.enter Tryz.func24 rfl (by kernel_rfl) (Bl _ _ _ _ n.kids b1 (r1.kid.sub fun e he => List.mem_cons_of_mem _ (List.mem_cons_of_mem _ he)) (r2.kid.sub fun e he => List.mem_cons_of_mem _ (List.mem_cons_of_mem _ he)) ho1 _ _ ?_)
  simp -implicitDefEqProofs only [go_sem, ↓aj, ↓ah, ak, Nat.reduceBEq, ↓reduceIte, reduceCtorEq, Nat.reduceEqDiff, Nat.reduceAdd, Nat.reduceLeDiff, Int.reduceEq, Int.reduceLT, Int.reduceLE, Int.reduceAdd, Int.reduceToNat, Int.reduceNeg, Nat.reduceMul, Nat.reduceSub, Int.reduceBNe, Int.reduceBEq, List.append_eq, List.cons_append, List.nil_append, ndC, hne, hne', dF, dK, iO, iA, Tryz.underlying31, Tryz.underlying32, hc1, hc2, cut1, List.getElem?_cons_zero, List.getElem?_cons_succ, q1, q2, decide_true, Bool.not_true, Bool.not_false]
  change Own ((st.new (.cells [.int .i64 n.kind, .int .i64 n.par, .slice ka n.kids.length kc, .string (tx n.pre), .string (tx n.loc), .string (tx n.spc), .slice aa n.atts.length ac, .slice da n.dcls.length dc, .string (tx n.val)] 34 true)).new (.cells [.int .i64 n.kind, .int .i64 n.par, .slice ka' n.kids.length kc', .string (tx n.pre), .string (tx n.loc), .string (tx n.spc), .slice aa' n.atts.length ac', .slice da' n.dcls.length dc', .string (tx n.val)] 34 true)) _ at ho1
  change ((st.new (.cells [.int .i64 n.kind, .int .i64 n.par, .slice ka n.kids.length kc, .string (tx n.pre), .string (tx n.loc), .string (tx n.spc), .slice aa n.atts.length ac, .slice da n.dcls.length dc, .string (tx n.val)] 34 true)).new (.cells [.int .i64 n.kind, .int .i64 n.par, .slice ka' n.kids.length kc', .string (tx n.pre), .string (tx n.loc), .string (tx n.spc), .slice aa' n.atts.length ac', .slice da' n.dcls.length dc', .string (tx n.val)] 34 true)).H st.n = _ at hc1
  change ((st.new (.cells [.int .i64 n.kind, .int .i64 n.par, .slice ka n.kids.length kc, .string (tx n.pre), .string (tx n.loc), .string (tx n.spc), .slice aa n.atts.length ac, .slice da n.dcls.length dc, .string (tx n.val)] 34 true)).new (.cells [.int .i64 n.kind, .int .i64 n.par, .slice ka' n.kids.length kc', .string (tx n.pre), .string (tx n.loc), .string (tx n.spc), .slice aa' n.atts.length ac', .slice da' n.dcls.length dc', .string (tx n.val)] 34 true)).H (st.n + 1) = _ at hc2
  generalize hst : ((st.new (Ob.cells [.int .i64 n.kind, .int .i64 n.par, .slice ka n.kids.length kc, .string (tx n.pre), .string (tx n.loc), .string (tx n.spc), .slice aa n.atts.length ac, .slice da n.dcls.length dc, .string (tx n.val)] 34 true)).new (Ob.cells [.int .i64 n.kind, .int .i64 n.par, .slice ka' n.kids.length kc', .string (tx n.pre), .string (tx n.loc), .string (tx n.spc), .slice aa' n.atts.length ac', .slice da' n.dcls.length dc', .string (tx n.val)] 34 true)) = s0 at *
  refine ⟨fun m ρ s => ∃ i : Nat, m = n.atts.length - i ∧ i ≤ n.atts.length ∧ ρ 2 = .pointer (some ⟨st.n, 0, none⟩) ∧ ρ 3 = .pointer (some ⟨st.n + 1, 0, none⟩) ∧ ρ 5 = .int .i64 i ∧ s0 = s, ⟨_, 0, rfl, Nat.zero_le _, rfl, rfl, rfl, rfl⟩, ?_⟩
  rintro _ ρ s ⟨i, rfl, hi, h2, h3, h5, rfl⟩
  by_cases him : i < n.atts.length
  · obtain ⟨x, o, sp, c', ccs, ty, own, hvx, hmem, hcut⟩ := r1.att.mem (i := i) (l := attC n.atts[i]) (by simp [him])
    obtain ⟨x2, o2, sp2, c2', ccs2, ty2, own2, hvx2, hmem2, hcut2⟩ := r2.att.mem (i := i) (l := attC n.atts[i]) (by simp [him])
    rw [List.length_map] at hvx hvx2
    injection hvx with hvx _ hcc
    injection hvx2 with hvx2 _ hcc2
    subst hvx hvx2 hcc hcc2
    have hcx := ho1.get (List.mem_cons_of_mem _ (List.mem_cons_of_mem _ hmem))
    have hcx2 := ho1.get (List.mem_cons_of_mem _ (List.mem_cons_of_mem _ hmem2))
    have w1 : IntKind.i64.wrap ((i : Int) + 1) = ((i + 1 : Nat) : Int) := by rw [cZ (by omega)]; rfl
    have hq := G9 n.atts[i]
    generalize n.atts[i] = X at *
    simp -implicitDefEqProofs only [go_sem, ↓aj, ↓ah, ak, Nat.reduceBEq, ↓reduceIte, reduceCtorEq, Nat.reduceEqDiff, Nat.reduceAdd, Nat.reduceLeDiff, Int.reduceEq, Int.reduceLT, Int.reduceLE, Int.reduceAdd, Int.reduceToNat, Int.reduceNeg, Nat.reduceMul, Nat.reduceSub, Int.reduceBNe, Int.reduceBEq, h2, h3, h5, hc1, hc2, hne, hne', him, Int.ofNat_lt, decide_true, Tryz.underlying31, dF, cut1, iO, List.getElem?_cons_zero, List.getElem?_cons_succ]
    refine bJ.of [(0, false, []), (1, false, []), (2, false, []), (3, false, []), (4, false, []), (5, false, []), (6, false, []), (7, false, []), (8, false, []), (9, false, []), (10, false, [])] [] [] (by kernel_rfl) ?_
    simp -implicitDefEqProofs only [go_sem, ↓aj, ↓ah, ak, Nat.reduceBEq, ↓reduceIte, reduceCtorEq, Nat.reduceEqDiff, Nat.reduceAdd, Nat.reduceLeDiff, Int.reduceEq, Int.reduceLT, Int.reduceLE, Int.reduceAdd, Int.reduceToNat, Int.reduceNeg, Nat.reduceMul, Nat.reduceSub, Int.reduceBNe, Int.reduceBEq, h2, h3, h5, hc1, hc2, hne, hne', him, Int.ofNat_lt, decide_true, Int.natCast_nonneg, and_self, Int.toNat_natCast, hcx, hcx2, hcut, hcut2, gI, iO, Tryz.underlying31, Tryz.underlying52, Option.map_some, G7, hq, Bool.not_true, w1, dF, cut1, List.getElem?_cons_zero, List.getElem?_cons_succ]
    exact ⟨n.atts.length - (i + 1), by omega, i + 1, rfl, by omega, rfl⟩
  obtain rfl : i = n.atts.length := by omega
  simp -implicitDefEqProofs only [go_sem, ↓aj, ↓ah, ak, Nat.reduceBEq, ↓reduceIte, reduceCtorEq, Nat.reduceEqDiff, Nat.reduceAdd, Nat.reduceLeDiff, Int.reduceEq, Int.reduceLT, Int.reduceLE, Int.reduceAdd, Int.reduceToNat, Int.reduceNeg, Nat.reduceMul, Nat.reduceSub, Int.reduceBNe, Int.reduceBEq, h2, h3, h5, hc1, hc2, hne, hne', Int.ofNat_lt, Nat.lt_irrefl, decide_false, Tryz.underlying31, dF, cut1, iO, List.getElem?_cons_zero, List.getElem?_cons_succ]
  refine ⟨fun m ρ s => ∃ i : Nat, m = n.dcls.length - i ∧ i ≤ n.dcls.length ∧ ρ 2 = .pointer (some ⟨st.n, 0, none⟩) ∧ ρ 3 = .pointer (some ⟨st.n + 1, 0, none⟩) ∧ ρ 6 = .int .i64 i ∧ s0 = s, ⟨_, 0, rfl, Nat.zero_le _, h2, h3, rfl, rfl⟩, ?_⟩
  rintro _ ρ s ⟨i, rfl, hi, h2, h3, h5, rfl⟩
  by_cases him : i < n.dcls.length
  · obtain ⟨x, o, sp, c', ccs, ty, own, hvx, hmem, hcut⟩ := r1.dcl.mem (i := i) (l := dclC n.dcls[i]) (by simp [him])
    obtain ⟨x2, o2, sp2, c2', ccs2, ty2, own2, hvx2, hmem2, hcut2⟩ := r2.dcl.mem (i := i) (l := dclC n.dcls[i]) (by simp [him])
    rw [List.length_map] at hvx hvx2
    injection hvx with hvx _ hcc
    injection hvx2 with hvx2 _ hcc2
    subst hvx hvx2 hcc hcc2
    have hcx := ho1.get (List.mem_cons_of_mem _ (List.mem_cons_of_mem _ hmem))
    have hcx2 := ho1.get (List.mem_cons_of_mem _ (List.mem_cons_of_mem _ hmem2))
    have w1 : IntKind.i64.wrap ((i : Int) + 1) = ((i + 1 : Nat) : Int) := by rw [cZ (by omega)]; rfl
    have hq := He n.dcls[i]
    generalize n.dcls[i] = X at *
    simp -implicitDefEqProofs only [go_sem, ↓aj, ↓ah, ak, Nat.reduceBEq, ↓reduceIte, reduceCtorEq, Nat.reduceEqDiff, Nat.reduceAdd, Nat.reduceLeDiff, Int.reduceEq, Int.reduceLT, Int.reduceLE, Int.reduceAdd, Int.reduceToNat, Int.reduceNeg, Nat.reduceMul, Nat.reduceSub, Int.reduceBNe, Int.reduceBEq, h2, h3, h5, hc1, hc2, hne, hne', him, Int.ofNat_lt, decide_true, Tryz.underlying32, dK, cut1, iA, List.getElem?_cons_zero, List.getElem?_cons_succ]
    refine bJ.of [(0, false, []), (1, false, []), (2, false, []), (3, false, []), (4, false, []), (5, false, []), (6, false, []), (7, false, []), (8, false, []), (9, false, []), (10, false, [])] [] [] (by kernel_rfl) ?_
    simp -implicitDefEqProofs only [go_sem, ↓aj, ↓ah, ak, Nat.reduceBEq, ↓reduceIte, reduceCtorEq, Nat.reduceEqDiff, Nat.reduceAdd, Nat.reduceLeDiff, Int.reduceEq, Int.reduceLT, Int.reduceLE, Int.reduceAdd, Int.reduceToNat, Int.reduceNeg, Nat.reduceMul, Nat.reduceSub, Int.reduceBNe, Int.reduceBEq, h2, h3, h5, hc1, hc2, hne, hne', him, Int.ofNat_lt, decide_true, Int.natCast_nonneg, and_self, Int.toNat_natCast, hcx, hcx2, hcut, hcut2, jS, iA, Tryz.underlying32, Tryz.underlying62, Option.map_some, G8, hq, Bool.not_true, w1, dK, cut1, List.getElem?_cons_zero, List.getElem?_cons_succ]
    exact ⟨n.dcls.length - (i + 1), by omega, i + 1, rfl, by omega, rfl⟩
  obtain rfl : i = n.dcls.length := by omega
  simp -implicitDefEqProofs only [go_sem, ↓aj, ↓ah, ak, Nat.reduceBEq, ↓reduceIte, reduceCtorEq, Nat.reduceEqDiff, Nat.reduceAdd, Nat.reduceLeDiff, Int.reduceEq, Int.reduceLT, Int.reduceLE, Int.reduceAdd, Int.reduceToNat, Int.reduceNeg, Nat.reduceMul, Nat.reduceSub, Int.reduceBNe, Int.reduceBEq, h2, h3, h5, hc1, hc2, hne, hne', Int.ofNat_lt, Nat.lt_irrefl, decide_false, Tryz.underlying32, dK, cut1, iA, List.getElem?_cons_zero, List.getElem?_cons_succ]
  exact hk _ ho1.tail.tail
def DocV (H : Hp) (v : Value) (ns : List Nd) : Prop := ∃ cs : List (List Value), cs.length = ns.length ∧ Rws H v 9 cs ∧ ∀ (i : Nat) (n : Nd), ns[i]? = some n → ∃ kv av dv, cs[i]? = some (ndC n kv av dv) ∧ NdR H n kv av dv
theorem DocV.sub {H H' : Hp} {v : Value} {ns : List Nd} (h : DocV H v ns) (hs : ∀ e ∈ H, e ∈ H') : DocV H' v ns := by
  obtain ⟨cs, h1, h2, h3⟩ := h
  exact ⟨cs, h1, h2.sub hs, fun i n hi => by obtain ⟨kv, av, dv, a, b⟩ := h3 i n hi; exact ⟨kv, av, dv, a, b.sub hs⟩⟩
theorem DocV.isSlice {H : Hp} {v : Value} {ns : List Nd} (h : DocV H v ns) : ∃ a c, v = .slice a ns.length c := by
  obtain ⟨cs, h1, h2, h3⟩ := h
  obtain ⟨a, c, h, _⟩ := h2.isSlice
  exact ⟨a, c, by rw [← h1]; exact h⟩
theorem DocV.at {H : Hp} {v : Value} {ns : List Nd} (h : DocV H v ns) {i : Nat} {n : Nd} (hi : ns[i]? = some n) :
    ∃ x o sp c ccs ty own kv av dv, v = .slice (some ⟨x, o, sp⟩) ns.length c ∧ (x, Ob.cells ccs ty own) ∈ H ∧ cut ccs (o + i * 9) 9 = some (ndC n kv av dv) ∧ (∀ j, j < 9 → ccs[o + i * 9 + j]? = (ndC n kv av dv)[j]?) ∧ NdR H n kv av dv := by
  obtain ⟨cs, h1, h2, h3⟩ := h
  obtain ⟨kv, av, dv, a, b⟩ := h3 i n hi
  obtain ⟨x, o, sp, c, ccs, ty, own, g1, g2, g3⟩ := h2.mem a
  exact ⟨x, o, sp, c, ccs, ty, own, kv, av, dv, by rw [← h1]; exact g1, g2, g3, fun j hj => eG g3 hj, b⟩
theorem DocH.view {v : Value} {ns : List Nd} {h : Hp} (hD : DocH v ns h) : DocV h v ns := by
  obtain ⟨cs, hn, hx, rfl, hG, hN⟩ := hD
  have hT : zh v ns cs (hn ++ hx) := ⟨hn, hx, rfl, hG, hN⟩
  obtain ⟨cl, c9⟩ := hN.len
  refine ⟨cs, cl, by
    have := GV.rows (r := hx) hG c9 cl
    exact this, fun i n hi => ?_⟩
  obtain ⟨B, kv, av, dv, _, _, a3, _, a5⟩ := hT.full hi
  have hil := (List.getElem?_eq_some_iff.1 hi).1
  refine ⟨kv, av, dv, ?_, a5⟩
  obtain ⟨c, hc⟩ : ∃ c, cs[i]? = some c := ⟨cs[i]'(by omega), by simp⟩
  rw [hc]
  rw [jk c9 hc] at a3
  exact a3
def Small (ns : List Nd) : Prop := ns.length ≤ 1000000 ∧ ∀ n ∈ ns, n.kids.length ≤ 1000000 ∧ n.atts.length ≤ 1000000 ∧ n.dcls.length ≤ 1000000
set_option maxRecDepth 10000 in
theorem Bo (st : St) (r : Hp) (v v' : Value) (ns : List Nd) (h1 : DocV r v ns) (h2 : DocV r v' ns) (hb : Small ns) (hO : Own st r) (k q : Value → St → Prop) (hk : ∀ st', Own st' r → k (.bool true) st') : ay (C base w0 G) 13 [v, v'] st k q := by
  obtain ⟨aa, ca, hva⟩ := h1.isSlice
  obtain ⟨ab, cb, hvb⟩ := h2.isSlice
  obtain ⟨b0, b1⟩ := hb
  refine ay.of (cx := C base w0 G) mixed Tryz.func13 rfl (by kernel_rfl) (by simp [Tryz.ntmps13]) ?_
  simp only [Tryz.results13]
  simp -implicitDefEqProofs only [go_sem, ↓aj, ↓ah, ak, Nat.reduceBEq, ↓reduceIte, reduceCtorEq, Nat.reduceEqDiff, Nat.reduceAdd, Nat.reduceLeDiff, Int.reduceEq, Int.reduceLT, Int.reduceLE, Int.reduceAdd, Int.reduceToNat, Int.reduceNeg, Nat.reduceMul, Nat.reduceSub, Int.reduceBNe, Int.reduceBEq, hva, hvb, Tryz.underlying24, show ((ns.length : Int) != (ns.length : Int)) = false by simp]
  refine ⟨fun m ρ s => ∃ i : Nat, m = ns.length - i ∧ i ≤ ns.length ∧ ρ 0 = v ∧ ρ 1 = v' ∧ ρ 5 = .int .i64 i ∧ Own s r, ⟨_, 0, rfl, Nat.zero_le _, hva.symm, hvb.symm, rfl, hO⟩, ?_⟩
  rintro _ ρ s ⟨i, rfl, hi, g0, g1, g5, hs⟩
  by_cases him : i < ns.length
  · obtain ⟨x, o, sp, c, ccs, ty, own, kv, av, dv, hvx, hmem, hcut, _, r1⟩ := h1.at (i := i) (n := ns[i]) (by simp [him])
    obtain ⟨x2, o2, sp2, c2, ccs2, ty2, own2, kv2, av2, dv2, hvx2, hmem2, hcut2, _, r2⟩ := h2.at (i := i) (n := ns[i]) (by simp [him])
    have hcx := hs.get hmem
    have hcx2 := hs.get hmem2
    have w1 : IntKind.i64.wrap ((i : Int) + 1) = ((i + 1 : Nat) : Int) := by rw [cZ (by omega)]; rfl
    have hbn := b1 ns[i] (List.getElem_mem ..)
    generalize ns[i] = X at *
    simp -implicitDefEqProofs only [go_sem, ↓aj, ↓ah, ak, Nat.reduceBEq, ↓reduceIte, reduceCtorEq, Nat.reduceEqDiff, Nat.reduceAdd, Nat.reduceLeDiff, Int.reduceEq, Int.reduceLT, Int.reduceLE, Int.reduceAdd, Int.reduceToNat, Int.reduceNeg, Nat.reduceMul, Nat.reduceSub, Int.reduceBNe, Int.reduceBEq, g0, g1, g5, hvx, him, Int.ofNat_lt, decide_true, Tryz.underlying24]
    refine bJ.of [(0, false, []), (1, false, []), (2, false, []), (3, false, []), (4, false, []), (5, false, []), (6, false, []), (7, false, []), (8, false, []), (9, false, [])] [] [] (by kernel_rfl) ?_
    simp -implicitDefEqProofs only [go_sem, ↓aj, ↓ah, ak, Nat.reduceBEq, ↓reduceIte, reduceCtorEq, Nat.reduceEqDiff, Nat.reduceAdd, Nat.reduceLeDiff, Int.reduceEq, Int.reduceLT, Int.reduceLE, Int.reduceAdd, Int.reduceToNat, Int.reduceNeg, Nat.reduceMul, Nat.reduceSub, Int.reduceBNe, Int.reduceBEq, g0, g1, g5, hvx, hvx2, him, Int.ofNat_lt, decide_true, hcx, hcx2, hcut, hcut2, dH, Tryz.underlying24, Tryz.underlying34, Option.map_some, Int.natCast_nonneg, and_self, Int.toNat_natCast]
    refine au.enter Tryz.func14 rfl (by kernel_rfl) (Bn _ _ X kv av dv kv2 av2 dv2 r1 r2 hbn hs _ _ fun s1 ho1 => ?_)
    simp -implicitDefEqProofs only [go_sem, ↓aj, ↓ah, ak, Nat.reduceBEq, ↓reduceIte, reduceCtorEq, Nat.reduceEqDiff, Nat.reduceAdd, Nat.reduceLeDiff, Int.reduceEq, Int.reduceLT, Int.reduceLE, Int.reduceAdd, Int.reduceToNat, Int.reduceNeg, Nat.reduceMul, Nat.reduceSub, Int.reduceBNe, Int.reduceBEq, g0, g1, g5, hvx, hvx2, him, Int.ofNat_lt, decide_true, w1, Bool.not_true]
    exact ⟨ns.length - (i + 1), by omega, i + 1, rfl, by omega, rfl, ho1⟩
  · obtain rfl : i = ns.length := by omega
    simp -implicitDefEqProofs only [go_sem, ↓aj, ↓ah, ak, Nat.reduceBEq, ↓reduceIte, reduceCtorEq, Nat.reduceEqDiff, Nat.reduceAdd, Nat.reduceLeDiff, Int.reduceEq, Int.reduceLT, Int.reduceLE, Int.reduceAdd, Int.reduceToNat, Int.reduceNeg, Nat.reduceMul, Nat.reduceSub, Int.reduceBNe, Int.reduceBEq, g0, g1, g5, hva, Int.ofNat_lt, Nat.lt_irrefl, decide_false, Tryz.underlying24]
    exact hk _ hs
end Go.Proofs.YtohgmkjhbacmpaaGreatDoor
set_option linter.unusedVariables false
set_option linter.unusedSimpArgs false
namespace Go.Proofs.YtohgmkjhbacmpaaGreatDoor
open Go Go.Abs Go.RowKit Go.Xml
theorem Ci : ∀ (f : Nat) {r r' : RS}, RI r → allR f r = .ok r' → RI r'
  | 0, r, r', h, ha => by
    unfold allR at ha
    split at ha
    · injection ha with ha; subst ha; exact h
    · cases ha
  | f + 1, r, r', h, ha => by
    unfold allR at ha
    split at ha
    · injection ha with ha; subst ha; exact h
    · rename_i hne
      split at ha
      · cases ha
      · rename_i r1 h1
        exact Ci f (rJ h hne h1).1 ha
theorem pE {b : Tx} {ns : List Nd} (h : eB b = .ok ns) : ns.length ≤ 4096 ∧ ∀ n ∈ ns, n.dcls.length ≤ 1000000 := by
  unfold eB at h
  split at h
  · cases h
  rename_i h64
  split at h
  · cases h
  unfold allF at h
  split at h
  · cases h
  rename_i s1 h1
  split at h
  · cases h
  rename_i r h2
  split at h
  · injection h with h
    subst h
    have hl := uz b
    have hf := rM h1
    have hI := Ci _ (RI.start s1 (by omega)) h2
    exact ⟨hI.many, hI.dcl⟩
  · cases h
def AI (ns : List Nd) : Prop := ∀ n ∈ ns, n.atts.length ≤ 32
theorem AI.kid {ns : List Nd} (h : AI ns) (p c : Nat) : AI (aH ns p c) := fun n hn => by
  rcases uG hn with h1 | ⟨m, h1, rfl⟩
  · exact h n h1
  · exact h m h1
theorem AI.snoc {ns : List Nd} (h : AI ns) {m : Nd} (hm : m.atts.length ≤ 32) : AI (ns ++ [m]) := fun n hn => by
  rcases List.mem_append.1 hn with h1 | h1
  · exact h n h1
  · rw [List.mem_singleton.1 h1]; exact hm
theorem w9 {r r' : RS} {n : Nd} {i : Nat} (h : AI r.ns) (hn : n.atts.length ≤ 32) (ha : addF n r = .ok (i, r')) : AI r'.ns := by
  unfold addF at ha
  split at ha
  · cases ha
  · split at ha
    · injection ha with ha; injection ha with _ ha; rw [← ha]; exact h.snoc hn
    · injection ha with ha; injection ha with _ ha; rw [← ha]; exact (h.kid _ _).snoc hn
theorem rY {r r' : RS} {t : Tx} (h : AI r.ns) (ha : aS t r = .ok r') : AI r'.ns := by
  unfold aS at ha
  split at ha
  · injection ha with ha; rw [← ha]; exact h
  split at ha
  · cases ha
  split at ha
  · injection ha with ha
    rw [← ha]
    intro n hn
    obtain ⟨j, hj⟩ := List.mem_iff_getElem?.1 hn
    dsimp only at hj
    rw [List.getElem?_modify] at hj
    cases hx : r.ns[j]? with
    | none => rw [hx] at hj; cases hj
    | some m =>
      rw [hx] at hj
      change some _ = some n at hj
      injection hj with hj
      have := h m (List.mem_of_getElem? hx)
      rw [← hj]
      split <;> exact this
  · split at ha
    · rename_i g
      injection ha with ha
      rw [← ha]
      exact w9 h (by simp [nd0]) g
    · cases ha
theorem ou {r : RS} {ds : List Dcl} : ∀ {l acc l' : List Att}, fJ r ds acc l = .ok l' → l'.length = acc.length + l.length
  | [], acc, l', h => by unfold fJ at h; injection h with h; rw [h]; rfl
  | a :: l, acc, l', h => by
    unfold fJ at h
    split at h
    · have := ou h; rw [this]; simp; omega
    · split at h
      · have := ou h; rw [this]; simp; omega
      · cases h
theorem rZ : ∀ (f : Nat) {nms nms' : List Tx} {n n' : Nd} {s s' : Tx}, bA f nms n s = .ok (nms', n', s') → n'.atts.length + nms.length ≤ n.atts.length + nms'.length
  | 0, _, _, _, _, _, _, h => by cases h
  | f + 1, nms, nms', n, n', s, s', h => by
    unfold bA at h
    split at h
    · cases hn : dh (aG s).2 with
      | error e => rw [hn] at h; cases h
      | ok x =>
        obtain ⟨nm, s1⟩ := x
        rw [hn] at h
        dsimp only at h
        cases he : eqF s1 with
        | error e => rw [he] at h; cases h
        | ok s2 =>
          rw [he] at h
          dsimp only at h
          cases hq : iP s2 with
          | error e => rw [hq] at h; cases h
          | ok y =>
            obtain ⟨v, s3⟩ := y
            rw [hq] at h
            have := rZ f h
            have hp : (bW nm v n).atts.length ≤ n.atts.length + 1 := by
              unfold bW
              split
              · simp
              split
              · split <;> simp
              · simp
            rw [List.length_append] at this
            simp at this
            omega
    · injection h with h
      injection h with h1 h2
      injection h2 with h2 _
      rw [← h1, ← h2]
      omega
theorem DR {r r' : RS} (h : AI r.ns) (ha : bH r = .ok r') : AI r'.ns := by
  unfold bH at ha
  split at ha
  · cases ha
  cases hn : dh r.s with
  | error e => rw [hn] at ha; cases ha
  | ok x =>
    obtain ⟨nm, s1⟩ := x
    rw [hn] at ha
    dsimp only at ha
    cases hat : bA (s1.length + 1) [] (dx nm) s1 with
    | error e => rw [hat] at ha; cases ha
    | ok y =>
      obtain ⟨nms, n, s2⟩ := y
      rw [hat] at ha
      dsimp only at ha
      split at ha
      · cases ha
      split at ha
      · cases ha
      rename_i h32
      split at ha
      · cases ha
      cases hs : bq r n with
      | error e => rw [hs] at ha; cases ha
      | ok n' =>
        rw [hs] at ha
        dsimp only at ha
        split at ha
        · cases ha
        cases hd : addF n' { r with s := (hasF [62] (hasF [47] s2).2).2 } with
        | error e => rw [hd] at ha; cases ha
        | ok z =>
          obtain ⟨a, r1⟩ := z
          rw [hd] at ha
          dsimp only at ha
          injection ha with ha
          have hl := rZ _ hat
          have hh : (dx nm).atts = [] := by unfold dx; split <;> rfl
          rw [hh] at hl
          have hl2 : n'.atts.length = n.atts.length := by
            unfold bq at hs
            split at hs
            · cases hs
            split at hs
            · split at hs
              · rename_i l' hx
                injection hs with hs
                have := ou hx
                rw [← hs]
                simpa using this
              · cases hs
            · cases hs
          have := w9 (r := { r with s := (hasF [62] (hasF [47] s2).2).2 }) h (n := n') (by simp at hl; omega) hd
          rw [← ha]
          exact this
theorem r9 {r r' : RS} {n : Nd} {s : Tx} (h : AI r.ns) (hn : n.atts.length ≤ 32) (ha : (if r.stk = [] then (.ok { r with s := s } : Ex RS) else match addF n { r with s := s } with | .error e => .error e | .ok (_, r') => .ok r') = .ok r') : AI r'.ns := by
  split at ha
  · injection ha with ha; rw [← ha]; exact h
  · cases hd : addF n { r with s := s } with
    | error e => rw [hd] at ha; cases ha
    | ok z =>
      obtain ⟨a, r1⟩ := z
      rw [hd] at ha
      injection ha with ha
      rw [← ha]
      exact w9 (r := { r with s := s }) h hn hd
theorem FI {r r' : RS} (h : AI r.ns) (ha : iQ r = .ok r') : AI r'.ns := by
  unfold iQ at ha
  split at ha
  · unfold aX at ha
    dsimp only at ha
    split at ha
    · cases ha
    · split at ha
      · exact r9 h (n := { nd0 with kind := 3, val := _ }) (by simp [nd0]) ha
      · cases ha
  split at ha
  · cases ha
  split at ha
  · split at ha
    · cases ha
    · refine rY ?_ ha; exact h
  split at ha
  · unfold fB at ha
    dsimp only at ha
    split at ha
    · cases ha
    · split at ha
      · cases ha
      split at ha
      · exact r9 h (n := { nd0 with kind := 4, loc := _, val := _ }) (by simp [nd0]) ha
      · split at ha
        · split at ha
          · cases ha
          · exact r9 h (n := { nd0 with kind := 4, loc := _, val := _ }) (by simp [nd0]) ha
        · cases ha
  split at ha
  · unfold endF at ha
    dsimp only at ha
    split at ha
    · cases ha
    · split at ha
      · cases ha
      · split at ha
        · injection ha with ha; rw [← ha]; exact h
        · cases ha
  split at ha
  · refine DR ?_ ha; exact h
  · injection ha with ha; rw [← ha]; exact h
theorem FJ {r r' : RS} (h : AI r.ns) (ha : bg r = .ok r') : AI r'.ns := by
  unfold bg at ha
  split at ha
  · exact FI h ha
  split at ha
  · split at ha
    · cases ha
    · refine rY ?_ ha; exact h
  split at ha
  · cases ha
  unfold gq at ha
  split at ha
  · split at ha
    · injection ha with ha; rw [← ha]; exact h
    · cases ha
  split at ha
  · cases ha
  split at ha
  · cases ha
  · rename_i g
    injection ha with ha
    rw [← ha]
    have := rY h g
    exact this
theorem Cj : ∀ (f : Nat) {r r' : RS}, AI r.ns → allR f r = .ok r' → AI r'.ns
  | 0, r, r', h, ha => by
    unfold allR at ha
    split at ha
    · injection ha with ha; subst ha; exact h
    · cases ha
  | f + 1, r, r', h, ha => by
    unfold allR at ha
    split at ha
    · injection ha with ha; subst ha; exact h
    · split at ha
      · cases ha
      · rename_i r1 h1
        exact Cj f (FJ h h1) ha
theorem Bp {b : Tx} {ns : List Nd} (h : eB b = .ok ns) : AI ns := by
  unfold eB at h
  split at h
  · cases h
  split at h
  · cases h
  unfold allF at h
  split at h
  · cases h
  split at h
  · cases h
  rename_i r h2
  split at h
  · injection h with h
    subst h
    exact Cj _ (fun n hn => by cases hn) h2
  · cases h
theorem Ck : ∀ {ns : List Nd} {i : Nat} {n : Nd}, ns[i]? = some n → n.kids.length ≤ bM ns
  | [], i, n, h => by simp at h
  | m :: ns, 0, n, h => by
    simp at h; subst h
    show _ ≤ m.kids.length + bM ns
    omega
  | m :: ns, i + 1, n, h => by
    have := Ck (ns := ns) (i := i) (by simpa using h)
    show _ ≤ m.kids.length + bM ns
    omega
theorem zC {b : Tx} {ns : List Nd} (hp : eB b = .ok ns) {i : Nat} {n : Nd} (hn : ns[i]? = some n) : n.kids.length ≤ 1000000 ∧ n.atts.length ≤ 1000000 ∧ n.dcls.length ≤ 1000000 := by
  have hm := List.mem_of_getElem? hn
  obtain ⟨h1, h2⟩ := pE hp
  obtain ⟨_, h3⟩ := zf hp
  have h4 := Bp hp n hm
  have h5 := Ck hn
  exact ⟨by omega, by omega, h2 n hm⟩
end Go.Proofs.YtohgmkjhbacmpaaGreatDoor
set_option linter.unusedVariables false
namespace Go.Proofs.YtohgmkjhbacmpaaGreatDoor
open Go Go.Abs Go.RowKit Go.Xml
theorem FK {b : Tx} {ns : List Nd} (hp : eB b = .ok ns) : Small ns := by
  obtain ⟨h1, _⟩ := pE hp
  exact ⟨by omega, fun n hn => by obtain ⟨i, hi⟩ := List.mem_iff_getElem?.1 hn; exact zC hp hi⟩
end Go.Proofs.YtohgmkjhbacmpaaGreatDoor
set_option linter.unusedVariables false
set_option linter.unusedSimpArgs false
namespace Go.Proofs.YtohgmkjhbacmpaaGreatDoor
open Go Go.Abs Go.RowKit Go.Xml
variable {base : Nat} {w0 : World} {G : Nat}
def dV (hex : Bool) : Nat := if hex then 16 else 10
theorem DT {d : Nat} (h : d < 16) : (lN.take (d + 1)).drop d = [hexd d] := by
  have : ∀ k : Fin 16, (lN.take (k.val + 1)).drop k.val = [hexd k.val] := by decide
  exact this ⟨d, h⟩
set_option maxRecDepth 10000 in
theorem nD (st : St) (n : Nat) (hex : Bool) (hn : n < 10000000) (k q : Value → St → Prop) (hk : k (.string (tx (dg (dV hex) n))) st) : ay (C base w0 G) 16 [.int .i64 n, .bool hex] st k q := by
  refine ay.of (cx := C base w0 G) mixed Tryz.func16 rfl (by kernel_rfl) (by simp [Tryz.ntmps16]) ?_
  simp only [Tryz.results16]
  have e0 : (⟨#[]⟩ : ByteArray) = tx [] := rfl
  have e16 : (⟨#[48, 49, 50, 51, 52, 53, 54, 55, 56, 57, 97, 98, 99, 100, 101, 102]⟩ : ByteArray) = tx lN := rfl
  simp -implicitDefEqProofs only [go_sem, astr, ak, Nat.reduceBEq, ↓reduceIte, reduceCtorEq, Nat.reduceEqDiff, Nat.reduceAdd, Nat.reduceLeDiff, Int.reduceEq, Int.reduceLT, Int.reduceLE, Int.reduceAdd, Int.reduceToNat, Int.reduceNeg, Nat.reduceMul, Nat.reduceSub, Int.reduceBNe, Int.reduceBEq, e0]
  rw [aj]
  simp -implicitDefEqProofs only [go_sem, astr, ak, Nat.reduceBEq, ↓reduceIte, reduceCtorEq, Nat.reduceEqDiff, Nat.reduceAdd, Nat.reduceLeDiff, Int.reduceEq, Int.reduceLT, Int.reduceLE, Int.reduceAdd, Int.reduceToNat, Int.reduceNeg, Nat.reduceMul, Nat.reduceSub, Int.reduceBNe, Int.reduceBEq, e0]
  rw [aj]
  simp -implicitDefEqProofs only [go_sem, astr, ak, Nat.reduceBEq, ↓reduceIte, reduceCtorEq, Nat.reduceEqDiff, Nat.reduceAdd, Nat.reduceLeDiff, Int.reduceEq, Int.reduceLT, Int.reduceLE, Int.reduceAdd, Int.reduceToNat, Int.reduceNeg, Nat.reduceMul, Nat.reduceSub, Int.reduceBNe, Int.reduceBEq, e0]
  have hb : dV hex = 10 ∨ dV hex = 16 := by cases hex <;> simp [dV]
  refine mD (fun ρ s => s = st ∧ ρ 0 = .int .i64 (n : Nat) ∧ ρ 5 = .int .i64 (dV hex : Nat)) ?_ ?_
  · cases hex <;> simp -implicitDefEqProofs only [go_sem, ↓aj, ↓ah, ak, Nat.reduceBEq, ↓reduceIte, reduceCtorEq, Nat.reduceEqDiff, Nat.reduceAdd, Nat.reduceLeDiff, Int.reduceEq, Int.reduceLT, Int.reduceLE, Int.reduceAdd, Int.reduceToNat, Int.reduceNeg, Nat.reduceMul, Nat.reduceSub, Int.reduceBNe, Int.reduceBEq] <;> (repeat' first | assumption | exact rfl | apply And.intro)
  rintro ρ s ⟨rfl, h0, h5⟩
  generalize dV hex = b at *
  have hp : n < b ^ (7 + 1) := by rcases hb with rfl | rfl <;> omega
  simp -implicitDefEqProofs only [go_sem, ↓aj, ↓ah, ak, Nat.reduceBEq, ↓reduceIte, reduceCtorEq, Nat.reduceEqDiff, Nat.reduceAdd, Nat.reduceLeDiff, Int.reduceEq, Int.reduceLT, Int.reduceLE, Int.reduceAdd, Int.reduceToNat, Int.reduceNeg, Nat.reduceMul, Nat.reduceSub, Int.reduceBNe, Int.reduceBEq, e0]
  refine ⟨fun m ρ s' => ∃ (f n' : Nat) (acc : Tx), m = f + 1 ∧ f ≤ 7 ∧ n' < b ^ (f + 1) ∧ n' < 10000000 ∧ dgF f b n' acc = dg b n ∧ acc.length + f ≤ 7 ∧ ρ 0 = .int .i64 (n' : Nat) ∧ ρ 5 = .int .i64 (b : Nat) ∧ ρ 6 = .string (tx acc) ∧ s = s', ⟨_, 7, n, [], rfl, Nat.le_refl _, hp, hn, rfl, Nat.le_refl _, h0, h5, rfl, rfl⟩, ?_⟩
  clear h0 h5
  rintro _ ρ s' ⟨f, n', acc, rfl, hf, hp', hn', hd, hal, h0, h5, h6, rfl⟩
  have hmod : n' % b < b := Nat.mod_lt _ (by omega)
  have f1 : ((b : Int) = 0) = False := by simp; omega
  have tm : (n' : Int).tmod (b : Int) = ((n' % b : Nat) : Int) := by rw [Int.tmod_eq_emod_of_nonneg (by omega)]; rfl
  have td : (n' : Int).tdiv (b : Int) = ((n' / b : Nat) : Int) := by rw [Int.tdiv_eq_ediv_of_nonneg (by omega)]; rfl
  have hdl : n' / b ≤ n' := Nat.div_le_self _ _
  have key1 : n' / b = 0 → dgF f b n' acc = hexd (n' % b) :: acc := fun hz => by
    cases f with
    | zero => rfl
    | succ f => unfold dgF; rw [if_pos hz]
  have key2 : n' / b ≠ 0 → ∃ f', f = f' + 1 ∧ dgF f b n' acc = dgF f' b (n' / b) (hexd (n' % b) :: acc) ∧ n' / b < b ^ (f' + 1) := fun hz => by
    cases f with
    | zero =>
      exfalso
      have : n' < b := by simpa using hp'
      exact hz (Nat.div_eq_of_lt this)
    | succ f =>
      refine ⟨f, rfl, ?_, ?_⟩
      · conv => lhs; unfold dgF
        rw [if_neg hz]
      · rw [Nat.div_lt_iff_lt_mul (by omega), ← Nat.pow_succ]
        exact hp'
  rw [hd] at key1 key2
  generalize n' / b = Q at *
  generalize n' % b = M at *
  have wd : IntKind.i64.wrap (Q : Int) = (Q : Int) := cZ (by omega)
  have w1 : IntKind.i64.wrap ((M : Int) + 1) = ((M + 1 : Nat) : Int) := by rw [cZ (by omega)]; rfl
  have hh : lN.length = 16 := rfl
  have hsl : aslice Tryz.prog s 9 (.string (tx lN)) (some (.int .i64 (M : Int))) (some (.int .i64 ((M + 1 : Nat) : Int))) none = some (.string (tx [hexd M])) := by
    rw [nT (a := M) (b := M + 1) (c := lN.length) Tryz.underlying9 (vS (by omega) (by omega)), DT (by omega)]
  have hadd : astr .add (tx [hexd M]) (tx acc) = some (.string (tx (hexd M :: acc))) := aD (a := [hexd M]) (b := acc) (by simp; omega)
  have hwm : IntKind.i64.wrap (M : Int) = (M : Int) := cZ (by omega)
  simp -implicitDefEqProofs only [go_sem, ↓aj, ↓ah, ak, Nat.reduceBEq, ↓reduceIte, reduceCtorEq, Nat.reduceEqDiff, Nat.reduceAdd, Nat.reduceLeDiff, Int.reduceEq, Int.reduceLT, Int.reduceLE, Int.reduceAdd, Int.reduceToNat, Int.reduceNeg, Nat.reduceMul, Nat.reduceSub, Int.reduceBNe, Int.reduceBEq, h0, h5, h6, e16]
  refine bJ.of [(0, false, []), (1, false, []), (2, false, []), (3, false, []), (4, false, []), (5, false, []), (6, false, []), (7, false, []), (8, false, []), (9, false, []), (10, false, [])] [] [] (by kernel_rfl) ?_
  simp -implicitDefEqProofs only [go_sem, ↓aj, ↓ah, ak, Nat.reduceBEq, ↓reduceIte, reduceCtorEq, Nat.reduceEqDiff, Nat.reduceAdd, Nat.reduceLeDiff, Int.reduceEq, Int.reduceLT, Int.reduceLE, Int.reduceAdd, Int.reduceToNat, Int.reduceNeg, Nat.reduceMul, Nat.reduceSub, Int.reduceBNe, Int.reduceBEq, h0, h5, h6, e16, f1, if_false, tm, td, wd, w1, hwm, hsl, hadd, Tryz.underlying9]
  refine ⟨fun hz => ?_, fun hz => ?_⟩
  · rw [← key1 (by omega)]
    exact hk
  · obtain ⟨f', rfl, g1, g2⟩ := key2 (by omega)
    exact ⟨f' + 1, by omega, f', Q, hexd M :: acc, rfl, by omega, g2, by omega, g1.symm, by simp; omega, by (repeat' first | assumption | exact rfl | apply And.intro)⟩
def uO (c : Nat) : Bool := c == 10 || (c == 9 || (c == 60 || (c == 38 || (c == 34 || (c == 39 || (c == 62 || c == 93))))))
def bR (c : Nat) : Tx := if uO c then bI false c else utf8 c
def aZ (cs : List Nat) : Tx := cs.flatMap bR
def gN (hex : Bool) (cs : List Nat) : Tx := cs.flatMap (bI hex)
def kg (cs : List Nat) : Tx := cs.flatMap utf8
def okC (c : Nat) : Prop := aR c = true ∧ c ≠ 13
theorem FL {c : Nat} (hc : aR c = true) (h13 : c ≠ 13) (hs : uO c = false) : ∀ x ∈ utf8 c, rawB x = true := by
  obtain ⟨h1, h2⟩ := gB hc
  have big : ∀ n : Nat, 128 ≤ n → n < 256 → rawB (UInt8.ofNat n) = true := by
    have : ∀ k : Fin 256, 128 ≤ k.val → rawB (UInt8.ofNat k.val) = true := by decide +kernel
    exact fun n a b => this ⟨n, b⟩ a
  have small : ∀ n : Nat, n < 128 → n ≠ 13 → uO n = false → rawB (UInt8.ofNat n) = true := by
    have : ∀ k : Fin 128, k.val ≠ 13 → uO k.val = false → rawB (UInt8.ofNat k.val) = true := by decide +kernel
    exact fun n a b d => this ⟨n, a⟩ b d
  intro x hx
  unfold utf8 at hx
  split at hx
  · rw [List.mem_singleton.1 hx]; exact small c (by omega) h13 hs
  split at hx
  · simp only [List.mem_cons, List.not_mem_nil, or_false] at hx
    rcases hx with rfl | rfl <;> exact big _ (by omega) (by omega)
  split at hx
  · simp only [List.mem_cons, List.not_mem_nil, or_false] at hx
    rcases hx with rfl | rfl | rfl <;> exact big _ (by omega) (by omega)
  · simp only [List.mem_cons, List.not_mem_nil, or_false] at hx
    rcases hx with rfl | rfl | rfl | rfl <;> exact big _ (by omega) (by omega)
theorem uP : ∀ {cs : List Nat}, (∀ c ∈ cs, okC c) → Enc (aZ cs) (kg cs)
  | [], _ => .nil
  | c :: cs, h => by
    obtain ⟨h1, h2⟩ := h c (List.mem_cons_self ..)
    have ih := uP (cs := cs) fun d hd => h d (List.mem_cons_of_mem _ hd)
    show Enc (bR c ++ aZ cs) (utf8 c ++ kg cs)
    unfold bR
    split
    · exact .ref false h1 ih
    · rename_i g
      exact .raw (FL h1 h2 (by simpa using g)) ih
theorem uQ (hex : Bool) : ∀ {cs : List Nat}, (∀ c ∈ cs, okC c) → Enc (gN hex cs) (kg cs)
  | [], _ => .nil
  | c :: cs, h => .ref hex (h c (List.mem_cons_self ..)).1 (uQ hex (cs := cs) fun d hd => h d (List.mem_cons_of_mem _ hd))
theorem sj : ∀ {cs : List Nat}, (∀ c ∈ cs, okC c) → Good (aZ cs)
  | [], _ => .nil
  | c :: cs, h => by
    have ih := sj (cs := cs) fun d hd => h d (List.mem_cons_of_mem _ hd)
    show Good (bR c ++ aZ cs)
    unfold bR
    split
    · exact (zA false c).append ih
    · exact .cons (h c (List.mem_cons_self ..)).1 ih
theorem su (hex : Bool) : ∀ {cs : List Nat}, Good (gN hex cs)
  | [] => .nil
  | c :: cs => (zA hex c).append (su hex (cs := cs))
theorem kH (hex : Bool) (c : Nat) : (bI hex c).length ≤ 12 := by
  have h1 := kG (b := 10) 7 c []
  have h2 := kG (b := 16) 7 c []
  simp at h1 h2
  unfold bI dg
  cases hex <;> simp <;> omega
theorem iV {f : Nat → Tx} {m : Nat} (hf : ∀ c, (f c).length ≤ m) : ∀ cs : List Nat, (cs.flatMap f).length ≤ cs.length * m
  | [] => by simp
  | c :: cs => by
    have := iV hf cs
    have := hf c
    rw [List.flatMap_cons, List.length_append, List.length_cons, Nat.succ_mul]
    omega
theorem sw (cs : List Nat) : (aZ cs).length ≤ cs.length * 12 := iV (fun c => by
  unfold bR
  split
  · exact kH _ _
  · have := (oq c).2; omega) cs
theorem sD (hex : Bool) (cs : List Nat) : (gN hex cs).length ≤ cs.length * 12 := iV (kH hex) cs
theorem uR (cs : List Nat) : (kg cs).length ≤ cs.length * 4 := iV (fun c => (oq c).2) cs
theorem ow (f : Nat → Tx) (cs : List Nat) (c : Nat) : (cs ++ [c]).flatMap f = cs.flatMap f ++ f c := by simp
def codes (zs : List Int) : List Nat := zs.map Int.toNat
theorem sF {zs : List Int} {i : Nat} (h : i < zs.length) : codes (zs.take (i + 1)) = codes (zs.take i) ++ [zs[i].toNat] := by
  unfold codes
  rw [List.take_succ_eq_append_getElem h, List.map_append]
  rfl
theorem FM (hex : Bool) (c : Nat) : ((if hex then [38, 35, 120] else [38, 35] : Tx) ++ dg (dV hex) c) ++ [59] = bI hex c := by cases hex <;> simp [bI, dV]
theorem FN (b c : Nat) : (dg b c).length ≤ 8 := by have := (kG (b := b) 7 c []).2; simpa [dg] using this
theorem uS {c : Nat} (h : okC c) : Utf8.encode (c : Int) = tx (utf8 c) := by
  obtain ⟨h1, h2⟩ := gB h.1
  have h0 : 0 < c := by
    have hc := h.1
    unfold aR at hc
    simp only [Bool.or_eq_true, Bool.and_eq_true, decide_eq_true_eq] at hc
    omega
  rw [oZ (c : Int) ⟨by omega, by omega⟩, Int.toNat_natCast]
  unfold fZ
  rw [if_neg (by omega)]
theorem sG {P : Program} {st : St} {s t : TypeId} {k : IntKind} {n : Int} {d : TypeDesc} (hs : P.underlying s = some d) (ht : P.underlying t = some .string) : bS P st s t (.int k n) = some (.string (Utf8.encode n), st) := by
  unfold bS; rw [hs, ht]
set_option maxRecDepth 10000 in
set_option maxHeartbeats 2000000 in
theorem xg (st : St) (r : Hp) (V : Value) (zs : List Int) (hex : Bool) (hM : dL w0) (hT : bZ w0) (hV : Rws r V 1 (zs.map fun z => [Value.int .i32 z])) (hz : ∀ z ∈ zs, -2147483648 ≤ z ∧ z ≤ 2147483647) (hO : Own st r) (k q : Value → St → Prop) (hk : ∀ st', k (.bool true) st') : ay (C base w0 3) 7 [V, .bool hex] st k q := by
  obtain ⟨xa, xc, hxs, _⟩ := hV.isSlice
  rw [List.length_map] at hxs
  refine ay.of (cx := C base w0 3) mixed Tryz.func7 rfl (by kernel_rfl) (by simp [Tryz.ntmps7]) ?_
  simp only [Tryz.results7]
  have e0 : (⟨#[]⟩ : ByteArray) = tx [] := rfl
  simp -implicitDefEqProofs only [go_sem, ↓aj, ↓ah, ak, Nat.reduceBEq, ↓reduceIte, reduceCtorEq, Nat.reduceEqDiff, Nat.reduceAdd, Nat.reduceLeDiff, Int.reduceEq, Int.reduceLT, Int.reduceLE, Int.reduceAdd, Int.reduceToNat, Int.reduceNeg, Nat.reduceMul, Nat.reduceSub, Int.reduceBNe, Int.reduceBEq]
  refine au.enter Tryz.func8 rfl (by kernel_rfl) (rO _ _ hM hT hO _ _ fun s1 ho1 => ?_)
  by_cases hlen : zs.length > 60
  · simp -implicitDefEqProofs only [go_sem, ↓aj, ↓ah, ak, Nat.reduceBEq, ↓reduceIte, reduceCtorEq, Nat.reduceEqDiff, Nat.reduceAdd, Nat.reduceLeDiff, Int.reduceEq, Int.reduceLT, Int.reduceLE, Int.reduceAdd, Int.reduceToNat, Int.reduceNeg, Nat.reduceMul, Nat.reduceSub, Int.reduceBNe, Int.reduceBEq, Bool.not_true, hxs, Tryz.underlying48, show ((zs.length : Int) > 60) = True by simp; omega, decide_true]
    refine au.enter Tryz.func8 rfl (by kernel_rfl) (rO s1 _ hM hT ho1 _ _ fun s2 ho2 => ?_)
    simp -implicitDefEqProofs only [go_sem, ↓aj, ↓ah, ak, Nat.reduceBEq, ↓reduceIte, reduceCtorEq, Nat.reduceEqDiff, Nat.reduceAdd, Nat.reduceLeDiff, Int.reduceEq, Int.reduceLT, Int.reduceLE, Int.reduceAdd, Int.reduceToNat, Int.reduceNeg, Nat.reduceMul, Nat.reduceSub, Int.reduceBNe, Int.reduceBEq]
    exact hk _
  simp -implicitDefEqProofs only [go_sem, astr, ak, Nat.reduceBEq, ↓reduceIte, reduceCtorEq, Nat.reduceEqDiff, Nat.reduceAdd, Nat.reduceLeDiff, Int.reduceEq, Int.reduceLT, Int.reduceLE, Int.reduceAdd, Int.reduceToNat, Int.reduceNeg, Nat.reduceMul, Nat.reduceSub, Int.reduceBNe, Int.reduceBEq, Bool.not_true, hxs, Tryz.underlying48, show ((zs.length : Int) > 60) = False by simp; omega, decide_false, e0]
  rw [aj]
  simp -implicitDefEqProofs only [go_sem, astr, ak, Nat.reduceBEq, ↓reduceIte, reduceCtorEq, Nat.reduceEqDiff, Nat.reduceAdd, Nat.reduceLeDiff, Int.reduceEq, Int.reduceLT, Int.reduceLE, Int.reduceAdd, Int.reduceToNat, Int.reduceNeg, Nat.reduceMul, Nat.reduceSub, Int.reduceBNe, Int.reduceBEq, e0]
  refine mD (fun ρ s => s1 = s ∧ ρ 0 = V ∧ ρ 5 = .string (tx (aZ (codes zs))) ∧ ρ 6 = .string (tx (gN hex (codes zs))) ∧ ∀ c ∈ codes zs, okC c) ?_ ?_
  · simp -implicitDefEqProofs only [go_sem, ↓aj, ↓ah, ak, Nat.reduceBEq, ↓reduceIte, reduceCtorEq, Nat.reduceEqDiff, Nat.reduceAdd, Nat.reduceLeDiff, Int.reduceEq, Int.reduceLT, Int.reduceLE, Int.reduceAdd, Int.reduceToNat, Int.reduceNeg, Nat.reduceMul, Nat.reduceSub, Int.reduceBNe, Int.reduceBEq]
    refine ⟨fun m ρ s => ∃ i : Nat, m = zs.length - i ∧ i ≤ zs.length ∧ ρ 0 = V ∧ ρ 1 = .bool hex ∧ ρ 5 = .string (tx (aZ (codes (zs.take i)))) ∧ ρ 6 = .string (tx (gN hex (codes (zs.take i)))) ∧ ρ 7 = .int .i64 (i : Nat) ∧ s1 = s ∧ ∀ c ∈ codes (zs.take i), okC c, ⟨_, 0, rfl, Nat.zero_le _, hxs.symm, rfl, rfl, rfl, rfl, rfl, fun c hc => by cases hc⟩, ?_⟩
    rintro _ ρ s ⟨i, rfl, hi, h0, h1, h5, h6, h7, rfl, hall⟩
    by_cases hil : i < zs.length
    case neg =>
      obtain rfl : i = zs.length := by omega
      rw [List.take_length] at h5 h6 hall
      simp -implicitDefEqProofs only [go_sem, ↓aj, ↓ah, ak, Nat.reduceBEq, ↓reduceIte, reduceCtorEq, Nat.reduceEqDiff, Nat.reduceAdd, Nat.reduceLeDiff, Int.reduceEq, Int.reduceLT, Int.reduceLE, Int.reduceAdd, Int.reduceToNat, Int.reduceNeg, Nat.reduceMul, Nat.reduceSub, Int.reduceBNe, Int.reduceBEq, h0, h1, h5, h6, h7, hxs, Tryz.underlying48, Int.ofNat_lt, Nat.lt_irrefl, decide_false]
      (repeat' first | assumption | exact rfl | apply And.intro)
    obtain ⟨x, o, sp, cp, ccs, ty, own, hvx, hmem, hcut⟩ := hV.mem (i := i) (l := [.int .i32 zs[i]]) (by simp [hil])
    rw [List.length_map] at hvx
    have hcx := ho1.get hmem
    have gx := eG hcut (j := 0) (by decide)
    rw [Nat.add_zero, Nat.mul_one] at gx
    change ccs[o + i]? = some (.int .i32 zs[i]) at gx
    have hzr := hz zs[i] (List.getElem_mem hil)
    have hct := sF hil
    have wi : IntKind.i64.wrap ((i : Int) + 1) = ((i + 1 : Nat) : Int) := by rw [cZ (by omega)]; rfl
    have hzi : (0 ≤ (i : Int)) = True := eq_true (by omega)
    have hclen : (codes (zs.take i)).length ≤ 60 := by unfold codes; simp; omega
    have hpl := sw (codes (zs.take i))
    have hcl := sD hex (codes (zs.take i))
    generalize zs[i] = z at *
    have wz : IntKind.i64.wrap z = z := cZ (by omega)
    by_cases hz0 : z < 0
    · simp -implicitDefEqProofs only [go_sem, ↓aj, ↓ah, ak, Nat.reduceBEq, ↓reduceIte, reduceCtorEq, Nat.reduceEqDiff, Nat.reduceAdd, Nat.reduceLeDiff, Int.reduceEq, Int.reduceLT, Int.reduceLE, Int.reduceAdd, Int.reduceToNat, Int.reduceNeg, Nat.reduceMul, Nat.reduceSub, Int.reduceBNe, Int.reduceBEq, h0, h1, h5, h6, h7, hvx, hcx, gx, hzi, and_self, Int.toNat_natCast, Nat.mul_one, Int.ofNat_lt, hil, decide_true, oN, Tryz.underlying21, Tryz.underlying3, Tryz.underlying48, zB (P := Tryz.prog) (s := 21) (t := 3) Tryz.underlying21 Tryz.underlying3, wz, eq_true hz0]
      exact hk _
    obtain ⟨c, rfl⟩ : ∃ c : Nat, z = c := ⟨z.toNat, by omega⟩
    have hc0 : ((c : Int) < 0) = False := eq_false (by omega)
    rw [Int.toNat_natCast] at hct
    simp -implicitDefEqProofs only [go_sem, ↓aj, ↓ah, ak, Nat.reduceBEq, ↓reduceIte, reduceCtorEq, Nat.reduceEqDiff, Nat.reduceAdd, Nat.reduceLeDiff, Int.reduceEq, Int.reduceLT, Int.reduceLE, Int.reduceAdd, Int.reduceToNat, Int.reduceNeg, Nat.reduceMul, Nat.reduceSub, Int.reduceBNe, Int.reduceBEq, h0, h1, h5, h6, h7, hvx, hcx, gx, hzi, and_self, Int.toNat_natCast, Nat.mul_one, Int.ofNat_lt, hil, decide_true, decide_false, oN, Tryz.underlying21, Tryz.underlying3, Tryz.underlying48, zB (P := Tryz.prog) (s := 21) (t := 3) Tryz.underlying21 Tryz.underlying3, wz, hc0]
    refine au.enter Tryz.func15 rfl (by kernel_rfl) (Ba _ c _ _ ?_)
    cases hch : aR c with
    | false =>
      simp -implicitDefEqProofs only [go_sem, ↓aj, ↓ah, ak, Nat.reduceBEq, ↓reduceIte, reduceCtorEq, Nat.reduceEqDiff, Nat.reduceAdd, Nat.reduceLeDiff, Int.reduceEq, Int.reduceLT, Int.reduceLE, Int.reduceAdd, Int.reduceToNat, Int.reduceNeg, Nat.reduceMul, Nat.reduceSub, Int.reduceBNe, Int.reduceBEq, h0, h1, h5, h6, h7, Bool.not_false]
      exact hk _
    | true =>
    by_cases h13 : c = 13
    · have q13 : ((c : Int) == 13) = true := by rw [beq_iff_eq]; omega
      simp -implicitDefEqProofs only [go_sem, ↓aj, ↓ah, ak, Nat.reduceBEq, ↓reduceIte, reduceCtorEq, Nat.reduceEqDiff, Nat.reduceAdd, Nat.reduceLeDiff, Int.reduceEq, Int.reduceLT, Int.reduceLE, Int.reduceAdd, Int.reduceToNat, Int.reduceNeg, Nat.reduceMul, Nat.reduceSub, Int.reduceBNe, Int.reduceBEq, h0, h1, h5, h6, h7, Bool.not_true, q13, Tryz.underlying3]
      exact hk _
    have q13 : ((c : Int) == 13) = false := by rw [beq_eq_false_iff_ne]; omega
    obtain ⟨hclt, _⟩ := gB hch
    have e2 : (⟨#[38, 35]⟩ : ByteArray) = tx [38, 35] := rfl
    have e3 : (⟨#[120]⟩ : ByteArray) = tx [120] := rfl
    have e4 : (⟨#[59]⟩ : ByteArray) = tx [59] := rfl
    have hdl := FN (dV hex) c
    have hdl2 := FN (dV false) c
    have hok : ∀ d ∈ codes (zs.take (i + 1)), okC d := by
      rw [hct]
      intro d hd
      rcases List.mem_append.1 hd with g | g
      · exact hall d g
      · rw [List.mem_singleton.1 g]; exact ⟨hch, h13⟩
    have hpn : aZ (codes (zs.take (i + 1))) = aZ (codes (zs.take i)) ++ bR c := by rw [hct]; exact ow _ _ _
    have hcn : gN hex (codes (zs.take (i + 1))) = gN hex (codes (zs.take i)) ++ bI hex c := by rw [hct]; exact ow _ _ _
    obtain ⟨sx, hsx⟩ : ∃ sx : Tx, sx = if hex then [38, 35, 120] else [38, 35] := ⟨_, rfl⟩
    have hsl : sx.length ≤ 3 := by rw [hsx]; cases hex <;> simp
    have hre := FM hex c
    have hre2 := FM false c
    rw [← hsx] at hre
    have hrl := kH hex c
    have hrl2 := kH false c
    have a0 : astr .add (tx [38, 35]) (tx [120]) = some (.string (tx [38, 35, 120])) := aD (a := [38, 35]) (b := [120]) (by simp)
    obtain ⟨u1, hu1⟩ : ∃ u : Tx, u = sx ++ dg (dV hex) c := ⟨_, rfl⟩
    obtain ⟨u2, hu2⟩ : ∃ u : Tx, u = [38, 35] ++ dg (dV false) c := ⟨_, rfl⟩
    have a1 : astr .add (tx sx) (tx (dg (dV hex) c)) = some (.string (tx u1)) := by rw [hu1]; exact aD (by omega)
    have a2 : astr .add (tx u1) (tx [59]) = some (.string (tx (bI hex c))) := by rw [← hre, hu1]; exact aD (by simp; omega)
    have a3 : astr .add (tx (gN hex (codes (zs.take i)))) (tx (bI hex c)) = some (.string (tx (gN hex (codes (zs.take (i + 1)))))) := by rw [hcn]; exact aD (by omega)
    have b1 : astr .add (tx [38, 35]) (tx (dg (dV false) c)) = some (.string (tx u2)) := by rw [hu2]; exact aD (by simp; omega)
    have b2 : astr .add (tx u2) (tx [59]) = some (.string (tx (bI false c))) := by
      have : ([38, 35] ++ dg (dV false) c) ++ [59] = bI false c := hre2
      rw [← this, hu2]; exact aD (by simp; omega)
    have hgo : ∀ (k' q' : Value → St → Prop), k' (.string (tx (dg (dV hex) c))) s1 → au (C base w0 3) 16 [.int .i64 c, .bool hex] s1 k' q' := fun k' q' h => au.enter Tryz.func16 rfl (by kernel_rfl) (nD s1 c hex (by omega) _ _ h)
    have hgo2 : ∀ (k' q' : Value → St → Prop), k' (.string (tx (dg (dV false) c))) s1 → au (C base w0 3) 16 [.int .i64 c, .bool false] s1 k' q' := fun k' q' h => au.enter Tryz.func16 rfl (by kernel_rfl) (nD s1 c false (by omega) _ _ h)
    simp -implicitDefEqProofs only [go_sem, ↓aj, ↓ah, ak, Nat.reduceBEq, ↓reduceIte, reduceCtorEq, Nat.reduceEqDiff, Nat.reduceAdd, Nat.reduceLeDiff, Int.reduceEq, Int.reduceLT, Int.reduceLE, Int.reduceAdd, Int.reduceToNat, Int.reduceNeg, Nat.reduceMul, Nat.reduceSub, Int.reduceBNe, Int.reduceBEq, h0, h1, h5, h6, h7, Bool.not_true, q13, Tryz.underlying3, e2]
    cases hex
    case' false => (change sx = [38, 35] at hsx; subst hsx)
    case' true => (change sx = [38, 35, 120] at hsx; subst hsx)
    all_goals
      simp -implicitDefEqProofs only [go_sem, ↓aj, ↓ah, ak, Nat.reduceBEq, ↓reduceIte, reduceCtorEq, Nat.reduceEqDiff, Nat.reduceAdd, Nat.reduceLeDiff, Int.reduceEq, Int.reduceLT, Int.reduceLE, Int.reduceAdd, Int.reduceToNat, Int.reduceNeg, Nat.reduceMul, Nat.reduceSub, Int.reduceBNe, Int.reduceBEq, h0, h1, h5, h6, h7, e2, e3, a0]
      refine hgo _ _ ?_
      by_cases g10 : c = 10
      · have y10 : ((c : Int) == 10) = true := by rw [beq_iff_eq]; omega
        simp -implicitDefEqProofs only [go_sem, ↓aj, ↓ah, ak, Nat.reduceBEq, ↓reduceIte, reduceCtorEq, Nat.reduceEqDiff, Nat.reduceAdd, Nat.reduceLeDiff, Int.reduceEq, Int.reduceLT, Int.reduceLE, Int.reduceAdd, Int.reduceToNat, Int.reduceNeg, Nat.reduceMul, Nat.reduceSub, Int.reduceBNe, Int.reduceBEq, h0, h1, h5, h6, h7, e4, a1, a2, a3, y10, Tryz.underlying3]
        refine hgo2 _ _ ?_
        have hsp : bR c = bI false c := by unfold bR; rw [if_pos (by rw [g10]; rfl)]
        have b3 : astr .add (tx (aZ (codes (zs.take i)))) (tx (bI false c)) = some (.string (tx (aZ (codes (zs.take (i + 1)))))) := by rw [hpn, hsp]; exact aD (by omega)
        simp -implicitDefEqProofs only [go_sem, ↓aj, ↓ah, ak, Nat.reduceBEq, ↓reduceIte, reduceCtorEq, Nat.reduceEqDiff, Nat.reduceAdd, Nat.reduceLeDiff, Int.reduceEq, Int.reduceLT, Int.reduceLE, Int.reduceAdd, Int.reduceToNat, Int.reduceNeg, Nat.reduceMul, Nat.reduceSub, Int.reduceBNe, Int.reduceBEq, h0, h1, h5, h6, h7, e2, e4, b1, b2, b3, wi, Tryz.underlying3]
        exact ⟨_, by omega, i + 1, rfl, by omega, by (repeat' first | assumption | exact rfl | apply And.intro)⟩
      have n10 : ((c : Int) == 10) = false := by rw [beq_eq_false_iff_ne]; omega
      by_cases g9 : c = 9
      · have y9 : ((c : Int) == 9) = true := by rw [beq_iff_eq]; omega
        simp -implicitDefEqProofs only [go_sem, ↓aj, ↓ah, ak, Nat.reduceBEq, ↓reduceIte, reduceCtorEq, Nat.reduceEqDiff, Nat.reduceAdd, Nat.reduceLeDiff, Int.reduceEq, Int.reduceLT, Int.reduceLE, Int.reduceAdd, Int.reduceToNat, Int.reduceNeg, Nat.reduceMul, Nat.reduceSub, Int.reduceBNe, Int.reduceBEq, h0, h1, h5, h6, h7, e4, a1, a2, a3, n10, y9, Tryz.underlying3]
        refine hgo2 _ _ ?_
        have hsp : bR c = bI false c := by unfold bR; rw [if_pos (by rw [g9]; rfl)]
        have b3 : astr .add (tx (aZ (codes (zs.take i)))) (tx (bI false c)) = some (.string (tx (aZ (codes (zs.take (i + 1)))))) := by rw [hpn, hsp]; exact aD (by omega)
        simp -implicitDefEqProofs only [go_sem, ↓aj, ↓ah, ak, Nat.reduceBEq, ↓reduceIte, reduceCtorEq, Nat.reduceEqDiff, Nat.reduceAdd, Nat.reduceLeDiff, Int.reduceEq, Int.reduceLT, Int.reduceLE, Int.reduceAdd, Int.reduceToNat, Int.reduceNeg, Nat.reduceMul, Nat.reduceSub, Int.reduceBNe, Int.reduceBEq, h0, h1, h5, h6, h7, e2, e4, b1, b2, b3, wi, Tryz.underlying3]
        exact ⟨_, by omega, i + 1, rfl, by omega, by (repeat' first | assumption | exact rfl | apply And.intro)⟩
      have n9 : ((c : Int) == 9) = false := by rw [beq_eq_false_iff_ne]; omega
      by_cases g60 : c = 60
      · have y60 : ((c : Int) == 60) = true := by rw [beq_iff_eq]; omega
        simp -implicitDefEqProofs only [go_sem, ↓aj, ↓ah, ak, Nat.reduceBEq, ↓reduceIte, reduceCtorEq, Nat.reduceEqDiff, Nat.reduceAdd, Nat.reduceLeDiff, Int.reduceEq, Int.reduceLT, Int.reduceLE, Int.reduceAdd, Int.reduceToNat, Int.reduceNeg, Nat.reduceMul, Nat.reduceSub, Int.reduceBNe, Int.reduceBEq, h0, h1, h5, h6, h7, e4, a1, a2, a3, n10, n9, y60, Tryz.underlying3]
        refine hgo2 _ _ ?_
        have hsp : bR c = bI false c := by unfold bR; rw [if_pos (by rw [g60]; rfl)]
        have b3 : astr .add (tx (aZ (codes (zs.take i)))) (tx (bI false c)) = some (.string (tx (aZ (codes (zs.take (i + 1)))))) := by rw [hpn, hsp]; exact aD (by omega)
        simp -implicitDefEqProofs only [go_sem, ↓aj, ↓ah, ak, Nat.reduceBEq, ↓reduceIte, reduceCtorEq, Nat.reduceEqDiff, Nat.reduceAdd, Nat.reduceLeDiff, Int.reduceEq, Int.reduceLT, Int.reduceLE, Int.reduceAdd, Int.reduceToNat, Int.reduceNeg, Nat.reduceMul, Nat.reduceSub, Int.reduceBNe, Int.reduceBEq, h0, h1, h5, h6, h7, e2, e4, b1, b2, b3, wi, Tryz.underlying3]
        exact ⟨_, by omega, i + 1, rfl, by omega, by (repeat' first | assumption | exact rfl | apply And.intro)⟩
      have n60 : ((c : Int) == 60) = false := by rw [beq_eq_false_iff_ne]; omega
      by_cases g38 : c = 38
      · have y38 : ((c : Int) == 38) = true := by rw [beq_iff_eq]; omega
        simp -implicitDefEqProofs only [go_sem, ↓aj, ↓ah, ak, Nat.reduceBEq, ↓reduceIte, reduceCtorEq, Nat.reduceEqDiff, Nat.reduceAdd, Nat.reduceLeDiff, Int.reduceEq, Int.reduceLT, Int.reduceLE, Int.reduceAdd, Int.reduceToNat, Int.reduceNeg, Nat.reduceMul, Nat.reduceSub, Int.reduceBNe, Int.reduceBEq, h0, h1, h5, h6, h7, e4, a1, a2, a3, n10, n9, n60, y38, Tryz.underlying3]
        refine hgo2 _ _ ?_
        have hsp : bR c = bI false c := by unfold bR; rw [if_pos (by rw [g38]; rfl)]
        have b3 : astr .add (tx (aZ (codes (zs.take i)))) (tx (bI false c)) = some (.string (tx (aZ (codes (zs.take (i + 1)))))) := by rw [hpn, hsp]; exact aD (by omega)
        simp -implicitDefEqProofs only [go_sem, ↓aj, ↓ah, ak, Nat.reduceBEq, ↓reduceIte, reduceCtorEq, Nat.reduceEqDiff, Nat.reduceAdd, Nat.reduceLeDiff, Int.reduceEq, Int.reduceLT, Int.reduceLE, Int.reduceAdd, Int.reduceToNat, Int.reduceNeg, Nat.reduceMul, Nat.reduceSub, Int.reduceBNe, Int.reduceBEq, h0, h1, h5, h6, h7, e2, e4, b1, b2, b3, wi, Tryz.underlying3]
        exact ⟨_, by omega, i + 1, rfl, by omega, by (repeat' first | assumption | exact rfl | apply And.intro)⟩
      have n38 : ((c : Int) == 38) = false := by rw [beq_eq_false_iff_ne]; omega
      by_cases g34 : c = 34
      · have y34 : ((c : Int) == 34) = true := by rw [beq_iff_eq]; omega
        simp -implicitDefEqProofs only [go_sem, ↓aj, ↓ah, ak, Nat.reduceBEq, ↓reduceIte, reduceCtorEq, Nat.reduceEqDiff, Nat.reduceAdd, Nat.reduceLeDiff, Int.reduceEq, Int.reduceLT, Int.reduceLE, Int.reduceAdd, Int.reduceToNat, Int.reduceNeg, Nat.reduceMul, Nat.reduceSub, Int.reduceBNe, Int.reduceBEq, h0, h1, h5, h6, h7, e4, a1, a2, a3, n10, n9, n60, n38, y34, Tryz.underlying3]
        refine hgo2 _ _ ?_
        have hsp : bR c = bI false c := by unfold bR; rw [if_pos (by rw [g34]; rfl)]
        have b3 : astr .add (tx (aZ (codes (zs.take i)))) (tx (bI false c)) = some (.string (tx (aZ (codes (zs.take (i + 1)))))) := by rw [hpn, hsp]; exact aD (by omega)
        simp -implicitDefEqProofs only [go_sem, ↓aj, ↓ah, ak, Nat.reduceBEq, ↓reduceIte, reduceCtorEq, Nat.reduceEqDiff, Nat.reduceAdd, Nat.reduceLeDiff, Int.reduceEq, Int.reduceLT, Int.reduceLE, Int.reduceAdd, Int.reduceToNat, Int.reduceNeg, Nat.reduceMul, Nat.reduceSub, Int.reduceBNe, Int.reduceBEq, h0, h1, h5, h6, h7, e2, e4, b1, b2, b3, wi, Tryz.underlying3]
        exact ⟨_, by omega, i + 1, rfl, by omega, by (repeat' first | assumption | exact rfl | apply And.intro)⟩
      have n34 : ((c : Int) == 34) = false := by rw [beq_eq_false_iff_ne]; omega
      by_cases g39 : c = 39
      · have y39 : ((c : Int) == 39) = true := by rw [beq_iff_eq]; omega
        simp -implicitDefEqProofs only [go_sem, ↓aj, ↓ah, ak, Nat.reduceBEq, ↓reduceIte, reduceCtorEq, Nat.reduceEqDiff, Nat.reduceAdd, Nat.reduceLeDiff, Int.reduceEq, Int.reduceLT, Int.reduceLE, Int.reduceAdd, Int.reduceToNat, Int.reduceNeg, Nat.reduceMul, Nat.reduceSub, Int.reduceBNe, Int.reduceBEq, h0, h1, h5, h6, h7, e4, a1, a2, a3, n10, n9, n60, n38, n34, y39, Tryz.underlying3]
        refine hgo2 _ _ ?_
        have hsp : bR c = bI false c := by unfold bR; rw [if_pos (by rw [g39]; rfl)]
        have b3 : astr .add (tx (aZ (codes (zs.take i)))) (tx (bI false c)) = some (.string (tx (aZ (codes (zs.take (i + 1)))))) := by rw [hpn, hsp]; exact aD (by omega)
        simp -implicitDefEqProofs only [go_sem, ↓aj, ↓ah, ak, Nat.reduceBEq, ↓reduceIte, reduceCtorEq, Nat.reduceEqDiff, Nat.reduceAdd, Nat.reduceLeDiff, Int.reduceEq, Int.reduceLT, Int.reduceLE, Int.reduceAdd, Int.reduceToNat, Int.reduceNeg, Nat.reduceMul, Nat.reduceSub, Int.reduceBNe, Int.reduceBEq, h0, h1, h5, h6, h7, e2, e4, b1, b2, b3, wi, Tryz.underlying3]
        exact ⟨_, by omega, i + 1, rfl, by omega, by (repeat' first | assumption | exact rfl | apply And.intro)⟩
      have n39 : ((c : Int) == 39) = false := by rw [beq_eq_false_iff_ne]; omega
      by_cases g62 : c = 62
      · have y62 : ((c : Int) == 62) = true := by rw [beq_iff_eq]; omega
        simp -implicitDefEqProofs only [go_sem, ↓aj, ↓ah, ak, Nat.reduceBEq, ↓reduceIte, reduceCtorEq, Nat.reduceEqDiff, Nat.reduceAdd, Nat.reduceLeDiff, Int.reduceEq, Int.reduceLT, Int.reduceLE, Int.reduceAdd, Int.reduceToNat, Int.reduceNeg, Nat.reduceMul, Nat.reduceSub, Int.reduceBNe, Int.reduceBEq, h0, h1, h5, h6, h7, e4, a1, a2, a3, n10, n9, n60, n38, n34, n39, y62, Tryz.underlying3]
        refine hgo2 _ _ ?_
        have hsp : bR c = bI false c := by unfold bR; rw [if_pos (by rw [g62]; rfl)]
        have b3 : astr .add (tx (aZ (codes (zs.take i)))) (tx (bI false c)) = some (.string (tx (aZ (codes (zs.take (i + 1)))))) := by rw [hpn, hsp]; exact aD (by omega)
        simp -implicitDefEqProofs only [go_sem, ↓aj, ↓ah, ak, Nat.reduceBEq, ↓reduceIte, reduceCtorEq, Nat.reduceEqDiff, Nat.reduceAdd, Nat.reduceLeDiff, Int.reduceEq, Int.reduceLT, Int.reduceLE, Int.reduceAdd, Int.reduceToNat, Int.reduceNeg, Nat.reduceMul, Nat.reduceSub, Int.reduceBNe, Int.reduceBEq, h0, h1, h5, h6, h7, e2, e4, b1, b2, b3, wi, Tryz.underlying3]
        exact ⟨_, by omega, i + 1, rfl, by omega, by (repeat' first | assumption | exact rfl | apply And.intro)⟩
      have n62 : ((c : Int) == 62) = false := by rw [beq_eq_false_iff_ne]; omega
      by_cases g93 : c = 93
      · have y93 : ((c : Int) == 93) = true := by rw [beq_iff_eq]; omega
        simp -implicitDefEqProofs only [go_sem, ↓aj, ↓ah, ak, Nat.reduceBEq, ↓reduceIte, reduceCtorEq, Nat.reduceEqDiff, Nat.reduceAdd, Nat.reduceLeDiff, Int.reduceEq, Int.reduceLT, Int.reduceLE, Int.reduceAdd, Int.reduceToNat, Int.reduceNeg, Nat.reduceMul, Nat.reduceSub, Int.reduceBNe, Int.reduceBEq, h0, h1, h5, h6, h7, e4, a1, a2, a3, n10, n9, n60, n38, n34, n39, n62, y93, Tryz.underlying3]
        refine hgo2 _ _ ?_
        have hsp : bR c = bI false c := by unfold bR; rw [if_pos (by rw [g93]; rfl)]
        have b3 : astr .add (tx (aZ (codes (zs.take i)))) (tx (bI false c)) = some (.string (tx (aZ (codes (zs.take (i + 1)))))) := by rw [hpn, hsp]; exact aD (by omega)
        simp -implicitDefEqProofs only [go_sem, ↓aj, ↓ah, ak, Nat.reduceBEq, ↓reduceIte, reduceCtorEq, Nat.reduceEqDiff, Nat.reduceAdd, Nat.reduceLeDiff, Int.reduceEq, Int.reduceLT, Int.reduceLE, Int.reduceAdd, Int.reduceToNat, Int.reduceNeg, Nat.reduceMul, Nat.reduceSub, Int.reduceBNe, Int.reduceBEq, h0, h1, h5, h6, h7, e2, e4, b1, b2, b3, wi, Tryz.underlying3]
        exact ⟨_, by omega, i + 1, rfl, by omega, by (repeat' first | assumption | exact rfl | apply And.intro)⟩
      have n93 : ((c : Int) == 93) = false := by rw [beq_eq_false_iff_ne]; omega
      simp -implicitDefEqProofs only [go_sem, ↓aj, ↓ah, ak, Nat.reduceBEq, ↓reduceIte, reduceCtorEq, Nat.reduceEqDiff, Nat.reduceAdd, Nat.reduceLeDiff, Int.reduceEq, Int.reduceLT, Int.reduceLE, Int.reduceAdd, Int.reduceToNat, Int.reduceNeg, Nat.reduceMul, Nat.reduceSub, Int.reduceBNe, Int.reduceBEq, h0, h1, h5, h6, h7, e4, a1, a2, a3, n10, n9, n60, n38, n34, n39, n62, n93, Tryz.underlying3]
      have hnsp : uO c = false := by unfold uO; simp [g10, g9, g60, g38, g34, g39, g62, g93]
      have hsp : bR c = utf8 c := by unfold bR; rw [if_neg (by rw [hnsp]; decide)]
      have hul := (oq c).2
      have b3 : astr .add (tx (aZ (codes (zs.take i)))) (tx (utf8 c)) = some (.string (tx (aZ (codes (zs.take (i + 1)))))) := by rw [hpn, hsp]; exact aD (by omega)
      simp -implicitDefEqProofs only [go_sem, ↓aj, ↓ah, ak, Nat.reduceBEq, ↓reduceIte, reduceCtorEq, Nat.reduceEqDiff, Nat.reduceAdd, Nat.reduceLeDiff, Int.reduceEq, Int.reduceLT, Int.reduceLE, Int.reduceAdd, Int.reduceToNat, Int.reduceNeg, Nat.reduceMul, Nat.reduceSub, Int.reduceBNe, Int.reduceBEq, h0, h1, h5, h6, h7, hvx, hcx, gx, hzi, and_self, Int.toNat_natCast, Nat.mul_one, Int.ofNat_lt, hil, decide_true, oN, Tryz.underlying21, Tryz.underlying3, Tryz.underlying48, sG (P := Tryz.prog) (s := 21) (t := 9) Tryz.underlying21 Tryz.underlying9, uS ⟨hch, h13⟩, b3, wi]
      exact ⟨_, by omega, i + 1, rfl, by omega, by (repeat' first | assumption | exact rfl | apply And.intro)⟩
  rintro ρ s ⟨rfl, h0, h5, h6, hall⟩
  have hcl : (codes zs).length ≤ 60 := by unfold codes; simp; omega
  have hpl := sw (codes zs)
  have hcdl := sD hex (codes zs)
  have hwl := uR (codes zs)
  have p1 := Bh (uP hall) (sj hall) (by omega)
  have p2 := Bj (uQ hex hall) (su hex) (by omega)
  obtain ⟨w, hw⟩ : ∃ w, w = kg (codes zs) := ⟨_, rfl⟩
  rw [← hw] at p1 p2 hwl
  have hwant : kg (codes (zs.take zs.length)) = w := by rw [List.take_length, hw]
  have l1 : (quo1 (aZ (codes zs))).length ≤ 2000 := by unfold quo1; simp; omega
  have l2 : (quo2 (gN hex (codes zs))).length ≤ 2000 := by unfold quo2; simp; omega
  obtain ⟨Q1, hQ1⟩ : ∃ Q, Q = quo1 (aZ (codes zs)) := ⟨_, rfl⟩
  obtain ⟨Q2, hQ2⟩ : ∃ Q, Q = quo2 (gN hex (codes zs)) := ⟨_, rfl⟩
  rw [← hQ1] at p1 l1
  rw [← hQ2] at p2 l2
  have hall' : ∀ c ∈ codes zs, okC c := hall
  generalize aZ (codes zs) = P at *
  generalize gN hex (codes zs) = D at *
  have c1 : (⟨#[60, 97, 32, 120, 61, 34]⟩ : ByteArray) = tx [60, 97, 32, 120, 61, 34] := rfl
  have c2 : (⟨#[34, 62]⟩ : ByteArray) = tx [34, 62] := rfl
  have c3 : (⟨#[60, 47, 97, 62]⟩ : ByteArray) = tx [60, 47, 97, 62] := rfl
  have c4 : (⟨#[60, 97, 32, 120, 32, 61, 32, 39]⟩ : ByteArray) = tx [60, 97, 32, 120, 32, 61, 32, 39] := rfl
  have c5 : (⟨#[39, 32, 62]⟩ : ByteArray) = tx [39, 32, 62] := rfl
  have c6 : (⟨#[60, 47, 97, 32, 62]⟩ : ByteArray) = tx [60, 47, 97, 32, 62] := rfl
  obtain ⟨u1, hu1⟩ : ∃ u : Tx, u = [60, 97, 32, 120, 61, 34] ++ P := ⟨_, rfl⟩
  obtain ⟨u2, hu2⟩ : ∃ u : Tx, u = u1 ++ [34, 62] := ⟨_, rfl⟩
  obtain ⟨u3, hu3⟩ : ∃ u : Tx, u = u2 ++ P := ⟨_, rfl⟩
  have k1 : u1.length = 6 + P.length := by rw [hu1]; simp; omega
  have k2 : u2.length = 8 + P.length := by rw [hu2]; simp; omega
  have k3 : u3.length = 8 + P.length + P.length := by rw [hu3]; simp; omega
  have a1 : astr .add (tx [60, 97, 32, 120, 61, 34]) (tx P) = some (.string (tx u1)) := by rw [hu1]; exact aD (by simp; omega)
  have a2 : astr .add (tx u1) (tx [34, 62]) = some (.string (tx u2)) := by rw [hu2]; exact aD (by simp; omega)
  have a3 : astr .add (tx u2) (tx P) = some (.string (tx u3)) := by rw [hu3]; exact aD (by omega)
  have a4 : astr .add (tx u3) (tx [60, 47, 97, 62]) = some (.string (tx Q1)) := by
    have : Q1 = u3 ++ [60, 47, 97, 62] := by rw [hQ1, hu3, hu2, hu1]; unfold quo1; simp
    rw [this]; exact aD (by simp; omega)
  obtain ⟨v1, hv1⟩ : ∃ u : Tx, u = [60, 97, 32, 120, 32, 61, 32, 39] ++ D := ⟨_, rfl⟩
  obtain ⟨v2, hv2⟩ : ∃ u : Tx, u = v1 ++ [39, 32, 62] := ⟨_, rfl⟩
  obtain ⟨v3, hv3⟩ : ∃ u : Tx, u = v2 ++ D := ⟨_, rfl⟩
  have m1 : v1.length = 8 + D.length := by rw [hv1]; simp; omega
  have m2 : v2.length = 11 + D.length := by rw [hv2]; simp; omega
  have m3 : v3.length = 11 + D.length + D.length := by rw [hv3]; simp; omega
  have b1 : astr .add (tx [60, 97, 32, 120, 32, 61, 32, 39]) (tx D) = some (.string (tx v1)) := by rw [hv1]; exact aD (by simp; omega)
  have b2 : astr .add (tx v1) (tx [39, 32, 62]) = some (.string (tx v2)) := by rw [hv2]; exact aD (by simp; omega)
  have b3 : astr .add (tx v2) (tx D) = some (.string (tx v3)) := by rw [hv3]; exact aD (by omega)
  have b4 : astr .add (tx v3) (tx [60, 47, 97, 32, 62]) = some (.string (tx Q2)) := by
    have : Q2 = v3 ++ [60, 47, 97, 32, 62] := by rw [hQ2, hv3, hv2, hv1]; unfold quo2; simp
    rw [this]; exact aD (by simp; omega)
  have hsm := FK p1
  clear hu1 hu2 hu3 hv1 hv2 hv3 hQ1 hQ2
  refine mD (fun ρ s => ∃ bd v h, ρ 0 = V ∧ ρ 6 = .string (tx D) ∧ ρ 10 = .pointer (some ⟨bd, 0, none⟩) ∧ ρ 11 = .int .i64 0 ∧ Own s ((bd, .cells [v] 26 true) :: (h ++ r)) ∧ DocV h v (stN w w)) ?_ ?_
  · simp -implicitDefEqProofs only [go_sem, ↓aj, ↓ah, ak, Nat.reduceBEq, ↓reduceIte, reduceCtorEq, Nat.reduceEqDiff, Nat.reduceAdd, Nat.reduceLeDiff, Int.reduceEq, Int.reduceLT, Int.reduceLE, Int.reduceAdd, Int.reduceToNat, Int.reduceNeg, Nat.reduceMul, Nat.reduceSub, Int.reduceBNe, Int.reduceBEq, h0, h5, h6, c1, c2, c3, a1, a2, a3, a4, iy Tryz.underlying9 Tryz.underlying22 Tryz.underlying5 asz5]
    have hs2 := ho1.new (.cells (nl (nb8 Q1)) 5 true)
    obtain ⟨n1, n2⟩ := mU Q1 s1.n _ (List.mem_cons_self (l := r))
    refine au.enter Tryz.func9 rfl (by kernel_rfl) (jX _ _ _ Q1 hM hT n1 n2 (by omega) hs2 _ _ (fun ns v h st' hp hD2 hO2 => ?_) (fun e st' hp hO2 => by rw [p1] at hp; cases hp))
    rw [p1] at hp
    injection hp with hp
    subst hp
    obtain ⟨va, vc, hva⟩ := hD2.view.isSlice
    have hview := hD2.view
    subst hva
    have hO3 := (hO2.sub (List.Sublist.append_left (List.sublist_cons_self _ _) h))
    have ho4 := (hO3.new (.cells [.slice none 0 0] 26 true)).set rfl (.cells [.slice va (stN w w).length vc] 26 true) rfl
    simp -implicitDefEqProofs only [go_sem, ↓aj, ↓ah, ak, Nat.reduceBEq, ↓reduceIte, reduceCtorEq, Nat.reduceEqDiff, Nat.reduceAdd, Nat.reduceLeDiff, Int.reduceEq, Int.reduceLT, Int.reduceLE, Int.reduceAdd, Int.reduceToNat, Int.reduceNeg, Nat.reduceMul, Nat.reduceSub, Int.reduceBNe, Int.reduceBEq, h0, h6, cO, mF, kN, Tryz.underlying26, Tryz.underlying27, cut1, List.length_cons, List.length_nil, List.set_cons_zero, Option.map_some]
    exact ⟨_, _, h, by (repeat' first | assumption | exact rfl | apply And.intro)⟩
  clear h0 h5 h6 ho1
  rintro ρ s ⟨bd, v, h, h0, h6, h10, h11, hs, hdv⟩
  refine mD (fun ρ s => ∃ bd2 v2 h2, ρ 0 = V ∧ ρ 10 = .pointer (some ⟨bd, 0, none⟩) ∧ ρ 11 = .int .i64 0 ∧ ρ 12 = .pointer (some ⟨bd2, 0, none⟩) ∧ ρ 13 = .int .i64 0 ∧ Own s ((bd2, .cells [v2] 26 true) :: (bd, .cells [v] 26 true) :: (h2 ++ (h ++ r))) ∧ DocV h2 v2 (stN w w)) ?_ ?_
  · simp -implicitDefEqProofs only [go_sem, ↓aj, ↓ah, ak, Nat.reduceBEq, ↓reduceIte, reduceCtorEq, Nat.reduceEqDiff, Nat.reduceAdd, Nat.reduceLeDiff, Int.reduceEq, Int.reduceLT, Int.reduceLE, Int.reduceAdd, Int.reduceToNat, Int.reduceNeg, Nat.reduceMul, Nat.reduceSub, Int.reduceBNe, Int.reduceBEq, h0, h6, h10, h11, c4, c5, c6, b1, b2, b3, b4, iy Tryz.underlying9 Tryz.underlying22 Tryz.underlying5 asz5]
    have hs2 := hs.new (.cells (nl (nb8 Q2)) 5 true)
    obtain ⟨n1, n2⟩ := mU Q2 s.n _ (List.mem_cons_self (l := (bd, .cells [v] 26 true) :: (h ++ r)))
    refine au.enter Tryz.func9 rfl (by kernel_rfl) (jX _ _ _ Q2 hM hT n1 n2 (by omega) hs2 _ _ (fun ns v2 h2 st' hp hD2 hO2 => ?_) (fun e st' hp hO2 => by rw [p2] at hp; cases hp))
    rw [p2] at hp
    injection hp with hp
    subst hp
    obtain ⟨va, vc, hva⟩ := hD2.view.isSlice
    have hview := hD2.view
    subst hva
    have hO3 : Own st' ((bd, .cells [v] 26 true) :: (h2 ++ (h ++ r))) := (hO2.sub (List.Sublist.append_left (List.sublist_cons_self _ _) h2)).perm List.perm_middle
    have ho4 := (hO3.new (.cells [.slice none 0 0] 26 true)).set rfl (.cells [.slice va (stN w w).length vc] 26 true) rfl
    simp -implicitDefEqProofs only [go_sem, ↓aj, ↓ah, ak, Nat.reduceBEq, ↓reduceIte, reduceCtorEq, Nat.reduceEqDiff, Nat.reduceAdd, Nat.reduceLeDiff, Int.reduceEq, Int.reduceLT, Int.reduceLE, Int.reduceAdd, Int.reduceToNat, Int.reduceNeg, Nat.reduceMul, Nat.reduceSub, Int.reduceBNe, Int.reduceBEq, h0, h10, h11, cO, mF, kN, Tryz.underlying26, Tryz.underlying27, cut1, List.length_cons, List.length_nil, List.set_cons_zero, Option.map_some]
    exact ⟨_, _, h2, by (repeat' first | assumption | exact rfl | apply And.intro)⟩
  clear h0 h6 h10 h11 hs
  rintro ρ s ⟨bd2, v2, h2, h0, h10, h11, h12, h13, hs, hdv2⟩
  rw [aj]
  simp -implicitDefEqProofs only [go_sem, astr, ak, Nat.reduceBEq, ↓reduceIte, reduceCtorEq, Nat.reduceEqDiff, Nat.reduceAdd, Nat.reduceLeDiff, Int.reduceEq, Int.reduceLT, Int.reduceLE, Int.reduceAdd, Int.reduceToNat, Int.reduceNeg, Nat.reduceMul, Nat.reduceSub, Int.reduceBNe, Int.reduceBEq, e0]
  refine mD (fun ρ s' => s = s' ∧ ρ 10 = .pointer (some ⟨bd, 0, none⟩) ∧ ρ 11 = .int .i64 0 ∧ ρ 12 = .pointer (some ⟨bd2, 0, none⟩) ∧ ρ 13 = .int .i64 0 ∧ ρ 14 = .string (tx w)) ?_ ?_
  · simp -implicitDefEqProofs only [go_sem, ↓aj, ↓ah, ak, Nat.reduceBEq, ↓reduceIte, reduceCtorEq, Nat.reduceEqDiff, Nat.reduceAdd, Nat.reduceLeDiff, Int.reduceEq, Int.reduceLT, Int.reduceLE, Int.reduceAdd, Int.reduceToNat, Int.reduceNeg, Nat.reduceMul, Nat.reduceSub, Int.reduceBNe, Int.reduceBEq]
    refine ⟨fun m ρ s' => ∃ i : Nat, m = zs.length - i ∧ i ≤ zs.length ∧ ρ 0 = V ∧ ρ 10 = .pointer (some ⟨bd, 0, none⟩) ∧ ρ 11 = .int .i64 0 ∧ ρ 12 = .pointer (some ⟨bd2, 0, none⟩) ∧ ρ 13 = .int .i64 0 ∧ ρ 14 = .string (tx (kg (codes (zs.take i)))) ∧ ρ 15 = .int .i64 (i : Nat) ∧ s = s', ⟨_, 0, rfl, Nat.zero_le _, h0, h10, h11, h12, h13, rfl, rfl, rfl⟩, ?_⟩
    clear h0 h10 h11 h12 h13
    rintro _ ρ s' ⟨i, rfl, hi, h0, h10, h11, h12, h13, h14, h15, rfl⟩
    by_cases hil : i < zs.length
    · obtain ⟨x, o, sp, cp, ccs, ty, own, hvx, hmem, hcut⟩ := hV.mem (i := i) (l := [.int .i32 zs[i]]) (by simp [hil])
      rw [List.length_map] at hvx
      have hcx := hs.get (List.mem_cons_of_mem _ (List.mem_cons_of_mem _ (List.mem_append_right _ (List.mem_append_right _ hmem))))
      have gx := eG hcut (j := 0) (by decide)
      rw [Nat.add_zero, Nat.mul_one] at gx
      change ccs[o + i]? = some (.int .i32 zs[i]) at gx
      have hct := sF hil
      have wi : IntKind.i64.wrap ((i : Int) + 1) = ((i + 1 : Nat) : Int) := by rw [cZ (by omega)]; rfl
      have hzi : (0 ≤ (i : Int)) = True := eq_true (by omega)
      have hclen : (codes (zs.take i)).length ≤ 60 := by unfold codes; simp; omega
      have hwl2 := uR (codes (zs.take i))
      have hokz : okC zs[i].toNat := hall' _ (by unfold codes; exact List.mem_map_of_mem (List.getElem_mem hil))
      have hzn : zs[i] = ((zs[i].toNat : Nat) : Int) := by
        have hc := hokz.1
        unfold aR at hc
        simp only [Bool.or_eq_true, Bool.and_eq_true, decide_eq_true_eq] at hc
        omega
      generalize zs[i].toNat = c at *
      rw [hzn] at gx
      have hul := (oq c).2
      have b5 : astr .add (tx (kg (codes (zs.take i)))) (tx (utf8 c)) = some (.string (tx (kg (codes (zs.take (i + 1)))))) := by
        have : kg (codes (zs.take (i + 1))) = kg (codes (zs.take i)) ++ utf8 c := by rw [hct]; exact ow _ _ _
        rw [this]; exact aD (by omega)
      simp -implicitDefEqProofs only [go_sem, ↓aj, ↓ah, ak, Nat.reduceBEq, ↓reduceIte, reduceCtorEq, Nat.reduceEqDiff, Nat.reduceAdd, Nat.reduceLeDiff, Int.reduceEq, Int.reduceLT, Int.reduceLE, Int.reduceAdd, Int.reduceToNat, Int.reduceNeg, Nat.reduceMul, Nat.reduceSub, Int.reduceBNe, Int.reduceBEq, h0, h10, h11, h12, h13, h14, h15, hvx, hcx, gx, hzi, and_self, Int.toNat_natCast, Nat.mul_one, Int.ofNat_lt, hil, decide_true, oN, Tryz.underlying21, Tryz.underlying3, Tryz.underlying48, sG (P := Tryz.prog) (s := 21) (t := 9) Tryz.underlying21 Tryz.underlying9, uS hokz, b5, wi]
      exact ⟨_, by omega, i + 1, rfl, by omega, by (repeat' first | assumption | exact rfl | apply And.intro)⟩
    · obtain rfl : i = zs.length := by omega
      rw [hwant] at h14
      simp -implicitDefEqProofs only [go_sem, ↓aj, ↓ah, ak, Nat.reduceBEq, ↓reduceIte, reduceCtorEq, Nat.reduceEqDiff, Nat.reduceAdd, Nat.reduceLeDiff, Int.reduceEq, Int.reduceLT, Int.reduceLE, Int.reduceAdd, Int.reduceToNat, Int.reduceNeg, Nat.reduceMul, Nat.reduceSub, Int.reduceBNe, Int.reduceBEq, h0, h10, h11, h12, h13, h14, h15, hxs, Tryz.underlying48, Int.ofNat_lt, Nat.lt_irrefl, decide_false]
      (repeat' first | assumption | exact rfl | apply And.intro)
  clear h0 h10 h11 h12 h13
  rintro ρ s' ⟨rfl, h10, h11, h12, h13, h14⟩
  obtain ⟨va, vc, hva⟩ := hdv.isSlice
  obtain ⟨va2, vc2, hva2⟩ := hdv2.isSlice
  obtain ⟨n0, hn0, hat0⟩ : ∃ n0, (stN w w)[0]? = some n0 ∧ n0.atts = [⟨[], [120], [], w⟩] := by
    unfold stN
    split
    · exact ⟨_, rfl, rfl⟩
    · exact ⟨_, rfl, rfl⟩
  have hlenN : 0 < (stN w w).length := by unfold stN; split <;> simp
  obtain ⟨x, o, sp, cp, ccs, ty, own, kv, av, dv, hvx, hmem, hcut, hget, hnr⟩ := hdv.at hn0
  obtain ⟨y, oy, spy, cpy, ccy, tyy, owny, hvy, hmemy, hcuty⟩ := hnr.att.mem (i := 0) (l := attC ⟨[], [120], [], w⟩) (by rw [hat0]; rfl)
  rw [List.length_map, hat0] at hvy
  have g6 := hget 6 (by decide)
  have gy := eG hcuty (j := 3) (by decide)
  rw [Nat.zero_mul, Nat.add_zero] at g6 gy
  change ccs[o + 6]? = some av at g6
  change ccy[oy + 3]? = some (.string (tx w)) at gy
  rw [hva] at hvx
  injection hvx with hvx _ hvc
  subst hva hva2 hvx hvc hvy
  have hb1 := hs.tail.head
  have hb2 := hs.head
  have l1i : ((1 : Nat) : Int) = 1 := rfl
  have hl0 : ((0 : Int) < ((stN w w).length : Int)) = True := eq_true (by omega)
  simp -implicitDefEqProofs only [go_sem, ↓aj, ↓ah, ak, Nat.reduceBEq, ↓reduceIte, reduceCtorEq, Nat.reduceEqDiff, Nat.reduceAdd, Nat.reduceLeDiff, Int.reduceEq, Int.reduceLT, Int.reduceLE, Int.reduceAdd, Int.reduceToNat, Int.reduceNeg, Nat.reduceMul, Nat.reduceSub, Int.reduceBNe, Int.reduceBEq, h10, h11, h12, h13, h14, hb1, hb2, pW, gQ, Tryz.underlying24, Tryz.underlying27, List.getElem?_cons_zero]
  refine au.enter Tryz.func13 rfl (by kernel_rfl) (Bo _ _ _ _ (stN w w) (hdv.sub fun e he => by simp [he]) (hdv2.sub fun e he => by simp [he]) hsm hs _ _ fun s5 ho5 => ?_)
  have d1 := ho5.tail.head
  have d2 := ho5.get (List.mem_cons_of_mem _ (List.mem_cons_of_mem _ (List.mem_append_right _ (List.mem_append_left _ hmem))))
  have d3 := ho5.get (List.mem_cons_of_mem _ (List.mem_cons_of_mem _ (List.mem_append_right _ (List.mem_append_left _ hmemy))))
  have eww : decide (w = w) = true := decide_eq_true rfl
  by_cases hw0 : w = []
  · have ew0 : decide (w = []) = true := decide_eq_true hw0
    simp -implicitDefEqProofs only [go_sem, ↓aj, ↓ah, ak, Nat.reduceBEq, ↓reduceIte, reduceCtorEq, Nat.reduceEqDiff, Nat.reduceAdd, Nat.reduceLeDiff, Int.reduceEq, Int.reduceLT, Int.reduceLE, Int.reduceAdd, Int.reduceToNat, Int.reduceNeg, Nat.reduceMul, Nat.reduceSub, Int.reduceBNe, Int.reduceBEq, h10, h11, h12, h13, h14, e0, d1, d2, d3, g6, gy, hl0, and_true, true_and, Int.le_refl, Int.toNat_zero, Nat.zero_mul, Nat.add_zero, List.length_cons, List.length_nil, l1i, Int.zero_lt_one, pW, dF, vY, gQ, dH, iO, gI, asz9, Tryz.underlying24, Tryz.underlying34, Tryz.underlying31, Tryz.underlying52, Tryz.underlying9, List.getElem?_cons_zero, aA, eww, ew0, decide_true]
    exact hk _
  · have ew0 : decide (w = []) = false := decide_eq_false hw0
    have hN1 : (stN w w)[1]? = some { nd0 with kind := 2, val := w, par := ((0 : Nat) : Int) } := by unfold stN; rw [if_neg hw0]; rfl
    have hl1 : ((1 : Int) < ((stN w w).length : Int)) = True := eq_true (by unfold stN; rw [if_neg hw0]; simp)
    obtain ⟨x2, o2, sp2, cp2, ccs2, ty2, own2, kv2, av2, dv2, hvx2, hmem2, hcut2, hget2, hnr2⟩ := hdv.at hN1
    injection hvx2 with hvx2 _ hvc2
    injection hvx2 with hvx2
    injection hvx2 with q1 q2 q3
    subst q1 q2 q3
    have d4 := ho5.get (List.mem_cons_of_mem _ (List.mem_cons_of_mem _ (List.mem_append_right _ (List.mem_append_left _ hmem2))))
    rw [d2] at d4
    injection d4 with d4
    injection d4 with d4 _ _
    subst d4
    have g8 := hget2 8 (by decide)
    change ccs[o + 1 * 9 + 8]? = some (.string (tx w)) at g8
    have le1 : ((0 : Int) ≤ 1) = True := by simp
    have t1 : ((1 : Int)).toNat = 1 := rfl
    simp -implicitDefEqProofs only [go_sem, ↓aj, ↓ah, ak, Nat.reduceBEq, ↓reduceIte, reduceCtorEq, Nat.reduceEqDiff, Nat.reduceAdd, Nat.reduceLeDiff, Int.reduceEq, Int.reduceLT, Int.reduceLE, Int.reduceAdd, Int.reduceToNat, Int.reduceNeg, Nat.reduceMul, Nat.reduceSub, Int.reduceBNe, Int.reduceBEq, h10, h11, h12, h13, h14, e0, d1, d2, d3, g6, gy, g8, hl0, hl1, le1, t1, and_true, true_and, Int.le_refl, Int.toNat_zero, Nat.zero_mul, Nat.add_zero, List.length_cons, List.length_nil, l1i, Int.zero_lt_one, pW, dF, pX, vY, gQ, dH, iO, gI, asz9, Tryz.underlying24, Tryz.underlying34, Tryz.underlying31, Tryz.underlying52, Tryz.underlying9, List.getElem?_cons_zero, aA, eww, ew0, decide_true]
    exact hk _
end Go.Proofs.YtohgmkjhbacmpaaGreatDoor
