/- The same trees, by the document: what is one tree is the same. No conditions. -/
import Derived.Test.YtohgmkjhbacmpaaGreatDoorXmGF
import Derived.Test.YtohgmkjhbacmpaaGreatDoorXmGD
import Derived.Test.YtohgmkjhbacmpaaGreatDoorXmGH
set_option linter.unusedVariables false
set_option linter.unusedSimpArgs false
namespace Go.Proofs.YtohgmkjhbacmpaaGreatDoor
open Go Go.Abs Go.RowKit Go.Xml
variable {base : Nat} {w0 : World} {G : Nat}
theorem G8 : aqT Tryz.prog 52 = some [(0, 9), (1, 9), (2, 9), (3, 9)] := by kernel_rfl
theorem G9 : aqT Tryz.prog 62 = some [(0, 9), (1, 9)] := by kernel_rfl
theorem He (x : Att) : aqF Tryz.prog (attC x) (attC x) [(0, 9), (1, 9), (2, 9), (3, 9)] = some true := by
  simp [aqF, alf2, Tryz.underlying9, attC]
theorem Hf (x : Dcl) : aqF Tryz.prog (dclC x) (dclC x) [(0, 9), (1, 9)] = some true := by
  simp [aqF, alf2, Tryz.underlying9, dclC]
set_option maxRecDepth 10000 in
theorem Bu (st : St) (r : Hp) (va vb : Value) (xs : List Nat) (hn : xs.length ≤ 1000000) (ha : Rws r va 1 (xs.map fun c => [Value.int .i64 (c : Nat)])) (hb : Rws r vb 1 (xs.map fun c => [Value.int .i64 (c : Nat)])) (hO : Own st r) (k q : Value → St → Prop) (hk : k (.bool true) st) : ay (C base w0 G) 24 [va, vb] st k q := by
  obtain ⟨aa, ca, hva, _⟩ := ha.isSlice
  obtain ⟨ab, cb, hvb, _⟩ := hb.isSlice
  rw [List.length_map] at hva hvb
  refine ay.of (cx := C base w0 G) mixed Tryz.func24 rfl (by kernel_rfl) (by simp [Tryz.ntmps24]) ?_
  simp only [Tryz.results24]
  simp -implicitDefEqProofs only [go_sem, ↓aj, ↓ah, ak, Nat.reduceBEq, ↓reduceIte, reduceCtorEq, Nat.reduceEqDiff, Nat.reduceAdd, Nat.reduceLeDiff, Int.reduceEq, Int.reduceLT, Int.reduceLE, Int.reduceAdd, Int.reduceToNat, Int.reduceNeg, Nat.reduceMul, Nat.reduceSub, Int.reduceBNe, Int.reduceBEq, hva, hvb, Tryz.underlying30, show ((xs.length : Int) != (xs.length : Int)) = false by simp]
  refine ⟨fun m ρ s => ∃ i : Nat, m = xs.length - i ∧ i ≤ xs.length ∧ ρ 0 = va ∧ ρ 1 = vb ∧ ρ 5 = .int .i64 i ∧ s = st, ⟨_, 0, rfl, Nat.zero_le _, hva.symm, hvb.symm, rfl, rfl⟩, ?_⟩
  rintro _ ρ s ⟨i, rfl, hi, h0, h1, h5, rfl⟩
  by_cases him : i < xs.length
  · obtain ⟨x, o, sp, c', ccs, ty, own, hvx, hmem, hcut⟩ := ha.mem (i := i) (l := [.int .i64 (xs[i] : Nat)]) (by simp [him])
    obtain ⟨x2, o2, sp2, c2', ccs2, ty2, own2, hvx2, hmem2, hcut2⟩ := hb.mem (i := i) (l := [.int .i64 (xs[i] : Nat)]) (by simp [him])
    rw [List.length_map] at hvx hvx2
    have hcx := hO.get hmem
    have hcx2 := hO.get hmem2
    have w1 : IntKind.i64.wrap ((i : Int) + 1) = ((i + 1 : Nat) : Int) := by rw [cB (by omega)]; rfl
    have g1 := fP hcut (j := 0) (by decide)
    have g2 := fP hcut2 (j := 0) (by decide)
    rw [Nat.add_zero, Nat.mul_one] at g1 g2
    generalize xs[i] = X at *
    change _ = some (Value.int .i64 (X : Nat)) at g1
    change _ = some (Value.int .i64 (X : Nat)) at g2
    have z0 : (0 ≤ (i : Int)) = True := by simp
    simp -implicitDefEqProofs only [go_sem, ↓aj, ↓ah, ak, Nat.reduceBEq, ↓reduceIte, reduceCtorEq, Nat.reduceEqDiff, Nat.reduceAdd, Nat.reduceLeDiff, Int.reduceEq, Int.reduceLT, Int.reduceLE, Int.reduceAdd, Int.reduceToNat, Int.reduceNeg, Nat.reduceMul, Nat.reduceSub, Int.reduceBNe, Int.reduceBEq, h0, h1, h5, hvx, him, Int.ofNat_lt, decide_true, Tryz.underlying30]
    refine bE.of [(0, false, []), (1, false, []), (2, false, []), (3, false, []), (4, false, []), (5, false, []), (6, false, []), (7, false, []), (8, false, [])] [] [] (by kernel_rfl) ?_
    simp -implicitDefEqProofs only [go_sem, ↓aj, ↓ah, ak, Nat.reduceBEq, ↓reduceIte, reduceCtorEq, Nat.reduceEqDiff, Nat.reduceAdd, Nat.reduceLeDiff, Int.reduceEq, Int.reduceLT, Int.reduceLE, Int.reduceAdd, Int.reduceToNat, Int.reduceNeg, Nat.reduceMul, Nat.reduceSub, Int.reduceBNe, Int.reduceBEq, h0, h1, h5, hvx, hvx2, him, Int.ofNat_lt, decide_true, Int.natCast_nonneg, and_self, Int.toNat_natCast, hcx, hcx2, g1, g2, asz3, Tryz.underlying30, Tryz.underlying3, Option.map_some, show ((X : Int) != (X : Int)) = false by simp, w1, z0, and_self, Int.toNat_natCast, Nat.mul_one]
    exact ⟨xs.length - (i + 1), by omega, i + 1, rfl, by omega, rfl⟩
  · obtain rfl : i = xs.length := by omega
    simp -implicitDefEqProofs only [go_sem, ↓aj, ↓ah, ak, Nat.reduceBEq, ↓reduceIte, reduceCtorEq, Nat.reduceEqDiff, Nat.reduceAdd, Nat.reduceLeDiff, Int.reduceEq, Int.reduceLT, Int.reduceLE, Int.reduceAdd, Int.reduceToNat, Int.reduceNeg, Nat.reduceMul, Nat.reduceSub, Int.reduceBNe, Int.reduceBEq, h0, h1, h5, hva, Int.ofNat_lt, Nat.lt_irrefl, decide_false, Tryz.underlying30]
    exact hk
structure NdR (H : Hp) (n : Nd) (kv av dv : Value) : Prop where
  kid : Rws H kv 1 (n.kids.map fun c => [Value.int .i64 (c : Nat)])
  att : Rws H av 4 (n.atts.map attC)
  dcl : Rws H dv 2 (n.dcls.map dclC)
theorem NdR.sub {H H' : Hp} {n : Nd} {kv av dv : Value} (h : NdR H n kv av dv) (hs : ∀ e ∈ H, e ∈ H') : NdR H' n kv av dv := ⟨h.kid.sub hs, h.att.sub hs, h.dcl.sub hs⟩
theorem zq.full {v : Value} {ns : List Nd} {cs : List (List Value)} {h : Hp} (hT : zq v ns cs h) {i : Nat} {n : Nd} (hi : ns[i]? = some n) :
    ∃ B kv av dv, v = .slice (some ⟨B, 0, some 0⟩) ns.length ns.length ∧ (B, Ob.cells cs.flatten 34 true) ∈ h ∧ cut cs.flatten (i * 9) 9 = some (ndC n kv av dv) ∧ (∀ j, j < 9 → cs.flatten[i * 9 + j]? = (ndC n kv av dv)[j]?) ∧ NdR h n kv av dv := by
  obtain ⟨hn, hx, rfl, hG, hN⟩ := hT.rows
  obtain ⟨cl, c9⟩ := hN.len
  have hil := (List.getElem?_eq_some_iff.1 hi).1
  obtain ⟨B, hv, hB⟩ := GV.blk hG (by omega)
  obtain ⟨c, h1, h2, h3, a1, a2, ⟨kv, av, dv, hk, ha, hd, rfl, rfl, gk, ga, gd⟩, _⟩ := hN.at hi
  refine ⟨B, kv, av, dv, hv, by rw [hB]; simp, jC c9 a1, fun j hj => flat_get c9 a1 hj, ⟨?_, ?_, ?_⟩⟩
  · have := GV.rows (r := []) (cs := n.kids.map fun c => [Value.int .i64 (c : Nat)]) (n := n.kids.length) (sz := 1) (e := 3) (hg := hk) (v := kv) (by
      have e : (n.kids.map fun c => [Value.int .i64 (c : Nat)]).flatten = gV n.kids := by
        unfold gV
        induction n.kids with
        | nil => rfl
        | cons a l ih => simp only [List.map_cons, List.flatten_cons, ih]; rfl
      rw [e]; exact gk) (fun c hc => by obtain ⟨d, _, rfl⟩ := List.mem_map.1 hc; rfl) (List.length_map _)
    exact this.sub fun e he => by rw [a2]; simp at he ⊢; simp [he]
  · have := GV.rows (r := []) (cs := n.atts.map attC) (n := n.atts.length) (sz := 4) (e := 52) (hg := ha) (v := av) ga (fun c hc => by obtain ⟨d, _, rfl⟩ := List.mem_map.1 hc; rfl) (List.length_map _)
    exact this.sub fun e he => by rw [a2]; simp at he ⊢; simp [he]
  · exact (kX (r := []) gd).sub fun e he => by rw [a2]; simp at he ⊢; simp [he]
set_option maxRecDepth 10000 in
theorem Bv (st : St) (r : Hp) (n : Nd) (kv av dv kv' av' dv' : Value) (r1 : NdR r n kv av dv) (r2 : NdR r n kv' av' dv') (hb : n.kids.length ≤ 1000000 ∧ n.atts.length ≤ 1000000 ∧ n.dcls.length ≤ 1000000) (hO : Own st r) (k q : Value → St → Prop) (hk : ∀ st', Own st' r → k (.bool true) st') : ay (C base w0 G) 14 [.agg (ndC n kv av dv).toArray, .agg (ndC n kv' av' dv').toArray] st k q := by
  obtain ⟨b1, b2, b3⟩ := hb
  obtain ⟨ka, kc, hkv, _⟩ := r1.kid.isSlice
  obtain ⟨ka', kc', hkv', _⟩ := r2.kid.isSlice
  obtain ⟨aa, ac, hav, _⟩ := r1.att.isSlice
  obtain ⟨aa', ac', hav', _⟩ := r2.att.isSlice
  obtain ⟨da, dc, hdv, _⟩ := r1.dcl.isSlice
  obtain ⟨da', dc', hdv', _⟩ := r2.dcl.isSlice
  rw [List.length_map] at hkv hkv' hav hav' hdv hdv'
  subst hkv hkv' hav hav' hdv hdv'
  refine ay.of (cx := C base w0 G) mixed Tryz.func14 rfl (by kernel_rfl) (by simp [Tryz.ntmps14]) ?_
  simp only [Tryz.results14]
  have ho1 := (hO.new (.cells (ndC n (.slice ka n.kids.length kc) (.slice aa n.atts.length ac) (.slice da n.dcls.length dc)) 34 true)).new (.cells (ndC n (.slice ka' n.kids.length kc') (.slice aa' n.atts.length ac') (.slice da' n.dcls.length dc')) 34 true)
  have hc2 := ho1.head
  have hc1 := ho1.tail.head
  have hne : ¬ st.n = st.n + 1 := by omega
  have hne' : ¬ st.n + 1 = st.n := by omega
  have q1 : ((n.atts.length : Int) != (n.atts.length : Int)) = false := by simp
  have q2 : ((n.dcls.length : Int) != (n.dcls.length : Int)) = false := by simp
  unfold ndC at hc1 hc2
  simp -implicitDefEqProofs only [go_sem, ↓aj, ↓ah, ak, Nat.reduceBEq, ↓reduceIte, reduceCtorEq, Nat.reduceEqDiff, Nat.reduceAdd, Nat.reduceLeDiff, Int.reduceEq, Int.reduceLT, Int.reduceLE, Int.reduceAdd, Int.reduceToNat, Int.reduceNeg, Nat.reduceMul, Nat.reduceSub, Int.reduceBNe, Int.reduceBEq, List.append_eq, List.cons_append, List.nil_append, abox, ndC, hne, hne', iY, fT, iZ, wo, wu, BR, d9, dL, wz, asz3, asz9, kG, Tryz.underlying3, Tryz.underlying9, Tryz.underlying30, List.getElem?_cons_zero, List.getElem?_cons_succ, dw, decide_true, Bool.not_true, show (n.kind != n.kind) = false by simp, show (n.par != n.par) = false by simp]
  refine au.enter Tryz.func24 rfl (by kernel_rfl) (Bu _ _ _ _ n.kids b1 (r1.kid.sub fun e he => List.mem_cons_of_mem _ (List.mem_cons_of_mem _ he)) (r2.kid.sub fun e he => List.mem_cons_of_mem _ (List.mem_cons_of_mem _ he)) ho1 _ _ ?_)
  simp -implicitDefEqProofs only [go_sem, ↓aj, ↓ah, ak, Nat.reduceBEq, ↓reduceIte, reduceCtorEq, Nat.reduceEqDiff, Nat.reduceAdd, Nat.reduceLeDiff, Int.reduceEq, Int.reduceLT, Int.reduceLE, Int.reduceAdd, Int.reduceToNat, Int.reduceNeg, Nat.reduceMul, Nat.reduceSub, Int.reduceBNe, Int.reduceBEq, List.append_eq, List.cons_append, List.nil_append, ndC, hne, hne', d9, dL, j5, iL, Tryz.underlying31, Tryz.underlying32, hc1, hc2, cut1, List.getElem?_cons_zero, List.getElem?_cons_succ, q1, q2, decide_true, Bool.not_true, Bool.not_false]
  change Own ((st.new (.cells [.int .i64 n.kind, .int .i64 n.par, .slice ka n.kids.length kc, .string (tx n.pre), .string (tx n.loc), .string (tx n.spc), .slice aa n.atts.length ac, .slice da n.dcls.length dc, .string (tx n.val)] 34 true)).new (.cells [.int .i64 n.kind, .int .i64 n.par, .slice ka' n.kids.length kc', .string (tx n.pre), .string (tx n.loc), .string (tx n.spc), .slice aa' n.atts.length ac', .slice da' n.dcls.length dc', .string (tx n.val)] 34 true)) _ at ho1
  change ((st.new (.cells [.int .i64 n.kind, .int .i64 n.par, .slice ka n.kids.length kc, .string (tx n.pre), .string (tx n.loc), .string (tx n.spc), .slice aa n.atts.length ac, .slice da n.dcls.length dc, .string (tx n.val)] 34 true)).new (.cells [.int .i64 n.kind, .int .i64 n.par, .slice ka' n.kids.length kc', .string (tx n.pre), .string (tx n.loc), .string (tx n.spc), .slice aa' n.atts.length ac', .slice da' n.dcls.length dc', .string (tx n.val)] 34 true)).H st.n = _ at hc1
  change ((st.new (.cells [.int .i64 n.kind, .int .i64 n.par, .slice ka n.kids.length kc, .string (tx n.pre), .string (tx n.loc), .string (tx n.spc), .slice aa n.atts.length ac, .slice da n.dcls.length dc, .string (tx n.val)] 34 true)).new (.cells [.int .i64 n.kind, .int .i64 n.par, .slice ka' n.kids.length kc', .string (tx n.pre), .string (tx n.loc), .string (tx n.spc), .slice aa' n.atts.length ac', .slice da' n.dcls.length dc', .string (tx n.val)] 34 true)).H (st.n + 1) = _ at hc2
  generalize hst : ((st.new (Ob.cells [.int .i64 n.kind, .int .i64 n.par, .slice ka n.kids.length kc, .string (tx n.pre), .string (tx n.loc), .string (tx n.spc), .slice aa n.atts.length ac, .slice da n.dcls.length dc, .string (tx n.val)] 34 true)).new (Ob.cells [.int .i64 n.kind, .int .i64 n.par, .slice ka' n.kids.length kc', .string (tx n.pre), .string (tx n.loc), .string (tx n.spc), .slice aa' n.atts.length ac', .slice da' n.dcls.length dc', .string (tx n.val)] 34 true)) = s0 at *
  refine ⟨fun m ρ s => ∃ i : Nat, m = n.atts.length - i ∧ i ≤ n.atts.length ∧ ρ 2 = .pointer (some ⟨st.n, 0, none⟩) ∧ ρ 3 = .pointer (some ⟨st.n + 1, 0, none⟩) ∧ ρ 5 = .int .i64 i ∧ s0 = s, ⟨_, 0, rfl, Nat.zero_le _, rfl, rfl, rfl, rfl⟩, ?_⟩
  rintro _ ρ s ⟨i, rfl, hi, h2, h3, h5, rfl⟩
  by_cases him : i < n.atts.length
  · obtain ⟨x, o, sp, c', ccs, ty, own, hvx, hmem, hcut⟩ := r1.att.mem (i := i) (l := attC n.atts[i]) (by simp [him])
    obtain ⟨x2, o2, sp2, c2', ccs2, ty2, own2, hvx2, hmem2, hcut2⟩ := r2.att.mem (i := i) (l := attC n.atts[i]) (by simp [him])
    rw [List.length_map] at hvx hvx2
    injection hvx with hvx _ hcc
    injection hvx2 with hvx2 _ hcc2
    subst hvx hvx2 hcc hcc2
    have hcx := ho1.get (List.mem_cons_of_mem _ (List.mem_cons_of_mem _ hmem))
    have hcx2 := ho1.get (List.mem_cons_of_mem _ (List.mem_cons_of_mem _ hmem2))
    have w1 : IntKind.i64.wrap ((i : Int) + 1) = ((i + 1 : Nat) : Int) := by rw [cB (by omega)]; rfl
    have hq := He n.atts[i]
    generalize n.atts[i] = X at *
    simp -implicitDefEqProofs only [go_sem, ↓aj, ↓ah, ak, Nat.reduceBEq, ↓reduceIte, reduceCtorEq, Nat.reduceEqDiff, Nat.reduceAdd, Nat.reduceLeDiff, Int.reduceEq, Int.reduceLT, Int.reduceLE, Int.reduceAdd, Int.reduceToNat, Int.reduceNeg, Nat.reduceMul, Nat.reduceSub, Int.reduceBNe, Int.reduceBEq, h2, h3, h5, hc1, hc2, hne, hne', him, Int.ofNat_lt, decide_true, Tryz.underlying31, d9, cut1, j5, List.getElem?_cons_zero, List.getElem?_cons_succ]
    refine bE.of [(0, false, []), (1, false, []), (2, false, []), (3, false, []), (4, false, []), (5, false, []), (6, false, []), (7, false, []), (8, false, []), (9, false, []), (10, false, [])] [] [] (by kernel_rfl) ?_
    simp -implicitDefEqProofs only [go_sem, ↓aj, ↓ah, ak, Nat.reduceBEq, ↓reduceIte, reduceCtorEq, Nat.reduceEqDiff, Nat.reduceAdd, Nat.reduceLeDiff, Int.reduceEq, Int.reduceLT, Int.reduceLE, Int.reduceAdd, Int.reduceToNat, Int.reduceNeg, Nat.reduceMul, Nat.reduceSub, Int.reduceBNe, Int.reduceBEq, h2, h3, h5, hc1, hc2, hne, hne', him, Int.ofNat_lt, decide_true, Int.natCast_nonneg, and_self, Int.toNat_natCast, hcx, hcx2, hcut, hcut2, iM, j5, Tryz.underlying31, Tryz.underlying52, Option.map_some, G8, hq, Bool.not_true, w1, d9, cut1, List.getElem?_cons_zero, List.getElem?_cons_succ]
    exact ⟨n.atts.length - (i + 1), by omega, i + 1, rfl, by omega, rfl⟩
  obtain rfl : i = n.atts.length := by omega
  simp -implicitDefEqProofs only [go_sem, ↓aj, ↓ah, ak, Nat.reduceBEq, ↓reduceIte, reduceCtorEq, Nat.reduceEqDiff, Nat.reduceAdd, Nat.reduceLeDiff, Int.reduceEq, Int.reduceLT, Int.reduceLE, Int.reduceAdd, Int.reduceToNat, Int.reduceNeg, Nat.reduceMul, Nat.reduceSub, Int.reduceBNe, Int.reduceBEq, h2, h3, h5, hc1, hc2, hne, hne', Int.ofNat_lt, Nat.lt_irrefl, decide_false, Tryz.underlying31, d9, cut1, j5, List.getElem?_cons_zero, List.getElem?_cons_succ]
  refine ⟨fun m ρ s => ∃ i : Nat, m = n.dcls.length - i ∧ i ≤ n.dcls.length ∧ ρ 2 = .pointer (some ⟨st.n, 0, none⟩) ∧ ρ 3 = .pointer (some ⟨st.n + 1, 0, none⟩) ∧ ρ 6 = .int .i64 i ∧ s0 = s, ⟨_, 0, rfl, Nat.zero_le _, h2, h3, rfl, rfl⟩, ?_⟩
  rintro _ ρ s ⟨i, rfl, hi, h2, h3, h5, rfl⟩
  by_cases him : i < n.dcls.length
  · obtain ⟨x, o, sp, c', ccs, ty, own, hvx, hmem, hcut⟩ := r1.dcl.mem (i := i) (l := dclC n.dcls[i]) (by simp [him])
    obtain ⟨x2, o2, sp2, c2', ccs2, ty2, own2, hvx2, hmem2, hcut2⟩ := r2.dcl.mem (i := i) (l := dclC n.dcls[i]) (by simp [him])
    rw [List.length_map] at hvx hvx2
    injection hvx with hvx _ hcc
    injection hvx2 with hvx2 _ hcc2
    subst hvx hvx2 hcc hcc2
    have hcx := ho1.get (List.mem_cons_of_mem _ (List.mem_cons_of_mem _ hmem))
    have hcx2 := ho1.get (List.mem_cons_of_mem _ (List.mem_cons_of_mem _ hmem2))
    have w1 : IntKind.i64.wrap ((i : Int) + 1) = ((i + 1 : Nat) : Int) := by rw [cB (by omega)]; rfl
    have hq := Hf n.dcls[i]
    generalize n.dcls[i] = X at *
    simp -implicitDefEqProofs only [go_sem, ↓aj, ↓ah, ak, Nat.reduceBEq, ↓reduceIte, reduceCtorEq, Nat.reduceEqDiff, Nat.reduceAdd, Nat.reduceLeDiff, Int.reduceEq, Int.reduceLT, Int.reduceLE, Int.reduceAdd, Int.reduceToNat, Int.reduceNeg, Nat.reduceMul, Nat.reduceSub, Int.reduceBNe, Int.reduceBEq, h2, h3, h5, hc1, hc2, hne, hne', him, Int.ofNat_lt, decide_true, Tryz.underlying32, dL, cut1, iL, List.getElem?_cons_zero, List.getElem?_cons_succ]
    refine bE.of [(0, false, []), (1, false, []), (2, false, []), (3, false, []), (4, false, []), (5, false, []), (6, false, []), (7, false, []), (8, false, []), (9, false, []), (10, false, [])] [] [] (by kernel_rfl) ?_
    simp -implicitDefEqProofs only [go_sem, ↓aj, ↓ah, ak, Nat.reduceBEq, ↓reduceIte, reduceCtorEq, Nat.reduceEqDiff, Nat.reduceAdd, Nat.reduceLeDiff, Int.reduceEq, Int.reduceLT, Int.reduceLE, Int.reduceAdd, Int.reduceToNat, Int.reduceNeg, Nat.reduceMul, Nat.reduceSub, Int.reduceBNe, Int.reduceBEq, h2, h3, h5, hc1, hc2, hne, hne', him, Int.ofNat_lt, decide_true, Int.natCast_nonneg, and_self, Int.toNat_natCast, hcx, hcx2, hcut, hcut2, kH, iL, Tryz.underlying32, Tryz.underlying62, Option.map_some, G9, hq, Bool.not_true, w1, dL, cut1, List.getElem?_cons_zero, List.getElem?_cons_succ]
    exact ⟨n.dcls.length - (i + 1), by omega, i + 1, rfl, by omega, rfl⟩
  obtain rfl : i = n.dcls.length := by omega
  simp -implicitDefEqProofs only [go_sem, ↓aj, ↓ah, ak, Nat.reduceBEq, ↓reduceIte, reduceCtorEq, Nat.reduceEqDiff, Nat.reduceAdd, Nat.reduceLeDiff, Int.reduceEq, Int.reduceLT, Int.reduceLE, Int.reduceAdd, Int.reduceToNat, Int.reduceNeg, Nat.reduceMul, Nat.reduceSub, Int.reduceBNe, Int.reduceBEq, h2, h3, h5, hc1, hc2, hne, hne', Int.ofNat_lt, Nat.lt_irrefl, decide_false, Tryz.underlying32, dL, cut1, iL, List.getElem?_cons_zero, List.getElem?_cons_succ]
  exact hk _ ho1.tail.tail
def DocV (H : Hp) (v : Value) (ns : List Nd) : Prop := ∃ cs : List (List Value), cs.length = ns.length ∧ Rws H v 9 cs ∧ ∀ (i : Nat) (n : Nd), ns[i]? = some n → ∃ kv av dv, cs[i]? = some (ndC n kv av dv) ∧ NdR H n kv av dv
theorem DocV.sub {H H' : Hp} {v : Value} {ns : List Nd} (h : DocV H v ns) (hs : ∀ e ∈ H, e ∈ H') : DocV H' v ns := by
  obtain ⟨cs, h1, h2, h3⟩ := h
  exact ⟨cs, h1, h2.sub hs, fun i n hi => by obtain ⟨kv, av, dv, a, b⟩ := h3 i n hi; exact ⟨kv, av, dv, a, b.sub hs⟩⟩
theorem DocV.isSlice {H : Hp} {v : Value} {ns : List Nd} (h : DocV H v ns) : ∃ a c, v = .slice a ns.length c := by
  obtain ⟨cs, h1, h2, h3⟩ := h
  obtain ⟨a, c, h, _⟩ := h2.isSlice
  exact ⟨a, c, by rw [← h1]; exact h⟩
theorem DocV.at {H : Hp} {v : Value} {ns : List Nd} (h : DocV H v ns) {i : Nat} {n : Nd} (hi : ns[i]? = some n) :
    ∃ x o sp c ccs ty own kv av dv, v = .slice (some ⟨x, o, sp⟩) ns.length c ∧ (x, Ob.cells ccs ty own) ∈ H ∧ cut ccs (o + i * 9) 9 = some (ndC n kv av dv) ∧ (∀ j, j < 9 → ccs[o + i * 9 + j]? = (ndC n kv av dv)[j]?) ∧ NdR H n kv av dv := by
  obtain ⟨cs, h1, h2, h3⟩ := h
  obtain ⟨kv, av, dv, a, b⟩ := h3 i n hi
  obtain ⟨x, o, sp, c, ccs, ty, own, g1, g2, g3⟩ := h2.mem a
  exact ⟨x, o, sp, c, ccs, ty, own, kv, av, dv, by rw [← h1]; exact g1, g2, g3, fun j hj => fP g3 hj, b⟩
theorem DocH.view {v : Value} {ns : List Nd} {h : Hp} (hD : DocH v ns h) : DocV h v ns := by
  obtain ⟨cs, hn, hx, rfl, hG, hN⟩ := hD
  have hT : zq v ns cs (hn ++ hx) := ⟨hn, hx, rfl, hG, hN⟩
  obtain ⟨cl, c9⟩ := hN.len
  refine ⟨cs, cl, by
    have := GV.rows (r := hx) hG c9 cl
    exact this, fun i n hi => ?_⟩
  obtain ⟨B, kv, av, dv, _, _, a3, _, a5⟩ := hT.full hi
  have hil := (List.getElem?_eq_some_iff.1 hi).1
  refine ⟨kv, av, dv, ?_, a5⟩
  obtain ⟨c, hc⟩ : ∃ c, cs[i]? = some c := ⟨cs[i]'(by omega), by simp⟩
  rw [hc]
  rw [jC c9 hc] at a3
  exact a3
end Go.Proofs.YtohgmkjhbacmpaaGreatDoor
set_option linter.unusedVariables false
set_option linter.unusedSimpArgs false
namespace Go.Proofs.YtohgmkjhbacmpaaGreatDoor
open Go Go.Abs Go.RowKit Go.Xml
theorem Cj : ∀ (f : Nat) {r r' : RS}, RI r → allR f r = .ok r' → RI r'
  | 0, r, r', h, ha => by
    unfold allR at ha
    split at ha
    · injection ha with ha; subst ha; exact h
    · cases ha
  | f + 1, r, r', h, ha => by
    unfold allR at ha
    split at ha
    · injection ha with ha; subst ha; exact h
    · rename_i hne
      split at ha
      · cases ha
      · rename_i r1 h1
        exact Cj f (rY h hne h1).1 ha
theorem kT {b : Tx} {ns : List Nd} (h : bM b = .ok ns) : ns.length ≤ 4096 ∧ ∀ n ∈ ns, n.dcls.length ≤ 1000000 := by
  unfold bM at h
  split at h
  · cases h
  rename_i h64
  split at h
  · cases h
  unfold allF at h
  split at h
  · cases h
  rename_i s1 h1
  split at h
  · cases h
  rename_i r h2
  split at h
  · injection h with h
    subst h
    have hl := oC b
    have hf := rZ h1
    have hI := Cj _ (RI.start s1 (by omega)) h2
    exact ⟨hI.many, hI.dcl⟩
  · cases h
def AI (ns : List Nd) : Prop := ∀ n ∈ ns, n.atts.length ≤ 32
theorem AI.kid {ns : List Nd} (h : AI ns) (p c : Nat) : AI (aH ns p c) := fun n hn => by
  rcases uN hn with h1 | ⟨m, h1, rfl⟩
  · exact h n h1
  · exact h m h1
theorem AI.snoc {ns : List Nd} (h : AI ns) {m : Nd} (hm : m.atts.length ≤ 32) : AI (ns ++ [m]) := fun n hn => by
  rcases List.mem_append.1 hn with h1 | h1
  · exact h n h1
  · rw [List.mem_singleton.1 h1]; exact hm
theorem xC {r r' : RS} {n : Nd} {i : Nat} (h : AI r.ns) (hn : n.atts.length ≤ 32) (ha : addF n r = .ok (i, r')) : AI r'.ns := by
  unfold addF at ha
  split at ha
  · cases ha
  · split at ha
    · injection ha with ha; injection ha with _ ha; rw [← ha]; exact h.snoc hn
    · injection ha with ha; injection ha with _ ha; rw [← ha]; exact (h.kid _ _).snoc hn
theorem sM {r r' : RS} {t : Tx} (h : AI r.ns) (ha : aQ t r = .ok r') : AI r'.ns := by
  unfold aQ at ha
  split at ha
  · injection ha with ha; rw [← ha]; exact h
  split at ha
  · cases ha
  split at ha
  · injection ha with ha
    rw [← ha]
    intro n hn
    obtain ⟨j, hj⟩ := List.mem_iff_getElem?.1 hn
    dsimp only at hj
    rw [List.getElem?_modify] at hj
    cases hx : r.ns[j]? with
    | none => rw [hx] at hj; cases hj
    | some m =>
      rw [hx] at hj
      change some _ = some n at hj
      injection hj with hj
      have := h m (List.mem_of_getElem? hx)
      rw [← hj]
      split <;> exact this
  · split at ha
    · rename_i g
      injection ha with ha
      rw [← ha]
      exact xC h (by simp [nd0]) g
    · cases ha
theorem oU {r : RS} {ds : List Dcl} : ∀ {l acc l' : List Att}, eP r ds acc l = .ok l' → l'.length = acc.length + l.length
  | [], acc, l', h => by unfold eP at h; injection h with h; rw [h]; rfl
  | a :: l, acc, l', h => by
    unfold eP at h
    split at h
    · have := oU h; rw [this]; simp; omega
    · split at h
      · have := oU h; rw [this]; simp; omega
      · cases h
theorem sN : ∀ (f : Nat) {nms nms' : List Tx} {n n' : Nd} {s s' : Tx}, bg f nms n s = .ok (nms', n', s') → n'.atts.length + nms.length ≤ n.atts.length + nms'.length
  | 0, _, _, _, _, _, _, h => by cases h
  | f + 1, nms, nms', n, n', s, s', h => by
    unfold bg at h
    split at h
    · cases hn : bK (aC s).2 with
      | error e => rw [hn] at h; cases h
      | ok x =>
        obtain ⟨nm, s1⟩ := x
        rw [hn] at h
        dsimp only at h
        cases he : eqF s1 with
        | error e => rw [he] at h; cases h
        | ok s2 =>
          rw [he] at h
          dsimp only at h
          cases hq : iw s2 with
          | error e => rw [hq] at h; cases h
          | ok y =>
            obtain ⟨v, s3⟩ := y
            rw [hq] at h
            have := sN f h
            have hp : (bS nm v n).atts.length ≤ n.atts.length + 1 := by
              unfold bS
              split
              · simp
              split
              · split <;> simp
              · simp
            rw [List.length_append] at this
            simp at this
            omega
    · injection h with h
      injection h with h1 h2
      injection h2 with h2 _
      rw [← h1, ← h2]
      omega
theorem D7 {r r' : RS} (h : AI r.ns) (ha : aV r = .ok r') : AI r'.ns := by
  unfold aV at ha
  split at ha
  · cases ha
  cases hn : bK r.s with
  | error e => rw [hn] at ha; cases ha
  | ok x =>
    obtain ⟨nm, s1⟩ := x
    rw [hn] at ha
    dsimp only at ha
    cases hat : bg (s1.length + 1) [] (dh nm) s1 with
    | error e => rw [hat] at ha; cases ha
    | ok y =>
      obtain ⟨nms, n, s2⟩ := y
      rw [hat] at ha
      dsimp only at ha
      split at ha
      · cases ha
      split at ha
      · cases ha
      rename_i h32
      split at ha
      · cases ha
      cases hs : aU r n with
      | error e => rw [hs] at ha; cases ha
      | ok n' =>
        rw [hs] at ha
        dsimp only at ha
        split at ha
        · cases ha
        cases hd : addF n' { r with s := (hasF [62] (hasF [47] s2).2).2 } with
        | error e => rw [hd] at ha; cases ha
        | ok z =>
          obtain ⟨a, r1⟩ := z
          rw [hd] at ha
          dsimp only at ha
          injection ha with ha
          have hl := sN _ hat
          have hh : (dh nm).atts = [] := by unfold dh; split <;> rfl
          rw [hh] at hl
          have hl2 : n'.atts.length = n.atts.length := by
            unfold aU at hs
            split at hs
            · cases hs
            split at hs
            · split at hs
              · rename_i l' hx
                injection hs with hs
                have := oU hx
                rw [← hs]
                simpa using this
              · cases hs
            · cases hs
          have := xC (r := { r with s := (hasF [62] (hasF [47] s2).2).2 }) h (n := n') (by simp at hl; omega) hd
          rw [← ha]
          exact this
theorem sO {r r' : RS} {n : Nd} {s : Tx} (h : AI r.ns) (hn : n.atts.length ≤ 32) (ha : (if r.stk = [] then (.ok { r with s := s } : Ex RS) else match addF n { r with s := s } with | .error e => .error e | .ok (_, r') => .ok r') = .ok r') : AI r'.ns := by
  split at ha
  · injection ha with ha; rw [← ha]; exact h
  · cases hd : addF n { r with s := s } with
    | error e => rw [hd] at ha; cases ha
    | ok z =>
      obtain ⟨a, r1⟩ := z
      rw [hd] at ha
      injection ha with ha
      rw [← ha]
      exact xC (r := { r with s := s }) h hn hd
theorem FR {r r' : RS} (h : AI r.ns) (ha : fZ r = .ok r') : AI r'.ns := by
  unfold fZ at ha
  split at ha
  · unfold aN at ha
    dsimp only at ha
    split at ha
    · cases ha
    · split at ha
      · exact sO h (n := { nd0 with kind := 3, val := _ }) (by simp [nd0]) ha
      · cases ha
  split at ha
  · cases ha
  split at ha
  · split at ha
    · cases ha
    · refine sM ?_ ha; exact h
  split at ha
  · unfold dH at ha
    dsimp only at ha
    split at ha
    · cases ha
    · split at ha
      · cases ha
      split at ha
      · exact sO h (n := { nd0 with kind := 4, loc := _, val := _ }) (by simp [nd0]) ha
      · split at ha
        · split at ha
          · cases ha
          · exact sO h (n := { nd0 with kind := 4, loc := _, val := _ }) (by simp [nd0]) ha
        · cases ha
  split at ha
  · unfold endF at ha
    dsimp only at ha
    split at ha
    · cases ha
    · split at ha
      · cases ha
      · split at ha
        · injection ha with ha; rw [← ha]; exact h
        · cases ha
  split at ha
  · refine D7 ?_ ha; exact h
  · injection ha with ha; rw [← ha]; exact h
theorem FT {r r' : RS} (h : AI r.ns) (ha : aR r = .ok r') : AI r'.ns := by
  unfold aR at ha
  split at ha
  · exact FR h ha
  split at ha
  · split at ha
    · cases ha
    · refine sM ?_ ha; exact h
  split at ha
  · cases ha
  unfold dJ at ha
  split at ha
  · split at ha
    · injection ha with ha; rw [← ha]; exact h
    · cases ha
  split at ha
  · cases ha
  split at ha
  · cases ha
  · rename_i g
    injection ha with ha
    rw [← ha]
    have := sM h g
    exact this
theorem Ck : ∀ (f : Nat) {r r' : RS}, AI r.ns → allR f r = .ok r' → AI r'.ns
  | 0, r, r', h, ha => by
    unfold allR at ha
    split at ha
    · injection ha with ha; subst ha; exact h
    · cases ha
  | f + 1, r, r', h, ha => by
    unfold allR at ha
    split at ha
    · injection ha with ha; subst ha; exact h
    · split at ha
      · cases ha
      · rename_i r1 h1
        exact Ck f (FT h h1) ha
theorem Bw {b : Tx} {ns : List Nd} (h : bM b = .ok ns) : AI ns := by
  unfold bM at h
  split at h
  · cases h
  split at h
  · cases h
  unfold allF at h
  split at h
  · cases h
  split at h
  · cases h
  rename_i r h2
  split at h
  · injection h with h
    subst h
    exact Ck _ (fun n hn => by cases hn) h2
  · cases h
theorem Cm : ∀ {ns : List Nd} {i : Nat} {n : Nd}, ns[i]? = some n → n.kids.length ≤ bH ns
  | [], i, n, h => by simp at h
  | m :: ns, 0, n, h => by
    simp at h; subst h
    show _ ≤ m.kids.length + bH ns
    omega
  | m :: ns, i + 1, n, h => by
    have := Cm (ns := ns) (i := i) (by simpa using h)
    show _ ≤ m.kids.length + bH ns
    omega
theorem zG {b : Tx} {ns : List Nd} (hp : bM b = .ok ns) {i : Nat} {n : Nd} (hn : ns[i]? = some n) : n.kids.length ≤ 1000000 ∧ n.atts.length ≤ 1000000 ∧ n.dcls.length ≤ 1000000 := by
  have hm := List.mem_of_getElem? hn
  obtain ⟨h1, h2⟩ := kT hp
  obtain ⟨_, h3⟩ := kM hp
  have h4 := Bw hp n hm
  have h5 := Cm hn
  exact ⟨by omega, by omega, h2 n hm⟩
theorem Jb {b : Tx} {ns : List Nd} (hp : bM b = .ok ns) {i : Nat} {n : Nd} (hn : ns[i]? = some n) {c : Nat} (hc : c ∈ n.kids) : c < ns.length := by
  obtain ⟨h1, _⟩ := kM hp
  obtain ⟨k, hk⟩ := List.mem_iff_getElem?.1 hc
  obtain ⟨_, m, hm, _⟩ := (h1 i n hn).kid k c hk
  exact (List.getElem?_eq_some_iff.1 hm).1
end Go.Proofs.YtohgmkjhbacmpaaGreatDoor
set_option linter.unusedVariables false
set_option linter.unusedSimpArgs false
namespace Go.Proofs.YtohgmkjhbacmpaaGreatDoor
open Go Go.Abs Go.RowKit Go.Xml
variable {base : Nat} {w0 : World} {G : Nat}
set_option maxRecDepth 10000 in
theorem zH (st : St) (r : Hp) (X : Value) (l u : Tx) (hM : dM w0) (hT : bX w0) (hX : Nb r X (nb8 l)) (hS : Sl Tryz.prog r X 1) (hO : Own st r) (k q : Value → St → Prop) (hk : ∀ st', k (.bool true) st') : ay (C base w0 3) 5 [X, .string (tx u)] st k q := by
  obtain ⟨xa, xc, hxs⟩ := hX.isSlice
  rw [aF] at hxs
  refine ay.of (cx := C base w0 3) mixed Tryz.func5 rfl (by kernel_rfl) (by simp [Tryz.ntmps5]) ?_
  simp only [Tryz.results5]
  simp -implicitDefEqProofs only [go_sem, ↓aj, ↓ah, ak, Nat.reduceBEq, ↓reduceIte, reduceCtorEq, Nat.reduceEqDiff, Nat.reduceAdd, Nat.reduceLeDiff, Int.reduceEq, Int.reduceLT, Int.reduceLE, Int.reduceAdd, Int.reduceToNat, Int.reduceNeg, Nat.reduceMul, Nat.reduceSub, Int.reduceBNe, Int.reduceBEq]
  refine au.enter Tryz.func8 rfl (by kernel_rfl) (mh st r hM hT hO _ _ fun s1 ho1 => ?_)
  by_cases hlen : l.length > 5000
  · simp -implicitDefEqProofs only [go_sem, ↓aj, ↓ah, ak, Nat.reduceBEq, ↓reduceIte, reduceCtorEq, Nat.reduceEqDiff, Nat.reduceAdd, Nat.reduceLeDiff, Int.reduceEq, Int.reduceLT, Int.reduceLE, Int.reduceAdd, Int.reduceToNat, Int.reduceNeg, Nat.reduceMul, Nat.reduceSub, Int.reduceBNe, Int.reduceBEq, Bool.not_true, hxs, Tryz.underlying22, show ((l.length : Int) > 5000) = True by simp; omega, decide_true]
    refine au.enter Tryz.func8 rfl (by kernel_rfl) (mh s1 r hM hT ho1 _ _ fun s2 ho2 => ?_)
    simp -implicitDefEqProofs only [go_sem, ↓aj, ↓ah, ak, Nat.reduceBEq, ↓reduceIte, reduceCtorEq, Nat.reduceEqDiff, Nat.reduceAdd, Nat.reduceLeDiff, Int.reduceEq, Int.reduceLT, Int.reduceLE, Int.reduceAdd, Int.reduceToNat, Int.reduceNeg, Nat.reduceMul, Nat.reduceSub, Int.reduceBNe, Int.reduceBEq]
    exact hk _
  by_cases hul : u.length > 100
  · simp -implicitDefEqProofs only [go_sem, ↓aj, ↓ah, ak, Nat.reduceBEq, ↓reduceIte, reduceCtorEq, Nat.reduceEqDiff, Nat.reduceAdd, Nat.reduceLeDiff, Int.reduceEq, Int.reduceLT, Int.reduceLE, Int.reduceAdd, Int.reduceToNat, Int.reduceNeg, Nat.reduceMul, Nat.reduceSub, Int.reduceBNe, Int.reduceBEq, Bool.not_true, hxs, Tryz.underlying22, Tryz.underlying9, aG, show ((l.length : Int) > 5000) = False by simp; omega, show ((u.length : Int) > 100) = True by simp; omega, decide_true, decide_false]
    refine au.enter Tryz.func8 rfl (by kernel_rfl) (mh s1 r hM hT ho1 _ _ fun s2 ho2 => ?_)
    simp -implicitDefEqProofs only [go_sem, ↓aj, ↓ah, ak, Nat.reduceBEq, ↓reduceIte, reduceCtorEq, Nat.reduceEqDiff, Nat.reduceAdd, Nat.reduceLeDiff, Int.reduceEq, Int.reduceLT, Int.reduceLE, Int.reduceAdd, Int.reduceToNat, Int.reduceNeg, Nat.reduceMul, Nat.reduceSub, Int.reduceBNe, Int.reduceBEq]
    exact hk _
  simp -implicitDefEqProofs only [go_sem, astr, ak, Nat.reduceBEq, ↓reduceIte, reduceCtorEq, Nat.reduceEqDiff, Nat.reduceAdd, Nat.reduceLeDiff, Int.reduceEq, Int.reduceLT, Int.reduceLE, Int.reduceAdd, Int.reduceToNat, Int.reduceNeg, Nat.reduceMul, Nat.reduceSub, Int.reduceBNe, Int.reduceBEq, Bool.not_true, hxs, Tryz.underlying22, Tryz.underlying9, aG, show ((l.length : Int) > 5000) = False by simp; omega, show ((u.length : Int) > 100) = False by simp; omega, decide_true, decide_false]
  have he0 : Own s1 r := ho1
  refine eT (fun ρ s => ρ 0 = X ∧ ρ 1 = .string (tx u) ∧ Own s r ∧ ∀ c ∈ u, 97 ≤ c ∧ c ≤ 122) ?_ ?_
  · simp -implicitDefEqProofs only [go_sem, ↓aj, ↓ah, ak, Nat.reduceBEq, ↓reduceIte, reduceCtorEq, Nat.reduceEqDiff, Nat.reduceAdd, Nat.reduceLeDiff, Int.reduceEq, Int.reduceLT, Int.reduceLE, Int.reduceAdd, Int.reduceToNat, Int.reduceNeg, Nat.reduceMul, Nat.reduceSub, Int.reduceBNe, Int.reduceBEq]
    refine ⟨fun m ρ s => ∃ i : Nat, m = u.length - i ∧ i ≤ u.length ∧ ρ 0 = X ∧ ρ 1 = .string (tx u) ∧ ρ 5 = .int .i64 (i : Nat) ∧ Own s r ∧ ∀ j, j < i → 97 ≤ u.getD j 0 ∧ u.getD j 0 ≤ 122, ⟨_, 0, rfl, Nat.zero_le _, hxs.symm, rfl, rfl, ho1, fun j hj => by omega⟩, ?_⟩
    rintro _ ρ s ⟨i, rfl, hi, h0, h1, h5, hs, hall⟩
    by_cases hiu : i < u.length
    · have wi : IntKind.i64.wrap ((i : Int) + 1) = ((i + 1 : Nat) : Int) := by rw [cB (by omega)]; rfl
      have hx := jy (P := Tryz.prog) (t := 9) (k := .i64) (l := u) (i := i) Tryz.underlying9 hiu
      obtain ⟨N, hN⟩ : ∃ N, (u.getD i 0).toNat = N := ⟨_, rfl⟩
      rw [hN] at hx
      by_cases hlo : N < 97
      · simp -implicitDefEqProofs only [go_sem, ↓aj, ↓ah, ak, Nat.reduceBEq, ↓reduceIte, reduceCtorEq, Nat.reduceEqDiff, Nat.reduceAdd, Nat.reduceLeDiff, Int.reduceEq, Int.reduceLT, Int.reduceLE, Int.reduceAdd, Int.reduceToNat, Int.reduceNeg, Nat.reduceMul, Nat.reduceSub, Int.reduceBNe, Int.reduceBEq, h0, h1, h5, hx, Tryz.underlying9, Tryz.underlying5, aG, Int.ofNat_lt, hiu, decide_true, eq_true (show ((N : Int) < 97) by omega)]
        exact hk _
      by_cases hhi : 122 < N
      · simp -implicitDefEqProofs only [go_sem, ↓aj, ↓ah, ak, Nat.reduceBEq, ↓reduceIte, reduceCtorEq, Nat.reduceEqDiff, Nat.reduceAdd, Nat.reduceLeDiff, Int.reduceEq, Int.reduceLT, Int.reduceLE, Int.reduceAdd, Int.reduceToNat, Int.reduceNeg, Nat.reduceMul, Nat.reduceSub, Int.reduceBNe, Int.reduceBEq, h0, h1, h5, hx, Tryz.underlying9, Tryz.underlying5, aG, Int.ofNat_lt, hiu, decide_true, decide_false, eq_false (show ¬ ((N : Int) < 97) by omega), eq_true (show ((N : Int) > 122) by omega)]
        exact hk _
      simp -implicitDefEqProofs only [go_sem, ↓aj, ↓ah, ak, Nat.reduceBEq, ↓reduceIte, reduceCtorEq, Nat.reduceEqDiff, Nat.reduceAdd, Nat.reduceLeDiff, Int.reduceEq, Int.reduceLT, Int.reduceLE, Int.reduceAdd, Int.reduceToNat, Int.reduceNeg, Nat.reduceMul, Nat.reduceSub, Int.reduceBNe, Int.reduceBEq, h0, h1, h5, hx, Tryz.underlying9, Tryz.underlying5, aG, Int.ofNat_lt, hiu, decide_true, decide_false, eq_false (show ¬ ((N : Int) < 97) by omega), eq_false (show ¬ ((N : Int) > 122) by omega), wi]
      refine ⟨_, by omega, i + 1, rfl, by omega, rfl, hs, fun j hj => ?_⟩
      by_cases hji : j = i
      · subst hji
        exact ⟨show 97 ≤ (u.getD j 0).toNat by omega, show (u.getD j 0).toNat ≤ 122 by omega⟩
      · exact hall j (by omega)
    · obtain rfl : i = u.length := by omega
      simp -implicitDefEqProofs only [go_sem, ↓aj, ↓ah, ak, Nat.reduceBEq, ↓reduceIte, reduceCtorEq, Nat.reduceEqDiff, Nat.reduceAdd, Nat.reduceLeDiff, Int.reduceEq, Int.reduceLT, Int.reduceLE, Int.reduceAdd, Int.reduceToNat, Int.reduceNeg, Nat.reduceMul, Nat.reduceSub, Int.reduceBNe, Int.reduceBEq, h0, h1, h5, Tryz.underlying9, aG, Int.ofNat_lt, Nat.lt_irrefl, decide_false]
      refine ⟨hs, fun c hc => ?_⟩
      obtain ⟨j, hj, rfl⟩ := List.getElem_of_mem hc
      have := hall j hj
      rwa [List.getD_eq_getElem?_getD, List.getElem?_eq_getElem hj, Option.getD_some] at this
  rintro ρ s ⟨h0, h1, hs, hu⟩
  refine eT (fun ρ s => ∃ b v e ns h, ρ 0 = X ∧ ρ 1 = .string (tx u) ∧ ρ 6 = .pointer (some ⟨b, 0, none⟩) ∧ ρ 7 = .int .i64 e ∧ Own s ((b, .cells [v] 26 true) :: (h ++ r)) ∧ (e = 0 ∧ bM l = .ok ns ∧ DocV h v ns ∨ e ≠ 0)) ?_ ?_
  · simp -implicitDefEqProofs only [go_sem, ↓aj, ↓ah, ak, Nat.reduceBEq, ↓reduceIte, reduceCtorEq, Nat.reduceEqDiff, Nat.reduceAdd, Nat.reduceLeDiff, Int.reduceEq, Int.reduceLT, Int.reduceLE, Int.reduceAdd, Int.reduceToNat, Int.reduceNeg, Nat.reduceMul, Nat.reduceSub, Int.reduceBNe, Int.reduceBEq, h0, h1]
    refine au.enter Tryz.func9 rfl (by kernel_rfl) (kL s r X l hM hT hX hS (by omega) hs _ _ (fun ns v h st' hp hD hO2 => ?_) (fun e st' hp hO2 => ?_))
    · obtain ⟨va, vc, hva⟩ := hD.view.isSlice
      have hview := hD.view
      subst hva
      have ho3 := (hO2.new (.cells [.slice none 0 0] 26 true)).set rfl (.cells [.slice va ns.length vc] 26 true) rfl
      simp -implicitDefEqProofs only [go_sem, ↓aj, ↓ah, ak, Nat.reduceBEq, ↓reduceIte, reduceCtorEq, Nat.reduceEqDiff, Nat.reduceAdd, Nat.reduceLeDiff, Int.reduceEq, Int.reduceLT, Int.reduceLE, Int.reduceAdd, Int.reduceToNat, Int.reduceNeg, Nat.reduceMul, Nat.reduceSub, Int.reduceBNe, Int.reduceBEq, h0, h1, bN, kF, j4, Tryz.underlying26, Tryz.underlying27, cut1, List.length_cons, List.length_nil, List.set_cons_zero, Option.map_some]
      exact ⟨_, _, 0, ns, h, rfl, rfl, ho3, .inl ⟨rfl, hp, hview⟩⟩
    · have he := Bh hp
      have ho3 := (hO2.new (.cells [.slice none 0 0] 26 true)).set rfl (.cells [.slice none 0 0] 26 true) rfl
      simp -implicitDefEqProofs only [go_sem, ↓aj, ↓ah, ak, Nat.reduceBEq, ↓reduceIte, reduceCtorEq, Nat.reduceEqDiff, Nat.reduceAdd, Nat.reduceLeDiff, Int.reduceEq, Int.reduceLT, Int.reduceLE, Int.reduceAdd, Int.reduceToNat, Int.reduceNeg, Nat.reduceMul, Nat.reduceSub, Int.reduceBNe, Int.reduceBEq, h0, h1, bN, kF, j4, Tryz.underlying26, Tryz.underlying27, cut1, List.length_cons, List.length_nil, List.set_cons_zero, Option.map_some]
      exact ⟨_, _, e, [], [], rfl, rfl, ho3, .inr he⟩
  rintro ρ s ⟨b, v, e, ns, h, h0, h1, h6, h7, hs, hcase⟩
  refine eT (fun ρ s' => s = s' ∧ ρ 0 = X ∧ ρ 1 = .string (tx u) ∧ ρ 6 = .pointer (some ⟨b, 0, none⟩) ∧ bM l = .ok ns ∧ DocV h v ns ∧ (hasF wXml l).1 = false) ?_ ?_
  · rcases hcase with ⟨rfl, hp, hv⟩ | he
    · by_cases h5 : 5 ≤ l.length
      · obtain ⟨v5, hv5, hN5, hS5⟩ := hX.part (t := 22) (lo := none) (hi := some (.int .i64 (5 : Nat))) (l := 0) (r := 5) hS hs.tail.right Tryz.underlying22 asz5 (fun c hc => jN (by rw [aF] at hc; omega)) (by omega) (by rw [aF]; omega)
        change aslice Tryz.prog s 22 X none (some (.int .i64 5)) none = some v5 at hv5
        have hsrc := hN5.src hs.tail.right
        have e5 : (((nb8 l).drop 0).take (5 - 0)) = nb8 (l.take 5) := by simp [nb8, List.map_take]
        rw [e5, aF] at hsrc
        have ex : (⟨#[60, 63, 120, 109, 108]⟩ : ByteArray) = tx wXml := rfl
        obtain ⟨va5, vc5, hvs5⟩ := hN5.isSlice
        rw [hxs] at hv5
        subst hvs5
        have hn5 : ((l.length : Int) ≥ 5) = True := eq_true (by omega)
        cases hpre : wXml.isPrefixOf l with
        | true =>
          have e : decide (l.take 5 = wXml) = true := by
            obtain ⟨t, ht⟩ := List.isPrefixOf_iff_prefix.1 hpre
            rw [← ht]; simp [wXml]
          simp -implicitDefEqProofs only [go_sem, ↓aj, ↓ah, ak, Nat.reduceBEq, ↓reduceIte, reduceCtorEq, Nat.reduceEqDiff, Nat.reduceAdd, Nat.reduceLeDiff, Int.reduceEq, Int.reduceLT, Int.reduceLE, Int.reduceAdd, Int.reduceToNat, Int.reduceNeg, Nat.reduceMul, Nat.reduceSub, Int.reduceBNe, Int.reduceBEq, h0, h1, h6, h7, hxs, hn5, hv5, ex, e, Tryz.underlying27, Tryz.underlying22, decide_true, gK (l := l.take 5) Tryz.underlying22 Tryz.underlying5 Tryz.underlying9 hsrc ⟨_, _, _, rfl⟩, aA]
          exact hk _
        | false =>
          have e : decide (l.take 5 = wXml) = false := by
            rw [decide_eq_false_iff_not]
            intro e
            have : wXml <+: l := ⟨l.drop 5, by rw [← e, List.take_append_drop]⟩
            rw [List.isPrefixOf_iff_prefix.2 this] at hpre
            cases hpre
          simp -implicitDefEqProofs only [go_sem, ↓aj, ↓ah, ak, Nat.reduceBEq, ↓reduceIte, reduceCtorEq, Nat.reduceEqDiff, Nat.reduceAdd, Nat.reduceLeDiff, Int.reduceEq, Int.reduceLT, Int.reduceLE, Int.reduceAdd, Int.reduceToNat, Int.reduceNeg, Nat.reduceMul, Nat.reduceSub, Int.reduceBNe, Int.reduceBEq, h0, h1, h6, h7, hxs, hn5, hv5, ex, e, Tryz.underlying27, Tryz.underlying22, decide_true, gK (l := l.take 5) Tryz.underlying22 Tryz.underlying5 Tryz.underlying9 hsrc ⟨_, _, _, rfl⟩, aA]
          exact ⟨hp, hv, by unfold hasF; rw [hpre]; rfl⟩
      · have hn5 : ((l.length : Int) ≥ 5) = False := eq_false (by omega)
        simp -implicitDefEqProofs only [go_sem, ↓aj, ↓ah, ak, Nat.reduceBEq, ↓reduceIte, reduceCtorEq, Nat.reduceEqDiff, Nat.reduceAdd, Nat.reduceLeDiff, Int.reduceEq, Int.reduceLT, Int.reduceLE, Int.reduceAdd, Int.reduceToNat, Int.reduceNeg, Nat.reduceMul, Nat.reduceSub, Int.reduceBNe, Int.reduceBEq, h0, h1, h6, h7, hxs, hn5, Tryz.underlying27, Tryz.underlying22, decide_false]
        refine ⟨hp, hv, ?_⟩
        cases hpre : wXml.isPrefixOf l with
        | true => have := xw hpre; exact absurd this (by show ¬ (5 ≤ l.length); exact h5)
        | false => unfold hasF; rw [hpre]; rfl
    · have hne : (e != 0) = true := by simp; exact he
      simp -implicitDefEqProofs only [go_sem, ↓aj, ↓ah, ak, Nat.reduceBEq, ↓reduceIte, reduceCtorEq, Nat.reduceEqDiff, Nat.reduceAdd, Nat.reduceLeDiff, Int.reduceEq, Int.reduceLT, Int.reduceLE, Int.reduceAdd, Int.reduceToNat, Int.reduceNeg, Nat.reduceMul, Nat.reduceSub, Int.reduceBNe, Int.reduceBEq, h0, h1, h6, h7, Tryz.underlying27, hne]
      exact hk _
  rintro ρ s ⟨rfl, h0, h1, h6, hp, hv, hx⟩
  have hwp := Br hp hx hu (by omega) (by omega)
  have z1 : (⟨#[60, 122, 62]⟩ : ByteArray) = tx [60, 122, 62] := rfl
  have z2 : (⟨#[60, 121, 47, 62]⟩ : ByteArray) = tx [60, 121, 47, 62] := rfl
  have z3 : (⟨#[60, 47, 122, 62]⟩ : ByteArray) = tx [60, 47, 122, 62] := rfl
  have hsr := hX.src hs.tail.right
  rw [aF] at hsr
  obtain ⟨w1, hw1⟩ : ∃ w : Tx, w = [60, 122, 62] ++ u := ⟨_, rfl⟩
  obtain ⟨w2, hw2⟩ : ∃ w : Tx, w = w1 ++ [60, 121, 47, 62] := ⟨_, rfl⟩
  obtain ⟨w3, hw3⟩ : ∃ w : Tx, w = w2 ++ l := ⟨_, rfl⟩
  obtain ⟨w4, hw4⟩ : ∃ w : Tx, w = w3 ++ [60, 47, 122, 62] := ⟨_, rfl⟩
  have l1 : w1.length = 3 + u.length := by rw [hw1]; simp; omega
  have l2 : w2.length = 7 + u.length := by rw [hw2]; simp; omega
  have l3 : w3.length = 7 + u.length + l.length := by rw [hw3]; simp; omega
  have l4 : w4.length = 11 + u.length + l.length := by rw [hw4]; simp; omega
  have a1 : astr .add (tx [60, 122, 62]) (tx u) = some (.string (tx w1)) := by rw [hw1]; exact iE (by simp; omega)
  have a2 : astr .add (tx w1) (tx [60, 121, 47, 62]) = some (.string (tx w2)) := by rw [hw2]; exact iE (by simp; omega)
  have a3 : astr .add (tx w2) (tx l) = some (.string (tx w3)) := by rw [hw3]; exact iE (by omega)
  have a4 : astr .add (tx w3) (tx [60, 47, 122, 62]) = some (.string (tx w4)) := by rw [hw4]; exact iE (by simp; omega)
  have hww : w4 = bU u l := by rw [hw4, hw3, hw2, hw1]; unfold bU; simp
  rw [← hww] at hwp
  clear hw1 hw2 hw3 hw4 hww
  obtain ⟨n1, n2⟩ := rE w4 s.n _ (List.mem_cons_self (l := (b, .cells [v] 26 true) :: (h ++ r)))
  refine eT (fun ρ s => ∃ b2 v2 e2 ns2 h2, ρ 1 = .string (tx u) ∧ ρ 6 = .pointer (some ⟨b, 0, none⟩) ∧ ρ 8 = .pointer (some ⟨b2, 0, none⟩) ∧ ρ 9 = .int .i64 e2 ∧ Own s ((b2, .cells [v2] 26 true) :: (b, .cells [v] 26 true) :: (h2 ++ (h ++ r))) ∧ (e2 = 0 ∧ bM w4 = .ok ns2 ∧ DocV h2 v2 ns2 ∨ (e2 = 32 ∨ e2 = 33) ∧ v2 = .slice none 0 0)) ?_ ?_
  · simp -implicitDefEqProofs only [go_sem, ↓aj, ↓ah, ak, Nat.reduceBEq, ↓reduceIte, reduceCtorEq, Nat.reduceEqDiff, Nat.reduceAdd, Nat.reduceLeDiff, Int.reduceEq, Int.reduceLT, Int.reduceLE, Int.reduceAdd, Int.reduceToNat, Int.reduceNeg, Nat.reduceMul, Nat.reduceSub, Int.reduceBNe, Int.reduceBEq, h0, h1, h6, z1, z2, z3, a1, a2, a3, a4, hxs, gK (l := l) Tryz.underlying22 Tryz.underlying5 Tryz.underlying9 (by rw [← hxs]; exact hsr) ⟨_, _, _, rfl⟩, jA Tryz.underlying9 Tryz.underlying22 Tryz.underlying5 asz5]
    have hs2 := hs.new (.cells (nl (nb8 w4)) 5 true)
    refine au.enter Tryz.func9 rfl (by kernel_rfl) (kL _ _ _ w4 hM hT n1 n2 (by omega) hs2 _ _ (fun ns2 v2 h2 st' hp2 hD hO2 => ?_) (fun e2 st' hp2 hO2 => ?_))
    · obtain ⟨va, vc, hva⟩ := hD.view.isSlice
      have hview := hD.view
      subst hva
      have hO2' : Own st' ((b, .cells [v] 26 true) :: (h2 ++ (h ++ r))) := (hO2.sub (List.Sublist.append_left (List.sublist_cons_self _ _) h2)).perm List.perm_middle
      have ho3 := (hO2'.new (.cells [.slice none 0 0] 26 true)).set rfl (.cells [.slice va ns2.length vc] 26 true) rfl
      simp -implicitDefEqProofs only [go_sem, ↓aj, ↓ah, ak, Nat.reduceBEq, ↓reduceIte, reduceCtorEq, Nat.reduceEqDiff, Nat.reduceAdd, Nat.reduceLeDiff, Int.reduceEq, Int.reduceLT, Int.reduceLE, Int.reduceAdd, Int.reduceToNat, Int.reduceNeg, Nat.reduceMul, Nat.reduceSub, Int.reduceBNe, Int.reduceBEq, h0, h1, h6, bN, kF, j4, Tryz.underlying26, Tryz.underlying27, cut1, List.length_cons, List.length_nil, List.set_cons_zero, Option.map_some]
      exact ⟨_, _, 0, ns2, h2, rfl, rfl, ho3, .inl ⟨rfl, hp2, hview⟩⟩
    · have he2 : e2 = 32 ∨ e2 = 33 := by
        rcases hwp with g | g | ⟨_, _, g, _⟩ <;> rw [g] at hp2
        · injection hp2 with hp2; exact .inl hp2.symm
        · injection hp2 with hp2; exact .inr hp2.symm
        · cases hp2
      have ho3 := (hO2.tail.new (.cells [.slice none 0 0] 26 true)).set rfl (.cells [.slice none 0 0] 26 true) rfl
      simp -implicitDefEqProofs only [go_sem, ↓aj, ↓ah, ak, Nat.reduceBEq, ↓reduceIte, reduceCtorEq, Nat.reduceEqDiff, Nat.reduceAdd, Nat.reduceLeDiff, Int.reduceEq, Int.reduceLT, Int.reduceLE, Int.reduceAdd, Int.reduceToNat, Int.reduceNeg, Nat.reduceMul, Nat.reduceSub, Int.reduceBNe, Int.reduceBEq, h0, h1, h6, bN, kF, j4, Tryz.underlying26, Tryz.underlying27, cut1, List.length_cons, List.length_nil, List.set_cons_zero, Option.map_some]
      exact ⟨_, _, e2, [], [], rfl, rfl, ho3, .inr ⟨he2, rfl⟩⟩
  rintro ρ s ⟨b2, v2, e2, ns2, h2, h1, h6, h8, h9, hs, hcase⟩
  have hb2 := hs.head
  refine eT (fun ρ s' => s = s' ∧ ρ 1 = .string (tx u) ∧ ρ 6 = .pointer (some ⟨b, 0, none⟩) ∧ ρ 8 = .pointer (some ⟨b2, 0, none⟩) ∧ ρ 9 = .int .i64 0 ∧ bM w4 = .ok ns2 ∧ DocV h2 v2 ns2) ?_ ?_
  · rcases hcase with ⟨rfl, hp2, hv2⟩ | ⟨rfl | rfl, rfl⟩
    · simp -implicitDefEqProofs only [go_sem, ↓aj, ↓ah, ak, Nat.reduceBEq, ↓reduceIte, reduceCtorEq, Nat.reduceEqDiff, Nat.reduceAdd, Nat.reduceLeDiff, Int.reduceEq, Int.reduceLT, Int.reduceLE, Int.reduceAdd, Int.reduceToNat, Int.reduceNeg, Nat.reduceMul, Nat.reduceSub, Int.reduceBNe, Int.reduceBEq, h1, h6, h8, h9, Tryz.underlying27]
      exact ⟨hp2, hv2⟩
    · simp -implicitDefEqProofs only [go_sem, ↓aj, ↓ah, ak, Nat.reduceBEq, ↓reduceIte, reduceCtorEq, Nat.reduceEqDiff, Nat.reduceAdd, Nat.reduceLeDiff, Int.reduceEq, Int.reduceLT, Int.reduceLE, Int.reduceAdd, Int.reduceToNat, Int.reduceNeg, Nat.reduceMul, Nat.reduceSub, Int.reduceBNe, Int.reduceBEq, h1, h6, h8, h9, Tryz.underlying27, hb2, eX, dK, Tryz.underlying24, List.getElem?_cons_zero, show ((0 : Nat) : Int) == 0 from rfl]
      exact hk _
    · simp -implicitDefEqProofs only [go_sem, ↓aj, ↓ah, ak, Nat.reduceBEq, ↓reduceIte, reduceCtorEq, Nat.reduceEqDiff, Nat.reduceAdd, Nat.reduceLeDiff, Int.reduceEq, Int.reduceLT, Int.reduceLE, Int.reduceAdd, Int.reduceToNat, Int.reduceNeg, Nat.reduceMul, Nat.reduceSub, Int.reduceBNe, Int.reduceBEq, h1, h6, h8, h9, Tryz.underlying27, hb2, eX, dK, Tryz.underlying24, List.getElem?_cons_zero, show ((0 : Nat) : Int) == 0 from rfl]
      exact hk _
  rintro ρ s' ⟨rfl, h1, h6, h8, h9, hp2, hv2⟩
  obtain ⟨a, hka, hk1, hsh, hal, n0, hn0, hn01⟩ : ∃ a, kk u ≤ a ∧ (∀ (i : Nat) (n : Nd), kk u ≤ i → i < a → ns2[i]? = some n → n.kind ≠ 1) ∧ (∀ (i : Nat) (n : Nd), ns[i]? = some n → ns2[i + a]? = some (shN a n)) ∧ a + ns.length ≤ ns2.length ∧ (∃ n, ns[0]? = some n ∧ n.kind = 1) := by
    rcases hwp with g | g | ⟨ns3, a, g, rest⟩ <;> rw [hp2] at g
    · cases g
    · cases g
    · injection g with g; subst g; exact ⟨a, rest⟩
  obtain ⟨hnode, hsum⟩ := kM hp
  obtain ⟨hmany, _⟩ := kT hp
  obtain ⟨hmany2, _⟩ := kT hp2
  have hpar0 : n0.par = -1 := by
    rcases (hnode 0 n0 hn0).par with ⟨_, e2⟩ | ⟨e1, _⟩
    · exact e2
    · exact absurd e1 (by omega)
  refine eT (fun ρ s' => s = s' ∧ ρ 1 = .string (tx u) ∧ ρ 6 = .pointer (some ⟨b, 0, none⟩) ∧ ρ 8 = .pointer (some ⟨b2, 0, none⟩) ∧ ρ 9 = .int .i64 0 ∧ ρ 10 = .int .i64 2) ?_ ?_
  · simp -implicitDefEqProofs only [go_sem, ↓aj, ↓ah, ak, Nat.reduceBEq, ↓reduceIte, reduceCtorEq, Nat.reduceEqDiff, Nat.reduceAdd, Nat.reduceLeDiff, Int.reduceEq, Int.reduceLT, Int.reduceLE, Int.reduceAdd, Int.reduceToNat, Int.reduceNeg, Nat.reduceMul, Nat.reduceSub, Int.reduceBNe, Int.reduceBEq, h1, h6, h8, h9]
  rintro ρ s' ⟨rfl, h1, h6, h8, h9, h10⟩
  have t0 : (⟨#[]⟩ : ByteArray) = tx [] := rfl
  refine eT (fun ρ s' => s = s' ∧ ρ 6 = .pointer (some ⟨b, 0, none⟩) ∧ ρ 8 = .pointer (some ⟨b2, 0, none⟩) ∧ ρ 9 = .int .i64 0 ∧ ρ 10 = .int .i64 (kk u : Nat)) ?_ ?_
  · by_cases hu0 : u = []
    · have e : decide (u = []) = true := decide_eq_true hu0
      have e2 : ((kk u : Nat) : Int) = 2 := by simp [kk, hu0]
      simp -implicitDefEqProofs only [go_sem, ↓aj, ↓ah, ak, Nat.reduceBEq, ↓reduceIte, reduceCtorEq, Nat.reduceEqDiff, Nat.reduceAdd, Nat.reduceLeDiff, Int.reduceEq, Int.reduceLT, Int.reduceLE, Int.reduceAdd, Int.reduceToNat, Int.reduceNeg, Nat.reduceMul, Nat.reduceSub, Int.reduceBNe, Int.reduceBEq, h1, h6, h8, h9, h10, t0, dw, e, Bool.not_true, e2]
      trace_state
    · have e : decide (u = []) = false := decide_eq_false hu0
      have e2 : ((kk u : Nat) : Int) = 3 := by simp [kk, hu0]
      have e3 : IntKind.i64.wrap 3 = 3 := by decide
      simp -implicitDefEqProofs only [go_sem, ↓aj, ↓ah, ak, Nat.reduceBEq, ↓reduceIte, reduceCtorEq, Nat.reduceEqDiff, Nat.reduceAdd, Nat.reduceLeDiff, Int.reduceEq, Int.reduceLT, Int.reduceLE, Int.reduceAdd, Int.reduceToNat, Int.reduceNeg, Nat.reduceMul, Nat.reduceSub, Int.reduceBNe, Int.reduceBEq, h1, h6, h8, h9, h10, t0, dw, e, Bool.not_false, e2, e3]
      trace_state
  rintro ρ s' ⟨rfl, h6, h8, h9, h10⟩
  have hb1 := hs.tail.head
  obtain ⟨va, vc, hva⟩ := hv.isSlice
  obtain ⟨va2, vc2, hva2⟩ := hv2.isSlice
  have hk3 : kk u ≤ 3 := by unfold kk; split <;> omega
  have wk : IntKind.i64.wrap ((ns.length : Int) + (kk u : Int)) = ((ns.length + kk u : Nat) : Int) := by rw [cB (by omega)]; omega
  refine eT (fun ρ s' => s = s' ∧ ρ 6 = .pointer (some ⟨b, 0, none⟩) ∧ ρ 8 = .pointer (some ⟨b2, 0, none⟩) ∧ ρ 10 = .int .i64 (kk u : Nat)) ?_ ?_
  · rw [hva] at hb1
    rw [hva2] at hb2
    simp -implicitDefEqProofs only [go_sem, ↓aj, ↓ah, ak, Nat.reduceBEq, ↓reduceIte, reduceCtorEq, Nat.reduceEqDiff, Nat.reduceAdd, Nat.reduceLeDiff, Int.reduceEq, Int.reduceLT, Int.reduceLE, Int.reduceAdd, Int.reduceToNat, Int.reduceNeg, Nat.reduceMul, Nat.reduceSub, Int.reduceBNe, Int.reduceBEq, h6, h8, h9, h10, hb1, hb2, eX, dK, Tryz.underlying24, Tryz.underlying27, List.getElem?_cons_zero, wk, eq_false (show ¬ ((ns2.length : Int) < ((ns.length + kk u : Nat) : Int)) by omega), decide_false]
  rintro ρ s' ⟨rfl, h6, h8, h10⟩
  have hns : 0 < ns.length := (List.getElem?_eq_some_iff.1 hn0).1
  have haL : a < ns2.length := by omega
  rw [hva] at hb1
  rw [hva2] at hb2
  rw [aj]
  simp -implicitDefEqProofs only [go_sem, astr, ak, Nat.reduceBEq, ↓reduceIte, reduceCtorEq, Nat.reduceEqDiff, Nat.reduceAdd, Nat.reduceLeDiff, Int.reduceEq, Int.reduceLT, Int.reduceLE, Int.reduceAdd, Int.reduceToNat, Int.reduceNeg, Nat.reduceMul, Nat.reduceSub, Int.reduceBNe, Int.reduceBEq]
  refine eT (fun ρ s' => s = s' ∧ ρ 6 = .pointer (some ⟨b, 0, none⟩) ∧ ρ 8 = .pointer (some ⟨b2, 0, none⟩) ∧ ρ 11 = .int .i64 (a : Nat)) ?_ ?_
  · simp -implicitDefEqProofs only [go_sem, ↓aj, ↓ah, ak, Nat.reduceBEq, ↓reduceIte, reduceCtorEq, Nat.reduceEqDiff, Nat.reduceAdd, Nat.reduceLeDiff, Int.reduceEq, Int.reduceLT, Int.reduceLE, Int.reduceAdd, Int.reduceToNat, Int.reduceNeg, Nat.reduceMul, Nat.reduceSub, Int.reduceBNe, Int.reduceBEq, h10]
    refine ⟨fun m ρ s' => ∃ i : Nat, m = a + 2 - i ∧ kk u ≤ i ∧ i ≤ a + 1 ∧ ρ 6 = .pointer (some ⟨b, 0, none⟩) ∧ ρ 8 = .pointer (some ⟨b2, 0, none⟩) ∧ ρ 11 = .int .i64 (if i ≤ a then -1 else (a : Nat)) ∧ ρ 12 = .int .i64 (i : Nat) ∧ s = s', ⟨_, kk u, rfl, Nat.le_refl _, by omega, h6, h8, by rw [if_pos hka]; rfl, rfl, rfl⟩, ?_⟩
    rintro _ ρ s' ⟨i, rfl, hi1, hi2, h6, h8, h11, h12, rfl⟩
    have wi : IntKind.i64.wrap ((i : Int) + 1) = ((i + 1 : Nat) : Int) := by rw [cB (by omega)]; rfl
    by_cases hia : i ≤ a
    · rw [if_pos hia] at h11
      obtain ⟨n, hn⟩ : ∃ n, ns2[i]? = some n := ⟨ns2[i], List.getElem?_eq_getElem (by omega)⟩
      obtain ⟨x, o, sp, c, ccs, ty, own, kv, av, dv, hvx, hmem, hcut, hget, hnr⟩ := hv2.at hn
      rw [hva2] at hvx
      injection hvx with hvx _ hvc
      subst hvx hvc
      have hcx := hs.get (List.mem_cons_of_mem _ (List.mem_cons_of_mem _ (List.mem_append_left _ hmem)))
      have q0 := hget 0 (by decide)
      have q1 := hget 1 (by decide)
      rw [Nat.add_zero] at q0
      unfold ndC at q0 q1
      simp only [List.getElem?_cons_zero, List.getElem?_cons_succ] at q0 q1
      have hlt : ((i : Int) < (ns2.length : Int)) = True := eq_true (by omega)
      have hz : (0 ≤ (i : Int)) = True := eq_true (by omega)
      by_cases hie : i = a
      · subst hie
        have hsn := hsh 0 n0 hn0
        rw [Nat.zero_add, hn] at hsn
        injection hsn with hsn
        have p0 : n.par = 0 := by rw [hsn]; simp [shN, hpar0]
        have k0 : n.kind = 1 := by rw [hsn]; exact hn01
        rw [p0] at q1
        rw [k0] at q0
        simp -implicitDefEqProofs only [go_sem, ↓aj, ↓ah, ak, Nat.reduceBEq, ↓reduceIte, reduceCtorEq, Nat.reduceEqDiff, Nat.reduceAdd, Nat.reduceLeDiff, Int.reduceEq, Int.reduceLT, Int.reduceLE, Int.reduceAdd, Int.reduceToNat, Int.reduceNeg, Nat.reduceMul, Nat.reduceSub, Int.reduceBNe, Int.reduceBEq, h6, h8, h11, h12, hb2, hcx, q0, q1, hlt, hz, and_self, Int.toNat_natCast, eX, iY, fT, dK, dx, asz3, Tryz.underlying24, Tryz.underlying34, Tryz.underlying3, List.getElem?_cons_zero, decide_true, wi]
        refine ⟨_, by omega, i + 1, rfl, by omega, by omega, ?_, rfl⟩
        rw [if_neg (by omega)]
      · have k1 := hk1 i n hi1 (by omega) hn
        have hke : (n.kind == 1) = false := by rw [beq_eq_false_iff_ne]; exact k1
        by_cases hp0 : n.par = 0
        · rw [hp0] at q1
          simp -implicitDefEqProofs only [go_sem, ↓aj, ↓ah, ak, Nat.reduceBEq, ↓reduceIte, reduceCtorEq, Nat.reduceEqDiff, Nat.reduceAdd, Nat.reduceLeDiff, Int.reduceEq, Int.reduceLT, Int.reduceLE, Int.reduceAdd, Int.reduceToNat, Int.reduceNeg, Nat.reduceMul, Nat.reduceSub, Int.reduceBNe, Int.reduceBEq, h6, h8, h11, h12, hb2, hcx, q0, q1, hlt, hz, hke, and_self, Int.toNat_natCast, eX, iY, fT, dK, dx, asz3, Tryz.underlying24, Tryz.underlying34, Tryz.underlying3, List.getElem?_cons_zero, decide_true, wi]
          refine ⟨_, by omega, i + 1, rfl, by omega, by omega, ?_, rfl⟩
          rw [if_pos (by omega)]
        · have hpe : (n.par == 0) = false := by rw [beq_eq_false_iff_ne]; exact hp0
          simp -implicitDefEqProofs only [go_sem, ↓aj, ↓ah, ak, Nat.reduceBEq, ↓reduceIte, reduceCtorEq, Nat.reduceEqDiff, Nat.reduceAdd, Nat.reduceLeDiff, Int.reduceEq, Int.reduceLT, Int.reduceLE, Int.reduceAdd, Int.reduceToNat, Int.reduceNeg, Nat.reduceMul, Nat.reduceSub, Int.reduceBNe, Int.reduceBEq, h6, h8, h11, h12, hb2, hcx, q0, q1, hlt, hz, hpe, and_self, Int.toNat_natCast, eX, iY, fT, dK, dx, asz3, Tryz.underlying24, Tryz.underlying34, Tryz.underlying3, List.getElem?_cons_zero, decide_true, wi]
          refine ⟨_, by omega, i + 1, rfl, by omega, by omega, ?_, rfl⟩
          rw [if_pos (by omega)]
    · obtain rfl : i = a + 1 := by omega
      rw [if_neg hia] at h11
      have hneg : ((a : Int) < 0) = False := eq_false (by omega)
      by_cases hlt : ((a + 1 : Nat) : Int) < (ns2.length : Int)
      · simp -implicitDefEqProofs only [go_sem, ↓aj, ↓ah, ak, Nat.reduceBEq, ↓reduceIte, reduceCtorEq, Nat.reduceEqDiff, Nat.reduceAdd, Nat.reduceLeDiff, Int.reduceEq, Int.reduceLT, Int.reduceLE, Int.reduceAdd, Int.reduceToNat, Int.reduceNeg, Nat.reduceMul, Nat.reduceSub, Int.reduceBNe, Int.reduceBEq, h6, h8, h11, h12, hb2, hneg, eq_true hlt, eX, dK, Tryz.underlying24, Tryz.underlying3, List.getElem?_cons_zero, decide_true, decide_false]
        (repeat' first | assumption | exact rfl | apply And.intro)
      · simp -implicitDefEqProofs only [go_sem, ↓aj, ↓ah, ak, Nat.reduceBEq, ↓reduceIte, reduceCtorEq, Nat.reduceEqDiff, Nat.reduceAdd, Nat.reduceLeDiff, Int.reduceEq, Int.reduceLT, Int.reduceLE, Int.reduceAdd, Int.reduceToNat, Int.reduceNeg, Nat.reduceMul, Nat.reduceSub, Int.reduceBNe, Int.reduceBEq, h6, h8, h11, h12, hb2, hneg, eq_false hlt, eX, dK, Tryz.underlying24, Tryz.underlying3, List.getElem?_cons_zero, decide_true, decide_false]
        (repeat' first | assumption | exact rfl | apply And.intro)
  rintro ρ s' ⟨rfl, h6, h8, h11⟩
  refine eT (fun ρ s' => s = s' ∧ ρ 6 = .pointer (some ⟨b, 0, none⟩) ∧ ρ 8 = .pointer (some ⟨b2, 0, none⟩) ∧ ρ 11 = .int .i64 (a : Nat)) ?_ ?_
  · have hneg : ((a : Int) < 0) = False := eq_false (by omega)
    simp -implicitDefEqProofs only [go_sem, ↓aj, ↓ah, ak, Nat.reduceBEq, ↓reduceIte, reduceCtorEq, Nat.reduceEqDiff, Nat.reduceAdd, Nat.reduceLeDiff, Int.reduceEq, Int.reduceLT, Int.reduceLE, Int.reduceAdd, Int.reduceToNat, Int.reduceNeg, Nat.reduceMul, Nat.reduceSub, Int.reduceBNe, Int.reduceBEq, h6, h8, h11, hneg, decide_false]
    (repeat' first | assumption | exact rfl | apply And.intro)
  rintro ρ s' ⟨rfl, h6, h8, h11⟩
  simp -implicitDefEqProofs only [go_sem, ↓aj, ↓ah, ak, Nat.reduceBEq, ↓reduceIte, reduceCtorEq, Nat.reduceEqDiff, Nat.reduceAdd, Nat.reduceLeDiff, Int.reduceEq, Int.reduceLT, Int.reduceLE, Int.reduceAdd, Int.reduceToNat, Int.reduceNeg, Nat.reduceMul, Nat.reduceSub, Int.reduceBNe, Int.reduceBEq]
  refine ⟨fun m ρ s' => ∃ i : Nat, m = ns.length - i ∧ i ≤ ns.length ∧ ρ 6 = .pointer (some ⟨b, 0, none⟩) ∧ ρ 8 = .pointer (some ⟨b2, 0, none⟩) ∧ ρ 11 = .int .i64 (a : Nat) ∧ ρ 13 = .int .i64 (i : Nat) ∧ Own s' ((b2, .cells [v2] 26 true) :: (b, .cells [v] 26 true) :: (h2 ++ (h ++ r))), ⟨_, 0, rfl, Nat.zero_le _, h6, h8, h11, rfl, hs⟩, ?_⟩
  clear hs hb1 hb2
  rintro _ ρ s ⟨i, rfl, hi, h6, h8, h11, h13, hs⟩
  have hb2 := hs.head
  have hb1 := hs.tail.head
  rw [hva] at hb1
  rw [hva2] at hb2
  by_cases hil : i < ns.length
  case neg =>
    obtain rfl : i = ns.length := by omega
    simp -implicitDefEqProofs only [go_sem, ↓aj, ↓ah, ak, Nat.reduceBEq, ↓reduceIte, reduceCtorEq, Nat.reduceEqDiff, Nat.reduceAdd, Nat.reduceLeDiff, Int.reduceEq, Int.reduceLT, Int.reduceLE, Int.reduceAdd, Int.reduceToNat, Int.reduceNeg, Nat.reduceMul, Nat.reduceSub, Int.reduceBNe, Int.reduceBEq, h6, h8, h11, h13, hb1, hb2, eX, dK, Tryz.underlying24, Tryz.underlying3, List.getElem?_cons_zero, Int.ofNat_lt, Nat.lt_irrefl, decide_false]
    exact hk _
  obtain ⟨n, hn⟩ : ∃ n, ns[i]? = some n := ⟨ns[i], List.getElem?_eq_getElem hil⟩
  have hm := hsh i n hn
  have hN := hnode i n hn
  obtain ⟨x, o, sp, c, ccs, ty, own, kv, av, dv, hvx, hmem, hcut, hget, hnr⟩ := hv.at hn
  obtain ⟨x2, o2, sp2, c2, ccs2, ty2, own2, kv2, av2, dv2, hvx2, hmem2, hcut2, hget2, hnr2⟩ := hv2.at hm
  rw [hva] at hvx
  rw [hva2] at hvx2
  injection hvx with hvx _ hvc
  injection hvx2 with hvx2 _ hvc2
  subst hvx hvc hvx2 hvc2
  have hcx := hs.get (List.mem_cons_of_mem _ (List.mem_cons_of_mem _ (List.mem_append_right _ (List.mem_append_left _ hmem))))
  have hcx2 := hs.get (List.mem_cons_of_mem _ (List.mem_cons_of_mem _ (List.mem_append_left _ hmem2)))
  have wi : IntKind.i64.wrap ((i : Int) + 1) = ((i + 1 : Nat) : Int) := by rw [cB (by omega)]; rfl
  have wai : IntKind.i64.wrap ((a : Int) + (i : Int)) = ((i + a : Nat) : Int) := by rw [cB (by omega)]; omega
  simp -implicitDefEqProofs only [go_sem, ↓aj, ↓ah, ak, Nat.reduceBEq, ↓reduceIte, reduceCtorEq, Nat.reduceEqDiff, Nat.reduceAdd, Nat.reduceLeDiff, Int.reduceEq, Int.reduceLT, Int.reduceLE, Int.reduceAdd, Int.reduceToNat, Int.reduceNeg, Nat.reduceMul, Nat.reduceSub, Int.reduceBNe, Int.reduceBEq, h6, h8, h11, h13, hb1, hb2, eX, dK, Tryz.underlying24, Tryz.underlying3, List.getElem?_cons_zero, Int.ofNat_lt, hil, decide_true]
  obtain ⟨ka, kc, hkv, _⟩ := hnr.kid.isSlice
  obtain ⟨aa, ac, hav, _⟩ := hnr.att.isSlice
  obtain ⟨da, dc, hdv, _⟩ := hnr.dcl.isSlice
  obtain ⟨ka2, kc2, hkv2, _⟩ := hnr2.kid.isSlice
  obtain ⟨aa2, ac2, hav2, _⟩ := hnr2.att.isSlice
  obtain ⟨da2, dc2, hdv2, _⟩ := hnr2.dcl.isSlice
  rw [List.length_map] at hkv hav hdv hkv2 hav2 hdv2
  have hsz : n.kids.length ≤ 1000000 ∧ n.atts.length ≤ 1000000 ∧ n.dcls.length ≤ 1000000 := zG hp hn
  subst hkv hav hdv hkv2 hav2 hdv2
  have hnx : ¬ x = s.n := hs.fresh (List.mem_cons_of_mem _ (List.mem_cons_of_mem _ (List.mem_append_right _ (List.mem_append_left _ hmem))))
  have hnx2 : ¬ x2 = s.n := hs.fresh (List.mem_cons_of_mem _ (List.mem_cons_of_mem _ (List.mem_append_left _ hmem2)))
  have hnb2 : ¬ b2 = s.n := hs.iK
  have hnb : ¬ b = s.n := hs.tail.iK
  have hlx : x < s.n := hs.lt (List.mem_cons_of_mem _ (List.mem_cons_of_mem _ (List.mem_append_right _ (List.mem_append_left _ hmem))))
  have hlx2 : x2 < s.n := hs.lt (List.mem_cons_of_mem _ (List.mem_cons_of_mem _ (List.mem_append_left _ hmem2)))
  have hlb2 : b2 < s.n := hs.lt (List.mem_cons_self ..)
  have hlb : b < s.n := hs.lt (List.mem_cons_of_mem _ (List.mem_cons_self ..))
  have k1 : ¬ x = s.n + 1 := by omega
  have k2 : ¬ x2 = s.n + 1 := by omega
  have k3 : ¬ b2 = s.n + 1 := by omega
  have k4 : ¬ b = s.n + 1 := by omega
  have k5 : ¬ s.n = s.n + 1 := by omega
  have k6 : ¬ s.n + 1 = s.n := by omega
  have hz : (0 ≤ (i : Int)) = True := eq_true (by omega)
  have hza : (0 ≤ ((i + a : Nat) : Int)) = True := eq_true (by omega)
  have hla : (((i + a : Nat) : Int) < (ns2.length : Int)) = True := eq_true (by omega)
  refine bE.mid (fun ρ' s' => ρ' 6 = .pointer (some ⟨b, 0, none⟩) ∧ ρ' 8 = .pointer (some ⟨b2, 0, none⟩) ∧ ρ' 11 = .int .i64 (a : Nat) ∧ ρ' 13 = .int .i64 (i : Nat) ∧ ∃ c1 c2, ρ' 14 = .pointer (some ⟨c1, 0, none⟩) ∧ ρ' 15 = .pointer (some ⟨c2, 0, none⟩) ∧ Own s' ((c1, .cells (ndC n (.slice ka n.kids.length kc) (.slice aa n.atts.length ac) (.slice da n.dcls.length dc)) 34 true) :: (c2, .cells (ndC (shN a n) (.slice ka2 (shN a n).kids.length kc2) (.slice aa2 (shN a n).atts.length ac2) (.slice da2 (shN a n).dcls.length dc2)) 34 true) :: (b2, .cells [v2] 26 true) :: (b, .cells [v] 26 true) :: (h2 ++ (h ++ r)))) ?_ ?_
  · refine bE.ofT (.step 0 false [] (.step 1 true [] (.step 2 false [] (.step 3 false [] (.step 4 true [] (.step 5 false [] (.step 6 true [] (.step 7 false [] (.step 8 false [] (.step 9 false [] (.step 10 false [] (.step 11 true [] (.two 12 [1, 4, 6, 11] (.lin [(13, false, [1, 4, 6, 11]), (14, false, [6, 11]), (15, false, [])]) 13 [1, 4, 6, 11] (.lin [(12, false, [1, 4, 6, 11]), (14, false, [6, 11]), (15, false, [])])))))))))))))) [1, 4, 6, 11] [(1, 12), (1, 13), (4, 12), (4, 13), (6, 12), (6, 13), (6, 14), (11, 12), (11, 13), (11, 14)] (by kernel_rfl) ?_
    simp -implicitDefEqProofs only [go_sem, ↓aj, ↓ah, ak, Nat.reduceBEq, ↓reduceIte, reduceCtorEq, Nat.reduceEqDiff, Nat.reduceAdd, Nat.reduceLeDiff, Int.reduceEq, Int.reduceLT, Int.reduceLE, Int.reduceAdd, Int.reduceToNat, Int.reduceNeg, Nat.reduceMul, Nat.reduceSub, Int.reduceBNe, Int.reduceBEq, gL, fH, gM, h6, h8, h11, h13, hb1, hb2, wai, hcx, hcx2, hcut, hcut2, hnx, hnx2, hnb, hnb2, k1, k2, k3, k4, k5, k6, hz, hza, hla, Int.ofNat_lt, hil, and_self, Int.toNat_natCast, eX, dK, dx, pG, Tryz.underlying24, Tryz.underlying34, Tryz.underlying3, List.getElem?_cons_zero, Option.map_some, bN, ndC, List.length_cons, List.length_nil, List.set_cons_zero, List.set_cons_succ]
    have y14 := ((hs.new (.cells [.int .i64 0, .int .i64 0, .slice none 0 0, .string ⟨#[]⟩, .string ⟨#[]⟩, .string ⟨#[]⟩, .slice none 0 0, .slice none 0 0, .string ⟨#[]⟩] 34 true)).new (.cells [.int .i64 0, .int .i64 0, .slice none 0 0, .string ⟨#[]⟩, .string ⟨#[]⟩, .string ⟨#[]⟩, .slice none 0 0, .slice none 0 0, .string ⟨#[]⟩] 34 true))
    have fin1 := fun (N M : List Value) => (((y14.perm (List.Perm.swap _ _ _)).set rfl (.cells N 34 true) rfl).perm (List.Perm.swap _ _ _)).set rfl (.cells M 34 true) rfl
    have fin2 := fun (N M : List Value) => ((y14.set rfl (.cells N 34 true) rfl).perm (List.Perm.swap _ _ _)).set rfl (.cells M 34 true) rfl
    refine ⟨⟨_, _, rfl, rfl, ?_⟩, ⟨_, _, rfl, rfl, ?_⟩⟩
    · first | exact fin1 _ _ | exact fin2 _ _ | exact (fin1 _ _).perm (List.Perm.swap _ _ _) | exact (fin2 _ _).perm (List.Perm.swap _ _ _)
    · first | exact fin1 _ _ | exact fin2 _ _ | exact (fin1 _ _).perm (List.Perm.swap _ _ _) | exact (fin2 _ _).perm (List.Perm.swap _ _ _)
  clear hb1 hb2
  rintro ρ s' ⟨h6, h8, h11, h13, c1, c2, h14, h15, ho⟩
  have hc1 := ho.head
  unfold ndC at hc1
  have hpb : -1 ≤ n.par ∧ n.par < 4096 ∧ (i = 0 → n.par = -1) ∧ (0 < i → 0 ≤ n.par) := by
    rcases hN.par with ⟨e1, e2⟩ | ⟨e1, p, e2, e3⟩ <;> rw [e2] <;> omega
  have wpa : IntKind.i64.wrap (n.par + (a : Int)) = n.par + (a : Int) := cB (by omega)
  simp -implicitDefEqProofs only [go_sem, astr, ak, Nat.reduceBEq, ↓reduceIte, reduceCtorEq, Nat.reduceEqDiff, Nat.reduceAdd, Nat.reduceLeDiff, Int.reduceEq, Int.reduceLT, Int.reduceLE, Int.reduceAdd, Int.reduceToNat, Int.reduceNeg, Nat.reduceMul, Nat.reduceSub, Int.reduceBNe, Int.reduceBEq]
  have ho1 := ho.set rfl (.cells (ndC { n with par := n.par + (a : Int) } (.slice ka n.kids.length kc) (.slice aa n.atts.length ac) (.slice da n.dcls.length dc)) 34 true) rfl
  have hc11 := ho1.head
  unfold ndC at hc11
  rw [aj]
  simp -implicitDefEqProofs only [go_sem, astr, ak, Nat.reduceBEq, ↓reduceIte, reduceCtorEq, Nat.reduceEqDiff, Nat.reduceAdd, Nat.reduceLeDiff, Int.reduceEq, Int.reduceLT, Int.reduceLE, Int.reduceAdd, Int.reduceToNat, Int.reduceNeg, Nat.reduceMul, Nat.reduceSub, Int.reduceBNe, Int.reduceBEq, h6, h8, h11, h13, h14, h15, hc1, wpa, fT, asz3, Tryz.underlying3, List.getElem?_cons_zero, List.getElem?_cons_succ, List.set_cons_zero, List.set_cons_succ, List.length_cons, List.length_nil]
  generalize hs1 : s'.set c1 _ = s1
  have ho1' : Own s1 ((c1, .cells (ndC { n with par := n.par + (a : Int) } (.slice ka n.kids.length kc) (.slice aa n.atts.length ac) (.slice da n.dcls.length dc)) 34 true) :: (c2, .cells (ndC (shN a n) (.slice ka2 (shN a n).kids.length kc2) (.slice aa2 (shN a n).atts.length ac2) (.slice da2 (shN a n).dcls.length dc2)) 34 true) :: (b2, .cells [v2] 26 true) :: (b, .cells [v] 26 true) :: (h2 ++ (h ++ r))) := by rw [← hs1]; exact ho1
  clear hs1 ho1 hc11 hc1 ho
  have hc1 := ho1'.head
  unfold ndC at hc1
  refine eT (fun ρ s => ρ 6 = .pointer (some ⟨b, 0, none⟩) ∧ ρ 8 = .pointer (some ⟨b2, 0, none⟩) ∧ ρ 11 = .int .i64 (a : Nat) ∧ ρ 13 = .int .i64 (i : Nat) ∧ ρ 14 = .pointer (some ⟨c1, 0, none⟩) ∧ ρ 15 = .pointer (some ⟨c2, 0, none⟩) ∧ Own s ((c1, .cells (ndC { n with par := (shN a n).par } (.slice ka n.kids.length kc) (.slice aa n.atts.length ac) (.slice da n.dcls.length dc)) 34 true) :: (c2, .cells (ndC (shN a n) (.slice ka2 (shN a n).kids.length kc2) (.slice aa2 (shN a n).atts.length ac2) (.slice da2 (shN a n).dcls.length dc2)) 34 true) :: (b2, .cells [v2] 26 true) :: (b, .cells [v] 26 true) :: (h2 ++ (h ++ r)))) ?_ ?_
  · by_cases hi0 : i = 0
    · have e0 : ((i : Int) == 0) = true := by rw [beq_iff_eq]; omega
      have ho2 := ho1'.set rfl (.cells (ndC { n with par := (0 : Int) } (.slice ka n.kids.length kc) (.slice aa n.atts.length ac) (.slice da n.dcls.length dc)) 34 true) rfl
      have ep : (shN a n).par = 0 := by unfold shN; dsimp only; rw [if_pos (by have := hpb.2.2.1 hi0; omega)]
      rw [ep]
      simp -implicitDefEqProofs only [go_sem, ↓aj, ↓ah, ak, Nat.reduceBEq, ↓reduceIte, reduceCtorEq, Nat.reduceEqDiff, Nat.reduceAdd, Nat.reduceLeDiff, Int.reduceEq, Int.reduceLT, Int.reduceLE, Int.reduceAdd, Int.reduceToNat, Int.reduceNeg, Nat.reduceMul, Nat.reduceSub, Int.reduceBNe, Int.reduceBEq, h6, h8, h11, h13, h14, h15, e0, hc1, fT, asz3, Tryz.underlying3, List.getElem?_cons_zero, List.getElem?_cons_succ, List.set_cons_zero, List.set_cons_succ, List.length_cons, List.length_nil]
      (repeat' first | assumption | exact rfl | apply And.intro)
    · have e0 : ((i : Int) == 0) = false := by rw [beq_eq_false_iff_ne]; omega
      have ep : (shN a n).par = n.par + a := by unfold shN; dsimp only; rw [if_neg (by have := hpb.2.2.2 (by omega); omega)]
      rw [ep]
      simp -implicitDefEqProofs only [go_sem, ↓aj, ↓ah, ak, Nat.reduceBEq, ↓reduceIte, reduceCtorEq, Nat.reduceEqDiff, Nat.reduceAdd, Nat.reduceLeDiff, Int.reduceEq, Int.reduceLT, Int.reduceLE, Int.reduceAdd, Int.reduceToNat, Int.reduceNeg, Nat.reduceMul, Nat.reduceSub, Int.reduceBNe, Int.reduceBEq, h6, h8, h11, h13, h14, h15, e0, Tryz.underlying3]
      (repeat' first | assumption | exact rfl | apply And.intro)
  clear hc1 ho1' h6 h8 h11 h13 h14 h15 s1 s'
  rintro ρ s ⟨h6, h8, h11, h13, h14, h15, ho⟩
  rw [aj]
  simp -implicitDefEqProofs only [go_sem, astr, ak, Nat.reduceBEq, ↓reduceIte, reduceCtorEq, Nat.reduceEqDiff, Nat.reduceAdd, Nat.reduceLeDiff, Int.reduceEq, Int.reduceLT, Int.reduceLE, Int.reduceAdd, Int.reduceToNat, Int.reduceNeg, Nat.reduceMul, Nat.reduceSub, Int.reduceBNe, Int.reduceBEq]
  refine eT (fun ρ s => ∃ v' hg, ρ 6 = .pointer (some ⟨b, 0, none⟩) ∧ ρ 8 = .pointer (some ⟨b2, 0, none⟩) ∧ ρ 11 = .int .i64 (a : Nat) ∧ ρ 13 = .int .i64 (i : Nat) ∧ ρ 14 = .pointer (some ⟨c1, 0, none⟩) ∧ ρ 15 = .pointer (some ⟨c2, 0, none⟩) ∧ ρ 16 = v' ∧ GV v' (gV (n.kids.map (· + a))) n.kids.length 1 3 hg ∧ Own s (hg ++ ((c1, .cells (ndC { n with par := (shN a n).par } (.slice ka n.kids.length kc) (.slice aa n.atts.length ac) (.slice da n.dcls.length dc)) 34 true) :: (c2, .cells (ndC (shN a n) (.slice ka2 (shN a n).kids.length kc2) (.slice aa2 (shN a n).atts.length ac2) (.slice da2 (shN a n).dcls.length dc2)) 34 true) :: (b2, .cells [v2] 26 true) :: (b, .cells [v] 26 true) :: (h2 ++ (h ++ r))))) ?_ ?_
  · simp -implicitDefEqProofs only [go_sem, ↓aj, ↓ah, ak, Nat.reduceBEq, ↓reduceIte, reduceCtorEq, Nat.reduceEqDiff, Nat.reduceAdd, Nat.reduceLeDiff, Int.reduceEq, Int.reduceLT, Int.reduceLE, Int.reduceAdd, Int.reduceToNat, Int.reduceNeg, Nat.reduceMul, Nat.reduceSub, Int.reduceBNe, Int.reduceBEq]
    refine ⟨fun m ρ s => ∃ (j : Nat) (v' : Value) (hg : Hp), m = n.kids.length - j ∧ j ≤ n.kids.length ∧ ρ 6 = .pointer (some ⟨b, 0, none⟩) ∧ ρ 8 = .pointer (some ⟨b2, 0, none⟩) ∧ ρ 11 = .int .i64 (a : Nat) ∧ ρ 13 = .int .i64 (i : Nat) ∧ ρ 14 = .pointer (some ⟨c1, 0, none⟩) ∧ ρ 15 = .pointer (some ⟨c2, 0, none⟩) ∧ ρ 16 = v' ∧ ρ 17 = .int .i64 (j : Nat) ∧ GV v' (gV ((n.kids.take j).map (· + a))) j 1 3 hg ∧ Own s (hg ++ ((c1, .cells (ndC { n with par := (shN a n).par } (.slice ka n.kids.length kc) (.slice aa n.atts.length ac) (.slice da n.dcls.length dc)) 34 true) :: (c2, .cells (ndC (shN a n) (.slice ka2 (shN a n).kids.length kc2) (.slice aa2 (shN a n).atts.length ac2) (.slice da2 (shN a n).dcls.length dc2)) 34 true) :: (b2, .cells [v2] 26 true) :: (b, .cells [v] 26 true) :: (h2 ++ (h ++ r)))),
      ⟨_, 0, _, [], rfl, Nat.zero_le _, h6, h8, h11, h13, h14, h15, rfl, rfl, GV.nil, ho⟩, ?_⟩
    clear h6 h8 h11 h13 h14 h15 ho
    rintro _ ρ s ⟨j, v', hg, rfl, hj, h6, h8, h11, h13, h14, h15, h16, h17, hG, ho⟩
    have hc1 := ho.right.head
    unfold ndC at hc1
    dsimp only at hc1
    by_cases hjl : j < n.kids.length
    · have wj : IntKind.i64.wrap ((j : Int) + 1) = ((j + 1 : Nat) : Int) := by rw [cB (by omega)]; rfl
      obtain ⟨y, oy, spy, cy, ccy, tyy, owy, hky, hmy, hcuty⟩ := hnr.kid.mem (i := j) (l := [.int .i64 (n.kids[j] : Nat)]) (by simp [hjl])
      rw [List.length_map] at hky
      injection hky with hky _ hkc
      have hcy := ho.get (List.mem_append_right _ (List.mem_cons_of_mem _ (List.mem_cons_of_mem _ (List.mem_cons_of_mem _ (List.mem_cons_of_mem _ (List.mem_append_right _ (List.mem_append_left _ hmy)))))))
      have gy := fP hcuty (j := 0) (by decide)
      rw [Nat.add_zero, Nat.mul_one] at gy
      have hkid : n.kids[j] < ns.length := by
        have := hN
        exact Jb hp hn (List.getElem_mem hjl)
      have hta : (n.kids.take (j + 1)).map (· + a) = (n.kids.take j).map (· + a) ++ [n.kids[j] + a] := by
        rw [List.take_succ_eq_append_getElem hjl, List.map_append]; rfl
      generalize n.kids[j] = X' at *
      change _ = some (Value.int .i64 (X' : Nat)) at gy
      have wx : IntKind.i64.wrap ((X' : Int) + (a : Int)) = ((X' + a : Nat) : Int) := by rw [cB (by omega)]; rfl
      have hzj : (0 ≤ (j : Int)) = True := eq_true (by omega)
      obtain ⟨a', hv'⟩ := hG.isSlice
      simp -implicitDefEqProofs only [go_sem, ↓aj, ↓ah, ak, Nat.reduceBEq, ↓reduceIte, reduceCtorEq, Nat.reduceEqDiff, Nat.reduceAdd, Nat.reduceLeDiff, Int.reduceEq, Int.reduceLT, Int.reduceLE, Int.reduceAdd, Int.reduceToNat, Int.reduceNeg, Nat.reduceMul, Nat.reduceSub, Int.reduceBNe, Int.reduceBEq, h6, h8, h11, h13, h14, h15, h16, h17, hc1, hky, hcy, gy, wx, hzj, and_self, Int.toNat_natCast, Nat.mul_one, Int.ofNat_lt, hjl, decide_true, iZ, asz3, kG, Tryz.underlying3, Tryz.underlying30, List.getElem?_cons_zero, List.getElem?_cons_succ, aK (st := s) (v := .int .i64 ((X' + a : Nat) : Int)) Tryz.underlying30 asz3 azc3 rfl rfl rfl (by decide)]
      refine GV.eU (t := 30) (t' := 30) (c := [.int .i64 ((X' + a : Nat) : Int)]) Tryz.underlying30 (by rw [Tryz.underlying30]; rfl) asz3 azc3 aby3 hG ho rfl rfl (by omega) fun v'' hg' s4 hG' hs4 => ?_
      simp -implicitDefEqProofs only [go_sem, ↓aj, ↓ah, ak, Nat.reduceBEq, ↓reduceIte, reduceCtorEq, Nat.reduceEqDiff, Nat.reduceAdd, Nat.reduceLeDiff, Int.reduceEq, Int.reduceLT, Int.reduceLE, Int.reduceAdd, Int.reduceToNat, Int.reduceNeg, Nat.reduceMul, Nat.reduceSub, Int.reduceBNe, Int.reduceBEq, h6, h8, h11, h13, h14, h15, h16, h17, wj]
      have hG'' : GV v'' (gV ((n.kids.take (j + 1)).map (· + a))) (j + 1) 1 3 hg' := by
        rw [hta]
        unfold gV at hG' ⊢
        rw [List.map_append]
        exact hG'
      exact ⟨_, by omega, j + 1, v'', hg', rfl, by omega, by (repeat' first | assumption | exact rfl | apply And.intro)⟩
    · obtain rfl : j = n.kids.length := by omega
      rw [List.take_length] at hG
      simp -implicitDefEqProofs only [go_sem, ↓aj, ↓ah, ak, Nat.reduceBEq, ↓reduceIte, reduceCtorEq, Nat.reduceEqDiff, Nat.reduceAdd, Nat.reduceLeDiff, Int.reduceEq, Int.reduceLT, Int.reduceLE, Int.reduceAdd, Int.reduceToNat, Int.reduceNeg, Nat.reduceMul, Nat.reduceSub, Int.reduceBNe, Int.reduceBEq, h6, h8, h11, h13, h14, h15, h16, h17, hc1, Int.ofNat_lt, Nat.lt_irrefl, decide_false, iZ, asz3, kG, Tryz.underlying3, Tryz.underlying30, List.getElem?_cons_zero, List.getElem?_cons_succ]
      exact ⟨v', hg, by (repeat' first | assumption | exact rfl | apply And.intro)⟩
  rintro ρ s ⟨v', hg, h6, h8, h11, h13, h14, h15, h16, hG, ho⟩
  obtain ⟨a', hv'⟩ := hG.isSlice
  subst hv'
  have hO1 := ho.perm ((bR hg _ _).trans ((bR hg _ _).cons _))
  have hc1 := hO1.head
  unfold ndC at hc1
  dsimp only at hc1
  rw [aj]
  simp -implicitDefEqProofs only [go_sem, astr, ak, Nat.reduceBEq, ↓reduceIte, reduceCtorEq, Nat.reduceEqDiff, Nat.reduceAdd, Nat.reduceLeDiff, Int.reduceEq, Int.reduceLT, Int.reduceLE, Int.reduceAdd, Int.reduceToNat, Int.reduceNeg, Nat.reduceMul, Nat.reduceSub, Int.reduceBNe, Int.reduceBEq, h6, h8, h11, h13, h14, h15, h16, hc1, iZ, kG, Tryz.underlying30, List.getElem?_cons_zero, List.getElem?_cons_succ, List.set_cons_zero, List.set_cons_succ, List.length_cons, List.length_nil]
  have hO2 := hO1.set rfl (.cells (ndC (shN a n) (.slice a' n.kids.length n.kids.length) (.slice aa n.atts.length ac) (.slice da n.dcls.length dc)) 34 true) rfl
  generalize hs2 : s.set c1 _ = s2
  change s.set c1 (some (.cells (ndC (shN a n) (.slice a' n.kids.length n.kids.length) (.slice aa n.atts.length ac) (.slice da n.dcls.length dc)) 34 true)) = s2 at hs2
  rw [hs2] at hO2
  clear hs2 hO1 hc1
  have hc1 := hO2.head
  have hc2 := hO2.tail.head
  have hcl1 : cut (ndC (shN a n) (.slice a' n.kids.length n.kids.length) (.slice aa n.atts.length ac) (.slice da n.dcls.length dc)) 0 9 = some (ndC (shN a n) (.slice a' n.kids.length n.kids.length) (.slice aa n.atts.length ac) (.slice da n.dcls.length dc)) := rfl
  have hcl2 : cut (ndC (shN a n) (.slice ka2 (shN a n).kids.length kc2) (.slice aa2 (shN a n).atts.length ac2) (.slice da2 (shN a n).dcls.length dc2)) 0 9 = some (ndC (shN a n) (.slice ka2 (shN a n).kids.length kc2) (.slice aa2 (shN a n).atts.length ac2) (.slice da2 (shN a n).dcls.length dc2)) := rfl
  simp -implicitDefEqProofs only [go_sem, ↓aj, ↓ah, ak, Nat.reduceBEq, ↓reduceIte, reduceCtorEq, Nat.reduceEqDiff, Nat.reduceAdd, Nat.reduceLeDiff, Int.reduceEq, Int.reduceLT, Int.reduceLE, Int.reduceAdd, Int.reduceToNat, Int.reduceNeg, Nat.reduceMul, Nat.reduceSub, Int.reduceBNe, Int.reduceBEq, h6, h8, h11, h13, h14, h15, h16, hc1, hc2, hcl1, hcl2, Option.map_some, dx, Tryz.underlying34]
  have r1 : NdR ((c1, .cells (ndC (shN a n) (.slice a' n.kids.length n.kids.length) (.slice aa n.atts.length ac) (.slice da n.dcls.length dc)) 34 true) :: (c2, .cells (ndC (shN a n) (.slice ka2 (shN a n).kids.length kc2) (.slice aa2 (shN a n).atts.length ac2) (.slice da2 (shN a n).dcls.length dc2)) 34 true) :: (hg ++ ((b2, .cells [v2] 26 true) :: (b, .cells [v] 26 true) :: (h2 ++ (h ++ r))))) (shN a n) (.slice a' n.kids.length n.kids.length) (.slice aa n.atts.length ac) (.slice da n.dcls.length dc) := by
    have kr : Rws (hg ++ []) (.slice a' n.kids.length n.kids.length) 1 ((n.kids.map (· + a)).map fun c => [Value.int .i64 (c : Nat)]) :=
      GV.rows (e := 3) (n := n.kids.length) (by
        have e : ((n.kids.map (· + a)).map fun c => [Value.int .i64 (c : Nat)]).flatten = gV (n.kids.map (· + a)) := by
          unfold gV
          induction n.kids.map (· + a) with
          | nil => rfl
          | cons a l ih => simp only [List.map_cons, List.flatten_cons, ih]; rfl
        rw [e]; exact hG) (fun c hc => by obtain ⟨d, _, rfl⟩ := List.mem_map.1 hc; rfl) (by simp)
    refine ⟨kr.sub fun e he => ?_, hnr.att.sub fun e he => ?_, hnr.dcl.sub fun e he => ?_⟩
    · simp at he ⊢; simp [he]
    · simp at he ⊢; simp [he]
    · simp at he ⊢; simp [he]
  have r2 : NdR ((c1, .cells (ndC (shN a n) (.slice a' n.kids.length n.kids.length) (.slice aa n.atts.length ac) (.slice da n.dcls.length dc)) 34 true) :: (c2, .cells (ndC (shN a n) (.slice ka2 (shN a n).kids.length kc2) (.slice aa2 (shN a n).atts.length ac2) (.slice da2 (shN a n).dcls.length dc2)) 34 true) :: (hg ++ ((b2, .cells [v2] 26 true) :: (b, .cells [v] 26 true) :: (h2 ++ (h ++ r))))) (shN a n) (.slice ka2 (shN a n).kids.length kc2) (.slice aa2 (shN a n).atts.length ac2) (.slice da2 (shN a n).dcls.length dc2) := hnr2.sub fun e he => by simp at he ⊢; simp [he]
  refine au.enter Tryz.func14 rfl (by kernel_rfl) (Bv _ _ (shN a n) _ _ _ _ _ _ r1 r2 ⟨by simp [shN]; omega, hsz.2⟩ hO2 _ _ fun s3 ho3 => ?_)
  simp -implicitDefEqProofs only [go_sem, ↓aj, ↓ah, ak, Nat.reduceBEq, ↓reduceIte, reduceCtorEq, Nat.reduceEqDiff, Nat.reduceAdd, Nat.reduceLeDiff, Int.reduceEq, Int.reduceLT, Int.reduceLE, Int.reduceAdd, Int.reduceToNat, Int.reduceNeg, Nat.reduceMul, Nat.reduceSub, Int.reduceBNe, Int.reduceBEq, h6, h8, h11, h13, h14, h15, h16, Bool.not_true, wi]
  have ho4 : Own s3 ((b2, .cells [v2] 26 true) :: (b, .cells [v] 26 true) :: (h2 ++ (h ++ r))) := ho3.tail.tail.right
  exact ⟨ns.length - (i + 1), by omega, i + 1, rfl, by omega, by (repeat' first | assumption | exact rfl | apply And.intro)⟩
end Go.Proofs.YtohgmkjhbacmpaaGreatDoor
