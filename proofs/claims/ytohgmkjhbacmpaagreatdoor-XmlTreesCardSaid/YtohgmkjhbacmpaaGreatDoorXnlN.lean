/- The law of trees: its walk. No conditions but on the library's tables. -/
import Derived.Test.YtohgmkjhbacmpaaGreatDoorXmGE
import Derived.Test.YtohgmkjhbacmpaaGreatDoorXmGF
set_option linter.unusedVariables false
set_option linter.unusedSimpArgs false
namespace Go.Proofs.YtohgmkjhbacmpaaGreatDoor
open Go Go.Abs Go.RowKit Go.Xml
variable {base : Nat} {w0 : World} {G : Nat}

theorem allR_RI : ∀ (f : Nat) {r r' : RS}, RI r → allR f r = .ok r' → RI r'
  | 0, r, r', h, ha => by
    unfold allR at ha
    split at ha
    · injection ha with ha; subst ha; exact h
    · cases ha
  | f + 1, r, r', h, ha => by
    unfold allR at ha
    split at ha
    · injection ha with ha; subst ha; exact h
    · rename_i hne
      split at ha
      · cases ha
      · rename_i r1 h1
        exact allR_RI f (stepF_RI h hne h1).1 ha
theorem parseF_many {b : Tx} {ns : List Nd} (h : parseF b = .ok ns) : ns.length ≤ 4096 ∧ ∀ n ∈ ns, n.dcls.length ≤ 1000000 := by
  unfold parseF at h
  split at h
  · cases h
  rename_i h64
  split at h
  · cases h
  unfold allF at h
  split at h
  · cases h
  rename_i s1 h1
  split at h
  · cases h
  rename_i r h2
  split at h
  · injection h with h
    subst h
    have hl := lines_len b
    have hf := frontF_len h1
    have hI := allR_RI _ (RI.start s1 (by omega)) h2
    exact ⟨hI.many, hI.dcl⟩
  · cases h
theorem kidSum_take {ns : List Nd} {i : Nat} {n : Nd} (hn : ns[i]? = some n) : kidSum (ns.take (i + 1)) = kidSum (ns.take i) + n.kids.length := by
  rw [List.take_add_one, hn, kidSum_append]
  rfl
theorem kidSum_le : ∀ (ns : List Nd) (i : Nat), kidSum (ns.take i) ≤ kidSum ns
  | [], i => by simp
  | n :: ns, 0 => by simp [kidSum]
  | n :: ns, i + 1 => by
    rw [List.take_succ_cons, kidSum, kidSum]
    have := kidSum_le ns i
    omega
set_option maxRecDepth 10000 in
theorem LTrees_spec (st : St) (r : Hp) (X : Value) (l : Tx) (hM : MaxOk w0) (hT : TabsOk w0) (hX : Nb r X (nb8 l)) (hS : Sl Tryz.prog r X 1) (hO : Own st r) (k q : Value → St → Prop) (hk : ∀ st', k (.bool true) st') : ACall (C base w0 3) 3 [X] st k q := by
  obtain ⟨xa, xc, hxs⟩ := hX.isSlice
  rw [nb8_length] at hxs
  refine ACall.of (cx := C base w0 3) mixed Tryz.func3 rfl (by kernel_rfl) (by simp [Tryz.ntmps3]) ?_
  simp only [Tryz.results3]
  simp (config := { implicitDefEqProofs := false }) only [↓GP, ↓GM, GQ, abuiltinX, ↓awp_seq, ↓awp_block, C_ex, Nat.reduceBEq, acap, afieldAddr, aload, astore, abin, anum, aun, isAggD, cond_true, cond_false, ↓reduceIte, C_P, C_G, isTuple, Value.cells, setL, ares, aresL, ares1, reduceCtorEq, Nat.reduceEqDiff, eq_self, Nat.reduceAdd, if_true, if_false, Go.Abs.one, Nat.reduceLeDiff, undef, gsl, aextract, aindexAddr, amake, implies_true, forall_const, alen, abuiltin, anil, isC, Int.reduceEq, Int.reduceLT, Int.reduceLE, Int.reduceAdd, Int.reduceToNat, Int.reduceNeg, Nat.reduceMul, Nat.reduceSub, abuild, afill, Int.reduceBNe, Int.reduceBEq]
  refine ACallF.enter Tryz.func8 rfl (by kernel_rfl) (awake_spec st r hM hT hO _ _ fun s1 ho1 => ?_)
  by_cases hlen : l.length > 20000
  · simp (config := { implicitDefEqProofs := false }) only [↓GP, ↓GM, GQ, abuiltinX, ↓awp_seq, ↓awp_block, C_ex, Nat.reduceBEq, acap, afieldAddr, aload, astore, abin, anum, aun, isAggD, cond_true, cond_false, ↓reduceIte, C_P, C_G, isTuple, Value.cells, setL, ares, aresL, ares1, reduceCtorEq, Nat.reduceEqDiff, eq_self, Nat.reduceAdd, if_true, if_false, Go.Abs.one, Nat.reduceLeDiff, undef, gsl, aextract, aindexAddr, amake, implies_true, forall_const, alen, abuiltin, anil, isC, Int.reduceEq, Int.reduceLT, Int.reduceLE, Int.reduceAdd, Int.reduceToNat, Int.reduceNeg, Nat.reduceMul, Nat.reduceSub, abuild, afill, Int.reduceBNe, Int.reduceBEq, Bool.not_true, hxs, Tryz.underlying22, show ((l.length : Int) > 20000) = True by simp; omega, decide_true]
    refine ACallF.enter Tryz.func8 rfl (by kernel_rfl) (awake_spec s1 r hM hT ho1 _ _ fun s2 ho2 => ?_)
    simp (config := { implicitDefEqProofs := false }) only [↓GP, ↓GM, GQ, abuiltinX, ↓awp_seq, ↓awp_block, C_ex, Nat.reduceBEq, acap, afieldAddr, aload, astore, abin, anum, aun, isAggD, cond_true, cond_false, ↓reduceIte, C_P, C_G, isTuple, Value.cells, setL, ares, aresL, ares1, reduceCtorEq, Nat.reduceEqDiff, eq_self, Nat.reduceAdd, if_true, if_false, Go.Abs.one, Nat.reduceLeDiff, undef, gsl, aextract, aindexAddr, amake, implies_true, forall_const, alen, abuiltin, anil, isC, Int.reduceEq, Int.reduceLT, Int.reduceLE, Int.reduceAdd, Int.reduceToNat, Int.reduceNeg, Nat.reduceMul, Nat.reduceSub, abuild, afill, Int.reduceBNe, Int.reduceBEq]
    exact hk _
  simp (config := { implicitDefEqProofs := false }) only [↓GP, ↓GM, GQ, abuiltinX, ↓awp_seq, ↓awp_block, C_ex, Nat.reduceBEq, acap, afieldAddr, aload, astore, abin, anum, aun, isAggD, cond_true, cond_false, ↓reduceIte, C_P, C_G, isTuple, Value.cells, setL, ares, aresL, ares1, reduceCtorEq, Nat.reduceEqDiff, eq_self, Nat.reduceAdd, if_true, if_false, Go.Abs.one, Nat.reduceLeDiff, undef, gsl, aextract, aindexAddr, amake, implies_true, forall_const, alen, abuiltin, anil, isC, Int.reduceEq, Int.reduceLT, Int.reduceLE, Int.reduceAdd, Int.reduceToNat, Int.reduceNeg, Nat.reduceMul, Nat.reduceSub, abuild, afill, Int.reduceBNe, Int.reduceBEq, Bool.not_true, hxs, Tryz.underlying22, show ((l.length : Int) > 20000) = False by simp; omega, decide_false]
  rw [← hxs]
  refine ACallF.enter Tryz.func9 rfl (by kernel_rfl) (Xparse_spec s1 r X l hM hT hX hS (by omega) ho1 _ _ (fun ns v h st' hp hD hO2 => ?_) (fun e st' hp hO2 => ?_))
  rotate_left
  · have he := parseF_err hp
    simp (config := { implicitDefEqProofs := false }) only [↓GP, ↓GM, GQ, abuiltinX, ↓awp_seq, ↓awp_block, C_ex, Nat.reduceBEq, acap, afieldAddr, aload, astore, abin, anum, aun, isAggD, cond_true, cond_false, ↓reduceIte, C_P, C_G, isTuple, Value.cells, setL, ares, aresL, ares1, reduceCtorEq, Nat.reduceEqDiff, eq_self, Nat.reduceAdd, if_true, if_false, Go.Abs.one, Nat.reduceLeDiff, undef, gsl, aextract, aindexAddr, amake, implies_true, forall_const, alen, abuiltin, anil, isC, Int.reduceEq, Int.reduceLT, Int.reduceLE, Int.reduceAdd, Int.reduceToNat, Int.reduceNeg, Nat.reduceMul, Nat.reduceSub, abuild, afill, Int.reduceBNe, Int.reduceBEq, aalloc, azc26, asz26, Tryz.underlying26, Tryz.underlying27, cut1, List.length_cons, List.length_nil, List.set_cons_zero, Option.map_some, afo26_0, asz24, Tryz.underlying24, show (e != 0) = true by simp; exact he, List.getElem?_cons_zero, show ((0 : Int) == 0) = true by rfl]
    exact hk _
  obtain ⟨cs, hn, hx, rfl, hgv, hnds⟩ := hD
  have hTH : TreeH v ns cs (hn ++ hx) := ⟨hn, hx, rfl, hgv, hnds⟩
  generalize hn ++ hx = h at *
  obtain ⟨hmany, hdl⟩ := parseF_many hp
  obtain ⟨hnode, hsum⟩ := parseF_tree hp
  have hlp : 0 < ns.length := by omega
  obtain ⟨n0, hn0⟩ : ∃ n, ns[0]? = some n := ⟨ns[0], List.getElem?_eq_getElem hlp⟩
  obtain ⟨B, _, _, _, hv, hBm, _⟩ := hTH.node hn0
  clear hp hgv hnds hn0
  subst hv
  have ho3 := (hO2.new (.cells [.slice none 0 0] 26 true)).set rfl (.cells [.slice (some ⟨B, 0, some 0⟩) ns.length ns.length] 26 true) rfl
  simp (config := { implicitDefEqProofs := false }) only [↓GP, ↓GM, GQ, abuiltinX, ↓awp_seq, ↓awp_block, C_ex, Nat.reduceBEq, acap, afieldAddr, aload, astore, abin, anum, aun, isAggD, cond_true, cond_false, ↓reduceIte, C_P, C_G, isTuple, Value.cells, setL, ares, aresL, ares1, reduceCtorEq, Nat.reduceEqDiff, eq_self, Nat.reduceAdd, if_true, if_false, Go.Abs.one, Nat.reduceLeDiff, undef, gsl, aextract, aindexAddr, amake, implies_true, forall_const, alen, abuiltin, anil, isC, Int.reduceEq, Int.reduceLT, Int.reduceLE, Int.reduceAdd, Int.reduceToNat, Int.reduceNeg, Nat.reduceMul, Nat.reduceSub, abuild, afill, Int.reduceBNe, Int.reduceBEq, aalloc, azc26, asz26, Tryz.underlying26, Tryz.underlying27, cut1, List.length_cons, List.length_nil, List.set_cons_zero, Option.map_some]
  generalize hbd : st'.n = bd at *
  refine ⟨fun m ρ s => ∃ i : Nat, m = ns.length - i ∧ i ≤ ns.length ∧ ρ 3 = .pointer (some ⟨bd, 0, none⟩) ∧ ρ 5 = .int .i64 (kidSum (ns.take i) : Nat) ∧ ρ 6 = .int .i64 (i : Nat) ∧ Own s ((bd, .cells [.slice (some ⟨B, 0, some 0⟩) ns.length ns.length] 26 true) :: (h ++ r)), ⟨_, 0, rfl, Nat.zero_le _, rfl, rfl, rfl, ho3⟩, ?_⟩
  rintro _ ρ s ⟨i, rfl, hi, h3, h5, h6, ho⟩
  have hcd := ho.head
  have hsl := kidSum_le ns i
  by_cases hil : i < ns.length
  case' neg =>
    obtain rfl : i = ns.length := by omega
    rw [List.take_length] at h5
    have w1 : IntKind.i64.wrap ((ns.length : Int) - 1) = (ns.length : Int) - 1 := w_i64 (by omega)
    simp (config := { implicitDefEqProofs := false }) only [↓GP, ↓GM, GQ, abuiltinX, ↓awp_seq, ↓awp_block, C_ex, Nat.reduceBEq, acap, afieldAddr, aload, astore, abin, anum, aun, isAggD, cond_true, cond_false, ↓reduceIte, C_P, C_G, isTuple, Value.cells, setL, ares, aresL, ares1, reduceCtorEq, Nat.reduceEqDiff, eq_self, Nat.reduceAdd, if_true, if_false, Go.Abs.one, Nat.reduceLeDiff, undef, gsl, aextract, aindexAddr, amake, implies_true, forall_const, alen, abuiltin, anil, isC, Int.reduceEq, Int.reduceLT, Int.reduceLE, Int.reduceAdd, Int.reduceToNat, Int.reduceNeg, Nat.reduceMul, Nat.reduceSub, abuild, afill, Int.reduceBNe, Int.reduceBEq, h3, h5, h6, hcd, afo26_0, asz24, Tryz.underlying24, List.getElem?_cons_zero, Int.ofNat_lt, Nat.lt_irrefl, decide_false, w1, show ((kidSum ns : Int) == (ns.length : Int) - 1) = true by rw [beq_iff_eq]; omega, show ((ns.length : Int) > 0) = True by simp; omega, decide_true]
    exact hk _
  obtain ⟨n, hn⟩ : ∃ n, ns[i]? = some n := ⟨ns[i], List.getElem?_eq_getElem hil⟩
  have hN := hnode i n hn
  obtain ⟨B', kv, av, dv, hv, hBm', hcs, hget, hcut, hkr, hdr, aa, ac, hav⟩ := hTH.node hn
  have hBe : B' = B := by injection hv with hv; injection hv with hv; injection hv with hv; exact hv.symm
  subst hBe
  have hcB := ho.get (List.mem_cons_of_mem _ (List.mem_append_left _ hBm))
  have nB := ho.fresh (List.mem_cons_of_mem _ (List.mem_append_left _ hBm))
  have nD := ho.freshH
  obtain ⟨ka, kc, hkv, _⟩ := (hkr []).isSlice
  rw [List.length_map] at hkv
  obtain ⟨da, dc, hdv, _⟩ := (hdr []).isSlice
  rw [List.length_map] at hdv
  subst hkv hdv hav
  have ho4 := (ho.new (.cells [.int .i64 0, .int .i64 0, .slice none 0 0, .string ⟨#[]⟩, .string ⟨#[]⟩, .string ⟨#[]⟩, .slice none 0 0, .slice none 0 0, .string ⟨#[]⟩] 34 true)).set rfl (.cells (ndC n (.slice ka n.kids.length kc) (.slice aa n.atts.length ac) (.slice da n.dcls.length dc)) 34 true) rfl
  have hpe : (!(decide (n.par < 0) == ((i : Int) == 0))) = false := by
    rcases hN.par with ⟨e1, e2⟩ | ⟨e1, p, e2, _⟩
    · rw [e2, e1]; rfl
    · rw [e2, show ((i : Int) == 0) = false by rw [beq_eq_false_iff_ne]; omega, decide_eq_false (by omega)]; rfl
  have hpi : n.par < i := by
    rcases hN.par with ⟨e1, e2⟩ | ⟨e1, p, e2, e3⟩
    · rw [e2]; omega
    · rw [e2]; omega
  have hkd := hN.kind
  by_cases hk1 : n.kind = 1
  case' pos =>
    simp (config := { implicitDefEqProofs := false }) only [↓GP, ↓GM, GQ, abuiltinX, ↓awp_seq, ↓awp_block, C_ex, Nat.reduceBEq, acap, afieldAddr, aload, astore, abin, anum, aun, isAggD, cond_true, cond_false, ↓reduceIte, C_P, C_G, isTuple, Value.cells, setL, ares, aresL, ares1, reduceCtorEq, Nat.reduceEqDiff, eq_self, Nat.reduceAdd, if_true, if_false, Go.Abs.one, Nat.reduceLeDiff, undef, gsl, aextract, aindexAddr, amake, implies_true, forall_const, alen, abuiltin, anil, isC, Int.reduceEq, Int.reduceLT, Int.reduceLE, Int.reduceAdd, Int.reduceToNat, Int.reduceNeg, Nat.reduceMul, Nat.reduceSub, abuild, afill, Int.reduceBNe, Int.reduceBEq, h3, h5, h6, hcd, hcB, nB, nD, afo26_0, asz24, asz34, Tryz.underlying24, Tryz.underlying34, azc34, aalloc, List.getElem?_cons_zero, Int.ofNat_lt, hil, decide_true, show (0 ≤ (i : Int)) = True by simp, and_self, Int.toNat_natCast, hcut, Option.map_some, ndC, List.length_cons, List.length_nil, List.set_cons_zero, List.set_cons_succ, afo34_0, afo34_1, afo34_2, asz3, Tryz.underlying3, List.getElem?_cons_succ, Tryz.underlying4, hpe, show (n.par ≥ (i : Int)) = False by simp; omega, show (n.kind != 1) = false by simp; exact hk1, show (n.kind < 1) = False by simp; omega, show (n.kind > 4) = False by simp; omega, decide_false]
  case' neg =>
    obtain ⟨z1, z2, z3⟩ := hN.leaf hk1
    have y1 : n.kids.length = 0 := by rw [z1]; rfl
    have y2 : n.atts.length = 0 := by rw [z2]; rfl
    have y3 : n.dcls.length = 0 := by rw [z3]; rfl
    simp (config := { implicitDefEqProofs := false }) only [↓GP, ↓GM, GQ, abuiltinX, ↓awp_seq, ↓awp_block, C_ex, Nat.reduceBEq, acap, afieldAddr, aload, astore, abin, anum, aun, isAggD, cond_true, cond_false, ↓reduceIte, C_P, C_G, isTuple, Value.cells, setL, ares, aresL, ares1, reduceCtorEq, Nat.reduceEqDiff, eq_self, Nat.reduceAdd, if_true, if_false, Go.Abs.one, Nat.reduceLeDiff, undef, gsl, aextract, aindexAddr, amake, implies_true, forall_const, alen, abuiltin, anil, isC, Int.reduceEq, Int.reduceLT, Int.reduceLE, Int.reduceAdd, Int.reduceToNat, Int.reduceNeg, Nat.reduceMul, Nat.reduceSub, abuild, afill, Int.reduceBNe, Int.reduceBEq, h3, h5, h6, hcd, hcB, nB, nD, afo26_0, asz24, asz34, Tryz.underlying24, Tryz.underlying34, azc34, aalloc, List.getElem?_cons_zero, Int.ofNat_lt, hil, decide_true, show (0 ≤ (i : Int)) = True by simp, and_self, Int.toNat_natCast, hcut, Option.map_some, ndC, List.length_cons, List.length_nil, List.set_cons_zero, List.set_cons_succ, afo34_0, afo34_1, afo34_2, afo34_6, afo34_7, asz3, Tryz.underlying3, asz30, asz31, asz32, Tryz.underlying30, Tryz.underlying31, Tryz.underlying32, List.getElem?_cons_succ, Tryz.underlying4, hpe, show (n.par ≥ (i : Int)) = False by simp; omega, show (n.kind != 1) = true by simp; exact hk1, show (n.kind < 1) = False by simp; omega, show (n.kind > 4) = False by simp; omega, decide_false,
      w_i64 (x := (n.kids.length : Int) + (n.atts.length : Int)) (by omega), w_i64 (x := (n.kids.length : Int) + (n.atts.length : Int) + (n.dcls.length : Int)) (by omega), show ((n.kids.length : Int) + (n.atts.length : Int) + (n.dcls.length : Int) > 0) = False by simp; omega]
  all_goals
    unfold ndC at ho4
    generalize hbn : s.n = bn at *
    refine ⟨fun m ρ s' => ∃ j : Nat, m = n.kids.length - j ∧ j ≤ n.kids.length ∧ ρ 3 = .pointer (some ⟨bd, 0, none⟩) ∧ ρ 5 = .int .i64 ((kidSum (ns.take i) + j : Nat) : Int) ∧ ρ 6 = .int .i64 (i : Nat) ∧ ρ 7 = .pointer (some ⟨bn, 0, none⟩) ∧ ρ 8 = .int .i64 (j : Nat) ∧ Own s' ((bn, .cells (ndC n (.slice ka n.kids.length kc) (.slice aa n.atts.length ac) (.slice da n.dcls.length dc)) 34 true) :: (bd, .cells [.slice (some ⟨B', 0, some 0⟩) ns.length ns.length] 26 true) :: (h ++ r)), ⟨_, 0, rfl, Nat.zero_le _, h3, h5, h6, rfl, rfl, ho4⟩, ?_⟩
    rintro _ ρ2 s2 ⟨j, rfl, hj, k3, k5, k6, k7, k8, ho5⟩
    have hcn := ho5.head
    have hcd2 := ho5.tail.head
    have hcB2 := ho5.get (List.mem_cons_of_mem _ (List.mem_cons_of_mem _ (List.mem_append_left _ hBm)))
    unfold ndC at hcn
    have hst := kidSum_take hn
    have hsl2 := kidSum_le ns (i + 1)
    by_cases hjl : j < n.kids.length
    · obtain ⟨c, hc⟩ : ∃ c, n.kids[j]? = some c := ⟨n.kids[j], List.getElem?_eq_getElem hjl⟩
      obtain ⟨hic, m, hm, hmp⟩ := hN.kid j c hc
      have hcl := (List.getElem?_eq_some_iff.1 hm).1
      obtain ⟨_, mk, ma, md, _, _, _, hgm, _⟩ := hTH.node hm
      have f0 := hgm 0 (by decide)
      have f1 := hgm 1 (by decide)
      rw [Nat.add_zero] at f0
      change _ = some (Value.int .i64 m.kind) at f0
      change _ = some (Value.int .i64 m.par) at f1
      rw [hmp] at f1
      obtain ⟨x, o', sp, c', cs', ty, own, hvx, hmem, hcut'⟩ := (hkr []).mem (i := j) (l := [.int .i64 (c : Nat)]) (by rw [List.getElem?_map, hc]; rfl)
      rw [List.length_map] at hvx
      have hcx := ho5.get (List.mem_cons_of_mem _ (List.mem_cons_of_mem _ (by rw [List.append_nil] at hmem; exact List.mem_append_left r hmem)))
      have g0 := cut_get hcut' (j := 0) (by decide)
      rw [Nat.add_zero] at g0
      rw [Nat.mul_one] at g0
      change _ = some (Value.int .i64 (c : Nat)) at g0
      have w5 : IntKind.i64.wrap (((kidSum (ns.take i) + j : Nat) : Int) + 1) = ((kidSum (ns.take i) + (j + 1) : Nat) : Int) := by rw [w_i64 (by omega)]; rfl
      have w8 : IntKind.i64.wrap ((j : Int) + 1) = ((j + 1 : Nat) : Int) := by rw [w_i64 (by omega)]; rfl
      have ec0 : (0 ≤ (c : Int)) = True := by simp
      by_cases hj0 : j = 0
      · simp (config := { implicitDefEqProofs := false }) only [↓GP, ↓GM, GQ, abuiltinX, ↓awp_seq, ↓awp_block, C_ex, Nat.reduceBEq, acap, afieldAddr, aload, astore, abin, anum, aun, isAggD, cond_true, cond_false, ↓reduceIte, C_P, C_G, isTuple, Value.cells, setL, ares, aresL, ares1, reduceCtorEq, Nat.reduceEqDiff, eq_self, Nat.reduceAdd, if_true, if_false, Go.Abs.one, Nat.reduceLeDiff, undef, gsl, aextract, aindexAddr, amake, implies_true, forall_const, alen, abuiltin, anil, isC, Int.reduceEq, Int.reduceLT, Int.reduceLE, Int.reduceAdd, Int.reduceToNat, Int.reduceNeg, Nat.reduceMul, Nat.reduceSub, abuild, afill, Int.reduceBNe, Int.reduceBEq, k3, k5, k6, k7, k8, hcn, hcd2, hcB2, hcx, hvx, g0, f0, f1, afo26_0, asz24, asz34, Tryz.underlying24, afo34_0, afo34_1, afo34_2, asz3, Tryz.underlying3, asz30, Tryz.underlying30, List.getElem?_cons_zero, List.getElem?_cons_succ, Int.ofNat_lt, hjl, hcl, decide_true, decide_false, show (0 ≤ (j : Int)) = True by simp, ec0, and_self, Int.toNat_natCast, Nat.mul_one, w5, w8, show ((c : Int) ≤ (i : Int)) = False by simp; omega, show ((c : Int) ≥ (ns.length : Int)) = False by simp; omega, show ((i : Int) != (i : Int)) = false by simp, show ((j : Int) > 0) = False by simp; omega]
        refine ADraw.of [(0, false, []), (1, false, []), (2, false, []), (3, false, []), (4, false, []), (5, false, []), (6, false, []), (7, false, []), (8, false, []), (9, false, []), (10, false, []), (11, false, []), (12, false, []), (13, false, []), (14, false, []), (15, false, []), (16, false, []), (17, false, []), (18, false, []), (19, false, []), (20, false, []), (21, false, []), (22, false, []), (23, false, []), (24, false, [])] [] [] (by kernel_rfl) ?_
        simp (config := { implicitDefEqProofs := false }) only [↓GP, ↓GM, GQ, abuiltinX, ↓awp_seq, ↓awp_block, C_ex, Nat.reduceBEq, acap, afieldAddr, aload, astore, abin, anum, aun, isAggD, cond_true, cond_false, ↓reduceIte, C_P, C_G, isTuple, Value.cells, setL, ares, aresL, ares1, reduceCtorEq, Nat.reduceEqDiff, eq_self, Nat.reduceAdd, if_true, if_false, Go.Abs.one, Nat.reduceLeDiff, undef, gsl, aextract, aindexAddr, amake, implies_true, forall_const, alen, abuiltin, anil, isC, Int.reduceEq, Int.reduceLT, Int.reduceLE, Int.reduceAdd, Int.reduceToNat, Int.reduceNeg, Nat.reduceMul, Nat.reduceSub, abuild, afill, Int.reduceBNe, Int.reduceBEq, k3, k5, k6, k7, k8, hcn, hcd2, hcB2, hcx, hvx, g0, f0, f1, afo26_0, asz24, asz34, Tryz.underlying24, afo34_0, afo34_1, afo34_2, asz3, Tryz.underlying3, asz30, Tryz.underlying30, List.getElem?_cons_zero, List.getElem?_cons_succ, Int.ofNat_lt, hjl, hcl, decide_true, decide_false, show (0 ≤ (j : Int)) = True by simp, ec0, and_self, Int.toNat_natCast, Nat.mul_one, w5, w8, show ((c : Int) ≤ (i : Int)) = False by simp; omega, show ((c : Int) ≥ (ns.length : Int)) = False by simp; omega, show ((i : Int) != (i : Int)) = false by simp, show ((j : Int) > 0) = False by simp; omega]
        exact ⟨n.kids.length - (j + 1), by omega, j + 1, rfl, by omega, rfl, rfl, by rw [hvx] at ho5; exact ho5⟩
      · obtain ⟨c0, hc0⟩ : ∃ c, n.kids[j - 1]? = some c := ⟨n.kids[j - 1], List.getElem?_eq_getElem (by omega)⟩
        obtain ⟨hcc, hkk⟩ := hN.next (j - 1) c0 c hc0 (by rw [show j - 1 + 1 = j by omega]; exact hc)
        obtain ⟨_, m0, hm0, _⟩ := hN.kid (j - 1) c0 hc0
        have hc0l := (List.getElem?_eq_some_iff.1 hm0).1
        obtain ⟨_, mk', ma', md', _, _, _, hgm', _⟩ := hTH.node hm0
        have q0 := hgm' 0 (by decide)
        rw [Nat.add_zero] at q0
        change _ = some (Value.int .i64 m0.kind) at q0
        have hkk' := hkk m0 m hm0 hm
        obtain ⟨x2, o2, sp2, c2, cs2, ty2, own2, hvx2, hmem2, hcut2⟩ := (hkr []).mem (i := j - 1) (l := [.int .i64 (c0 : Nat)]) (by rw [List.getElem?_map, hc0]; rfl)
        rw [List.length_map] at hvx2
        have hcx2 := ho5.get (List.mem_cons_of_mem _ (List.mem_cons_of_mem _ (by rw [List.append_nil] at hmem2; exact List.mem_append_left r hmem2)))
        have ev := hvx.symm.trans hvx2
        injection ev with ev1 _ _
        injection ev1 with ev1
        injection ev1 with e1 e2 _
        subst e1 e2
        rw [hcx] at hcx2
        injection hcx2 with hcx2
        injection hcx2 with e3 _ _
        subst e3
        have gp := cut_get hcut2 (j := 0) (by decide)
        rw [Nat.add_zero, Nat.mul_one] at gp
        change _ = some (Value.int .i64 (c0 : Nat)) at gp
        have w9 : IntKind.i64.wrap ((j : Int) - 1) = ((j - 1 : Nat) : Int) := by rw [w_i64 (by omega)]; omega
        have ej1 : (0 ≤ ((j - 1 : Nat) : Int)) = True := by simp
        have hjl1 : j - 1 < n.kids.length := by omega
        have ec00 : (0 ≤ (c0 : Int)) = True := by simp
        by_cases hk2 : m.kind = 2
        · have hk3 : (m0.kind == 2) = false := by rw [beq_eq_false_iff_ne]; exact fun g => hkk' ⟨g, hk2⟩
          simp (config := { implicitDefEqProofs := false }) only [↓GP, ↓GM, GQ, abuiltinX, ↓awp_seq, ↓awp_block, C_ex, Nat.reduceBEq, acap, afieldAddr, aload, astore, abin, anum, aun, isAggD, cond_true, cond_false, ↓reduceIte, C_P, C_G, isTuple, Value.cells, setL, ares, aresL, ares1, reduceCtorEq, Nat.reduceEqDiff, eq_self, Nat.reduceAdd, if_true, if_false, Go.Abs.one, Nat.reduceLeDiff, undef, gsl, aextract, aindexAddr, amake, implies_true, forall_const, alen, abuiltin, anil, isC, Int.reduceEq, Int.reduceLT, Int.reduceLE, Int.reduceAdd, Int.reduceToNat, Int.reduceNeg, Nat.reduceMul, Nat.reduceSub, abuild, afill, Int.reduceBNe, Int.reduceBEq, k3, k5, k6, k7, k8, hcn, hcd2, hcB2, hcx, hvx, g0, f0, f1, afo26_0, asz24, asz34, Tryz.underlying24, afo34_0, afo34_1, afo34_2, asz3, Tryz.underlying3, asz30, Tryz.underlying30, List.getElem?_cons_zero, List.getElem?_cons_succ, Int.ofNat_lt, hjl, hcl, decide_true, decide_false, show (0 ≤ (j : Int)) = True by simp, ec0, and_self, Int.toNat_natCast, Nat.mul_one, w5, w8, show ((c : Int) ≤ (i : Int)) = False by simp; omega, show ((c : Int) ≥ (ns.length : Int)) = False by simp; omega, show ((i : Int) != (i : Int)) = false by simp, show ((j : Int) > 0) = True by simp; omega, w9, ej1, hjl1, show ((c : Int) ≤ (c0 : Int)) = False by simp; omega, gp, q0, ec00, hc0l]
          refine ADraw.of [(0, false, []), (1, false, []), (2, false, []), (3, false, []), (4, false, []), (5, false, []), (6, false, []), (7, false, []), (8, false, []), (9, false, []), (10, false, []), (11, false, []), (12, false, []), (13, false, []), (14, false, []), (15, false, []), (16, false, []), (17, false, []), (18, false, []), (19, false, []), (20, false, []), (21, false, []), (22, false, []), (23, false, []), (24, false, [])] [] [] (by kernel_rfl) ?_
          simp (config := { implicitDefEqProofs := false }) only [↓GP, ↓GM, GQ, abuiltinX, ↓awp_seq, ↓awp_block, C_ex, Nat.reduceBEq, acap, afieldAddr, aload, astore, abin, anum, aun, isAggD, cond_true, cond_false, ↓reduceIte, C_P, C_G, isTuple, Value.cells, setL, ares, aresL, ares1, reduceCtorEq, Nat.reduceEqDiff, eq_self, Nat.reduceAdd, if_true, if_false, Go.Abs.one, Nat.reduceLeDiff, undef, gsl, aextract, aindexAddr, amake, implies_true, forall_const, alen, abuiltin, anil, isC, Int.reduceEq, Int.reduceLT, Int.reduceLE, Int.reduceAdd, Int.reduceToNat, Int.reduceNeg, Nat.reduceMul, Nat.reduceSub, abuild, afill, Int.reduceBNe, Int.reduceBEq, k3, k5, k6, k7, k8, hcn, hcd2, hcB2, hcx, hvx, g0, f0, f1, afo26_0, asz24, asz34, Tryz.underlying24, afo34_0, afo34_1, afo34_2, asz3, Tryz.underlying3, asz30, Tryz.underlying30, List.getElem?_cons_zero, List.getElem?_cons_succ, Int.ofNat_lt, hjl, hcl, decide_true, decide_false, show (0 ≤ (j : Int)) = True by simp, ec0, and_self, Int.toNat_natCast, Nat.mul_one, w5, w8, show ((c : Int) ≤ (i : Int)) = False by simp; omega, show ((c : Int) ≥ (ns.length : Int)) = False by simp; omega, show ((i : Int) != (i : Int)) = false by simp, show ((j : Int) > 0) = True by simp; omega, w9, ej1, hjl1, show ((c : Int) ≤ (c0 : Int)) = False by simp; omega, gp, q0, ec00, hc0l, show (m.kind == 2) = true by simp; exact hk2, hk3]
          exact ⟨n.kids.length - (j + 1), by omega, j + 1, rfl, by omega, rfl, rfl, by rw [hvx] at ho5; exact ho5⟩
        · simp (config := { implicitDefEqProofs := false }) only [↓GP, ↓GM, GQ, abuiltinX, ↓awp_seq, ↓awp_block, C_ex, Nat.reduceBEq, acap, afieldAddr, aload, astore, abin, anum, aun, isAggD, cond_true, cond_false, ↓reduceIte, C_P, C_G, isTuple, Value.cells, setL, ares, aresL, ares1, reduceCtorEq, Nat.reduceEqDiff, eq_self, Nat.reduceAdd, if_true, if_false, Go.Abs.one, Nat.reduceLeDiff, undef, gsl, aextract, aindexAddr, amake, implies_true, forall_const, alen, abuiltin, anil, isC, Int.reduceEq, Int.reduceLT, Int.reduceLE, Int.reduceAdd, Int.reduceToNat, Int.reduceNeg, Nat.reduceMul, Nat.reduceSub, abuild, afill, Int.reduceBNe, Int.reduceBEq, k3, k5, k6, k7, k8, hcn, hcd2, hcB2, hcx, hvx, g0, f0, f1, afo26_0, asz24, asz34, Tryz.underlying24, afo34_0, afo34_1, afo34_2, asz3, Tryz.underlying3, asz30, Tryz.underlying30, List.getElem?_cons_zero, List.getElem?_cons_succ, Int.ofNat_lt, hjl, hcl, decide_true, decide_false, show (0 ≤ (j : Int)) = True by simp, ec0, and_self, Int.toNat_natCast, Nat.mul_one, w5, w8, show ((c : Int) ≤ (i : Int)) = False by simp; omega, show ((c : Int) ≥ (ns.length : Int)) = False by simp; omega, show ((i : Int) != (i : Int)) = false by simp, show ((j : Int) > 0) = True by simp; omega, w9, ej1, hjl1, show ((c : Int) ≤ (c0 : Int)) = False by simp; omega, gp, q0, ec00, hc0l]
          refine ADraw.of [(0, false, []), (1, false, []), (2, false, []), (3, false, []), (4, false, []), (5, false, []), (6, false, []), (7, false, []), (8, false, []), (9, false, []), (10, false, []), (11, false, []), (12, false, []), (13, false, []), (14, false, []), (15, false, []), (16, false, []), (17, false, []), (18, false, []), (19, false, []), (20, false, []), (21, false, []), (22, false, []), (23, false, []), (24, false, [])] [] [] (by kernel_rfl) ?_
          simp (config := { implicitDefEqProofs := false }) only [↓GP, ↓GM, GQ, abuiltinX, ↓awp_seq, ↓awp_block, C_ex, Nat.reduceBEq, acap, afieldAddr, aload, astore, abin, anum, aun, isAggD, cond_true, cond_false, ↓reduceIte, C_P, C_G, isTuple, Value.cells, setL, ares, aresL, ares1, reduceCtorEq, Nat.reduceEqDiff, eq_self, Nat.reduceAdd, if_true, if_false, Go.Abs.one, Nat.reduceLeDiff, undef, gsl, aextract, aindexAddr, amake, implies_true, forall_const, alen, abuiltin, anil, isC, Int.reduceEq, Int.reduceLT, Int.reduceLE, Int.reduceAdd, Int.reduceToNat, Int.reduceNeg, Nat.reduceMul, Nat.reduceSub, abuild, afill, Int.reduceBNe, Int.reduceBEq, k3, k5, k6, k7, k8, hcn, hcd2, hcB2, hcx, hvx, g0, f0, f1, afo26_0, asz24, asz34, Tryz.underlying24, afo34_0, afo34_1, afo34_2, asz3, Tryz.underlying3, asz30, Tryz.underlying30, List.getElem?_cons_zero, List.getElem?_cons_succ, Int.ofNat_lt, hjl, hcl, decide_true, decide_false, show (0 ≤ (j : Int)) = True by simp, ec0, and_self, Int.toNat_natCast, Nat.mul_one, w5, w8, show ((c : Int) ≤ (i : Int)) = False by simp; omega, show ((c : Int) ≥ (ns.length : Int)) = False by simp; omega, show ((i : Int) != (i : Int)) = false by simp, show ((j : Int) > 0) = True by simp; omega, w9, ej1, hjl1, show ((c : Int) ≤ (c0 : Int)) = False by simp; omega, gp, q0, ec00, hc0l, show (m.kind == 2) = false by simp; exact hk2]
          exact ⟨n.kids.length - (j + 1), by omega, j + 1, rfl, by omega, rfl, rfl, by rw [hvx] at ho5; exact ho5⟩
    · obtain rfl : j = n.kids.length := by omega
      rw [← hst] at k5
      have w6 : IntKind.i64.wrap ((i : Int) + 1) = ((i + 1 : Nat) : Int) := by rw [w_i64 (by omega)]; rfl
      have e0 : (⟨#[]⟩ : ByteArray) = tx [] := rfl
      have hfin : ∃ m, m < ns.length - i ∧ ∃ i', m = ns.length - i' ∧ i' ≤ ns.length ∧ Value.int .i64 ((kidSum (ns.take (i + 1)) : Nat) : Int) = Value.int .i64 ((kidSum (ns.take i') : Nat) : Int) ∧ Value.int .i64 ((i + 1 : Nat) : Int) = Value.int .i64 (i' : Nat) ∧ Own s2 ((bd, .cells [.slice (some ⟨B', 0, some 0⟩) ns.length ns.length] 26 true) :: (h ++ r)) := ⟨ns.length - (i + 1), by omega, i + 1, rfl, by omega, rfl, rfl, ho5.tail⟩
      by_cases hk1' : n.kind = 1
      · simp (config := { implicitDefEqProofs := false }) only [↓GP, ↓GM, GQ, abuiltinX, ↓awp_seq, ↓awp_block, C_ex, Nat.reduceBEq, acap, afieldAddr, aload, astore, abin, anum, aun, isAggD, cond_true, cond_false, ↓reduceIte, C_P, C_G, isTuple, Value.cells, setL, ares, aresL, ares1, reduceCtorEq, Nat.reduceEqDiff, eq_self, Nat.reduceAdd, if_true, if_false, Go.Abs.one, Nat.reduceLeDiff, undef, gsl, aextract, aindexAddr, amake, implies_true, forall_const, alen, abuiltin, anil, isC, Int.reduceEq, Int.reduceLT, Int.reduceLE, Int.reduceAdd, Int.reduceToNat, Int.reduceNeg, Nat.reduceMul, Nat.reduceSub, abuild, afill, Int.reduceBNe, Int.reduceBEq, k3, k5, k6, k7, k8, hcn, hcd2, hcB2, afo26_0, afo34_0, afo34_2, afo34_3, afo34_4, afo34_5, afo34_8, asz3, asz9, Tryz.underlying9, Tryz.underlying3, asz30, asz24, Tryz.underlying24, Tryz.underlying30, List.getElem?_cons_zero, List.getElem?_cons_succ, Int.ofNat_lt, Nat.lt_irrefl, decide_false, w6, e0, astr_eqlT, astr_neqT, show (n.kind == 2) = false by simp; omega, show (n.kind == 1) = true by simp; exact hk1']
        obtain ⟨hnm, o, hU, hsp⟩ := hN.elem hk1'
        have ho6 : Own s2 (h ++ ((bn, .cells (ndC n (.slice ka n.kids.length kc) (.slice aa n.atts.length ac) (.slice da n.dcls.length dc)) 34 true) :: (bd, .cells [.slice (some ⟨B', 0, some 0⟩) ns.length ns.length] 26 true) :: r)) := ho5.perm (by
          have := perm_of [[(bn, Ob.cells (ndC n (.slice ka n.kids.length kc) (.slice aa n.atts.length ac) (.slice da n.dcls.length dc)) 34 true)], [(bd, Ob.cells [.slice (some ⟨B', 0, some 0⟩) ns.length ns.length] 26 true)], h, r] [0, 1, 2, 3] [2, 0, 1, 3] rfl
          simpa using this)
        refine ACallF.enter Tryz.func10 rfl (by kernel_rfl) (Rspace_spec s2 h _ _ ns cs n.pre i o hTH hnode ⟨by omega, by omega⟩ hdl hU ho6 _ _ ?_)
        rw [hsp]
        simp (config := { implicitDefEqProofs := false }) only [↓GP, ↓GM, GQ, abuiltinX, ↓awp_seq, ↓awp_block, C_ex, Nat.reduceBEq, acap, afieldAddr, aload, astore, abin, anum, aun, isAggD, cond_true, cond_false, ↓reduceIte, C_P, C_G, isTuple, Value.cells, setL, ares, aresL, ares1, reduceCtorEq, Nat.reduceEqDiff, eq_self, Nat.reduceAdd, if_true, if_false, Go.Abs.one, Nat.reduceLeDiff, undef, gsl, aextract, aindexAddr, amake, implies_true, forall_const, alen, abuiltin, anil, isC, Int.reduceEq, Int.reduceLT, Int.reduceLE, Int.reduceAdd, Int.reduceToNat, Int.reduceNeg, Nat.reduceMul, Nat.reduceSub, abuild, afill, Int.reduceBNe, Int.reduceBEq, k3, k5, k6, k7, k8, hcn, hcd2, hcB2, afo26_0, afo34_0, afo34_2, afo34_3, afo34_4, afo34_5, afo34_8, asz3, asz9, Tryz.underlying9, Tryz.underlying3, asz30, asz24, Tryz.underlying24, Tryz.underlying30, List.getElem?_cons_zero, List.getElem?_cons_succ, Int.ofNat_lt, Nat.lt_irrefl, decide_false, w6, e0, astr_eqlT, astr_neqT, Bool.not_true, decide_true]
        refine ACallF.enter Tryz.func11 rfl (by kernel_rfl) (Rname_spec s2 _ n.loc hnm ho5 _ _ fun s3 ho7 => ?_)
        simp (config := { implicitDefEqProofs := false }) only [↓GP, ↓GM, GQ, abuiltinX, ↓awp_seq, ↓awp_block, C_ex, Nat.reduceBEq, acap, afieldAddr, aload, astore, abin, anum, aun, isAggD, cond_true, cond_false, ↓reduceIte, C_P, C_G, isTuple, Value.cells, setL, ares, aresL, ares1, reduceCtorEq, Nat.reduceEqDiff, eq_self, Nat.reduceAdd, if_true, if_false, Go.Abs.one, Nat.reduceLeDiff, undef, gsl, aextract, aindexAddr, amake, implies_true, forall_const, alen, abuiltin, anil, isC, Int.reduceEq, Int.reduceLT, Int.reduceLE, Int.reduceAdd, Int.reduceToNat, Int.reduceNeg, Nat.reduceMul, Nat.reduceSub, abuild, afill, Int.reduceBNe, Int.reduceBEq, k3, k5, k6, k7, k8, hcn, hcd2, hcB2, afo26_0, afo34_0, afo34_2, afo34_3, afo34_4, afo34_5, afo34_8, asz3, asz9, Tryz.underlying9, Tryz.underlying3, asz30, asz24, Tryz.underlying24, Tryz.underlying30, List.getElem?_cons_zero, List.getElem?_cons_succ, Int.ofNat_lt, Nat.lt_irrefl, decide_false, w6, e0, astr_eqlT, astr_neqT, Bool.not_true]
        exact ⟨ns.length - (i + 1), by omega, i + 1, rfl, by omega, rfl, rfl, ho7.tail⟩
      · by_cases hk2' : n.kind = 2
        · have hvne := hN.text hk2'
          simp (config := { implicitDefEqProofs := false }) only [↓GP, ↓GM, GQ, abuiltinX, ↓awp_seq, ↓awp_block, C_ex, Nat.reduceBEq, acap, afieldAddr, aload, astore, abin, anum, aun, isAggD, cond_true, cond_false, ↓reduceIte, C_P, C_G, isTuple, Value.cells, setL, ares, aresL, ares1, reduceCtorEq, Nat.reduceEqDiff, eq_self, Nat.reduceAdd, if_true, if_false, Go.Abs.one, Nat.reduceLeDiff, undef, gsl, aextract, aindexAddr, amake, implies_true, forall_const, alen, abuiltin, anil, isC, Int.reduceEq, Int.reduceLT, Int.reduceLE, Int.reduceAdd, Int.reduceToNat, Int.reduceNeg, Nat.reduceMul, Nat.reduceSub, abuild, afill, Int.reduceBNe, Int.reduceBEq, k3, k5, k6, k7, k8, hcn, hcd2, hcB2, afo26_0, afo34_0, afo34_2, afo34_3, afo34_4, afo34_5, afo34_8, asz3, asz9, Tryz.underlying9, Tryz.underlying3, asz30, asz24, Tryz.underlying24, Tryz.underlying30, List.getElem?_cons_zero, List.getElem?_cons_succ, Int.ofNat_lt, Nat.lt_irrefl, decide_false, w6, e0, astr_eqlT, astr_neqT, show (n.kind == 2) = true by simp; exact hk2', show (n.kind == 1) = false by simp; exact hk1', decide_eq_false hvne]
          exact hfin
        · simp (config := { implicitDefEqProofs := false }) only [↓GP, ↓GM, GQ, abuiltinX, ↓awp_seq, ↓awp_block, C_ex, Nat.reduceBEq, acap, afieldAddr, aload, astore, abin, anum, aun, isAggD, cond_true, cond_false, ↓reduceIte, C_P, C_G, isTuple, Value.cells, setL, ares, aresL, ares1, reduceCtorEq, Nat.reduceEqDiff, eq_self, Nat.reduceAdd, if_true, if_false, Go.Abs.one, Nat.reduceLeDiff, undef, gsl, aextract, aindexAddr, amake, implies_true, forall_const, alen, abuiltin, anil, isC, Int.reduceEq, Int.reduceLT, Int.reduceLE, Int.reduceAdd, Int.reduceToNat, Int.reduceNeg, Nat.reduceMul, Nat.reduceSub, abuild, afill, Int.reduceBNe, Int.reduceBEq, k3, k5, k6, k7, k8, hcn, hcd2, hcB2, afo26_0, afo34_0, afo34_2, afo34_3, afo34_4, afo34_5, afo34_8, asz3, asz9, Tryz.underlying9, Tryz.underlying3, asz30, asz24, Tryz.underlying24, Tryz.underlying30, List.getElem?_cons_zero, List.getElem?_cons_succ, Int.ofNat_lt, Nat.lt_irrefl, decide_false, w6, e0, astr_eqlT, astr_neqT, show (n.kind == 2) = false by simp; exact hk2', show (n.kind == 1) = false by simp; exact hk1']
          exact hfin
end Go.Proofs.YtohgmkjhbacmpaaGreatDoor
