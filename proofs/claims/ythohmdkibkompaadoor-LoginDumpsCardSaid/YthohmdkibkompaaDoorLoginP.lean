/- What a desk dumps. No conditions. -/
import Derived.Test.YthohmdkibkompaaDoorKeysA
set_option linter.unusedVariables false
set_option linter.unusedSimpArgs false
namespace Go.Proofs.YthohmdkibkompaaDoor
open Go Go.Abs Go.RowKit
variable {base : Nat} {w0 : World} {G : Nat}

def failM (F : Fails) (a : List Nat) : Chg := mkC 2 a [] (gF F a).1 (gF F a).2
def sesM (s : Ses) : Chg := mkC 3 s.id s.who s.at_ 0
def preL (c : Int) : List Chg := if c = 0 then [] else [mkC 1 [] [] c 0]
def dumpL (d : DS) (K : List (List Nat)) : List Chg := (preL d.c ++ K.map (failM d.F)) ++ d.L.map sesM
def KeysOf (K : List (List Nat)) (F : Fails) : Prop := K.Perm (F.map (·.1)) ∧ (K.map fun a => a.map UInt8.ofNat).Pairwise (fun x y => x ≤ y)
theorem fld0 (a b : Value) : afield Tryd.prog 58 (.agg #[a, b]) 0 = some a := by
  simp [afield, apartV, Tryd.underlying58, Tryd.underlying3, asz3, isAggD]
theorem fld1 (a b : Value) : afield Tryd.prog 58 (.agg #[a, b]) 1 = some b := by
  simp [afield, apartV, Tryd.underlying58, Tryd.underlying3, asz3, isAggD]
set_option maxHeartbeats 2000000 in
set_option maxRecDepth 10000 in
theorem LDump_spec (st : St) (r h : Hp) (D : Nat) (U : Rul) (key : List Nat) (d : DS) (hn : d.L.length ≤ 100000) (hFl : d.F.length ≤ 100000) (hFk : ∀ x ∈ d.F, x.1.length ≤ 100000) (hD : DskS D U key d h) (hO : Own st (h ++ r)) (k q : Value → St → Prop)
    (hk : ∀ K v g st', KeysOf K d.F → GVx v (chgL (dumpL d K)) (dumpL d K).length 7 36 g → Own st' (g ++ (h ++ r)) → k v st') :
    ACall (C base w0 G) 16 [.pointer (some ⟨D, 0, none⟩)] st k q := by
  obtain ⟨sv, m, l, es, clk, hmD, hmM, hFM, hSL⟩ := dsk_map (r := r) hD
  obtain ⟨a, cp, hls, _⟩ := hSL.1.isSlice
  rw [List.length_map] at hls
  refine ACall.of (cx := C base w0 G) mixed Tryd.func16 rfl (by kernel_rfl) (by simp [Tryd.ntmps16]) ?_
  simp only [Tryd.results16]
  have hcd := hO.get hmD
  unfold dcells at hcd
  simp (config := { implicitDefEqProofs := false }) only [↓GP, ↓GM, GQ, abuiltinX, ↓awp_seq, ↓awp_block, C_ex, Nat.reduceBEq, acap, afieldAddr, aload, astore, abin, anum, astr, aun, isAggD, cond_true, cond_false, ↓reduceIte, C_P, C_G, isTuple, Value.cells, setL, ares, aresL, ares1, reduceCtorEq, Nat.reduceEqDiff, eq_self, Nat.reduceAdd, if_true, if_false, Go.Abs.one, Nat.reduceLeDiff, undef, gsl, aextract, aindexAddr, amake, implies_true, forall_const, alen, abuiltin, anil, isC, Int.reduceEq, Int.reduceLT, Int.reduceLE, Int.reduceAdd, Int.reduceToNat, Int.reduceNeg, Nat.reduceMul, Nat.reduceSub, abuild, afill, Int.reduceBNe, Int.reduceBEq, hcd, afo56_2, asz3, Tryd.underlying3]
  refine ⟨fun hc => ?_, fun hc => ?_⟩
  · simp (config := { implicitDefEqProofs := false }) only [↓GP, ↓GM, GQ, abuiltinX, ↓awp_seq, ↓awp_block, C_ex, Nat.reduceBEq, acap, afieldAddr, aload, astore, abin, anum, astr, aun, isAggD, cond_true, cond_false, ↓reduceIte, C_P, C_G, isTuple, Value.cells, setL, ares, aresL, ares1, reduceCtorEq, Nat.reduceEqDiff, eq_self, Nat.reduceAdd, if_true, if_false, Go.Abs.one, Nat.reduceLeDiff, undef, gsl, aextract, aindexAddr, amake, implies_true, forall_const, alen, abuiltin, anil, isC, Int.reduceEq, Int.reduceLT, Int.reduceLE, Int.reduceAdd, Int.reduceToNat, Int.reduceNeg, Nat.reduceMul, Nat.reduceSub, abuild, afill, Int.reduceBNe, Int.reduceBEq, azc36, apl36, asz36, Tryd.underlying36, List.length_cons, List.length_nil, List.set_cons_zero, List.set_cons_succ, List.getElem?_cons_zero, List.getElem?_cons_succ, Option.map_some, abuildSlice_one (st := st) (v := .agg #[.int .i64 1, .string ⟨#[]⟩, .string ⟨#[]⟩, .string ⟨#[]⟩, .string ⟨#[]⟩, .int .i64 d.c, .int .i64 0]) Tryd.underlying31 asz36 azc36 rfl rfl rfl (by decide)]
    refine GVx.append1 Tryd.underlying31 (by rw [Tryd.underlying31]; rfl) asz36 azc36 (c := [.int .i64 1, .string ⟨#[]⟩, .string ⟨#[]⟩, .string ⟨#[]⟩, .string ⟨#[]⟩, .int .i64 d.c, .int .i64 0]) aby36 (GVx.nil (sz := 7) (e := 36)) (r := h ++ r) (hg := []) hO rfl rfl (by decide) fun w g s hG hs => ?_
    have hpre : preL d.c = [mkC 1 [] [] d.c 0] := if_neg hc
    have hG : GVx w (chgL [mkC 1 [] [] d.c 0]) 1 7 36 g := hG.x
    generalize hpr : [mkC 1 [] [] d.c 0] = pre at *
    have hpl : pre.length = 1 := by rw [← hpr]; rfl
    have hcd := hs.get (List.mem_append_right g hmD)
    unfold dcells at hcd
    have hG : GVx w (chgL pre) pre.length 7 36 g := by rw [hpl]; exact hG
    simp (config := { implicitDefEqProofs := false }) only [↓GP, ↓GM, GQ, abuiltinX, ↓awp_seq, ↓awp_block, C_ex, Nat.reduceBEq, acap, afieldAddr, aload, astore, abin, anum, astr, aun, isAggD, cond_true, cond_false, ↓reduceIte, C_P, C_G, isTuple, Value.cells, setL, ares, aresL, ares1, reduceCtorEq, Nat.reduceEqDiff, eq_self, Nat.reduceAdd, if_true, if_false, Go.Abs.one, Nat.reduceLeDiff, undef, gsl, aextract, aindexAddr, amake, implies_true, forall_const, alen, abuiltin, anil, isC, Int.reduceEq, Int.reduceLT, Int.reduceLE, Int.reduceAdd, Int.reduceToNat, Int.reduceNeg, Nat.reduceMul, Nat.reduceSub, abuild, afill, Int.reduceBNe, Int.reduceBEq, hcd, afo56_3, asz53, Tryd.underlying53]
    refine MKeys_call _ _ ?_
    have hs1 := hs.new (.mbox (.map (some m)) 53)
    simp (config := { implicitDefEqProofs := false }) only [↓GP, ↓GM, GQ, abuiltinX, ↓awp_seq, ↓awp_block, C_ex, Nat.reduceBEq, acap, afieldAddr, aload, astore, abin, anum, astr, aun, isAggD, cond_true, cond_false, ↓reduceIte, C_P, C_G, isTuple, Value.cells, setL, ares, aresL, ares1, reduceCtorEq, Nat.reduceEqDiff, eq_self, Nat.reduceAdd, if_true, if_false, Go.Abs.one, Nat.reduceLeDiff, undef, gsl, aextract, aindexAddr, amake, implies_true, forall_const, alen, abuiltin, anil, isC, Int.reduceEq, Int.reduceLT, Int.reduceLE, Int.reduceAdd, Int.reduceToNat, Int.reduceNeg, Nat.reduceMul, Nat.reduceSub, abuild, afill, Int.reduceBNe, Int.reduceBEq]
    refine SSorted_call hs1.head (hs1.get (List.mem_cons_of_mem _ (List.mem_append_right g hmM))) hFM hFl hFk _ _ fun K v hK s2 hKp hKs hKO hKr => ?_
    have hs2 : Own s2 (g ++ (hK ++ ((s.n, Ob.mbox (.map (some m)) 53) :: (h ++ r)))) := (hKO _ hs1).perm (by simpa using perm_of [hK, [(s.n, Ob.mbox (.map (some m)) 53)], g, h ++ r] [0, 1, 2, 3] [2, 0, 1, 3] rfl)
    generalize hR2 : hK ++ ((s.n, Ob.mbox (.map (some m)) 53) :: (h ++ r)) = R2 at *
    have hmD2 : (D, Ob.cells (dcells U sv d.c m l) 56 true) ∈ R2 := by rw [← hR2]; exact List.mem_append_right _ (List.mem_cons_of_mem _ hmD)
    have hmM2 : (m, Ob.map es clk) ∈ R2 := by rw [← hR2]; exact List.mem_append_right _ (List.mem_cons_of_mem _ hmM)
    have hKr2 : Rws R2 v 1 (K.map fun a => [.string (str a)]) := hKr.sub fun e he => by rw [← hR2]; exact List.mem_append_left _ he
    have hL2 : SL R2 l d.L := ⟨hSL.1.sub fun e he => by rw [← hR2]; exact List.mem_append_right _ (List.mem_cons_of_mem _ he), hSL.2⟩
    have hKlen : K.length = d.F.length := by have := hKp.length_eq; simpa using this
    obtain ⟨va, vc, hvs, _⟩ := hKr2.isSlice
    rw [List.length_map] at hvs
    have hG0 : GVx w (chgL (pre ++ (K.take 0).map (failM d.F))) (pre.length + 0) 7 36 g := by simpa using hG
    simp (config := { implicitDefEqProofs := false }) only [↓GP, ↓GM, GQ, abuiltinX, ↓awp_seq, ↓awp_block, C_ex, Nat.reduceBEq, acap, afieldAddr, aload, astore, abin, anum, astr, aun, isAggD, cond_true, cond_false, ↓reduceIte, C_P, C_G, isTuple, Value.cells, setL, ares, aresL, ares1, reduceCtorEq, Nat.reduceEqDiff, eq_self, Nat.reduceAdd, if_true, if_false, Go.Abs.one, Nat.reduceLeDiff, undef, gsl, aextract, aindexAddr, amake, implies_true, forall_const, alen, abuiltin, anil, isC, Int.reduceEq, Int.reduceLT, Int.reduceLE, Int.reduceAdd, Int.reduceToNat, Int.reduceNeg, Nat.reduceMul, Nat.reduceSub, abuild, afill, Int.reduceBNe, Int.reduceBEq, hvs, Tryd.underlying39]
    refine ⟨fun mm ρ s => ∃ (i : Nat) (w : Value) (g : Hp), mm = K.length - i ∧ i ≤ K.length ∧ ρ 0 = .pointer (some ⟨D, 0, none⟩) ∧ ρ 3 = w ∧ ρ 26 = v ∧ ρ 27 = .int .i64 K.length ∧ ρ 28 = .int .i64 i ∧
      GVx w (chgL (pre ++ (K.take i).map (failM d.F))) (pre.length + i) 7 36 g ∧ Own s (g ++ R2), ⟨_, 0, _, g, rfl, Nat.zero_le _, rfl, rfl, hvs.symm, rfl, rfl, hG0, hs2⟩, ?_⟩
    rintro _ ρ s ⟨i, w, g, rfl, hi, h0, h3, h26, h27, h28, hG, hs⟩
    by_cases him : i < K.length
    · obtain ⟨x, o, sp, c', cs, ty, own, hvx, hmem, hcut⟩ := hKr2.mem (i := i) (l := [.string (str K[i])]) (by simp [him])
      have g0 := cut_get hcut (j := 0) (by decide)
      simp only [List.getElem?_cons_zero, Nat.add_zero, Nat.mul_one] at g0
      rw [List.length_map] at hvx
      have hcx := hs.get (List.mem_append_right g hmem)
      have hcd := hs.get (List.mem_append_right g hmD2)
      unfold dcells at hcd
      have hcm := hs.get (List.mem_append_right g hmM2)
      have hname : Bt K[i] := by
        have : K[i] ∈ d.F.map (·.1) := hKp.mem_iff.1 (List.getElem_mem him)
        obtain ⟨y, hy, e⟩ := List.mem_map.1 this
        rw [← e]
        exact hFM.1.keys.2 y hy
      have hlk : alookup Tryd.prog s 53 (.map (some m)) (.string (str K[i])) false = some (failV (gF d.F K[i])) := by
        rw [alookup_str akM azM hcm hFM hname, gF]
        cases mget K[i] d.F <;> rfl
      have htk : chgL (pre ++ (K.take (i + 1)).map (failM d.F)) = chgL (pre ++ (K.take i).map (failM d.F)) ++ (failM d.F K[i]).cells := by
        rw [List.take_add_one, List.getElem?_eq_getElem him]
        simp only [Option.toList_some, List.map_append, List.map_cons, List.map_nil, ← List.append_assoc, chgL, List.flatten_append, List.flatten_cons, List.flatten_nil, List.append_nil]
      have hfc : (failM d.F K[i]).cells = [.int .i64 2, .string (str K[i]), .string ⟨#[]⟩, .string ⟨#[]⟩, .string ⟨#[]⟩, .int .i64 (gF d.F K[i]).1, .int .i64 (gF d.F K[i]).2] := rfl
      rw [hfc] at htk
      have w1 : IntKind.i64.wrap ((i : Int) + 1) = ((i + 1 : Nat) : Int) := by rw [w_i64 (by omega)]; rfl
      generalize gF d.F K[i] = ff at *
      generalize K[i] = nm at *
      obtain ⟨aw, cw, hws⟩ := hG.isSlice
      simp (config := { implicitDefEqProofs := false }) only [↓GP, ↓GM, GQ, abuiltinX, ↓awp_seq, ↓awp_block, C_ex, Nat.reduceBEq, acap, afieldAddr, aload, astore, abin, anum, astr, aun, isAggD, cond_true, cond_false, ↓reduceIte, C_P, C_G, isTuple, Value.cells, setL, ares, aresL, ares1, reduceCtorEq, Nat.reduceEqDiff, eq_self, Nat.reduceAdd, if_true, if_false, Go.Abs.one, Nat.reduceLeDiff, undef, gsl, aextract, aindexAddr, amake, implies_true, forall_const, alen, abuiltin, anil, isC, Int.reduceEq, Int.reduceLT, Int.reduceLE, Int.reduceAdd, Int.reduceToNat, Int.reduceNeg, Nat.reduceMul, Nat.reduceSub, abuild, afill, Int.reduceBNe, Int.reduceBEq, h0, h3, h26, h27, h28, hvx, him, Int.ofNat_lt, decide_true, hcx, g0, asz9, Tryd.underlying9, Tryd.underlying39]
      refine ⟨by omega, ?_⟩
      refine ADraw.of [(0, false, []), (1, false, []), (2, false, []), (3, false, []), (4, false, []), (5, false, []), (6, false, []), (7, false, []), (8, false, []), (9, false, []), (10, false, []), (11, false, []), (12, false, []), (13, false, []), (14, false, []), (15, false, []), (16, false, []), (17, false, []), (18, false, []), (19, false, [])] [] [] (by kernel_rfl) ?_
      simp (config := { implicitDefEqProofs := false }) only [↓GP, ↓GM, GQ, abuiltinX, ↓awp_seq, ↓awp_block, C_ex, Nat.reduceBEq, acap, afieldAddr, aload, astore, abin, anum, astr, aun, isAggD, cond_true, cond_false, ↓reduceIte, C_P, C_G, isTuple, Value.cells, setL, ares, aresL, ares1, reduceCtorEq, Nat.reduceEqDiff, eq_self, Nat.reduceAdd, if_true, if_false, Go.Abs.one, Nat.reduceLeDiff, undef, gsl, aextract, aindexAddr, amake, implies_true, forall_const, alen, abuiltin, anil, isC, Int.reduceEq, Int.reduceLT, Int.reduceLE, Int.reduceAdd, Int.reduceToNat, Int.reduceNeg, Nat.reduceMul, Nat.reduceSub, abuild, afill, Int.reduceBNe, Int.reduceBEq, h0, h3, h26, h27, h28, hcd, hlk, failV, afo56_3, asz53, Tryd.underlying53, fld0, fld1, asz3, Tryd.underlying3, azc36, apl36, asz36, Tryd.underlying36, List.length_cons, List.length_nil, List.set_cons_zero, List.set_cons_succ, List.getElem?_cons_zero, List.getElem?_cons_succ, Option.map_some, abuildSlice_one (st := s) (v := .agg #[.int .i64 2, .string (str nm), .string ⟨#[]⟩, .string ⟨#[]⟩, .string ⟨#[]⟩, .int .i64 ff.1, .int .i64 ff.2]) Tryd.underlying31 asz36 azc36 rfl rfl rfl (by decide)]
      refine GVx.append1 Tryd.underlying31 (by rw [Tryd.underlying31]; rfl) asz36 azc36 (c := [.int .i64 2, .string (str nm), .string ⟨#[]⟩, .string ⟨#[]⟩, .string ⟨#[]⟩, .int .i64 ff.1, .int .i64 ff.2]) aby36 hG hs rfl rfl (by omega) fun w' g' s6 hG' hs6 => ?_
      simp (config := { implicitDefEqProofs := false }) only [↓GP, ↓GM, GQ, abuiltinX, ↓awp_seq, ↓awp_block, C_ex, Nat.reduceBEq, acap, afieldAddr, aload, astore, abin, anum, astr, aun, isAggD, cond_true, cond_false, ↓reduceIte, C_P, C_G, isTuple, Value.cells, setL, ares, aresL, ares1, reduceCtorEq, Nat.reduceEqDiff, eq_self, Nat.reduceAdd, if_true, if_false, Go.Abs.one, Nat.reduceLeDiff, undef, gsl, aextract, aindexAddr, amake, implies_true, forall_const, alen, abuiltin, anil, isC, Int.reduceEq, Int.reduceLT, Int.reduceLE, Int.reduceAdd, Int.reduceToNat, Int.reduceNeg, Nat.reduceMul, Nat.reduceSub, abuild, afill, Int.reduceBNe, Int.reduceBEq, h0, h3, h26, h27, h28, w1]
      exact ⟨K.length - (i + 1), by omega, i + 1, w', g', rfl, by omega, rfl, rfl, by rw [htk]; exact hG'.x, hs6⟩
    · obtain rfl : i = K.length := by omega
      rw [List.take_length] at hG
      have hcd := hs.get (List.mem_append_right g hmD2)
      unfold dcells at hcd
      rw [hls] at hcd
      simp (config := { implicitDefEqProofs := false }) only [↓GP, ↓GM, GQ, abuiltinX, ↓awp_seq, ↓awp_block, C_ex, Nat.reduceBEq, acap, afieldAddr, aload, astore, abin, anum, astr, aun, isAggD, cond_true, cond_false, ↓reduceIte, C_P, C_G, isTuple, Value.cells, setL, ares, aresL, ares1, reduceCtorEq, Nat.reduceEqDiff, eq_self, Nat.reduceAdd, if_true, if_false, Go.Abs.one, Nat.reduceLeDiff, undef, gsl, aextract, aindexAddr, amake, implies_true, forall_const, alen, abuiltin, anil, isC, Int.reduceEq, Int.reduceLT, Int.reduceLE, Int.reduceAdd, Int.reduceToNat, Int.reduceNeg, Nat.reduceMul, Nat.reduceSub, abuild, afill, Int.reduceBNe, Int.reduceBEq, h0, h3, h26, h27, h28, Int.ofNat_lt, Nat.lt_irrefl, decide_false, hcd, afo56_4, asz54, Tryd.underlying54]
      have hpl2 : (pre ++ K.map (failM d.F)).length = pre.length + K.length := by simp
      generalize hp2 : pre ++ K.map (failM d.F) = pre2 at *
      rw [← hpl2] at hG
      have hG0 : GVx w (chgL (pre2 ++ (d.L.take 0).map sesM)) (pre2.length + 0) 7 36 g := by simpa using hG
      refine ⟨fun mm ρ s => ∃ (i : Nat) (w : Value) (g : Hp), mm = d.L.length - i ∧ i ≤ d.L.length ∧ ρ 3 = w ∧ ρ 55 = l ∧ ρ 56 = .int .i64 d.L.length ∧ ρ 57 = .int .i64 i ∧
        GVx w (chgL (pre2 ++ (d.L.take i).map sesM)) (pre2.length + i) 7 36 g ∧ Own s (g ++ R2), ⟨_, 0, w, g, rfl, Nat.zero_le _, h3, hls.symm, rfl, rfl, hG0, hs⟩, ?_⟩
      clear hG0 hG h0 h3 h26 h27 h28 hs
      rintro _ ρ s ⟨i, w, g, rfl, hi, h3, h55, h56, h57, hG, hs⟩
      by_cases him : i < d.L.length
      · obtain ⟨x, o, sp, c', cs, ty, own, hvx, hmem, hcut⟩ := hL2.1.mem (i := i) (l := (d.L[i]).cells) (by simp [him])
        rw [List.length_map] at hvx
        have hcx := hs.get (List.mem_append_right g hmem)
        have htk : chgL (pre2 ++ (d.L.take (i + 1)).map sesM) = chgL (pre2 ++ (d.L.take i).map sesM) ++ (sesM d.L[i]).cells := by
          rw [List.take_add_one, List.getElem?_eq_getElem him]
          simp only [Option.toList_some, List.map_append, List.map_cons, List.map_nil, ← List.append_assoc, chgL, List.flatten_append, List.flatten_cons, List.flatten_nil, List.append_nil]
        generalize d.L[i] = S at *
        have hset : setL [Value.string ⟨#[]⟩, .string ⟨#[]⟩, .int .i64 0] 0 S.cells = S.cells := rfl
        have hcutS : cut S.cells 0 3 = some S.cells := rfl
        have hs2 := (hs.new (.cells [.string ⟨#[]⟩, .string ⟨#[]⟩, .int .i64 0] 64 true)).set rfl (.cells S.cells 64 true) rfl
        have w1 : IntKind.i64.wrap ((i : Int) + 1) = ((i + 1 : Nat) : Int) := by rw [w_i64 (by omega)]; rfl
        simp (config := { implicitDefEqProofs := false }) only [↓GP, ↓GM, GQ, abuiltinX, ↓awp_seq, ↓awp_block, C_ex, Nat.reduceBEq, acap, afieldAddr, aload, astore, abin, anum, astr, aun, isAggD, cond_true, cond_false, ↓reduceIte, C_P, C_G, isTuple, Value.cells, setL, ares, aresL, ares1, reduceCtorEq, Nat.reduceEqDiff, eq_self, Nat.reduceAdd, if_true, if_false, Go.Abs.one, Nat.reduceLeDiff, undef, gsl, aextract, aindexAddr, amake, implies_true, forall_const, alen, abuiltin, anil, isC, Int.reduceEq, Int.reduceLT, Int.reduceLE, Int.reduceAdd, Int.reduceToNat, Int.reduceNeg, Nat.reduceMul, Nat.reduceSub, abuild, afill, Int.reduceBNe, Int.reduceBEq, h3, h55, h56, h57, hvx, him, Int.ofNat_lt, decide_true, hcx, hcut, asz64, azc64, aalloc, Tryd.underlying54, Tryd.underlying64, Option.map_some, hset, hcutS]
        refine ⟨by omega, ⟨rfl, rfl⟩, ?_⟩
        generalize (s.new (.cells [.string ⟨#[]⟩, .string ⟨#[]⟩, .int .i64 0] 64 true)).set s.n (some (.cells S.cells 64 true)) = s2 at hs2 ⊢
        generalize s.n = E at *
        have hcE2 : s2.H E = some (.cells [.string (str S.id), .string (str S.who), .int .i64 S.at_] 64 true) := hs2.head
        have hs5 : Own s2 (g ++ ((E, Ob.cells S.cells 64 true) :: R2)) := hs2.perm (perm_front g (E, Ob.cells S.cells 64 true) R2).symm
        obtain ⟨aw, cw, hws⟩ := hG.isSlice
        simp (config := { implicitDefEqProofs := false }) only [↓GP, ↓GM, GQ, abuiltinX, ↓awp_seq, ↓awp_block, C_ex, Nat.reduceBEq, acap, afieldAddr, aload, astore, abin, anum, astr, aun, isAggD, cond_true, cond_false, ↓reduceIte, C_P, C_G, isTuple, Value.cells, setL, ares, aresL, ares1, reduceCtorEq, Nat.reduceEqDiff, eq_self, Nat.reduceAdd, if_true, if_false, Go.Abs.one, Nat.reduceLeDiff, undef, gsl, aextract, aindexAddr, amake, implies_true, forall_const, alen, abuiltin, anil, isC, Int.reduceEq, Int.reduceLT, Int.reduceLE, Int.reduceAdd, Int.reduceToNat, Int.reduceNeg, Nat.reduceMul, Nat.reduceSub, abuild, afill, Int.reduceBNe, Int.reduceBEq, h3, h55, h56, h57, hcE2, afo64_0, afo64_1, afo64_2, asz9, asz3, Tryd.underlying3, Tryd.underlying9, azc36, apl36, asz36, Tryd.underlying36, List.length_cons, List.length_nil, List.set_cons_zero, List.set_cons_succ, List.getElem?_cons_zero, List.getElem?_cons_succ, Option.map_some, abuildSlice_one (st := s2) (v := .agg #[.int .i64 3, .string (str S.id), .string (str S.who), .string ⟨#[]⟩, .string ⟨#[]⟩, .int .i64 S.at_, .int .i64 0]) Tryd.underlying31 asz36 azc36 rfl rfl rfl (by decide)]
        refine GVx.append1 Tryd.underlying31 (by rw [Tryd.underlying31]; rfl) asz36 azc36 (c := [.int .i64 3, .string (str S.id), .string (str S.who), .string ⟨#[]⟩, .string ⟨#[]⟩, .int .i64 S.at_, .int .i64 0]) aby36 hG hs5 rfl rfl (by have := hpl2; omega) fun w' g' s6 hG' hs6 => ?_
        simp (config := { implicitDefEqProofs := false }) only [↓GP, ↓GM, GQ, abuiltinX, ↓awp_seq, ↓awp_block, C_ex, Nat.reduceBEq, acap, afieldAddr, aload, astore, abin, anum, astr, aun, isAggD, cond_true, cond_false, ↓reduceIte, C_P, C_G, isTuple, Value.cells, setL, ares, aresL, ares1, reduceCtorEq, Nat.reduceEqDiff, eq_self, Nat.reduceAdd, if_true, if_false, Go.Abs.one, Nat.reduceLeDiff, undef, gsl, aextract, aindexAddr, amake, implies_true, forall_const, alen, abuiltin, anil, isC, Int.reduceEq, Int.reduceLT, Int.reduceLE, Int.reduceAdd, Int.reduceToNat, Int.reduceNeg, Nat.reduceMul, Nat.reduceSub, abuild, afill, Int.reduceBNe, Int.reduceBEq, h3, h55, h56, h57, w1]
        exact ⟨d.L.length - (i + 1), by omega, i + 1, w', g', rfl, by omega, rfl, rfl, by rw [htk]; exact hG'.x, (hs6.perm (perm_front g' (E, Ob.cells S.cells 64 true) R2)).tail⟩
      · obtain rfl : i = d.L.length := by omega
        rw [List.take_length] at hG
        simp (config := { implicitDefEqProofs := false }) only [↓GP, ↓GM, GQ, abuiltinX, ↓awp_seq, ↓awp_block, C_ex, Nat.reduceBEq, acap, afieldAddr, aload, astore, abin, anum, astr, aun, isAggD, cond_true, cond_false, ↓reduceIte, C_P, C_G, isTuple, Value.cells, setL, ares, aresL, ares1, reduceCtorEq, Nat.reduceEqDiff, eq_self, Nat.reduceAdd, if_true, if_false, Go.Abs.one, Nat.reduceLeDiff, undef, gsl, aextract, aindexAddr, amake, implies_true, forall_const, alen, abuiltin, anil, isC, Int.reduceEq, Int.reduceLT, Int.reduceLE, Int.reduceAdd, Int.reduceToNat, Int.reduceNeg, Nat.reduceMul, Nat.reduceSub, abuild, afill, Int.reduceBNe, Int.reduceBEq, h3, h55, h56, h57, Int.ofNat_lt, Nat.lt_irrefl, decide_false]
        have hdl : dumpL d K = pre2 ++ d.L.map sesM := by rw [dumpL, hpre, hp2]
        refine hk K w g s ⟨hKp, hKs⟩ (by rw [hdl, List.length_append, List.length_map]; exact hG) ?_
        rw [← hR2] at hs
        exact hs.sub (List.Sublist.append_left ((List.sublist_cons_self _ _).trans (List.sublist_append_right hK _)) g)
  · have hpre : preL d.c = [] := if_pos hc
    have hG : GVx (.slice none 0 0) (chgL []) 0 7 36 [] := GVx.nil
    have hs : Own st ([] ++ (h ++ r)) := hO
    generalize hgg : ([] : Hp) = g at *
    generalize hpr : ([] : List Chg) = pre at *
    have hpl : pre.length = 0 := by rw [← hpr]; rfl
    have hG : GVx (.slice none 0 0) (chgL pre) pre.length 7 36 g := by rw [hpl]; exact hG
    generalize st = s at *
    simp (config := { implicitDefEqProofs := false }) only [↓GP, ↓GM, GQ, abuiltinX, ↓awp_seq, ↓awp_block, C_ex, Nat.reduceBEq, acap, afieldAddr, aload, astore, abin, anum, astr, aun, isAggD, cond_true, cond_false, ↓reduceIte, C_P, C_G, isTuple, Value.cells, setL, ares, aresL, ares1, reduceCtorEq, Nat.reduceEqDiff, eq_self, Nat.reduceAdd, if_true, if_false, Go.Abs.one, Nat.reduceLeDiff, undef, gsl, aextract, aindexAddr, amake, implies_true, forall_const, alen, abuiltin, anil, isC, Int.reduceEq, Int.reduceLT, Int.reduceLE, Int.reduceAdd, Int.reduceToNat, Int.reduceNeg, Nat.reduceMul, Nat.reduceSub, abuild, afill, Int.reduceBNe, Int.reduceBEq, hcd, afo56_3, asz53, Tryd.underlying53]
    refine MKeys_call _ _ ?_
    have hs1 := hs.new (.mbox (.map (some m)) 53)
    simp (config := { implicitDefEqProofs := false }) only [↓GP, ↓GM, GQ, abuiltinX, ↓awp_seq, ↓awp_block, C_ex, Nat.reduceBEq, acap, afieldAddr, aload, astore, abin, anum, astr, aun, isAggD, cond_true, cond_false, ↓reduceIte, C_P, C_G, isTuple, Value.cells, setL, ares, aresL, ares1, reduceCtorEq, Nat.reduceEqDiff, eq_self, Nat.reduceAdd, if_true, if_false, Go.Abs.one, Nat.reduceLeDiff, undef, gsl, aextract, aindexAddr, amake, implies_true, forall_const, alen, abuiltin, anil, isC, Int.reduceEq, Int.reduceLT, Int.reduceLE, Int.reduceAdd, Int.reduceToNat, Int.reduceNeg, Nat.reduceMul, Nat.reduceSub, abuild, afill, Int.reduceBNe, Int.reduceBEq]
    refine SSorted_call hs1.head (hs1.get (List.mem_cons_of_mem _ (List.mem_append_right g hmM))) hFM hFl hFk _ _ fun K v hK s2 hKp hKs hKO hKr => ?_
    have hs2 : Own s2 (g ++ (hK ++ ((s.n, Ob.mbox (.map (some m)) 53) :: (h ++ r)))) := (hKO _ hs1).perm (by simpa using perm_of [hK, [(s.n, Ob.mbox (.map (some m)) 53)], g, h ++ r] [0, 1, 2, 3] [2, 0, 1, 3] rfl)
    generalize hR2 : hK ++ ((s.n, Ob.mbox (.map (some m)) 53) :: (h ++ r)) = R2 at *
    have hmD2 : (D, Ob.cells (dcells U sv d.c m l) 56 true) ∈ R2 := by rw [← hR2]; exact List.mem_append_right _ (List.mem_cons_of_mem _ hmD)
    have hmM2 : (m, Ob.map es clk) ∈ R2 := by rw [← hR2]; exact List.mem_append_right _ (List.mem_cons_of_mem _ hmM)
    have hKr2 : Rws R2 v 1 (K.map fun a => [.string (str a)]) := hKr.sub fun e he => by rw [← hR2]; exact List.mem_append_left _ he
    have hL2 : SL R2 l d.L := ⟨hSL.1.sub fun e he => by rw [← hR2]; exact List.mem_append_right _ (List.mem_cons_of_mem _ he), hSL.2⟩
    have hKlen : K.length = d.F.length := by have := hKp.length_eq; simpa using this
    obtain ⟨va, vc, hvs, _⟩ := hKr2.isSlice
    rw [List.length_map] at hvs
    have hG0 : GVx (.slice none 0 0) (chgL (pre ++ (K.take 0).map (failM d.F))) (pre.length + 0) 7 36 g := by simpa using hG
    simp (config := { implicitDefEqProofs := false }) only [↓GP, ↓GM, GQ, abuiltinX, ↓awp_seq, ↓awp_block, C_ex, Nat.reduceBEq, acap, afieldAddr, aload, astore, abin, anum, astr, aun, isAggD, cond_true, cond_false, ↓reduceIte, C_P, C_G, isTuple, Value.cells, setL, ares, aresL, ares1, reduceCtorEq, Nat.reduceEqDiff, eq_self, Nat.reduceAdd, if_true, if_false, Go.Abs.one, Nat.reduceLeDiff, undef, gsl, aextract, aindexAddr, amake, implies_true, forall_const, alen, abuiltin, anil, isC, Int.reduceEq, Int.reduceLT, Int.reduceLE, Int.reduceAdd, Int.reduceToNat, Int.reduceNeg, Nat.reduceMul, Nat.reduceSub, abuild, afill, Int.reduceBNe, Int.reduceBEq, hvs, Tryd.underlying39]
    refine ⟨fun mm ρ s => ∃ (i : Nat) (w : Value) (g : Hp), mm = K.length - i ∧ i ≤ K.length ∧ ρ 0 = .pointer (some ⟨D, 0, none⟩) ∧ ρ 3 = w ∧ ρ 26 = v ∧ ρ 27 = .int .i64 K.length ∧ ρ 28 = .int .i64 i ∧
      GVx w (chgL (pre ++ (K.take i).map (failM d.F))) (pre.length + i) 7 36 g ∧ Own s (g ++ R2), ⟨_, 0, _, g, rfl, Nat.zero_le _, rfl, rfl, hvs.symm, rfl, rfl, hG0, hs2⟩, ?_⟩
    rintro _ ρ s ⟨i, w, g, rfl, hi, h0, h3, h26, h27, h28, hG, hs⟩
    by_cases him : i < K.length
    · obtain ⟨x, o, sp, c', cs, ty, own, hvx, hmem, hcut⟩ := hKr2.mem (i := i) (l := [.string (str K[i])]) (by simp [him])
      have g0 := cut_get hcut (j := 0) (by decide)
      simp only [List.getElem?_cons_zero, Nat.add_zero, Nat.mul_one] at g0
      rw [List.length_map] at hvx
      have hcx := hs.get (List.mem_append_right g hmem)
      have hcd := hs.get (List.mem_append_right g hmD2)
      unfold dcells at hcd
      have hcm := hs.get (List.mem_append_right g hmM2)
      have hname : Bt K[i] := by
        have : K[i] ∈ d.F.map (·.1) := hKp.mem_iff.1 (List.getElem_mem him)
        obtain ⟨y, hy, e⟩ := List.mem_map.1 this
        rw [← e]
        exact hFM.1.keys.2 y hy
      have hlk : alookup Tryd.prog s 53 (.map (some m)) (.string (str K[i])) false = some (failV (gF d.F K[i])) := by
        rw [alookup_str akM azM hcm hFM hname, gF]
        cases mget K[i] d.F <;> rfl
      have htk : chgL (pre ++ (K.take (i + 1)).map (failM d.F)) = chgL (pre ++ (K.take i).map (failM d.F)) ++ (failM d.F K[i]).cells := by
        rw [List.take_add_one, List.getElem?_eq_getElem him]
        simp only [Option.toList_some, List.map_append, List.map_cons, List.map_nil, ← List.append_assoc, chgL, List.flatten_append, List.flatten_cons, List.flatten_nil, List.append_nil]
      have hfc : (failM d.F K[i]).cells = [.int .i64 2, .string (str K[i]), .string ⟨#[]⟩, .string ⟨#[]⟩, .string ⟨#[]⟩, .int .i64 (gF d.F K[i]).1, .int .i64 (gF d.F K[i]).2] := rfl
      rw [hfc] at htk
      have w1 : IntKind.i64.wrap ((i : Int) + 1) = ((i + 1 : Nat) : Int) := by rw [w_i64 (by omega)]; rfl
      generalize gF d.F K[i] = ff at *
      generalize K[i] = nm at *
      obtain ⟨aw, cw, hws⟩ := hG.isSlice
      simp (config := { implicitDefEqProofs := false }) only [↓GP, ↓GM, GQ, abuiltinX, ↓awp_seq, ↓awp_block, C_ex, Nat.reduceBEq, acap, afieldAddr, aload, astore, abin, anum, astr, aun, isAggD, cond_true, cond_false, ↓reduceIte, C_P, C_G, isTuple, Value.cells, setL, ares, aresL, ares1, reduceCtorEq, Nat.reduceEqDiff, eq_self, Nat.reduceAdd, if_true, if_false, Go.Abs.one, Nat.reduceLeDiff, undef, gsl, aextract, aindexAddr, amake, implies_true, forall_const, alen, abuiltin, anil, isC, Int.reduceEq, Int.reduceLT, Int.reduceLE, Int.reduceAdd, Int.reduceToNat, Int.reduceNeg, Nat.reduceMul, Nat.reduceSub, abuild, afill, Int.reduceBNe, Int.reduceBEq, h0, h3, h26, h27, h28, hvx, him, Int.ofNat_lt, decide_true, hcx, g0, asz9, Tryd.underlying9, Tryd.underlying39]
      refine ⟨by omega, ?_⟩
      refine ADraw.of [(0, false, []), (1, false, []), (2, false, []), (3, false, []), (4, false, []), (5, false, []), (6, false, []), (7, false, []), (8, false, []), (9, false, []), (10, false, []), (11, false, []), (12, false, []), (13, false, []), (14, false, []), (15, false, []), (16, false, []), (17, false, []), (18, false, []), (19, false, [])] [] [] (by kernel_rfl) ?_
      simp (config := { implicitDefEqProofs := false }) only [↓GP, ↓GM, GQ, abuiltinX, ↓awp_seq, ↓awp_block, C_ex, Nat.reduceBEq, acap, afieldAddr, aload, astore, abin, anum, astr, aun, isAggD, cond_true, cond_false, ↓reduceIte, C_P, C_G, isTuple, Value.cells, setL, ares, aresL, ares1, reduceCtorEq, Nat.reduceEqDiff, eq_self, Nat.reduceAdd, if_true, if_false, Go.Abs.one, Nat.reduceLeDiff, undef, gsl, aextract, aindexAddr, amake, implies_true, forall_const, alen, abuiltin, anil, isC, Int.reduceEq, Int.reduceLT, Int.reduceLE, Int.reduceAdd, Int.reduceToNat, Int.reduceNeg, Nat.reduceMul, Nat.reduceSub, abuild, afill, Int.reduceBNe, Int.reduceBEq, h0, h3, h26, h27, h28, hcd, hlk, failV, afo56_3, asz53, Tryd.underlying53, fld0, fld1, asz3, Tryd.underlying3, azc36, apl36, asz36, Tryd.underlying36, List.length_cons, List.length_nil, List.set_cons_zero, List.set_cons_succ, List.getElem?_cons_zero, List.getElem?_cons_succ, Option.map_some, abuildSlice_one (st := s) (v := .agg #[.int .i64 2, .string (str nm), .string ⟨#[]⟩, .string ⟨#[]⟩, .string ⟨#[]⟩, .int .i64 ff.1, .int .i64 ff.2]) Tryd.underlying31 asz36 azc36 rfl rfl rfl (by decide)]
      refine GVx.append1 Tryd.underlying31 (by rw [Tryd.underlying31]; rfl) asz36 azc36 (c := [.int .i64 2, .string (str nm), .string ⟨#[]⟩, .string ⟨#[]⟩, .string ⟨#[]⟩, .int .i64 ff.1, .int .i64 ff.2]) aby36 hG hs rfl rfl (by omega) fun w' g' s6 hG' hs6 => ?_
      simp (config := { implicitDefEqProofs := false }) only [↓GP, ↓GM, GQ, abuiltinX, ↓awp_seq, ↓awp_block, C_ex, Nat.reduceBEq, acap, afieldAddr, aload, astore, abin, anum, astr, aun, isAggD, cond_true, cond_false, ↓reduceIte, C_P, C_G, isTuple, Value.cells, setL, ares, aresL, ares1, reduceCtorEq, Nat.reduceEqDiff, eq_self, Nat.reduceAdd, if_true, if_false, Go.Abs.one, Nat.reduceLeDiff, undef, gsl, aextract, aindexAddr, amake, implies_true, forall_const, alen, abuiltin, anil, isC, Int.reduceEq, Int.reduceLT, Int.reduceLE, Int.reduceAdd, Int.reduceToNat, Int.reduceNeg, Nat.reduceMul, Nat.reduceSub, abuild, afill, Int.reduceBNe, Int.reduceBEq, h0, h3, h26, h27, h28, w1]
      exact ⟨K.length - (i + 1), by omega, i + 1, w', g', rfl, by omega, rfl, rfl, by rw [htk]; exact hG'.x, hs6⟩
    · obtain rfl : i = K.length := by omega
      rw [List.take_length] at hG
      have hcd := hs.get (List.mem_append_right g hmD2)
      unfold dcells at hcd
      rw [hls] at hcd
      simp (config := { implicitDefEqProofs := false }) only [↓GP, ↓GM, GQ, abuiltinX, ↓awp_seq, ↓awp_block, C_ex, Nat.reduceBEq, acap, afieldAddr, aload, astore, abin, anum, astr, aun, isAggD, cond_true, cond_false, ↓reduceIte, C_P, C_G, isTuple, Value.cells, setL, ares, aresL, ares1, reduceCtorEq, Nat.reduceEqDiff, eq_self, Nat.reduceAdd, if_true, if_false, Go.Abs.one, Nat.reduceLeDiff, undef, gsl, aextract, aindexAddr, amake, implies_true, forall_const, alen, abuiltin, anil, isC, Int.reduceEq, Int.reduceLT, Int.reduceLE, Int.reduceAdd, Int.reduceToNat, Int.reduceNeg, Nat.reduceMul, Nat.reduceSub, abuild, afill, Int.reduceBNe, Int.reduceBEq, h0, h3, h26, h27, h28, Int.ofNat_lt, Nat.lt_irrefl, decide_false, hcd, afo56_4, asz54, Tryd.underlying54]
      have hpl2 : (pre ++ K.map (failM d.F)).length = pre.length + K.length := by simp
      generalize hp2 : pre ++ K.map (failM d.F) = pre2 at *
      rw [← hpl2] at hG
      have hG0 : GVx w (chgL (pre2 ++ (d.L.take 0).map sesM)) (pre2.length + 0) 7 36 g := by simpa using hG
      refine ⟨fun mm ρ s => ∃ (i : Nat) (w : Value) (g : Hp), mm = d.L.length - i ∧ i ≤ d.L.length ∧ ρ 3 = w ∧ ρ 55 = l ∧ ρ 56 = .int .i64 d.L.length ∧ ρ 57 = .int .i64 i ∧
        GVx w (chgL (pre2 ++ (d.L.take i).map sesM)) (pre2.length + i) 7 36 g ∧ Own s (g ++ R2), ⟨_, 0, w, g, rfl, Nat.zero_le _, h3, hls.symm, rfl, rfl, hG0, hs⟩, ?_⟩
      clear hG0 hG h0 h3 h26 h27 h28 hs
      rintro _ ρ s ⟨i, w, g, rfl, hi, h3, h55, h56, h57, hG, hs⟩
      by_cases him : i < d.L.length
      · obtain ⟨x, o, sp, c', cs, ty, own, hvx, hmem, hcut⟩ := hL2.1.mem (i := i) (l := (d.L[i]).cells) (by simp [him])
        rw [List.length_map] at hvx
        have hcx := hs.get (List.mem_append_right g hmem)
        have htk : chgL (pre2 ++ (d.L.take (i + 1)).map sesM) = chgL (pre2 ++ (d.L.take i).map sesM) ++ (sesM d.L[i]).cells := by
          rw [List.take_add_one, List.getElem?_eq_getElem him]
          simp only [Option.toList_some, List.map_append, List.map_cons, List.map_nil, ← List.append_assoc, chgL, List.flatten_append, List.flatten_cons, List.flatten_nil, List.append_nil]
        generalize d.L[i] = S at *
        have hset : setL [Value.string ⟨#[]⟩, .string ⟨#[]⟩, .int .i64 0] 0 S.cells = S.cells := rfl
        have hcutS : cut S.cells 0 3 = some S.cells := rfl
        have hs2 := (hs.new (.cells [.string ⟨#[]⟩, .string ⟨#[]⟩, .int .i64 0] 64 true)).set rfl (.cells S.cells 64 true) rfl
        have w1 : IntKind.i64.wrap ((i : Int) + 1) = ((i + 1 : Nat) : Int) := by rw [w_i64 (by omega)]; rfl
        simp (config := { implicitDefEqProofs := false }) only [↓GP, ↓GM, GQ, abuiltinX, ↓awp_seq, ↓awp_block, C_ex, Nat.reduceBEq, acap, afieldAddr, aload, astore, abin, anum, astr, aun, isAggD, cond_true, cond_false, ↓reduceIte, C_P, C_G, isTuple, Value.cells, setL, ares, aresL, ares1, reduceCtorEq, Nat.reduceEqDiff, eq_self, Nat.reduceAdd, if_true, if_false, Go.Abs.one, Nat.reduceLeDiff, undef, gsl, aextract, aindexAddr, amake, implies_true, forall_const, alen, abuiltin, anil, isC, Int.reduceEq, Int.reduceLT, Int.reduceLE, Int.reduceAdd, Int.reduceToNat, Int.reduceNeg, Nat.reduceMul, Nat.reduceSub, abuild, afill, Int.reduceBNe, Int.reduceBEq, h3, h55, h56, h57, hvx, him, Int.ofNat_lt, decide_true, hcx, hcut, asz64, azc64, aalloc, Tryd.underlying54, Tryd.underlying64, Option.map_some, hset, hcutS]
        refine ⟨by omega, ⟨rfl, rfl⟩, ?_⟩
        generalize (s.new (.cells [.string ⟨#[]⟩, .string ⟨#[]⟩, .int .i64 0] 64 true)).set s.n (some (.cells S.cells 64 true)) = s2 at hs2 ⊢
        generalize s.n = E at *
        have hcE2 : s2.H E = some (.cells [.string (str S.id), .string (str S.who), .int .i64 S.at_] 64 true) := hs2.head
        have hs5 : Own s2 (g ++ ((E, Ob.cells S.cells 64 true) :: R2)) := hs2.perm (perm_front g (E, Ob.cells S.cells 64 true) R2).symm
        obtain ⟨aw, cw, hws⟩ := hG.isSlice
        simp (config := { implicitDefEqProofs := false }) only [↓GP, ↓GM, GQ, abuiltinX, ↓awp_seq, ↓awp_block, C_ex, Nat.reduceBEq, acap, afieldAddr, aload, astore, abin, anum, astr, aun, isAggD, cond_true, cond_false, ↓reduceIte, C_P, C_G, isTuple, Value.cells, setL, ares, aresL, ares1, reduceCtorEq, Nat.reduceEqDiff, eq_self, Nat.reduceAdd, if_true, if_false, Go.Abs.one, Nat.reduceLeDiff, undef, gsl, aextract, aindexAddr, amake, implies_true, forall_const, alen, abuiltin, anil, isC, Int.reduceEq, Int.reduceLT, Int.reduceLE, Int.reduceAdd, Int.reduceToNat, Int.reduceNeg, Nat.reduceMul, Nat.reduceSub, abuild, afill, Int.reduceBNe, Int.reduceBEq, h3, h55, h56, h57, hcE2, afo64_0, afo64_1, afo64_2, asz9, asz3, Tryd.underlying3, Tryd.underlying9, azc36, apl36, asz36, Tryd.underlying36, List.length_cons, List.length_nil, List.set_cons_zero, List.set_cons_succ, List.getElem?_cons_zero, List.getElem?_cons_succ, Option.map_some, abuildSlice_one (st := s2) (v := .agg #[.int .i64 3, .string (str S.id), .string (str S.who), .string ⟨#[]⟩, .string ⟨#[]⟩, .int .i64 S.at_, .int .i64 0]) Tryd.underlying31 asz36 azc36 rfl rfl rfl (by decide)]
        refine GVx.append1 Tryd.underlying31 (by rw [Tryd.underlying31]; rfl) asz36 azc36 (c := [.int .i64 3, .string (str S.id), .string (str S.who), .string ⟨#[]⟩, .string ⟨#[]⟩, .int .i64 S.at_, .int .i64 0]) aby36 hG hs5 rfl rfl (by have := hpl2; omega) fun w' g' s6 hG' hs6 => ?_
        simp (config := { implicitDefEqProofs := false }) only [↓GP, ↓GM, GQ, abuiltinX, ↓awp_seq, ↓awp_block, C_ex, Nat.reduceBEq, acap, afieldAddr, aload, astore, abin, anum, astr, aun, isAggD, cond_true, cond_false, ↓reduceIte, C_P, C_G, isTuple, Value.cells, setL, ares, aresL, ares1, reduceCtorEq, Nat.reduceEqDiff, eq_self, Nat.reduceAdd, if_true, if_false, Go.Abs.one, Nat.reduceLeDiff, undef, gsl, aextract, aindexAddr, amake, implies_true, forall_const, alen, abuiltin, anil, isC, Int.reduceEq, Int.reduceLT, Int.reduceLE, Int.reduceAdd, Int.reduceToNat, Int.reduceNeg, Nat.reduceMul, Nat.reduceSub, abuild, afill, Int.reduceBNe, Int.reduceBEq, h3, h55, h56, h57, w1]
        exact ⟨d.L.length - (i + 1), by omega, i + 1, w', g', rfl, by omega, rfl, rfl, by rw [htk]; exact hG'.x, (hs6.perm (perm_front g' (E, Ob.cells S.cells 64 true) R2)).tail⟩
      · obtain rfl : i = d.L.length := by omega
        rw [List.take_length] at hG
        simp (config := { implicitDefEqProofs := false }) only [↓GP, ↓GM, GQ, abuiltinX, ↓awp_seq, ↓awp_block, C_ex, Nat.reduceBEq, acap, afieldAddr, aload, astore, abin, anum, astr, aun, isAggD, cond_true, cond_false, ↓reduceIte, C_P, C_G, isTuple, Value.cells, setL, ares, aresL, ares1, reduceCtorEq, Nat.reduceEqDiff, eq_self, Nat.reduceAdd, if_true, if_false, Go.Abs.one, Nat.reduceLeDiff, undef, gsl, aextract, aindexAddr, amake, implies_true, forall_const, alen, abuiltin, anil, isC, Int.reduceEq, Int.reduceLT, Int.reduceLE, Int.reduceAdd, Int.reduceToNat, Int.reduceNeg, Nat.reduceMul, Nat.reduceSub, abuild, afill, Int.reduceBNe, Int.reduceBEq, h3, h55, h56, h57, Int.ofNat_lt, Nat.lt_irrefl, decide_false]
        have hdl : dumpL d K = pre2 ++ d.L.map sesM := by rw [dumpL, hpre, hp2]
        refine hk K w g s ⟨hKp, hKs⟩ (by rw [hdl, List.length_append, List.length_map]; exact hG) ?_
        rw [← hR2] at hs
        exact hs.sub (List.Sublist.append_left ((List.sublist_cons_self _ _).trans (List.sublist_append_right hK _)) g)
end Go.Proofs.YthohmdkibkompaaDoor
