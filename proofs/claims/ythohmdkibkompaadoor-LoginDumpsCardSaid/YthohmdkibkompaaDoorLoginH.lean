/- The desk: what is stale; the document's rules. No conditions. -/
import Derived.Test.YthohmdkibkompaaDoorLoginG
set_option linter.unusedVariables false
set_option linter.unusedSimpArgs false
namespace Go.Proofs.YthohmdkibkompaaDoor
open Go Go.Abs Go.RowKit
variable {base : Nat} {w0 : World} {G : Nat}

theorem cut3 {a b c : Value} : cut [a, b, c] 0 3 = some [a, b, c] := rfl
def isStale (U : Rul) (now : Int) (s : Ses) : Bool := (mok now && decide (s.at_ ≤ now)) && !lv U.life now s
def staleF (U : Rul) (L : List Ses) (now : Int) : List Chg := (L.filter (isStale U now)).map fun s => mkC 4 s.id [] 0 0
def chgL (cs : List Chg) : List Value := (cs.map Chg.cells).flatten
set_option maxRecDepth 10000 in
theorem LStale_spec (st : St) (r h : Hp) (D : Nat) (U : Rul) (key : List Nat) (d : DS) (now : Int) (hU : U.ok = true) (hn : d.L.length ≤ 100000) (hD : DskS D U key d h) (hO : Own st (h ++ r)) (k q : Value → St → Prop)
    (hk : ∀ v g st', GVx v (chgL (staleF U d.L now)) (staleF U d.L now).length 7 36 g → Own st' (g ++ (h ++ r)) → k v st') :
    ACall (C base w0 G) 14 [.pointer (some ⟨D, 0, none⟩), .int .i64 now] st k q := by
  obtain ⟨sv, m, l, es, clk, hm, hmM, hFM, hL⟩ := dsk_map (r := r) hD
  obtain ⟨a, cp, hls, _⟩ := hL.1.isSlice
  rw [List.length_map] at hls
  refine ACall.of (cx := C base w0 G) mixed Tryd.func14 rfl (by kernel_rfl) (by simp [Tryd.ntmps14]) ?_
  simp only [Tryd.results14]
  have hcd := hO.get hm
  unfold dcells at hcd
  rw [hls] at hcd
  simp (config := { implicitDefEqProofs := false }) only [↓GP, ↓GM, GQ, abuiltinX, ↓awp_seq, ↓awp_block, C_ex, Nat.reduceBEq, acap, afieldAddr, aload, astore, abin, anum, astr, aun, isAggD, cond_true, cond_false, ↓reduceIte, C_P, C_G, isTuple, Value.cells, setL, ares, aresL, ares1, reduceCtorEq, Nat.reduceEqDiff, eq_self, Nat.reduceAdd, if_true, if_false, Go.Abs.one, Nat.reduceLeDiff, undef, gsl, aextract, aindexAddr, amake, implies_true, forall_const, alen, abuiltin, anil, isC, Int.reduceEq, Int.reduceLT, Int.reduceLE, Int.reduceAdd, Int.reduceToNat, Int.reduceNeg, Nat.reduceMul, Nat.reduceSub, abuild, afill, Int.reduceBNe, Int.reduceBEq, hcd, afo56_4, asz54, Tryd.underlying54]
  unfold staleF at hk
  refine ⟨fun m ρ s => ∃ (i : Nat) (w : Value) (g : Hp), m = d.L.length - i ∧ i ≤ d.L.length ∧ ρ 0 = .pointer (some ⟨D, 0, none⟩) ∧ ρ 1 = .int .i64 now ∧ ρ 5 = w ∧ ρ 11 = l ∧ ρ 12 = .int .i64 d.L.length ∧ ρ 13 = .int .i64 i ∧
      GVx w (chgL (((d.L.take i).filter (isStale U now)).map fun s => mkC 4 s.id [] 0 0)) ((d.L.take i).filter (isStale U now)).length 7 36 g ∧ Own s (g ++ (h ++ r)), ⟨_, 0, _, [], rfl, Nat.zero_le _, rfl, rfl, rfl, hls.symm, rfl, rfl, GVx.nil, hO⟩, ?_⟩
  rintro _ ρ s ⟨i, w, g, rfl, hi, h0, h1, h5, h11, h12, h13, hG, hs⟩
  by_cases him : i < d.L.length
  · obtain ⟨x, o, sp, c', cs, ty, own, hvx, hmem, hcut⟩ := hL.1.mem (i := i) (l := (d.L[i]).cells) (by simp [him])
    rw [List.length_map] at hvx
    have hcx := hs.get (List.mem_append_right g hmem)
    have hLi : d.L[i]? = some d.L[i] := List.getElem?_eq_getElem him
    have hok := hL.2 d.L[i] (List.getElem_mem him)
    have hft := filter_take1 (p := isStale U now) hLi
    have hle := List.length_filter_le (isStale U now) (d.L.take i)
    rw [List.length_take] at hle
    generalize d.L[i] = S at *
    have hset : setL [Value.string ⟨#[]⟩, .string ⟨#[]⟩, .int .i64 0] 0 S.cells = S.cells := rfl
    have hcutS : cut S.cells 0 3 = some S.cells := rfl
    have hs2 := (hs.new (.cells [.string ⟨#[]⟩, .string ⟨#[]⟩, .int .i64 0] 64 true)).set rfl (.cells S.cells 64 true) rfl
    simp (config := { implicitDefEqProofs := false }) only [↓GP, ↓GM, GQ, abuiltinX, ↓awp_seq, ↓awp_block, C_ex, Nat.reduceBEq, acap, afieldAddr, aload, astore, abin, anum, astr, aun, isAggD, cond_true, cond_false, ↓reduceIte, C_P, C_G, isTuple, Value.cells, setL, ares, aresL, ares1, reduceCtorEq, Nat.reduceEqDiff, eq_self, Nat.reduceAdd, if_true, if_false, Go.Abs.one, Nat.reduceLeDiff, undef, gsl, aextract, aindexAddr, amake, implies_true, forall_const, alen, abuiltin, anil, isC, Int.reduceEq, Int.reduceLT, Int.reduceLE, Int.reduceAdd, Int.reduceToNat, Int.reduceNeg, Nat.reduceMul, Nat.reduceSub, abuild, afill, Int.reduceBNe, Int.reduceBEq, h0, h1, h5, h11, h12, h13, hvx, him, Int.ofNat_lt, decide_true, hcx, hcut, asz64, azc64, aalloc, Tryd.underlying54, Tryd.underlying64, Option.map_some, hset, hcutS]
    refine ⟨by omega, ⟨rfl, rfl⟩, ?_⟩
    generalize (s.new (.cells [.string ⟨#[]⟩, .string ⟨#[]⟩, .int .i64 0] 64 true)).set s.n (some (.cells S.cells 64 true)) = s2 at hs2 ⊢
    generalize s.n = E at *
    refine ACallF.enter Tryd.func20 rfl (by kernel_rfl) (Lmoments_spec s2 _ now hs2 _ _ fun s3 hs3 => ?_)
    have w1 : IntKind.i64.wrap ((i : Int) + 1) = ((i + 1 : Nat) : Int) := by rw [w_i64 (by omega)]; rfl
    have hcE := hs3.head
    have hcE2 : s3.H E = some (.cells [.string (str S.id), .string (str S.who), .int .i64 S.at_] 64 true) := hcE
    have no : ∀ s4 : St, isStale U now S = false → Own s4 ((E, Ob.cells S.cells 64 true) :: (g ++ (h ++ r))) → (GVx w (chgL (((d.L.take (i + 1)).filter (isStale U now)).map fun s => mkC 4 s.id [] 0 0)) ((d.L.take (i + 1)).filter (isStale U now)).length 7 36 g ∧ Own s4 (g ++ (h ++ r))) := by
      intro s4 e hs4
      rw [hft, e, cond_false, List.append_nil]
      exact ⟨hG, hs4.tail⟩
    cases hmo : mok now with
    | false =>
      have e : isStale U now S = false := by rw [isStale, hmo]; rfl
      simp (config := { implicitDefEqProofs := false }) only [↓GP, ↓GM, GQ, abuiltinX, ↓awp_seq, ↓awp_block, C_ex, Nat.reduceBEq, acap, afieldAddr, aload, astore, abin, anum, astr, aun, isAggD, cond_true, cond_false, ↓reduceIte, C_P, C_G, isTuple, Value.cells, setL, ares, aresL, ares1, reduceCtorEq, Nat.reduceEqDiff, eq_self, Nat.reduceAdd, if_true, if_false, Go.Abs.one, Nat.reduceLeDiff, undef, gsl, aextract, aindexAddr, amake, implies_true, forall_const, alen, abuiltin, anil, isC, Int.reduceEq, Int.reduceLT, Int.reduceLE, Int.reduceAdd, Int.reduceToNat, Int.reduceNeg, Nat.reduceMul, Nat.reduceSub, abuild, afill, Int.reduceBNe, Int.reduceBEq, h0, h1, h5, h11, h12, h13, w1]
      exact ⟨d.L.length - (i + 1), by omega, i + 1, w, g, rfl, by omega, rfl, rfl, no s3 e hs3⟩
    | true =>
      by_cases hat : now ≥ S.at_
      · simp (config := { implicitDefEqProofs := false }) only [↓GP, ↓GM, GQ, abuiltinX, ↓awp_seq, ↓awp_block, C_ex, Nat.reduceBEq, acap, afieldAddr, aload, astore, abin, anum, astr, aun, isAggD, cond_true, cond_false, ↓reduceIte, C_P, C_G, isTuple, Value.cells, setL, ares, aresL, ares1, reduceCtorEq, Nat.reduceEqDiff, eq_self, Nat.reduceAdd, if_true, if_false, Go.Abs.one, Nat.reduceLeDiff, undef, gsl, aextract, aindexAddr, amake, implies_true, forall_const, alen, abuiltin, anil, isC, Int.reduceEq, Int.reduceLT, Int.reduceLE, Int.reduceAdd, Int.reduceToNat, Int.reduceNeg, Nat.reduceMul, Nat.reduceSub, abuild, afill, Int.reduceBNe, Int.reduceBEq, h0, h1, h5, h11, h12, h13, hcE2, hat, decide_true, afo64_2, asz3, Tryd.underlying3, asz64, Tryd.underlying64, cut3, Option.map_some]
        have hL3 := hs3
        refine ACallF.enter Tryd.func25 rfl (by kernel_rfl) (Llives_spec s3 _ D m U sv l d.c now S hU hok (List.mem_cons_of_mem _ (List.mem_append_right _ hm)) hs3 _ _ fun s4 hs4 => ?_)
        have hcE4 : s4.H E = some (.cells [.string (str S.id), .string (str S.who), .int .i64 S.at_] 64 true) := hs4.head
        cases hl : lv U.life now S with
        | true =>
          have e : isStale U now S = false := by rw [isStale, hl]; simp
          simp (config := { implicitDefEqProofs := false }) only [↓GP, ↓GM, GQ, abuiltinX, ↓awp_seq, ↓awp_block, C_ex, Nat.reduceBEq, acap, afieldAddr, aload, astore, abin, anum, astr, aun, isAggD, cond_true, cond_false, ↓reduceIte, C_P, C_G, isTuple, Value.cells, setL, ares, aresL, ares1, reduceCtorEq, Nat.reduceEqDiff, eq_self, Nat.reduceAdd, if_true, if_false, Go.Abs.one, Nat.reduceLeDiff, undef, gsl, aextract, aindexAddr, amake, implies_true, forall_const, alen, abuiltin, anil, isC, Int.reduceEq, Int.reduceLT, Int.reduceLE, Int.reduceAdd, Int.reduceToNat, Int.reduceNeg, Nat.reduceMul, Nat.reduceSub, abuild, afill, Int.reduceBNe, Int.reduceBEq, h0, h1, h5, h11, h12, h13, Bool.not_true, w1]
          exact ⟨d.L.length - (i + 1), by omega, i + 1, w, g, rfl, by omega, rfl, rfl, no s4 e hs4⟩
        | false =>
          have e : isStale U now S = true := by rw [isStale, hmo, hl, decide_eq_true (show S.at_ ≤ now from hat)]; rfl
          obtain ⟨aw, cw, hws⟩ := hG.isSlice
          have hs5 : Own s4 (g ++ ((E, Ob.cells S.cells 64 true) :: (h ++ r))) := hs4.perm (perm_front g (E, Ob.cells S.cells 64 true) (h ++ r)).symm
          simp (config := { implicitDefEqProofs := false }) only [↓GP, ↓GM, GQ, abuiltinX, ↓awp_seq, ↓awp_block, C_ex, Nat.reduceBEq, acap, afieldAddr, aload, astore, abin, anum, astr, aun, isAggD, cond_true, cond_false, ↓reduceIte, C_P, C_G, isTuple, Value.cells, setL, ares, aresL, ares1, reduceCtorEq, Nat.reduceEqDiff, eq_self, Nat.reduceAdd, if_true, if_false, Go.Abs.one, Nat.reduceLeDiff, undef, gsl, aextract, aindexAddr, amake, implies_true, forall_const, alen, abuiltin, anil, isC, Int.reduceEq, Int.reduceLT, Int.reduceLE, Int.reduceAdd, Int.reduceToNat, Int.reduceNeg, Nat.reduceMul, Nat.reduceSub, abuild, afill, Int.reduceBNe, Int.reduceBEq, h0, h1, h5, h11, h12, h13, hcE4, Bool.not_false, afo64_0, asz9, Tryd.underlying9, azc36, apl36, asz36, Tryd.underlying36, List.length_cons, List.length_nil, List.set_cons_zero, List.set_cons_succ, List.getElem?_cons_zero, List.getElem?_cons_succ, Option.map_some, abuildSlice_one (st := s4) (v := .agg #[.int .i64 4, .string (str S.id), .string ⟨#[]⟩, .string ⟨#[]⟩, .string ⟨#[]⟩, .int .i64 0, .int .i64 0]) Tryd.underlying31 asz36 azc36 rfl rfl rfl (by decide)]
          refine GVx.append1 Tryd.underlying31 (by rw [Tryd.underlying31]; rfl) asz36 azc36 (c := [.int .i64 4, .string (str S.id), .string ⟨#[]⟩, .string ⟨#[]⟩, .string ⟨#[]⟩, .int .i64 0, .int .i64 0]) aby36 hG hs5 rfl rfl (by omega) fun w' g' s6 hG' hs6 => ?_
          simp (config := { implicitDefEqProofs := false }) only [↓GP, ↓GM, GQ, abuiltinX, ↓awp_seq, ↓awp_block, C_ex, Nat.reduceBEq, acap, afieldAddr, aload, astore, abin, anum, astr, aun, isAggD, cond_true, cond_false, ↓reduceIte, C_P, C_G, isTuple, Value.cells, setL, ares, aresL, ares1, reduceCtorEq, Nat.reduceEqDiff, eq_self, Nat.reduceAdd, if_true, if_false, Go.Abs.one, Nat.reduceLeDiff, undef, gsl, aextract, aindexAddr, amake, implies_true, forall_const, alen, abuiltin, anil, isC, Int.reduceEq, Int.reduceLT, Int.reduceLE, Int.reduceAdd, Int.reduceToNat, Int.reduceNeg, Nat.reduceMul, Nat.reduceSub, abuild, afill, Int.reduceBNe, Int.reduceBEq, h0, h1, h11, h12, h13, w1]
          refine ⟨d.L.length - (i + 1), by omega, i + 1, w', g', rfl, by omega, rfl, rfl, ?_, ?_⟩
          · rw [hft, e, cond_true, List.map_append, List.length_append, chgL, List.map_append, List.flatten_append]
            exact hG'.x
          · exact (hs6.perm (perm_front g' (E, Ob.cells S.cells 64 true) (h ++ r))).tail
      · have e : isStale U now S = false := by rw [isStale, decide_eq_false (show ¬ S.at_ ≤ now from hat), Bool.and_false]; rfl
        simp (config := { implicitDefEqProofs := false }) only [↓GP, ↓GM, GQ, abuiltinX, ↓awp_seq, ↓awp_block, C_ex, Nat.reduceBEq, acap, afieldAddr, aload, astore, abin, anum, astr, aun, isAggD, cond_true, cond_false, ↓reduceIte, C_P, C_G, isTuple, Value.cells, setL, ares, aresL, ares1, reduceCtorEq, Nat.reduceEqDiff, eq_self, Nat.reduceAdd, if_true, if_false, Go.Abs.one, Nat.reduceLeDiff, undef, gsl, aextract, aindexAddr, amake, implies_true, forall_const, alen, abuiltin, anil, isC, Int.reduceEq, Int.reduceLT, Int.reduceLE, Int.reduceAdd, Int.reduceToNat, Int.reduceNeg, Nat.reduceMul, Nat.reduceSub, abuild, afill, Int.reduceBNe, Int.reduceBEq, h0, h1, h5, h11, h12, h13, hcE2, hat, decide_false, afo64_2, asz3, Tryd.underlying3, w1]
        exact ⟨d.L.length - (i + 1), by omega, i + 1, w, g, rfl, by omega, rfl, rfl, no s3 e hs3⟩
  · obtain rfl : i = d.L.length := by omega
    rw [List.take_length] at hG
    simp (config := { implicitDefEqProofs := false }) only [↓GP, ↓GM, GQ, abuiltinX, ↓awp_seq, ↓awp_block, C_ex, Nat.reduceBEq, acap, afieldAddr, aload, astore, abin, anum, astr, aun, isAggD, cond_true, cond_false, ↓reduceIte, C_P, C_G, isTuple, Value.cells, setL, ares, aresL, ares1, reduceCtorEq, Nat.reduceEqDiff, eq_self, Nat.reduceAdd, if_true, if_false, Go.Abs.one, Nat.reduceLeDiff, undef, gsl, aextract, aindexAddr, amake, implies_true, forall_const, alen, abuiltin, anil, isC, Int.reduceEq, Int.reduceLT, Int.reduceLE, Int.reduceAdd, Int.reduceToNat, Int.reduceNeg, Nat.reduceMul, Nat.reduceSub, abuild, afill, Int.reduceBNe, Int.reduceBEq, h0, h1, h5, h11, h12, h13, Int.ofNat_lt, Nat.lt_irrefl, decide_false]
    exact hk w g s (by rw [List.length_map]; exact hG) hs
set_option maxRecDepth 10000 in
theorem RRight_spec (st : St) (r : Hp) (U : Rul) (hO : Own st r) (k q : Value → St → Prop) (hk : ∀ st', Own st' r → k (.bool U.ok) st') : ACall (C base w0 G) 8 [.agg U.cells.toArray] st k q := by
  refine ACall.of (cx := C base w0 G) mixed Tryd.func8 rfl (by kernel_rfl) (by simp [Tryd.ntmps8]) ?_
  simp only [Tryd.results8]
  have hO1 := hO.new (.cells U.cells 23 true)
  have hc : (st.new (.cells U.cells 23 true)).H st.n = some (.cells [.int .i64 U.tries, .int .i64 U.lock, .int .i64 U.life, .int .i64 U.most] 23 true) := hO1.head
  by_cases c0 : U.tries ≥ 1
  case neg =>
    have e : U.ok = false := by simp [Rul.ok]; omega
    rw [e] at hk
    simp (config := { implicitDefEqProofs := false }) only [↓GP, ↓GM, GQ, abuiltinX, ↓awp_seq, ↓awp_block, C_ex, Nat.reduceBEq, acap, afieldAddr, aload, astore, abin, anum, astr, aun, isAggD, cond_true, cond_false, ↓reduceIte, C_P, C_G, isTuple, Value.cells, setL, ares, aresL, ares1, reduceCtorEq, Nat.reduceEqDiff, eq_self, Nat.reduceAdd, if_true, if_false, Go.Abs.one, Nat.reduceLeDiff, undef, gsl, aextract, aindexAddr, amake, implies_true, forall_const, alen, abuiltin, anil, isC, Int.reduceEq, Int.reduceLT, Int.reduceLE, Int.reduceAdd, Int.reduceToNat, Int.reduceNeg, Nat.reduceMul, Nat.reduceSub, abuild, afill, Int.reduceBNe, Int.reduceBEq, abox, Rul.cells, hc, afo23_0, afo23_1, afo23_2, afo23_3, asz3, Tryd.underlying3, decide_true, decide_false, c0]
    exact hk _ hO1.tail
  by_cases c1 : U.tries ≤ 100
  case neg =>
    have e : U.ok = false := by simp [Rul.ok]; omega
    rw [e] at hk
    simp (config := { implicitDefEqProofs := false }) only [↓GP, ↓GM, GQ, abuiltinX, ↓awp_seq, ↓awp_block, C_ex, Nat.reduceBEq, acap, afieldAddr, aload, astore, abin, anum, astr, aun, isAggD, cond_true, cond_false, ↓reduceIte, C_P, C_G, isTuple, Value.cells, setL, ares, aresL, ares1, reduceCtorEq, Nat.reduceEqDiff, eq_self, Nat.reduceAdd, if_true, if_false, Go.Abs.one, Nat.reduceLeDiff, undef, gsl, aextract, aindexAddr, amake, implies_true, forall_const, alen, abuiltin, anil, isC, Int.reduceEq, Int.reduceLT, Int.reduceLE, Int.reduceAdd, Int.reduceToNat, Int.reduceNeg, Nat.reduceMul, Nat.reduceSub, abuild, afill, Int.reduceBNe, Int.reduceBEq, abox, Rul.cells, hc, afo23_0, afo23_1, afo23_2, afo23_3, asz3, Tryd.underlying3, decide_true, decide_false, c0, c1]
    exact hk _ hO1.tail
  by_cases c2 : U.lock ≥ 0
  case neg =>
    have e : U.ok = false := by simp [Rul.ok]; omega
    rw [e] at hk
    simp (config := { implicitDefEqProofs := false }) only [↓GP, ↓GM, GQ, abuiltinX, ↓awp_seq, ↓awp_block, C_ex, Nat.reduceBEq, acap, afieldAddr, aload, astore, abin, anum, astr, aun, isAggD, cond_true, cond_false, ↓reduceIte, C_P, C_G, isTuple, Value.cells, setL, ares, aresL, ares1, reduceCtorEq, Nat.reduceEqDiff, eq_self, Nat.reduceAdd, if_true, if_false, Go.Abs.one, Nat.reduceLeDiff, undef, gsl, aextract, aindexAddr, amake, implies_true, forall_const, alen, abuiltin, anil, isC, Int.reduceEq, Int.reduceLT, Int.reduceLE, Int.reduceAdd, Int.reduceToNat, Int.reduceNeg, Nat.reduceMul, Nat.reduceSub, abuild, afill, Int.reduceBNe, Int.reduceBEq, abox, Rul.cells, hc, afo23_0, afo23_1, afo23_2, afo23_3, asz3, Tryd.underlying3, decide_true, decide_false, c0, c1, c2]
    exact hk _ hO1.tail
  by_cases c3 : U.lock ≤ 86400000
  case neg =>
    have e : U.ok = false := by simp [Rul.ok]; omega
    rw [e] at hk
    simp (config := { implicitDefEqProofs := false }) only [↓GP, ↓GM, GQ, abuiltinX, ↓awp_seq, ↓awp_block, C_ex, Nat.reduceBEq, acap, afieldAddr, aload, astore, abin, anum, astr, aun, isAggD, cond_true, cond_false, ↓reduceIte, C_P, C_G, isTuple, Value.cells, setL, ares, aresL, ares1, reduceCtorEq, Nat.reduceEqDiff, eq_self, Nat.reduceAdd, if_true, if_false, Go.Abs.one, Nat.reduceLeDiff, undef, gsl, aextract, aindexAddr, amake, implies_true, forall_const, alen, abuiltin, anil, isC, Int.reduceEq, Int.reduceLT, Int.reduceLE, Int.reduceAdd, Int.reduceToNat, Int.reduceNeg, Nat.reduceMul, Nat.reduceSub, abuild, afill, Int.reduceBNe, Int.reduceBEq, abox, Rul.cells, hc, afo23_0, afo23_1, afo23_2, afo23_3, asz3, Tryd.underlying3, decide_true, decide_false, c0, c1, c2, c3]
    exact hk _ hO1.tail
  by_cases c4 : U.life ≥ 1
  case neg =>
    have e : U.ok = false := by simp [Rul.ok]; omega
    rw [e] at hk
    simp (config := { implicitDefEqProofs := false }) only [↓GP, ↓GM, GQ, abuiltinX, ↓awp_seq, ↓awp_block, C_ex, Nat.reduceBEq, acap, afieldAddr, aload, astore, abin, anum, astr, aun, isAggD, cond_true, cond_false, ↓reduceIte, C_P, C_G, isTuple, Value.cells, setL, ares, aresL, ares1, reduceCtorEq, Nat.reduceEqDiff, eq_self, Nat.reduceAdd, if_true, if_false, Go.Abs.one, Nat.reduceLeDiff, undef, gsl, aextract, aindexAddr, amake, implies_true, forall_const, alen, abuiltin, anil, isC, Int.reduceEq, Int.reduceLT, Int.reduceLE, Int.reduceAdd, Int.reduceToNat, Int.reduceNeg, Nat.reduceMul, Nat.reduceSub, abuild, afill, Int.reduceBNe, Int.reduceBEq, abox, Rul.cells, hc, afo23_0, afo23_1, afo23_2, afo23_3, asz3, Tryd.underlying3, decide_true, decide_false, c0, c1, c2, c3, c4]
    exact hk _ hO1.tail
  by_cases c5 : U.life ≤ 86400000
  case neg =>
    have e : U.ok = false := by simp [Rul.ok]; omega
    rw [e] at hk
    simp (config := { implicitDefEqProofs := false }) only [↓GP, ↓GM, GQ, abuiltinX, ↓awp_seq, ↓awp_block, C_ex, Nat.reduceBEq, acap, afieldAddr, aload, astore, abin, anum, astr, aun, isAggD, cond_true, cond_false, ↓reduceIte, C_P, C_G, isTuple, Value.cells, setL, ares, aresL, ares1, reduceCtorEq, Nat.reduceEqDiff, eq_self, Nat.reduceAdd, if_true, if_false, Go.Abs.one, Nat.reduceLeDiff, undef, gsl, aextract, aindexAddr, amake, implies_true, forall_const, alen, abuiltin, anil, isC, Int.reduceEq, Int.reduceLT, Int.reduceLE, Int.reduceAdd, Int.reduceToNat, Int.reduceNeg, Nat.reduceMul, Nat.reduceSub, abuild, afill, Int.reduceBNe, Int.reduceBEq, abox, Rul.cells, hc, afo23_0, afo23_1, afo23_2, afo23_3, asz3, Tryd.underlying3, decide_true, decide_false, c0, c1, c2, c3, c4, c5]
    exact hk _ hO1.tail
  by_cases c6 : U.most ≥ 1
  case neg =>
    have e : U.ok = false := by simp [Rul.ok]; omega
    rw [e] at hk
    simp (config := { implicitDefEqProofs := false }) only [↓GP, ↓GM, GQ, abuiltinX, ↓awp_seq, ↓awp_block, C_ex, Nat.reduceBEq, acap, afieldAddr, aload, astore, abin, anum, astr, aun, isAggD, cond_true, cond_false, ↓reduceIte, C_P, C_G, isTuple, Value.cells, setL, ares, aresL, ares1, reduceCtorEq, Nat.reduceEqDiff, eq_self, Nat.reduceAdd, if_true, if_false, Go.Abs.one, Nat.reduceLeDiff, undef, gsl, aextract, aindexAddr, amake, implies_true, forall_const, alen, abuiltin, anil, isC, Int.reduceEq, Int.reduceLT, Int.reduceLE, Int.reduceAdd, Int.reduceToNat, Int.reduceNeg, Nat.reduceMul, Nat.reduceSub, abuild, afill, Int.reduceBNe, Int.reduceBEq, abox, Rul.cells, hc, afo23_0, afo23_1, afo23_2, afo23_3, asz3, Tryd.underlying3, decide_true, decide_false, c0, c1, c2, c3, c4, c5, c6]
    exact hk _ hO1.tail
  by_cases c7 : U.most ≤ 1000
  case neg =>
    have e : U.ok = false := by simp [Rul.ok]; omega
    rw [e] at hk
    simp (config := { implicitDefEqProofs := false }) only [↓GP, ↓GM, GQ, abuiltinX, ↓awp_seq, ↓awp_block, C_ex, Nat.reduceBEq, acap, afieldAddr, aload, astore, abin, anum, astr, aun, isAggD, cond_true, cond_false, ↓reduceIte, C_P, C_G, isTuple, Value.cells, setL, ares, aresL, ares1, reduceCtorEq, Nat.reduceEqDiff, eq_self, Nat.reduceAdd, if_true, if_false, Go.Abs.one, Nat.reduceLeDiff, undef, gsl, aextract, aindexAddr, amake, implies_true, forall_const, alen, abuiltin, anil, isC, Int.reduceEq, Int.reduceLT, Int.reduceLE, Int.reduceAdd, Int.reduceToNat, Int.reduceNeg, Nat.reduceMul, Nat.reduceSub, abuild, afill, Int.reduceBNe, Int.reduceBEq, abox, Rul.cells, hc, afo23_0, afo23_1, afo23_2, afo23_3, asz3, Tryd.underlying3, decide_true, decide_false, c0, c1, c2, c3, c4, c5, c6, c7]
    exact hk _ hO1.tail
  have e : U.ok = true := by simp [Rul.ok]; omega
  rw [e] at hk
  simp (config := { implicitDefEqProofs := false }) only [↓GP, ↓GM, GQ, abuiltinX, ↓awp_seq, ↓awp_block, C_ex, Nat.reduceBEq, acap, afieldAddr, aload, astore, abin, anum, astr, aun, isAggD, cond_true, cond_false, ↓reduceIte, C_P, C_G, isTuple, Value.cells, setL, ares, aresL, ares1, reduceCtorEq, Nat.reduceEqDiff, eq_self, Nat.reduceAdd, if_true, if_false, Go.Abs.one, Nat.reduceLeDiff, undef, gsl, aextract, aindexAddr, amake, implies_true, forall_const, alen, abuiltin, anil, isC, Int.reduceEq, Int.reduceLT, Int.reduceLE, Int.reduceAdd, Int.reduceToNat, Int.reduceNeg, Nat.reduceMul, Nat.reduceSub, abuild, afill, Int.reduceBNe, Int.reduceBEq, abox, Rul.cells, hc, afo23_0, afo23_1, afo23_2, afo23_3, asz3, Tryd.underlying3, decide_true, decide_false, c0, c1, c2, c3, c4, c5, c6, c7]
  exact hk _ hO1.tail
end Go.Proofs.YthohmdkibkompaaDoor
