/- The desk: made; the next tag; whose a session is. No conditions. -/
import Derived.Test.YthohmdkibkompaaDoorLoginD
import Derived.Test.YthohmdkibkompaaDoorAbsI
set_option linter.unusedVariables false
set_option linter.unusedSimpArgs false
namespace Go.Proofs.YthohmdkibkompaaDoor
open Go Go.Abs Go.RowKit
variable {base : Nat} {w0 : World} {G : Nat}

/-- A change. -/
structure Chg where
  k : Int
  a : List Nat
  b : List Nat
  c : List Nat
  d : List Nat
  n : Int
  m : Int
def Chg.cells (x : Chg) : List Value := [.int .i64 x.k, .string (str x.a), .string (str x.b), .string (str x.c), .string (str x.d), .int .i64 x.n, .int .i64 x.m]
def mkC (k : Int) (a b : List Nat) (n m : Int) : Chg := ⟨k, a, b, [], [], n, m⟩
def failV (x : Int × Int) : Value := .agg #[.int .i64 x.1, .int .i64 x.2]
abbrev Fails := List (List Nat × (Int × Int))
def Fails.ok (F : Fails) : Prop := ∀ x ∈ F, -9223372036854775808 ≤ x.2.1 ∧ x.2.1 ≤ 1152921504606846976 ∧ -9223372036854775808 ≤ x.2.2 ∧ x.2.2 ≤ 9223372036854775807
/-- A desk: its block, its map, its sessions, its secret. -/
def Dsk (D : Nat) (R : Rul) (key : List Nat) (c : Int) (F : Fails) (L : List Ses) (h : Hp) : Prop :=
  ∃ sv m es clk l hg hs, h = (D, Ob.cells (dcells R sv c m l) 56 true) :: (m, .map es clk) :: (hg ++ hs) ∧ MRelS failV es clk F ∧ SB l L hg ∧ (∀ s ∈ L, s.ok) ∧ Nb hs sv key

set_option maxRecDepth 10000 in
theorem Lin_spec (st : St) (a b c : Int) (k q : Value → St → Prop) (hk : k (.bool (decide (b ≤ a) && decide (a ≤ c))) st) : ACall (C base w0 G) 18 [.int .i64 a, .int .i64 b, .int .i64 c] st k q := by
  refine ACall.of (cx := C base w0 G) mixed Tryd.func18 rfl (by kernel_rfl) (by simp [Tryd.ntmps18]) ?_
  simp only [Tryd.results18]
  by_cases h1 : a ≥ b
  · rw [decide_eq_true (show b ≤ a from h1), Bool.true_and] at hk
    simp (config := { implicitDefEqProofs := false }) only [↓GP, ↓GM, GQ, abuiltinX, ↓awp_seq, ↓awp_block, C_ex, Nat.reduceBEq, acap, afieldAddr, aload, astore, abin, anum, astr, aun, isAggD, cond_true, cond_false, ↓reduceIte, C_P, C_G, isTuple, Value.cells, setL, ares, aresL, ares1, reduceCtorEq, Nat.reduceEqDiff, eq_self, Nat.reduceAdd, if_true, if_false, Go.Abs.one, Nat.reduceLeDiff, undef, gsl, aextract, aindexAddr, amake, implies_true, forall_const, alen, abuiltin, anil, isC, Int.reduceEq, Int.reduceLT, Int.reduceLE, Int.reduceAdd, Int.reduceToNat, Int.reduceNeg, Nat.reduceMul, Nat.reduceSub, abuild, afill, Int.reduceBNe, Int.reduceBEq, h1, decide_true]
    exact hk
  · rw [decide_eq_false (show ¬ b ≤ a from h1), Bool.false_and] at hk
    simp (config := { implicitDefEqProofs := false }) only [↓GP, ↓GM, GQ, abuiltinX, ↓awp_seq, ↓awp_block, C_ex, Nat.reduceBEq, acap, afieldAddr, aload, astore, abin, anum, astr, aun, isAggD, cond_true, cond_false, ↓reduceIte, C_P, C_G, isTuple, Value.cells, setL, ares, aresL, ares1, reduceCtorEq, Nat.reduceEqDiff, eq_self, Nat.reduceAdd, if_true, if_false, Go.Abs.one, Nat.reduceLeDiff, undef, gsl, aextract, aindexAddr, amake, implies_true, forall_const, alen, abuiltin, anil, isC, Int.reduceEq, Int.reduceLT, Int.reduceLE, Int.reduceAdd, Int.reduceToNat, Int.reduceNeg, Nat.reduceMul, Nat.reduceSub, abuild, afill, Int.reduceBNe, Int.reduceBEq, h1, decide_false]
    exact hk
set_option maxRecDepth 10000 in
theorem BClone_spec (st : St) (r : Hp) (v : Value) (l : List Nat) (hv : Nb r v l) (hl : l.length ≤ 100000) (hO : Own st r) (k q : Value → St → Prop)
    (hk : ∀ v' hs st', Nb hs v' l → Own st' (hs ++ r) → k v' st') : ACall (C base w0 G) 19 [v] st k q := by
  obtain ⟨a, c, hvs⟩ := hv.isSlice
  refine ACall.of (cx := C base w0 G) mixed Tryd.func19 rfl (by kernel_rfl) (by simp [Tryd.ntmps19]) ?_
  simp only [Tryd.results19]
  cases a with
  | none =>
    have h0 : l = [] := by
      rcases hv.1 with ⟨h, _⟩ | ⟨x, o, sp, c', cs, ty, own, h, _⟩
      · exact List.map_eq_nil_iff.1 h
      · rw [hvs] at h; cases h
    subst h0
    simp (config := { implicitDefEqProofs := false }) only [↓GP, ↓GM, GQ, abuiltinX, ↓awp_seq, ↓awp_block, C_ex, Nat.reduceBEq, acap, afieldAddr, aload, astore, abin, anum, astr, aun, isAggD, cond_true, cond_false, ↓reduceIte, C_P, C_G, isTuple, Value.cells, setL, ares, aresL, ares1, reduceCtorEq, Nat.reduceEqDiff, eq_self, Nat.reduceAdd, if_true, if_false, Go.Abs.one, Nat.reduceLeDiff, undef, gsl, aextract, aindexAddr, amake, implies_true, forall_const, alen, abuiltin, anil, isC, Int.reduceEq, Int.reduceLT, Int.reduceLE, Int.reduceAdd, Int.reduceToNat, Int.reduceNeg, Nat.reduceMul, Nat.reduceSub, abuild, afill, Int.reduceBNe, Int.reduceBEq, hvs, Tryd.underlying38, Option.isNone]
    exact hk _ [] st nb_nil hO
  | some ad =>
    have hsrc := hv.src hO
    have hO1 := hO.new (.cells [] 5 true)
    have hsrc1 : asrc (st.new (.cells [] 5 true)) 1 v = some (l.length, nl l) := (hv.sub (fun e he => List.mem_cons_of_mem _ he)).src hO1
    rw [hvs] at hsrc1
    simp (config := { implicitDefEqProofs := false }) only [↓GP, ↓GM, GQ, abuiltinX, ↓awp_seq, ↓awp_block, C_ex, Nat.reduceBEq, acap, afieldAddr, aload, astore, abin, anum, astr, aun, isAggD, cond_true, cond_false, ↓reduceIte, C_P, C_G, isTuple, Value.cells, setL, ares, aresL, ares1, reduceCtorEq, Nat.reduceEqDiff, eq_self, Nat.reduceAdd, if_true, if_false, Go.Abs.one, Nat.reduceLeDiff, undef, gsl, aextract, aindexAddr, amake, implies_true, forall_const, alen, abuiltin, anil, isC, Int.reduceEq, Int.reduceLT, Int.reduceLE, Int.reduceAdd, Int.reduceToNat, Int.reduceNeg, Nat.reduceMul, Nat.reduceSub, abuild, afill, Int.reduceBNe, Int.reduceBEq, hvs, Tryd.underlying38, Option.isNone, abuildSlice_none (st := st) Tryd.underlying38 asz5 azc5]
    have hO2 : Own (st.new (.cells [] 5 true)) ([(st.n, Ob.cells [] 5 true)] ++ r) := hO1
    refine GVx.append Tryd.underlying38 (by rw [Tryd.underlying38]; rfl) asz5 azc5 aby5 (GVx.empty (b := st.n)) hO2 hsrc1 (by rw [nl_length]; simp) (nl_one _) (by omega) fun v' h' s' hG' hs' => ?_
    simp (config := { implicitDefEqProofs := false }) only [↓GP, ↓GM, GQ, abuiltinX, ↓awp_seq, ↓awp_block, C_ex, Nat.reduceBEq, acap, afieldAddr, aload, astore, abin, anum, astr, aun, isAggD, cond_true, cond_false, ↓reduceIte, C_P, C_G, isTuple, Value.cells, setL, ares, aresL, ares1, reduceCtorEq, Nat.reduceEqDiff, eq_self, Nat.reduceAdd, if_true, if_false, Go.Abs.one, Nat.reduceLeDiff, undef, gsl, aextract, aindexAddr, amake, implies_true, forall_const, alen, abuiltin, anil, isC, Int.reduceEq, Int.reduceLT, Int.reduceLE, Int.reduceAdd, Int.reduceToNat, Int.reduceNeg, Nat.reduceMul, Nat.reduceSub, abuild, afill, Int.reduceBNe, Int.reduceBEq]
    refine hk v' h' s' ?_ hs'
    have := GVx.nb (r := []) hG' (by simp) hv.2
    simpa using this
theorem cut7 {a b c d e f g : Value} : cut [a, b, c, d, e, f, g] 0 7 = some [a, b, c, d, e, f, g] := rfl
set_option maxRecDepth 10000 in
theorem LNext_spec (st : St) (r : Hp) (D : Nat) (R : Rul) (key : List Nat) (c : Int) (F : Fails) (L : List Ses) (h : Hp) (l : List Nat) (ok : Bool) {kt : TypeId} (hT : TabOk w0) (hl : Bt l) (hll : l.length ≤ 1000) (hc : c ≤ 1152921504606846976) (hc' : -9223372036854775808 ≤ c) (hkl : key.length ≤ 1000)
    (hD : Dsk D R key c F L h) (hK : (0, .cells (wl ks0) kt ok) ∈ r) (hO : Own st (h ++ r)) (k q : Value → St → Prop)
    (hk : ∀ st', Own st' (h ++ r) → k (.tuple #[.string (str (tagN l (c + 1).toNat key)), .agg (mkC 1 [] [] (c + 1) 0).cells.toArray]) st') :
    ACall (C base w0 4) 22 [.pointer (some ⟨D, 0, none⟩), .string (str l)] st k q := by
  obtain ⟨sv, m, es, clk, lv, hg, hs, rfl, hF, hS, hLo, hsv⟩ := hD
  refine ACall.of (cx := C base w0 4) mixed Tryd.func22 rfl (by kernel_rfl) (by simp [Tryd.ntmps22]) ?_
  simp only [Tryd.results22]
  simp (config := { implicitDefEqProofs := false }) only [↓GP, ↓GM, GQ, abuiltinX, ↓awp_seq, ↓awp_block, C_ex, Nat.reduceBEq, acap, afieldAddr, aload, astore, abin, anum, astr, aun, isAggD, cond_true, cond_false, ↓reduceIte, C_P, C_G, isTuple, Value.cells, setL, ares, aresL, ares1, reduceCtorEq, Nat.reduceEqDiff, eq_self, Nat.reduceAdd, if_true, if_false, Go.Abs.one, Nat.reduceLeDiff, undef, gsl, aextract, aindexAddr, amake, implies_true, forall_const, alen, abuiltin, anil, isC, Int.reduceEq, Int.reduceLT, Int.reduceLE, Int.reduceAdd, Int.reduceToNat, Int.reduceNeg, Nat.reduceMul, Nat.reduceSub, abuild, afill, Int.reduceBNe, Int.reduceBEq, aalloc, azc36]
  have hO1 := hO.new (.cells [.int .i64 0, .string ⟨#[]⟩, .string ⟨#[]⟩, .string ⟨#[]⟩, .string ⟨#[]⟩, .int .i64 0, .int .i64 0] 36 true)
  have hcd := hO.head
  have hne := hO.freshH
  unfold dcells at hcd
  have w1 : IntKind.i64.wrap (c + 1) = c + 1 := w_i64 (by omega)
  refine ADraw.of [(0, false, []), (1, false, []), (2, false, []), (3, false, []), (4, false, []), (5, false, []), (6, false, []), (7, false, []), (8, false, []), (9, false, []), (11, false, []), (12, false, []), (13, false, []), (14, true, []), (15, false, []), (16, false, []), (10, false, [14]), (17, false, []), (18, false, [])] [14] [(14, 10)] (by kernel_rfl) ?_
  simp (config := { implicitDefEqProofs := false }) only [↓GP, ↓GM, GQ, abuiltinX, ↓awp_seq, ↓awp_block, C_ex, Nat.reduceBEq, acap, afieldAddr, aload, astore, abin, anum, astr, aun, isAggD, cond_true, cond_false, ↓reduceIte, C_P, C_G, isTuple, Value.cells, setL, ares, aresL, ares1, reduceCtorEq, Nat.reduceEqDiff, eq_self, Nat.reduceAdd, if_true, if_false, Go.Abs.one, Nat.reduceLeDiff, undef, gsl, aextract, aindexAddr, amake, implies_true, forall_const, alen, abuiltin, anil, isC, Int.reduceEq, Int.reduceLT, Int.reduceLE, Int.reduceAdd, Int.reduceToNat, Int.reduceNeg, Nat.reduceMul, Nat.reduceSub, abuild, afill, Int.reduceBNe, Int.reduceBEq, hcd, hne, afo56_1, afo56_2, asz3, asz38, Tryd.underlying3, Tryd.underlying38, w1, azc36, apl36, Tryd.underlying36, List.length_cons, List.length_nil, List.set_cons_zero, List.set_cons_succ, List.getElem?_cons_zero, List.getElem?_cons_succ, Option.map_some]
  have hsub : ∀ e ∈ hs, e ∈ (D, Ob.cells (dcells R sv c m lv) 56 true) :: (m, .map es clk) :: (hg ++ hs) ++ r := fun e he => by simp [he]
  refine ACallF.enter Tryd.func13 rfl (by kernel_rfl) (Tag_spec _ _ l key (c + 1) sv ok hT hl hll (by omega) (hsv.sub fun e he => List.mem_cons_of_mem _ (hsub e he)) hkl (List.mem_cons_of_mem _ (List.mem_append_right _ hK)) hO1 _ _ fun s1 hs1 => ?_)
  have hcd1 := hs1.tail.head
  have hct := hs1.head
  unfold dcells at hcd1
  simp (config := { implicitDefEqProofs := false }) only [↓GP, ↓GM, GQ, abuiltinX, ↓awp_seq, ↓awp_block, C_ex, Nat.reduceBEq, acap, afieldAddr, aload, astore, abin, anum, astr, aun, isAggD, cond_true, cond_false, ↓reduceIte, C_P, C_G, isTuple, Value.cells, setL, ares, aresL, ares1, reduceCtorEq, Nat.reduceEqDiff, eq_self, Nat.reduceAdd, if_true, if_false, Go.Abs.one, Nat.reduceLeDiff, undef, gsl, aextract, aindexAddr, amake, implies_true, forall_const, alen, abuiltin, anil, isC, Int.reduceEq, Int.reduceLT, Int.reduceLE, Int.reduceAdd, Int.reduceToNat, Int.reduceNeg, Nat.reduceMul, Nat.reduceSub, abuild, afill, Int.reduceBNe, Int.reduceBEq, hcd1, hct, afo56_2, asz3, asz36, Tryd.underlying3, Tryd.underlying36, List.length_cons, List.length_nil, List.size_toArray, List.toList_toArray, List.all_cons, List.all_nil, Bool.and_true, cut7, Option.map_some]
  exact hk _ (hs1.set rfl (.cells _ 36 true) rfl).tail
def Rul.cells (R : Rul) : List Value := [.int .i64 R.tries, .int .i64 R.lock, .int .i64 R.life, .int .i64 R.most]
def fNbO (l : List Nat) : Fact := ⟨fun h _ V => Nb h V l, fun _ _ _ _ _ h => h⟩
def fMap0 : Fact := ⟨fun h _ V => ∃ m, h = [(m, .map [] 0)] ∧ V = .map (some m), fun _ _ _ _ _ h => h⟩
def fDskV (R : Rul) (key : List Nat) : Fact := ⟨fun h _ V => ∃ sv m hs, h = hs ++ [(m, .map [] 0)] ∧ V = .agg (dcells R sv 0 m (.slice none 0 0)).toArray ∧ Nb hs sv key, fun _ _ _ _ _ h => h⟩
def fDsk (R : Rul) (key : List Nat) : Fact := ⟨fun h _ V => ∃ D, V = .pointer (some ⟨D, 0, none⟩) ∧ Dsk D R key 0 [] [] h, fun _ _ _ _ _ h => h⟩
set_option maxRecDepth 10000 in
theorem LNew_spec (st : St) (r : Hp) (U : Rul) (key : List Nat) (sv : Value) (hR : U.ok = true) (hs : Nb r sv key) (hkl : key.length ≤ 1000) (hO : Own st r) (k q : Value → St → Prop)
    (hk : ∀ D h st', Dsk D U key 0 [] [] h → Own st' (h ++ r) → k (.tuple #[.pointer (some ⟨D, 0, none⟩), .int .i64 0]) st') :
    ACall (C base w0 G) 9 [.agg U.cells.toArray, sv] st k q := by
  refine ACall.of (cx := C base w0 G) mixed Tryd.func9 rfl (by kernel_rfl) (by simp [Tryd.ntmps9]) ?_
  simp only [Tryd.results9]
  have hO1 := hO.new (.cells U.cells 23 true)
  have hR' := of_decide_eq_true hR
  have t1 : (decide ((1 : Int) ≤ U.tries) && decide (U.tries ≤ 100)) = true := by simp; omega
  have t2 : (decide ((0 : Int) ≤ U.lock) && decide (U.lock ≤ 86400000)) = true := by simp; omega
  have t3 : (decide ((1 : Int) ≤ U.life) && decide (U.life ≤ 86400000)) = true := by simp; omega
  have t4 : (decide ((1 : Int) ≤ U.most) && decide (U.most ≤ 1000)) = true := by simp; omega
  have hc := hO1.head
  unfold Rul.cells at hc
  simp (config := { implicitDefEqProofs := false }) only [↓GP, ↓GM, GQ, abuiltinX, ↓awp_seq, ↓awp_block, C_ex, Nat.reduceBEq, acap, afieldAddr, aload, astore, abin, anum, astr, aun, isAggD, cond_true, cond_false, ↓reduceIte, C_P, C_G, isTuple, Value.cells, setL, ares, aresL, ares1, reduceCtorEq, Nat.reduceEqDiff, eq_self, Nat.reduceAdd, if_true, if_false, Go.Abs.one, Nat.reduceLeDiff, undef, gsl, aextract, aindexAddr, amake, implies_true, forall_const, alen, abuiltin, anil, isC, Int.reduceEq, Int.reduceLT, Int.reduceLE, Int.reduceAdd, Int.reduceToNat, Int.reduceNeg, Nat.reduceMul, Nat.reduceSub, abuild, afill, Int.reduceBNe, Int.reduceBEq, abox, Rul.cells, hc, afo23_0, asz3, Tryd.underlying3]
  refine ACallF.enter Tryd.func18 rfl (by kernel_rfl) (Lin_spec _ _ _ _ _ _ ?_)
  rw [t1]
  simp (config := { implicitDefEqProofs := false }) only [↓GP, ↓GM, GQ, abuiltinX, ↓awp_seq, ↓awp_block, C_ex, Nat.reduceBEq, acap, afieldAddr, aload, astore, abin, anum, astr, aun, isAggD, cond_true, cond_false, ↓reduceIte, C_P, C_G, isTuple, Value.cells, setL, ares, aresL, ares1, reduceCtorEq, Nat.reduceEqDiff, eq_self, Nat.reduceAdd, if_true, if_false, Go.Abs.one, Nat.reduceLeDiff, undef, gsl, aextract, aindexAddr, amake, implies_true, forall_const, alen, abuiltin, anil, isC, Int.reduceEq, Int.reduceLT, Int.reduceLE, Int.reduceAdd, Int.reduceToNat, Int.reduceNeg, Nat.reduceMul, Nat.reduceSub, abuild, afill, Int.reduceBNe, Int.reduceBEq, hc, afo23_1, asz3, Tryd.underlying3]
  refine ACallF.enter Tryd.func18 rfl (by kernel_rfl) (Lin_spec _ _ _ _ _ _ ?_)
  rw [t2]
  simp (config := { implicitDefEqProofs := false }) only [↓GP, ↓GM, GQ, abuiltinX, ↓awp_seq, ↓awp_block, C_ex, Nat.reduceBEq, acap, afieldAddr, aload, astore, abin, anum, astr, aun, isAggD, cond_true, cond_false, ↓reduceIte, C_P, C_G, isTuple, Value.cells, setL, ares, aresL, ares1, reduceCtorEq, Nat.reduceEqDiff, eq_self, Nat.reduceAdd, if_true, if_false, Go.Abs.one, Nat.reduceLeDiff, undef, gsl, aextract, aindexAddr, amake, implies_true, forall_const, alen, abuiltin, anil, isC, Int.reduceEq, Int.reduceLT, Int.reduceLE, Int.reduceAdd, Int.reduceToNat, Int.reduceNeg, Nat.reduceMul, Nat.reduceSub, abuild, afill, Int.reduceBNe, Int.reduceBEq, hc, afo23_2, asz3, Tryd.underlying3]
  refine ACallF.enter Tryd.func18 rfl (by kernel_rfl) (Lin_spec _ _ _ _ _ _ ?_)
  rw [t3]
  simp (config := { implicitDefEqProofs := false }) only [↓GP, ↓GM, GQ, abuiltinX, ↓awp_seq, ↓awp_block, C_ex, Nat.reduceBEq, acap, afieldAddr, aload, astore, abin, anum, astr, aun, isAggD, cond_true, cond_false, ↓reduceIte, C_P, C_G, isTuple, Value.cells, setL, ares, aresL, ares1, reduceCtorEq, Nat.reduceEqDiff, eq_self, Nat.reduceAdd, if_true, if_false, Go.Abs.one, Nat.reduceLeDiff, undef, gsl, aextract, aindexAddr, amake, implies_true, forall_const, alen, abuiltin, anil, isC, Int.reduceEq, Int.reduceLT, Int.reduceLE, Int.reduceAdd, Int.reduceToNat, Int.reduceNeg, Nat.reduceMul, Nat.reduceSub, abuild, afill, Int.reduceBNe, Int.reduceBEq, hc, afo23_3, asz3, Tryd.underlying3]
  refine ACallF.enter Tryd.func18 rfl (by kernel_rfl) (Lin_spec _ _ _ _ _ _ ?_)
  rw [t4]
  simp (config := { implicitDefEqProofs := false }) only [↓GP, ↓GM, GQ, abuiltinX, ↓awp_seq, ↓awp_block, C_ex, Nat.reduceBEq, acap, afieldAddr, aload, astore, abin, anum, astr, aun, isAggD, cond_true, cond_false, ↓reduceIte, C_P, C_G, isTuple, Value.cells, setL, ares, aresL, ares1, reduceCtorEq, Nat.reduceEqDiff, eq_self, Nat.reduceAdd, if_true, if_false, Go.Abs.one, Nat.reduceLeDiff, undef, gsl, aextract, aindexAddr, amake, implies_true, forall_const, alen, abuiltin, anil, isC, Int.reduceEq, Int.reduceLT, Int.reduceLE, Int.reduceAdd, Int.reduceToNat, Int.reduceNeg, Nat.reduceMul, Nat.reduceSub, abuild, afill, Int.reduceBNe, Int.reduceBEq]
  have hmR : (st.n, Ob.cells U.cells 23 true) ∈ (st.n, Ob.cells U.cells 23 true) :: r := List.mem_cons_self ..
  have hcut4 : ∀ a b c d : Value, cut [a, b, c, d] 0 4 = some [a, b, c, d] := fun _ _ _ _ => rfl
  refine ADraw.facts [some 28, some 29, some 30, some 31, some 32, some 33, some 4, some 5] [[], [], [1], [], [0, 1, 2, 3], [0, 1, 2, 3, 4], [0, 1, 2, 3, 4, 5], [0, 1, 2, 3, 4, 5, 6]] [[], [], [], [], [2, 3], [4], [5], []] [.eq (.agg U.cells.toArray), .eq sv, fNbO key, fMap0, fDskV U key, fDsk U key, fDsk U key, .eq (.int .i64 0)] [6] hO1 (by kernel_rfl) (Steps.cons ?_ (Steps.cons ?_ (Steps.cons ?_ (Steps.cons ?_ (Steps.cons ?_ (Steps.cons ?_ (Steps.cons ?_ (Steps.cons ?_ Steps.nil)))))))) ?_
  · intro ρ s ow R X hB0 hF0 hP0 hO hX0 hR0
    have b2 := (hB0 2 rfl).trans rfl
    replace hO : Own s X := hO
    have hcr := hO.get (hX0 _ (hR0 _ hmR))
    unfold Rul.cells at hcr
    simp (config := { implicitDefEqProofs := false }) only [↓GP, ↓GM, GQ, abuiltinX, ↓awp_seq, ↓awp_block, C_ex, Nat.reduceBEq, acap, afieldAddr, aload, astore, abin, anum, astr, aun, isAggD, cond_true, cond_false, ↓reduceIte, C_P, C_G, isTuple, Value.cells, setL, ares, aresL, ares1, reduceCtorEq, Nat.reduceEqDiff, eq_self, Nat.reduceAdd, if_true, if_false, Go.Abs.one, Nat.reduceLeDiff, undef, gsl, aextract, aindexAddr, amake, implies_true, forall_const, alen, abuiltin, anil, isC, Int.reduceEq, Int.reduceLT, Int.reduceLE, Int.reduceAdd, Int.reduceToNat, Int.reduceNeg, Nat.reduceMul, Nat.reduceSub, abuild, afill, Int.reduceBNe, Int.reduceBEq, b2, hcr, asz23, Tryd.underlying23, hcut4, Option.map_some]
    exact Gives.here hO ⟨rfl, rfl⟩
  · intro ρ s ow R X hB0 hF0 hP0 hO hX0 hR0
    have b1 := (hB0 1 rfl).trans rfl
    replace hO : Own s X := hO
    simp (config := { implicitDefEqProofs := false }) only [↓GP, ↓GM, GQ, abuiltinX, ↓awp_seq, ↓awp_block, C_ex, Nat.reduceBEq, acap, afieldAddr, aload, astore, abin, anum, astr, aun, isAggD, cond_true, cond_false, ↓reduceIte, C_P, C_G, isTuple, Value.cells, setL, ares, aresL, ares1, reduceCtorEq, Nat.reduceEqDiff, eq_self, Nat.reduceAdd, if_true, if_false, Go.Abs.one, Nat.reduceLeDiff, undef, gsl, aextract, aindexAddr, amake, implies_true, forall_const, alen, abuiltin, anil, isC, Int.reduceEq, Int.reduceLT, Int.reduceLE, Int.reduceAdd, Int.reduceToNat, Int.reduceNeg, Nat.reduceMul, Nat.reduceSub, abuild, afill, Int.reduceBNe, Int.reduceBEq, b1]
    exact Gives.here hO ⟨rfl, rfl⟩
  · intro ρ s ow R X hB0 hF0 hP0 hO hX0 hR0
    have g1 : ρ 29 = sv := (hF0 1 29 rfl rfl).2
    replace hO : Own s X := hO
    simp (config := { implicitDefEqProofs := false }) only [↓GP, ↓GM, GQ, abuiltinX, ↓awp_seq, ↓awp_block, C_ex, Nat.reduceBEq, acap, afieldAddr, aload, astore, abin, anum, astr, aun, isAggD, cond_true, cond_false, ↓reduceIte, C_P, C_G, isTuple, Value.cells, setL, ares, aresL, ares1, reduceCtorEq, Nat.reduceEqDiff, eq_self, Nat.reduceAdd, if_true, if_false, Go.Abs.one, Nat.reduceLeDiff, undef, gsl, aextract, aindexAddr, amake, implies_true, forall_const, alen, abuiltin, anil, isC, Int.reduceEq, Int.reduceLT, Int.reduceLE, Int.reduceAdd, Int.reduceToNat, Int.reduceNeg, Nat.reduceMul, Nat.reduceSub, abuild, afill, Int.reduceBNe, Int.reduceBEq, g1]
    refine ACallF.enter Tryd.func19 rfl (by kernel_rfl) (BClone_spec s _ sv key (hs.sub fun e he => hX0 _ (hR0 _ (List.mem_cons_of_mem _ he))) (by omega) hO _ _ fun v' hs' st' e1 e2 => ?_)
    exact Gives.own hs' e2 e1
  · intro ρ s ow R X hB0 hF0 hP0 hO hX0 hR0
    replace hO : Own s X := hO
    simp (config := { implicitDefEqProofs := false }) only [↓GP, ↓GM, GQ, abuiltinX, ↓awp_seq, ↓awp_block, C_ex, Nat.reduceBEq, acap, afieldAddr, aload, astore, abin, anum, astr, aun, isAggD, cond_true, cond_false, ↓reduceIte, C_P, C_G, isTuple, Value.cells, setL, ares, aresL, ares1, reduceCtorEq, Nat.reduceEqDiff, eq_self, Nat.reduceAdd, if_true, if_false, Go.Abs.one, Nat.reduceLeDiff, undef, gsl, aextract, aindexAddr, amake, implies_true, forall_const, alen, abuiltin, anil, isC, Int.reduceEq, Int.reduceLT, Int.reduceLE, Int.reduceAdd, Int.reduceToNat, Int.reduceNeg, Nat.reduceMul, Nat.reduceSub, abuild, afill, Int.reduceBNe, Int.reduceBEq]
    simp (config := { implicitDefEqProofs := false }) only [amakeMap, alet_some, stop2]
    exact Gives.own [(s.n, .map [] 0)] (hO.new _) ⟨_, rfl, rfl⟩
  · intro ρ s ow R X hB0 hF0 hP0 hO hX0 hR0
    have g0 : ρ 28 = (.agg U.cells.toArray) := (hF0 0 28 rfl rfl).2
    have g2 : Fact.is (fNbO key) (ow 2) R (ρ 30) := hF0 2 30 rfl rfl
    have g3 : Fact.is fMap0 (ow 3) R (ρ 31) := hF0 3 31 rfl rfl
    simp only [List.getD_cons_zero, List.getD_cons_succ, List.flatMap_cons, List.flatMap_nil, List.append_nil] at hO
    obtain ⟨a3, c3, e30⟩ := (show Nb (ow 2) (ρ 30) key from g2).isSlice
    obtain ⟨m, e3, e31⟩ := g3
    unfold Rul.cells at g0
    simp (config := { implicitDefEqProofs := false }) only [↓GP, ↓GM, GQ, abuiltinX, ↓awp_seq, ↓awp_block, C_ex, Nat.reduceBEq, acap, afieldAddr, aload, astore, abin, anum, astr, aun, isAggD, cond_true, cond_false, ↓reduceIte, C_P, C_G, isTuple, Value.cells, setL, ares, aresL, ares1, reduceCtorEq, Nat.reduceEqDiff, eq_self, Nat.reduceAdd, if_true, if_false, Go.Abs.one, Nat.reduceLeDiff, undef, gsl, aextract, aindexAddr, amake, implies_true, forall_const, alen, abuiltin, anil, isC, Int.reduceEq, Int.reduceLT, Int.reduceLE, Int.reduceAdd, Int.reduceToNat, Int.reduceNeg, Nat.reduceMul, Nat.reduceSub, abuild, afill, Int.reduceBNe, Int.reduceBEq, g0, e30, e31, azc56, apl56, Tryd.underlying56, List.length_cons, List.length_nil, List.size_toArray, List.toList_toArray, Option.map_some]
    refine Gives.own (ow 2 ++ ow 3) hO ⟨ρ 30, m, ow 2, by rw [e3], by rw [e30]; rfl, g2⟩
  · intro ρ s ow R X hB0 hF0 hP0 hO hX0 hR0
    have g4 : Fact.is (fDskV U key) (ow 4) R (ρ 32) := hF0 4 32 rfl rfl
    simp only [List.getD_cons_zero, List.getD_cons_succ, List.flatMap_cons, List.flatMap_nil, List.append_nil] at hO
    obtain ⟨sv', m, hs', e4, e32, hnb⟩ := g4
    unfold dcells at e32
    obtain ⟨a3, c3, e33⟩ := hnb.isSlice
    subst e33
    simp (config := { implicitDefEqProofs := false }) only [↓GP, ↓GM, GQ, abuiltinX, ↓awp_seq, ↓awp_block, C_ex, Nat.reduceBEq, acap, afieldAddr, aload, astore, abin, anum, astr, aun, isAggD, cond_true, cond_false, ↓reduceIte, C_P, C_G, isTuple, Value.cells, setL, ares, aresL, ares1, reduceCtorEq, Nat.reduceEqDiff, eq_self, Nat.reduceAdd, if_true, if_false, Go.Abs.one, Nat.reduceLeDiff, undef, gsl, aextract, aindexAddr, amake, implies_true, forall_const, alen, abuiltin, anil, isC, Int.reduceEq, Int.reduceLT, Int.reduceLE, Int.reduceAdd, Int.reduceToNat, Int.reduceNeg, Nat.reduceMul, Nat.reduceSub, abuild, afill, Int.reduceBNe, Int.reduceBEq, e32, abox, asz56, List.length_cons, List.length_nil, List.size_toArray, List.toList_toArray]
    refine Gives.own ((s.n, Ob.cells (dcells U (.slice a3 key.length c3) 0 m (.slice none 0 0)) 56 true) :: (m, .map [] 0) :: ([] ++ hs')) ?_ ⟨s.n, rfl, .slice a3 key.length c3, m, [], 0, .slice none 0 0, [], hs', rfl, MRelS.nil, .inl ⟨rfl, rfl, rfl⟩, fun s hs => by simp at hs, hnb⟩
    rw [e4] at hO
    have := hO.new (.cells (dcells U (.slice a3 key.length c3) 0 m (.slice none 0 0)) 56 true)
    have h1 : (hs' ++ [(m, Ob.map [] 0)] ++ X) = hs' ++ ((m, Ob.map [] 0) :: X) := by simp
    rw [h1] at this
    exact this.perm (List.Perm.cons _ (perm_front hs' (m, Ob.map [] 0) X))
  · intro ρ s ow R X hB0 hF0 hP0 hO hX0 hR0
    have g5 : Fact.is (fDsk U key) (ow 5) R (ρ 33) := hF0 5 33 rfl rfl
    simp only [List.getD_cons_zero, List.getD_cons_succ, List.flatMap_cons, List.flatMap_nil, List.append_nil] at hO
    simp (config := { implicitDefEqProofs := false }) only [↓GP, ↓GM, GQ, abuiltinX, ↓awp_seq, ↓awp_block, C_ex, Nat.reduceBEq, acap, afieldAddr, aload, astore, abin, anum, astr, aun, isAggD, cond_true, cond_false, ↓reduceIte, C_P, C_G, isTuple, Value.cells, setL, ares, aresL, ares1, reduceCtorEq, Nat.reduceEqDiff, eq_self, Nat.reduceAdd, if_true, if_false, Go.Abs.one, Nat.reduceLeDiff, undef, gsl, aextract, aindexAddr, amake, implies_true, forall_const, alen, abuiltin, anil, isC, Int.reduceEq, Int.reduceLT, Int.reduceLE, Int.reduceAdd, Int.reduceToNat, Int.reduceNeg, Nat.reduceMul, Nat.reduceSub, abuild, afill, Int.reduceBNe, Int.reduceBEq]
    exact Gives.own (ow 5) hO g5
  · intro ρ s ow R X hB0 hF0 hP0 hO hX0 hR0
    replace hO : Own s X := hO
    simp (config := { implicitDefEqProofs := false }) only [↓GP, ↓GM, GQ, abuiltinX, ↓awp_seq, ↓awp_block, C_ex, Nat.reduceBEq, acap, afieldAddr, aload, astore, abin, anum, astr, aun, isAggD, cond_true, cond_false, ↓reduceIte, C_P, C_G, isTuple, Value.cells, setL, ares, aresL, ares1, reduceCtorEq, Nat.reduceEqDiff, eq_self, Nat.reduceAdd, if_true, if_false, Go.Abs.one, Nat.reduceLeDiff, undef, gsl, aextract, aindexAddr, amake, implies_true, forall_const, alen, abuiltin, anil, isC, Int.reduceEq, Int.reduceLT, Int.reduceLE, Int.reduceAdd, Int.reduceToNat, Int.reduceNeg, Nat.reduceMul, Nat.reduceSub, abuild, afill, Int.reduceBNe, Int.reduceBEq]
    exact Gives.here hO ⟨rfl, rfl⟩
  · intro ρ s ow R hB0 hF0 hO hR0
    have b1 := (hB0 1 rfl).trans rfl
    have b2 := (hB0 2 rfl).trans rfl
    have g6 : Fact.is (fDsk U key) (ow 6) R (ρ 4) := hF0 6 4 rfl rfl
    have g7 : ρ 5 = (.int .i64 0) := (hF0 7 5 rfl rfl).2
    simp only [List.flatMap_cons, List.flatMap_nil, List.append_nil, List.nil_append] at hO
    obtain ⟨D, e4, hD⟩ := g6
    simp (config := { implicitDefEqProofs := false }) only [↓GP, ↓GM, GQ, abuiltinX, ↓awp_seq, ↓awp_block, C_ex, Nat.reduceBEq, acap, afieldAddr, aload, astore, abin, anum, astr, aun, isAggD, cond_true, cond_false, ↓reduceIte, C_P, C_G, isTuple, Value.cells, setL, ares, aresL, ares1, reduceCtorEq, Nat.reduceEqDiff, eq_self, Nat.reduceAdd, if_true, if_false, Go.Abs.one, Nat.reduceLeDiff, undef, gsl, aextract, aindexAddr, amake, implies_true, forall_const, alen, abuiltin, anil, isC, Int.reduceEq, Int.reduceLT, Int.reduceLE, Int.reduceAdd, Int.reduceToNat, Int.reduceNeg, Nat.reduceMul, Nat.reduceSub, abuild, afill, Int.reduceBNe, Int.reduceBEq, g7, e4]
    exact hk D (ow 6) s hD (hO.back (fun e he => hR0 _ (List.mem_cons_of_mem _ he)) hO1.tail)
end Go.Proofs.YthohmdkibkompaaDoor
