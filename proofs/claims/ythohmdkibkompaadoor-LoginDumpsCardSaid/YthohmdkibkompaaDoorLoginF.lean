/- The desk: whose a session is; a try. No conditions. -/
import Derived.Test.YthohmdkibkompaaDoorLoginE
set_option linter.unusedVariables false
set_option linter.unusedSimpArgs false
namespace Go.Proofs.YthohmdkibkompaaDoor
open Go Go.Abs Go.RowKit
variable {base : Nat} {w0 : World} {G : Nat}

def whoF (U : Rul) (L : List Ses) (id : List Nat) (now : Int) : List Nat × Int × Bool :=
  match L[fnd (isId id) L]? with
  | some s => bif mok now && lv U.life now s then (s.who, s.at_, true) else ([], 0, false)
  | none => ([], 0, false)
def whoV (x : List Nat × Int × Bool) : Value := .tuple #[.string (str x.1), .int .i64 x.2.1, .bool x.2.2]
theorem dsk_mem {D : Nat} {U : Rul} {key : List Nat} {c : Int} {F : Fails} {L : List Ses} {h r : Hp} (hD : Dsk D U key c F L h) : ∃ sv m l, (D, Ob.cells (dcells U sv c m l) 56 true) ∈ h ++ r ∧ SL (h ++ r) l L := by
  obtain ⟨sv, m, es, clk, l, hg, hs, rfl, hF, hS, hLo, hsv⟩ := hD
  refine ⟨sv, m, l, by simp, ?_⟩
  have := hS.sl (r := []) hLo
  exact ⟨this.1.sub fun e he => by simp at he ⊢; exact .inr (.inr (.inl he)), this.2⟩
theorem dsk_map {D : Nat} {U : Rul} {key : List Nat} {c : Int} {F : Fails} {L : List Ses} {h r : Hp} (hD : Dsk D U key c F L h) : ∃ sv m l es clk, (D, Ob.cells (dcells U sv c m l) 56 true) ∈ h ++ r ∧ (m, Ob.map es clk) ∈ h ++ r ∧ MRelS failV es clk F ∧ SL (h ++ r) l L := by
  obtain ⟨sv, m, es, clk, l, hg, hs, rfl, hF, hS, hLo, hsv⟩ := hD
  refine ⟨sv, m, l, es, clk, by simp, by simp, hF, ?_⟩
  have := hS.sl (r := []) hLo
  exact ⟨this.1.sub fun e he => by simp at he ⊢; exact .inr (.inr (.inl he)), this.2⟩
set_option maxRecDepth 10000 in
theorem LWho_spec (st : St) (r h : Hp) (D : Nat) (U : Rul) (key : List Nat) (c now : Int) (F : Fails) (L : List Ses) (id : List Nat) (hU : U.ok = true) (hid : Bt id) (hn : L.length ≤ 100000) (hD : Dsk D U key c F L h) (hO : Own st (h ++ r)) (k q : Value → St → Prop)
    (hk : ∀ st', Own st' (h ++ r) → k (whoV (whoF U L id now)) st') :
    ACall (C base w0 G) 12 [.pointer (some ⟨D, 0, none⟩), .string (str id), .int .i64 now] st k q := by
  obtain ⟨sv, m, l, hm, hL⟩ := dsk_mem (r := r) hD
  obtain ⟨a, cp, hls, _⟩ := hL.1.isSlice
  rw [List.length_map] at hls
  refine ACall.of (cx := C base w0 G) mixed Tryd.func12 rfl (by kernel_rfl) (by simp [Tryd.ntmps12]) ?_
  simp only [Tryd.results12]
  simp (config := { implicitDefEqProofs := false }) only [↓GP, ↓GM, GQ, abuiltinX, ↓awp_seq, ↓awp_block, C_ex, Nat.reduceBEq, acap, afieldAddr, aload, astore, abin, anum, astr, aun, isAggD, cond_true, cond_false, ↓reduceIte, C_P, C_G, isTuple, Value.cells, setL, ares, aresL, ares1, reduceCtorEq, Nat.reduceEqDiff, eq_self, Nat.reduceAdd, if_true, if_false, Go.Abs.one, Nat.reduceLeDiff, undef, gsl, aextract, aindexAddr, amake, implies_true, forall_const, alen, abuiltin, anil, isC, Int.reduceEq, Int.reduceLT, Int.reduceLE, Int.reduceAdd, Int.reduceToNat, Int.reduceNeg, Nat.reduceMul, Nat.reduceSub, abuild, afill, Int.reduceBNe, Int.reduceBEq]
  refine ACallF.enter Tryd.func24 rfl (by kernel_rfl) (Lfind_spec st _ D m U sv l c L id hid hL hn hm hO _ _ fun s1 hO1 => ?_)
  have hfl := fnd_le (isId id) L
  by_cases hf : fnd (isId id) L < L.length
  · have hV : idxV (isId id) L = (fnd (isId id) L : Int) := by rw [idxV, if_pos hf]
    rw [hV]
    have hw : whoF U L id now = bif mok now && lv U.life now L[fnd (isId id) L] then (L[fnd (isId id) L].who, L[fnd (isId id) L].at_, true) else ([], 0, false) := by
      rw [whoF, List.getElem?_eq_getElem hf]
    obtain ⟨x, o, sp, c', cs, ty, own, hvx, hmem, hcut⟩ := hL.1.mem (i := fnd (isId id) L) (l := (L[fnd (isId id) L]).cells) (by simp [hf])
    rw [List.length_map] at hvx
    have hok := hL.2 _ (List.getElem_mem hf)
    generalize L[fnd (isId id) L] = S at *
    generalize fnd (isId id) L = f at *
    simp (config := { implicitDefEqProofs := false }) only [↓GP, ↓GM, GQ, abuiltinX, ↓awp_seq, ↓awp_block, C_ex, Nat.reduceBEq, acap, afieldAddr, aload, astore, abin, anum, astr, aun, isAggD, cond_true, cond_false, ↓reduceIte, C_P, C_G, isTuple, Value.cells, setL, ares, aresL, ares1, reduceCtorEq, Nat.reduceEqDiff, eq_self, Nat.reduceAdd, if_true, if_false, Go.Abs.one, Nat.reduceLeDiff, undef, gsl, aextract, aindexAddr, amake, implies_true, forall_const, alen, abuiltin, anil, isC, Int.reduceEq, Int.reduceLT, Int.reduceLE, Int.reduceAdd, Int.reduceToNat, Int.reduceNeg, Nat.reduceMul, Nat.reduceSub, abuild, afill, Int.reduceBNe, Int.reduceBEq, show ¬ (f : Int) < 0 by omega, decide_false]
    refine ACallF.enter Tryd.func20 rfl (by kernel_rfl) (Lmoments_spec s1 _ now hO1 _ _ fun s2 hO2 => ?_)
    have hcd := hO2.get hm
    have hcx := hO2.get hmem
    unfold dcells at hcd
    rw [hvx] at hcd
    cases hmo : mok now with
    | false =>
      rw [hmo, Bool.false_and, cond_false] at hw
      rw [hw] at hk
      simp (config := { implicitDefEqProofs := false }) only [↓GP, ↓GM, GQ, abuiltinX, ↓awp_seq, ↓awp_block, C_ex, Nat.reduceBEq, acap, afieldAddr, aload, astore, abin, anum, astr, aun, isAggD, cond_true, cond_false, ↓reduceIte, C_P, C_G, isTuple, Value.cells, setL, ares, aresL, ares1, reduceCtorEq, Nat.reduceEqDiff, eq_self, Nat.reduceAdd, if_true, if_false, Go.Abs.one, Nat.reduceLeDiff, undef, gsl, aextract, aindexAddr, amake, implies_true, forall_const, alen, abuiltin, anil, isC, Int.reduceEq, Int.reduceLT, Int.reduceLE, Int.reduceAdd, Int.reduceToNat, Int.reduceNeg, Nat.reduceMul, Nat.reduceSub, abuild, afill, Int.reduceBNe, Int.reduceBEq, Bool.not_false]
      exact hk _ hO2
    | true =>
      rw [hmo, Bool.true_and] at hw
      simp (config := { implicitDefEqProofs := false }) only [↓GP, ↓GM, GQ, abuiltinX, ↓awp_seq, ↓awp_block, C_ex, Nat.reduceBEq, acap, afieldAddr, aload, astore, abin, anum, astr, aun, isAggD, cond_true, cond_false, ↓reduceIte, C_P, C_G, isTuple, Value.cells, setL, ares, aresL, ares1, reduceCtorEq, Nat.reduceEqDiff, eq_self, Nat.reduceAdd, if_true, if_false, Go.Abs.one, Nat.reduceLeDiff, undef, gsl, aextract, aindexAddr, amake, implies_true, forall_const, alen, abuiltin, anil, isC, Int.reduceEq, Int.reduceLT, Int.reduceLE, Int.reduceAdd, Int.reduceToNat, Int.reduceNeg, Nat.reduceMul, Nat.reduceSub, abuild, afill, Int.reduceBNe, Int.reduceBEq, Bool.not_true, hcd, hcx, hcut, afo56_4, asz54, Tryd.underlying54, asz64, Tryd.underlying64, hf, Int.ofNat_lt, Option.map_some]
      refine ⟨by omega, ?_⟩
      refine ACallF.enter Tryd.func25 rfl (by kernel_rfl) (Llives_spec s2 _ D m U sv l c now S hU hok hm hO2 _ _ fun s3 hO3 => ?_)
      have hcd := hO3.get hm
      have hcx := hO3.get hmem
      have g1 := cut_get hcut (j := 1) (by decide)
      have g2 := cut_get hcut (j := 2) (by decide)
      unfold dcells at hcd
      rw [hvx] at hcd
      unfold Ses.cells at g1 g2
      simp only [List.getElem?_cons_zero, List.getElem?_cons_succ] at g1 g2
      cases hl : lv U.life now S with
      | false =>
        rw [hl, cond_false] at hw
        rw [hw] at hk
        simp (config := { implicitDefEqProofs := false }) only [↓GP, ↓GM, GQ, abuiltinX, ↓awp_seq, ↓awp_block, C_ex, Nat.reduceBEq, acap, afieldAddr, aload, astore, abin, anum, astr, aun, isAggD, cond_true, cond_false, ↓reduceIte, C_P, C_G, isTuple, Value.cells, setL, ares, aresL, ares1, reduceCtorEq, Nat.reduceEqDiff, eq_self, Nat.reduceAdd, if_true, if_false, Go.Abs.one, Nat.reduceLeDiff, undef, gsl, aextract, aindexAddr, amake, implies_true, forall_const, alen, abuiltin, anil, isC, Int.reduceEq, Int.reduceLT, Int.reduceLE, Int.reduceAdd, Int.reduceToNat, Int.reduceNeg, Nat.reduceMul, Nat.reduceSub, abuild, afill, Int.reduceBNe, Int.reduceBEq, Bool.not_false]
        exact hk _ hO3
      | true =>
        rw [hl, cond_true] at hw
        rw [hw] at hk
        simp (config := { implicitDefEqProofs := false }) only [↓GP, ↓GM, GQ, abuiltinX, ↓awp_seq, ↓awp_block, C_ex, Nat.reduceBEq, acap, afieldAddr, aload, astore, abin, anum, astr, aun, isAggD, cond_true, cond_false, ↓reduceIte, C_P, C_G, isTuple, Value.cells, setL, ares, aresL, ares1, reduceCtorEq, Nat.reduceEqDiff, eq_self, Nat.reduceAdd, if_true, if_false, Go.Abs.one, Nat.reduceLeDiff, undef, gsl, aextract, aindexAddr, amake, implies_true, forall_const, alen, abuiltin, anil, isC, Int.reduceEq, Int.reduceLT, Int.reduceLE, Int.reduceAdd, Int.reduceToNat, Int.reduceNeg, Nat.reduceMul, Nat.reduceSub, abuild, afill, Int.reduceBNe, Int.reduceBEq, Bool.not_true]
        refine ADraw.of [(0, false, []), (1, false, []), (2, false, []), (3, false, []), (4, false, []), (5, false, []), (6, false, []), (7, false, []), (8, false, []), (9, false, []), (10, false, []), (11, false, []), (12, false, []), (13, false, []), (14, false, []), (15, false, []), (16, false, []), (17, false, []), (18, false, [])] [] [] (by kernel_rfl) ?_
        simp (config := { implicitDefEqProofs := false }) only [↓GP, ↓GM, GQ, abuiltinX, ↓awp_seq, ↓awp_block, C_ex, Nat.reduceBEq, acap, afieldAddr, aload, astore, abin, anum, astr, aun, isAggD, cond_true, cond_false, ↓reduceIte, C_P, C_G, isTuple, Value.cells, setL, ares, aresL, ares1, reduceCtorEq, Nat.reduceEqDiff, eq_self, Nat.reduceAdd, if_true, if_false, Go.Abs.one, Nat.reduceLeDiff, undef, gsl, aextract, aindexAddr, amake, implies_true, forall_const, alen, abuiltin, anil, isC, Int.reduceEq, Int.reduceLT, Int.reduceLE, Int.reduceAdd, Int.reduceToNat, Int.reduceNeg, Nat.reduceMul, Nat.reduceSub, abuild, afill, Int.reduceBNe, Int.reduceBEq, hcd, hcx, g1, g2, afo56_4, afo64_1, afo64_2, asz54, asz64, asz3, asz9, Tryd.underlying3, Tryd.underlying9, Tryd.underlying54, Tryd.underlying64, hf, Int.ofNat_lt]
        exact ⟨by omega, by omega, hk _ hO3⟩
  · have hV : idxV (isId id) L = -1 := by rw [idxV, if_neg hf]
    have hw : whoF U L id now = ([], 0, false) := by rw [whoF, List.getElem?_eq_none (by omega)]
    rw [hV]
    rw [hw] at hk
    simp (config := { implicitDefEqProofs := false }) only [↓GP, ↓GM, GQ, abuiltinX, ↓awp_seq, ↓awp_block, C_ex, Nat.reduceBEq, acap, afieldAddr, aload, astore, abin, anum, astr, aun, isAggD, cond_true, cond_false, ↓reduceIte, C_P, C_G, isTuple, Value.cells, setL, ares, aresL, ares1, reduceCtorEq, Nat.reduceEqDiff, eq_self, Nat.reduceAdd, if_true, if_false, Go.Abs.one, Nat.reduceLeDiff, undef, gsl, aextract, aindexAddr, amake, implies_true, forall_const, alen, abuiltin, anil, isC, Int.reduceEq, Int.reduceLT, Int.reduceLE, Int.reduceAdd, Int.reduceToNat, Int.reduceNeg, Nat.reduceMul, Nat.reduceSub, abuild, afill, Int.reduceBNe, Int.reduceBEq, decide_true]
    exact hk _ hO1
def gF (F : Fails) (name : List Nat) : Int × Int := (mget name F).getD (0, 0)
def roomF (U : Rul) (L : List Ses) (now : Int) : Bool := decide (((L.filter (lv U.life now)).length : Int) < U.most)
def failN (U : Rul) (f : Int × Int) : Int := if f.1 ≥ U.tries then 1 else f.1 + 1
def failC (U : Rul) (f : Int × Int) (name : List Nat) (now : Int) : Chg := mkC 2 name [] (failN U f) (if failN U f = U.tries then now + U.lock else 0)
def tagS (c : Int) (key : List Nat) : List Nat := tagN [115] (c + 1).toNat key
def okC (f : Int × Int) (c : Int) (key name : List Nat) (now : Int) : List Chg :=
  (if f.1 > 0 then [mkC 2 name [] 0 0] else []) ++ [mkC 1 [] [] (c + 1) 0, mkC 3 (tagS c key) name now 0]
/-- A try: the changes, the id, the error. -/
def tryF (U : Rul) (key : List Nat) (c : Int) (F : Fails) (L : List Ses) (name : List Nat) (good : Bool) (now : Int) : List Chg × List Nat × Int :=
  if mok now = false then ([], [], 21)
  else if (gF F name).2 > now then ([], [], 71)
  else if good = false then ([failC U (gF F name) name now], [], 70)
  else if roomF U L now = false then ([], [], 51)
  else (okC (gF F name) c key name now, tagS c key, 0)
def CL' (r : Hp) (v : Value) (cs : List Chg) : Prop := Rws r v 7 (cs.map Chg.cells)
theorem gF_ok {F : Fails} (h : Fails.ok F) (name : List Nat) : -9223372036854775808 ≤ (gF F name).1 ∧ (gF F name).1 ≤ 1152921504606846976 ∧ -9223372036854775808 ≤ (gF F name).2 ∧ (gF F name).2 ≤ 9223372036854775807 := by
  unfold gF
  induction F with
  | nil => simp [mget]
  | cons x F ih =>
    obtain ⟨a, v⟩ := x
    unfold mget
    split
    · exact h (a, v) (List.mem_cons_self ..)
    · exact ih fun y hy => h y (List.mem_cons_of_mem _ hy)
theorem akM : amkey Tryd.prog 53 = some (.string, 58) := by kernel_rfl
theorem azM : azv Tryd.prog 58 = some (failV (0, 0)) := by kernel_rfl
theorem Rws.one_of {b n : Nat} {x : List Value} {ty : TypeId} {own : Bool} {h : Hp} {sp : Option Nat} {c : Nat} (hn : x.length = n) (hm : (b, Ob.cells x ty own) ∈ h) : Rws h (.slice (some ⟨b, 0, sp⟩) 1 c) n [x] :=
  .inr ⟨b, 0, sp, c, x, ty, own, rfl, hm, fun i l hi => by
    cases i with
    | zero => simp at hi; subst hi; rw [Nat.zero_mul, Nat.zero_add, ← hn]; exact cut_all x
    | succ i => simp at hi⟩
theorem flatten_cut {n : Nat} : ∀ (rows : List (List Value)) (T : List Value) (i : Nat) (x : List Value), (∀ x ∈ rows, x.length = n) → rows[i]? = some x → ((rows.flatten ++ T).drop (i * n)).take n = x ∧ i * n + n ≤ (rows.flatten ++ T).length
  | [], T, i, x, h, hi => by simp at hi
  | y :: rows, T, 0, x, h, hi => by
    simp at hi
    subst hi
    have := h y (by simp)
    subst this
    simp
  | y :: rows, T, i + 1, x, h, hi => by
    have hy := h y (by simp)
    have ih := flatten_cut rows T i x (fun z hz => h z (by simp [hz])) (by simpa using hi)
    have e : (i + 1) * n = y.length + i * n := by rw [hy, Nat.add_mul]; omega
    have e2 : (y :: rows).flatten ++ T = y ++ (rows.flatten ++ T) := by simp
    rw [e, e2, ← List.drop_drop, List.drop_left]
    exact ⟨ih.1, by rw [List.length_append]; omega⟩
theorem GVx.rws {v : Value} {rows : List (List Value)} {n sz : Nat} {e : TypeId} {hg r : Hp} (hl : ∀ x ∈ rows, x.length = sz) (hn : n = rows.length) (hG : GVx v rows.flatten n sz e hg) : Rws (hg ++ r) v sz rows := by
  subst hn
  rcases hG with ⟨rfl, h2, h3, rfl⟩ | ⟨b, rfl, h2, h3, rfl⟩ | ⟨b, c, D, rfl, rfl, hc⟩
  · exact .inl ⟨List.eq_nil_of_length_eq_zero h2, .inl rfl⟩
  · exact .inl ⟨List.eq_nil_of_length_eq_zero h2, .inr ⟨b, 0, none, 0, rfl⟩⟩
  · obtain ⟨h1, h2, h3⟩ := cut_spec hc
    refine .inr ⟨b, 0, some 0, c, D, e, true, rfl, by simp, fun i x hi => ?_⟩
    have hD : D = rows.flatten ++ D.drop (rows.length * sz) := by
      rw [h2, List.drop_zero, List.take_append_drop]
    have hf := flatten_cut rows (D.drop (rows.length * sz)) i x hl hi
    rw [← hD] at hf
    rw [Nat.zero_add]
    unfold cut
    rw [if_pos hf.2, hf.1]
theorem build2C {st : St} {a0 a1 a2 a3 a4 a5 a6 b0 b1 b2 b3 b4 b5 b6 : Value} : abuildSlice Tryd.prog st 31 2 [(0, .agg #[a0,a1,a2,a3,a4,a5,a6]), (1, .agg #[b0,b1,b2,b3,b4,b5,b6])] = some (.slice (some ⟨st.n, 0, none⟩) 2 2, st.new (.cells [a0,a1,a2,a3,a4,a5,a6, b0,b1,b2,b3,b4,b5,b6] 36 true)) := by
  simp [abuildSlice, Tryd.underlying31, asz36, azc36, afill, zeros, isTuple, Value.cells, setL, List.replicate]
set_option maxRecDepth 10000 in
theorem LTry_spec (st : St) (r h : Hp) (D : Nat) (U : Rul) (key : List Nat) (c now : Int) (F : Fails) (L : List Ses) (name : List Nat) (good : Bool) (ok : Bool) {kt : TypeId} (hT : TabOk w0) (hU : U.ok = true) (hname : Bt name) (hn : L.length ≤ 100000)
    (hF : Fails.ok F) (hc : c ≤ 1152921504606846976) (hc' : -9223372036854775808 ≤ c) (hkl : key.length ≤ 1000) (hD : Dsk D U key c F L h) (hK : (0, .cells (wl ks0) kt ok) ∈ r) (hO : Own st (h ++ r)) (k q : Value → St → Prop)
    (hk : ∀ v g st', CL' g v (tryF U key c F L name good now).1 → Own st' (g ++ (h ++ r)) → k (.tuple #[v, .string (str (tryF U key c F L name good now).2.1), .int .i64 (tryF U key c F L name good now).2.2]) st') :
    ACall (C base w0 4) 10 [.pointer (some ⟨D, 0, none⟩), .string (str name), .bool good, .int .i64 now] st k q := by
  obtain ⟨sv, m, l, es, clk, hmD, hmM, hFM, hSL⟩ := dsk_map (r := r) hD
  refine ACall.of (cx := C base w0 4) mixed Tryd.func10 rfl (by kernel_rfl) (by simp [Tryd.ntmps10]) ?_
  simp only [Tryd.results10]
  have hcd := hO.get hmD
  have hcm := hO.get hmM
  unfold dcells at hcd
  have hf := gF_ok hF name
  have hlk : alookup Tryd.prog st 53 (.map (some m)) (.string (str name)) false = some (failV (gF F name)) := by
    rw [alookup_str akM azM hcm hFM hname, gF]
    cases mget name F <;> rfl
  have hset2 : ∀ a b : Value, setL [Value.int .i64 0, .int .i64 0] 0 [a, b] = [a, b] := fun _ _ => rfl
  simp (config := { implicitDefEqProofs := false }) only [↓GP, ↓GM, GQ, abuiltinX, ↓awp_seq, ↓awp_block, C_ex, Nat.reduceBEq, acap, afieldAddr, aload, astore, abin, anum, astr, aun, isAggD, cond_true, cond_false, ↓reduceIte, C_P, C_G, isTuple, Value.cells, setL, ares, aresL, ares1, reduceCtorEq, Nat.reduceEqDiff, eq_self, Nat.reduceAdd, if_true, if_false, Go.Abs.one, Nat.reduceLeDiff, undef, gsl, aextract, aindexAddr, amake, implies_true, forall_const, alen, abuiltin, anil, isC, Int.reduceEq, Int.reduceLT, Int.reduceLE, Int.reduceAdd, Int.reduceToNat, Int.reduceNeg, Nat.reduceMul, Nat.reduceSub, abuild, afill, Int.reduceBNe, Int.reduceBEq, hcd, hlk, failV, afo56_3, asz53, Tryd.underlying53, aalloc, azc58, asz58, Tryd.underlying58, List.length_cons, List.length_nil, List.size_toArray, List.toList_toArray, List.all_cons, List.all_nil, Bool.and_true, hset2]
  have hO1 : Own _ ((st.n, Ob.cells [.int .i64 (gF F name).1, .int .i64 (gF F name).2] 58 true) :: (h ++ r)) := (hO.new (.cells [.int .i64 0, .int .i64 0] 58 true)).set rfl (.cells [.int .i64 (gF F name).1, .int .i64 (gF F name).2] 58 true) rfl
  unfold tryF at hk
  generalize gF F name = f at *
  have hU' := of_decide_eq_true hU
  refine ACallF.enter Tryd.func20 rfl (by kernel_rfl) (Lmoments_spec _ _ now hO1 _ _ fun s1 hO1 => ?_)
  cases hmo : mok now with
  | false =>
    rw [if_pos hmo] at hk
    simp (config := { implicitDefEqProofs := false }) only [↓GP, ↓GM, GQ, abuiltinX, ↓awp_seq, ↓awp_block, C_ex, Nat.reduceBEq, acap, afieldAddr, aload, astore, abin, anum, astr, aun, isAggD, cond_true, cond_false, ↓reduceIte, C_P, C_G, isTuple, Value.cells, setL, ares, aresL, ares1, reduceCtorEq, Nat.reduceEqDiff, eq_self, Nat.reduceAdd, if_true, if_false, Go.Abs.one, Nat.reduceLeDiff, undef, gsl, aextract, aindexAddr, amake, implies_true, forall_const, alen, abuiltin, anil, isC, Int.reduceEq, Int.reduceLT, Int.reduceLE, Int.reduceAdd, Int.reduceToNat, Int.reduceNeg, Nat.reduceMul, Nat.reduceSub, abuild, afill, Int.reduceBNe, Int.reduceBEq, Bool.not_false]
    exact hk _ [] _ (.inl ⟨rfl, .inl rfl⟩) hO1.tail
  | true =>
  rw [if_neg (by rw [hmo]; decide)] at hk
  have hmo' := of_decide_eq_true hmo
  have hcf := hO1.head
  simp (config := { implicitDefEqProofs := false }) only [↓GP, ↓GM, GQ, abuiltinX, ↓awp_seq, ↓awp_block, C_ex, Nat.reduceBEq, acap, afieldAddr, aload, astore, abin, anum, astr, aun, isAggD, cond_true, cond_false, ↓reduceIte, C_P, C_G, isTuple, Value.cells, setL, ares, aresL, ares1, reduceCtorEq, Nat.reduceEqDiff, eq_self, Nat.reduceAdd, if_true, if_false, Go.Abs.one, Nat.reduceLeDiff, undef, gsl, aextract, aindexAddr, amake, implies_true, forall_const, alen, abuiltin, anil, isC, Int.reduceEq, Int.reduceLT, Int.reduceLE, Int.reduceAdd, Int.reduceToNat, Int.reduceNeg, Nat.reduceMul, Nat.reduceSub, abuild, afill, Int.reduceBNe, Int.reduceBEq, Bool.not_true, hcf, afo58_1, asz3, Tryd.underlying3]
  by_cases hlk : f.2 > now
  · rw [if_pos hlk] at hk
    simp (config := { implicitDefEqProofs := false }) only [↓GP, ↓GM, GQ, abuiltinX, ↓awp_seq, ↓awp_block, C_ex, Nat.reduceBEq, acap, afieldAddr, aload, astore, abin, anum, astr, aun, isAggD, cond_true, cond_false, ↓reduceIte, C_P, C_G, isTuple, Value.cells, setL, ares, aresL, ares1, reduceCtorEq, Nat.reduceEqDiff, eq_self, Nat.reduceAdd, if_true, if_false, Go.Abs.one, Nat.reduceLeDiff, undef, gsl, aextract, aindexAddr, amake, implies_true, forall_const, alen, abuiltin, anil, isC, Int.reduceEq, Int.reduceLT, Int.reduceLE, Int.reduceAdd, Int.reduceToNat, Int.reduceNeg, Nat.reduceMul, Nat.reduceSub, abuild, afill, Int.reduceBNe, Int.reduceBEq, hlk, decide_true]
    exact hk _ [] _ (.inl ⟨rfl, .inl rfl⟩) hO1.tail
  rw [if_neg hlk] at hk
  simp (config := { implicitDefEqProofs := false }) only [↓GP, ↓GM, GQ, abuiltinX, ↓awp_seq, ↓awp_block, C_ex, Nat.reduceBEq, acap, afieldAddr, aload, astore, abin, anum, astr, aun, isAggD, cond_true, cond_false, ↓reduceIte, C_P, C_G, isTuple, Value.cells, setL, ares, aresL, ares1, reduceCtorEq, Nat.reduceEqDiff, eq_self, Nat.reduceAdd, if_true, if_false, Go.Abs.one, Nat.reduceLeDiff, undef, gsl, aextract, aindexAddr, amake, implies_true, forall_const, alen, abuiltin, anil, isC, Int.reduceEq, Int.reduceLT, Int.reduceLE, Int.reduceAdd, Int.reduceToNat, Int.reduceNeg, Nat.reduceMul, Nat.reduceSub, abuild, afill, Int.reduceBNe, Int.reduceBEq, hlk, decide_false]
  cases good with
  | false =>
    rw [if_pos rfl] at hk
    have w1 : IntKind.i64.wrap (f.1 + 1) = f.1 + 1 := w_i64 (by omega)
    have hset7 : ∀ a b c d e f g : Value, setL [Value.int .i64 0, .string ⟨#[]⟩, .string ⟨#[]⟩, .string ⟨#[]⟩, .string ⟨#[]⟩, .int .i64 0, .int .i64 0] 0 [a, b, c, d, e, f, g] = [a, b, c, d, e, f, g] := fun _ _ _ _ _ _ _ => rfl
    simp (config := { implicitDefEqProofs := false }) only [↓GP, ↓GM, GQ, abuiltinX, ↓awp_seq, ↓awp_block, C_ex, Nat.reduceBEq, acap, afieldAddr, aload, astore, abin, anum, astr, aun, isAggD, cond_true, cond_false, ↓reduceIte, C_P, C_G, isTuple, Value.cells, setL, ares, aresL, ares1, reduceCtorEq, Nat.reduceEqDiff, eq_self, Nat.reduceAdd, if_true, if_false, Go.Abs.one, Nat.reduceLeDiff, undef, gsl, aextract, aindexAddr, amake, implies_true, forall_const, alen, abuiltin, anil, isC, Int.reduceEq, Int.reduceLT, Int.reduceLE, Int.reduceAdd, Int.reduceToNat, Int.reduceNeg, Nat.reduceMul, Nat.reduceSub, abuild, afill, Int.reduceBNe, Int.reduceBEq, Bool.not_false, hcf, afo58_0, asz3, Tryd.underlying3, w1, azc36, apl36, asz36, aalloc, Tryd.underlying36, List.length_cons, List.length_nil, List.size_toArray, List.toList_toArray, List.set_cons_zero, List.set_cons_succ, List.getElem?_cons_zero, List.getElem?_cons_succ, List.all_cons, List.all_nil, Bool.and_true, Option.map_some, hset7]
    have hO2 := (hO1.new (.cells [.int .i64 0, .string ⟨#[]⟩, .string ⟨#[]⟩, .string ⟨#[]⟩, .string ⟨#[]⟩, .int .i64 0, .int .i64 0] 36 true)).set rfl (.cells [.int .i64 2, .string (str name), .string ⟨#[]⟩, .string ⟨#[]⟩, .string ⟨#[]⟩, .int .i64 (f.1 + 1), .int .i64 0] 36 true) rfl
    generalize (s1.new (.cells [.int .i64 0, .string ⟨#[]⟩, .string ⟨#[]⟩, .string ⟨#[]⟩, .string ⟨#[]⟩, .int .i64 0, .int .i64 0] 36 true)).set s1.n (some (.cells [.int .i64 2, .string (str name), .string ⟨#[]⟩, .string ⟨#[]⟩, .string ⟨#[]⟩, .int .i64 (f.1 + 1), .int .i64 0] 36 true)) = s2 at hO2 ⊢
    generalize s1.n = E at *
    have hcf := hO2.tail.head
    have hcE := hO2.head
    have hcd := hO2.tail.tail.get hmD
    unfold dcells at hcd
    refine ADraw.of [(0, false, []), (1, false, []), (2, false, []), (3, false, []), (4, false, []), (5, false, []), (6, false, []), (7, false, [])] [] [] (by kernel_rfl) ?_
    simp (config := { implicitDefEqProofs := false }) only [↓GP, ↓GM, GQ, abuiltinX, ↓awp_seq, ↓awp_block, C_ex, Nat.reduceBEq, acap, afieldAddr, aload, astore, abin, anum, astr, aun, isAggD, cond_true, cond_false, ↓reduceIte, C_P, C_G, isTuple, Value.cells, setL, ares, aresL, ares1, reduceCtorEq, Nat.reduceEqDiff, eq_self, Nat.reduceAdd, if_true, if_false, Go.Abs.one, Nat.reduceLeDiff, undef, gsl, aextract, aindexAddr, amake, implies_true, forall_const, alen, abuiltin, anil, isC, Int.reduceEq, Int.reduceLT, Int.reduceLE, Int.reduceAdd, Int.reduceToNat, Int.reduceNeg, Nat.reduceMul, Nat.reduceSub, abuild, afill, Int.reduceBNe, Int.reduceBEq, hcf, hcd, hcE, afo58_0, afo56_0, afo23_0, afo36_5, asz3, Tryd.underlying3]
    have fin : ∀ (x y : Int) (st' : St), failC U f name now = mkC 2 name [] x y → Own st' ((E, Ob.cells [.int .i64 2, .string (str name), .string ⟨#[]⟩, .string ⟨#[]⟩, .string ⟨#[]⟩, .int .i64 x, .int .i64 y] 36 true) :: (st.n, .cells [.int .i64 f.1, .int .i64 f.2] 58 true) :: (h ++ r)) →
        k (.tuple #[.slice (some ⟨st'.n, 0, none⟩) 1 1, .string ⟨#[]⟩, .int .i64 70]) (st'.new (.cells [.int .i64 2, .string (str name), .string ⟨#[]⟩, .string ⟨#[]⟩, .string ⟨#[]⟩, .int .i64 x, .int .i64 y] 36 true)) := by
      intro x y st' e hst
      refine hk _ [(st'.n, .cells [.int .i64 2, .string (str name), .string ⟨#[]⟩, .string ⟨#[]⟩, .string ⟨#[]⟩, .int .i64 x, .int .i64 y] 36 true)] _ ?_ (hst.tail.tail.new _)
      rw [e]
      exact Rws.one_of (x := Chg.cells (mkC 2 name [] x y)) rfl (List.mem_cons_self ..)
    refine ⟨fun hge => ?_, fun hge => ?_⟩
    · have e1 : failN U f = 1 := by rw [failN, if_pos hge]
      have hO3 := hO2.set rfl (.cells [.int .i64 2, .string (str name), .string ⟨#[]⟩, .string ⟨#[]⟩, .string ⟨#[]⟩, .int .i64 1, .int .i64 0] 36 true) rfl
      generalize s2.set E (some (.cells [.int .i64 2, .string (str name), .string ⟨#[]⟩, .string ⟨#[]⟩, .string ⟨#[]⟩, .int .i64 1, .int .i64 0] 36 true)) = s3 at hO3 ⊢
      have hcE := hO3.head
      have hcd := hO3.tail.tail.get hmD
      unfold dcells at hcd
      have w2 : IntKind.i64.wrap (now + U.lock) = now + U.lock := w_i64 (by omega)
      refine ADraw.of [(0, false, []), (1, false, []), (2, false, []), (3, false, []), (4, false, []), (5, false, []), (6, false, []), (7, false, [])] [] [] (by kernel_rfl) ?_
      simp (config := { implicitDefEqProofs := false }) only [↓GP, ↓GM, GQ, abuiltinX, ↓awp_seq, ↓awp_block, C_ex, Nat.reduceBEq, acap, afieldAddr, aload, astore, abin, anum, astr, aun, isAggD, cond_true, cond_false, ↓reduceIte, C_P, C_G, isTuple, Value.cells, setL, ares, aresL, ares1, reduceCtorEq, Nat.reduceEqDiff, eq_self, Nat.reduceAdd, if_true, if_false, Go.Abs.one, Nat.reduceLeDiff, undef, gsl, aextract, aindexAddr, amake, implies_true, forall_const, alen, abuiltin, anil, isC, Int.reduceEq, Int.reduceLT, Int.reduceLE, Int.reduceAdd, Int.reduceToNat, Int.reduceNeg, Nat.reduceMul, Nat.reduceSub, abuild, afill, Int.reduceBNe, Int.reduceBEq, hcd, hcE, afo56_0, afo23_0, afo23_1, afo36_5, afo36_6, asz3, Tryd.underlying3, w2]
      refine ⟨fun heq => ?_, fun heq => ?_⟩
      · have e2 : failC U f name now = mkC 2 name [] (1) (now + U.lock) := by rw [failC, e1, if_pos heq]
        have hO4 := hO3.set rfl (.cells [.int .i64 2, .string (str name), .string ⟨#[]⟩, .string ⟨#[]⟩, .string ⟨#[]⟩, .int .i64 1, .int .i64 (now + U.lock)] 36 true) rfl
        have hc4 := hO4.head
        generalize s3.set E (some (.cells [.int .i64 2, .string (str name), .string ⟨#[]⟩, .string ⟨#[]⟩, .string ⟨#[]⟩, .int .i64 1, .int .i64 (now + U.lock)] 36 true)) = s4 at hO4 hc4 ⊢
        simp (config := { implicitDefEqProofs := false }) only [↓GP, ↓GM, GQ, abuiltinX, ↓awp_seq, ↓awp_block, C_ex, Nat.reduceBEq, acap, afieldAddr, aload, astore, abin, anum, astr, aun, isAggD, cond_true, cond_false, ↓reduceIte, C_P, C_G, isTuple, Value.cells, setL, ares, aresL, ares1, reduceCtorEq, Nat.reduceEqDiff, eq_self, Nat.reduceAdd, if_true, if_false, Go.Abs.one, Nat.reduceLeDiff, undef, gsl, aextract, aindexAddr, amake, implies_true, forall_const, alen, abuiltin, anil, isC, Int.reduceEq, Int.reduceLT, Int.reduceLE, Int.reduceAdd, Int.reduceToNat, Int.reduceNeg, Nat.reduceMul, Nat.reduceSub, abuild, afill, Int.reduceBNe, Int.reduceBEq, hc4, asz36, Tryd.underlying36, cut7, Option.map_some, abuildSlice_one (st := s4) (v := .agg #[.int .i64 2, .string (str name), .string ⟨#[]⟩, .string ⟨#[]⟩, .string ⟨#[]⟩, .int .i64 1, .int .i64 (now + U.lock)]) Tryd.underlying31 asz36 azc36 rfl rfl rfl (by decide)]
        exact fin _ _ s4 e2 hO4
      · have e2 : failC U f name now = mkC 2 name [] (1) 0 := by rw [failC, e1, if_neg heq]
        simp (config := { implicitDefEqProofs := false }) only [↓GP, ↓GM, GQ, abuiltinX, ↓awp_seq, ↓awp_block, C_ex, Nat.reduceBEq, acap, afieldAddr, aload, astore, abin, anum, astr, aun, isAggD, cond_true, cond_false, ↓reduceIte, C_P, C_G, isTuple, Value.cells, setL, ares, aresL, ares1, reduceCtorEq, Nat.reduceEqDiff, eq_self, Nat.reduceAdd, if_true, if_false, Go.Abs.one, Nat.reduceLeDiff, undef, gsl, aextract, aindexAddr, amake, implies_true, forall_const, alen, abuiltin, anil, isC, Int.reduceEq, Int.reduceLT, Int.reduceLE, Int.reduceAdd, Int.reduceToNat, Int.reduceNeg, Nat.reduceMul, Nat.reduceSub, abuild, afill, Int.reduceBNe, Int.reduceBEq, hcE, asz36, Tryd.underlying36, cut7, Option.map_some, abuildSlice_one (st := s3) (v := .agg #[.int .i64 2, .string (str name), .string ⟨#[]⟩, .string ⟨#[]⟩, .string ⟨#[]⟩, .int .i64 1, .int .i64 0]) Tryd.underlying31 asz36 azc36 rfl rfl rfl (by decide)]
        exact fin _ _ s3 e2 hO3
    · have e1 : failN U f = f.1 + 1 := by rw [failN, if_neg hge]
      have hcE := hO2.head
      have hcd := hO2.tail.tail.get hmD
      unfold dcells at hcd
      have w2 : IntKind.i64.wrap (now + U.lock) = now + U.lock := w_i64 (by omega)
      refine ADraw.of [(0, false, []), (1, false, []), (2, false, []), (3, false, []), (4, false, []), (5, false, []), (6, false, []), (7, false, [])] [] [] (by kernel_rfl) ?_
      simp (config := { implicitDefEqProofs := false }) only [↓GP, ↓GM, GQ, abuiltinX, ↓awp_seq, ↓awp_block, C_ex, Nat.reduceBEq, acap, afieldAddr, aload, astore, abin, anum, astr, aun, isAggD, cond_true, cond_false, ↓reduceIte, C_P, C_G, isTuple, Value.cells, setL, ares, aresL, ares1, reduceCtorEq, Nat.reduceEqDiff, eq_self, Nat.reduceAdd, if_true, if_false, Go.Abs.one, Nat.reduceLeDiff, undef, gsl, aextract, aindexAddr, amake, implies_true, forall_const, alen, abuiltin, anil, isC, Int.reduceEq, Int.reduceLT, Int.reduceLE, Int.reduceAdd, Int.reduceToNat, Int.reduceNeg, Nat.reduceMul, Nat.reduceSub, abuild, afill, Int.reduceBNe, Int.reduceBEq, hcd, hcE, afo56_0, afo23_0, afo23_1, afo36_5, afo36_6, asz3, Tryd.underlying3, w2]
      refine ⟨fun heq => ?_, fun heq => ?_⟩
      · have e2 : failC U f name now = mkC 2 name [] ((f.1 + 1)) (now + U.lock) := by rw [failC, e1, if_pos heq]
        have hO4 := hO2.set rfl (.cells [.int .i64 2, .string (str name), .string ⟨#[]⟩, .string ⟨#[]⟩, .string ⟨#[]⟩, .int .i64 (f.1 + 1), .int .i64 (now + U.lock)] 36 true) rfl
        have hc4 := hO4.head
        generalize s2.set E (some (.cells [.int .i64 2, .string (str name), .string ⟨#[]⟩, .string ⟨#[]⟩, .string ⟨#[]⟩, .int .i64 (f.1 + 1), .int .i64 (now + U.lock)] 36 true)) = s4 at hO4 hc4 ⊢
        simp (config := { implicitDefEqProofs := false }) only [↓GP, ↓GM, GQ, abuiltinX, ↓awp_seq, ↓awp_block, C_ex, Nat.reduceBEq, acap, afieldAddr, aload, astore, abin, anum, astr, aun, isAggD, cond_true, cond_false, ↓reduceIte, C_P, C_G, isTuple, Value.cells, setL, ares, aresL, ares1, reduceCtorEq, Nat.reduceEqDiff, eq_self, Nat.reduceAdd, if_true, if_false, Go.Abs.one, Nat.reduceLeDiff, undef, gsl, aextract, aindexAddr, amake, implies_true, forall_const, alen, abuiltin, anil, isC, Int.reduceEq, Int.reduceLT, Int.reduceLE, Int.reduceAdd, Int.reduceToNat, Int.reduceNeg, Nat.reduceMul, Nat.reduceSub, abuild, afill, Int.reduceBNe, Int.reduceBEq, hc4, asz36, Tryd.underlying36, cut7, Option.map_some, abuildSlice_one (st := s4) (v := .agg #[.int .i64 2, .string (str name), .string ⟨#[]⟩, .string ⟨#[]⟩, .string ⟨#[]⟩, .int .i64 (f.1 + 1), .int .i64 (now + U.lock)]) Tryd.underlying31 asz36 azc36 rfl rfl rfl (by decide)]
        exact fin _ _ s4 e2 hO4
      · have e2 : failC U f name now = mkC 2 name [] ((f.1 + 1)) 0 := by rw [failC, e1, if_neg heq]
        simp (config := { implicitDefEqProofs := false }) only [↓GP, ↓GM, GQ, abuiltinX, ↓awp_seq, ↓awp_block, C_ex, Nat.reduceBEq, acap, afieldAddr, aload, astore, abin, anum, astr, aun, isAggD, cond_true, cond_false, ↓reduceIte, C_P, C_G, isTuple, Value.cells, setL, ares, aresL, ares1, reduceCtorEq, Nat.reduceEqDiff, eq_self, Nat.reduceAdd, if_true, if_false, Go.Abs.one, Nat.reduceLeDiff, undef, gsl, aextract, aindexAddr, amake, implies_true, forall_const, alen, abuiltin, anil, isC, Int.reduceEq, Int.reduceLT, Int.reduceLE, Int.reduceAdd, Int.reduceToNat, Int.reduceNeg, Nat.reduceMul, Nat.reduceSub, abuild, afill, Int.reduceBNe, Int.reduceBEq, hcE, asz36, Tryd.underlying36, cut7, Option.map_some, abuildSlice_one (st := s2) (v := .agg #[.int .i64 2, .string (str name), .string ⟨#[]⟩, .string ⟨#[]⟩, .string ⟨#[]⟩, .int .i64 (f.1 + 1), .int .i64 0]) Tryd.underlying31 asz36 azc36 rfl rfl rfl (by decide)]
        exact fin _ _ s2 e2 hO2
  | true =>
  rw [if_neg (by decide)] at hk
  simp (config := { implicitDefEqProofs := false }) only [↓GP, ↓GM, GQ, abuiltinX, ↓awp_seq, ↓awp_block, C_ex, Nat.reduceBEq, acap, afieldAddr, aload, astore, abin, anum, astr, aun, isAggD, cond_true, cond_false, ↓reduceIte, C_P, C_G, isTuple, Value.cells, setL, ares, aresL, ares1, reduceCtorEq, Nat.reduceEqDiff, eq_self, Nat.reduceAdd, if_true, if_false, Go.Abs.one, Nat.reduceLeDiff, undef, gsl, aextract, aindexAddr, amake, implies_true, forall_const, alen, abuiltin, anil, isC, Int.reduceEq, Int.reduceLT, Int.reduceLE, Int.reduceAdd, Int.reduceToNat, Int.reduceNeg, Nat.reduceMul, Nat.reduceSub, abuild, afill, Int.reduceBNe, Int.reduceBEq, Bool.not_true]
  refine ACallF.enter Tryd.func21 rfl (by kernel_rfl) (Lroom_spec s1 _ D m U sv l c now L hU ⟨hSL.1.sub fun e he => List.mem_cons_of_mem _ he, hSL.2⟩ hn (List.mem_cons_of_mem _ hmD) hO1 _ _ fun s2 hO2 => ?_)
  rw [show decide (((L.filter (lv U.life now)).length : Int) < U.most) = roomF U L now from rfl]
  cases hro : roomF U L now with
  | false =>
    rw [if_pos hro] at hk
    simp (config := { implicitDefEqProofs := false }) only [↓GP, ↓GM, GQ, abuiltinX, ↓awp_seq, ↓awp_block, C_ex, Nat.reduceBEq, acap, afieldAddr, aload, astore, abin, anum, astr, aun, isAggD, cond_true, cond_false, ↓reduceIte, C_P, C_G, isTuple, Value.cells, setL, ares, aresL, ares1, reduceCtorEq, Nat.reduceEqDiff, eq_self, Nat.reduceAdd, if_true, if_false, Go.Abs.one, Nat.reduceLeDiff, undef, gsl, aextract, aindexAddr, amake, implies_true, forall_const, alen, abuiltin, anil, isC, Int.reduceEq, Int.reduceLT, Int.reduceLE, Int.reduceAdd, Int.reduceToNat, Int.reduceNeg, Nat.reduceMul, Nat.reduceSub, abuild, afill, Int.reduceBNe, Int.reduceBEq, Bool.not_false]
    exact hk _ [] _ (.inl ⟨rfl, .inl rfl⟩) hO2.tail
  | true =>
  rw [if_neg (by rw [hro]; decide)] at hk
  have hcf := hO2.head
  simp (config := { implicitDefEqProofs := false }) only [↓GP, ↓GM, GQ, abuiltinX, ↓awp_seq, ↓awp_block, C_ex, Nat.reduceBEq, acap, afieldAddr, aload, astore, abin, anum, astr, aun, isAggD, cond_true, cond_false, ↓reduceIte, C_P, C_G, isTuple, Value.cells, setL, ares, aresL, ares1, reduceCtorEq, Nat.reduceEqDiff, eq_self, Nat.reduceAdd, if_true, if_false, Go.Abs.one, Nat.reduceLeDiff, undef, gsl, aextract, aindexAddr, amake, implies_true, forall_const, alen, abuiltin, anil, isC, Int.reduceEq, Int.reduceLT, Int.reduceLE, Int.reduceAdd, Int.reduceToNat, Int.reduceNeg, Nat.reduceMul, Nat.reduceSub, abuild, afill, Int.reduceBNe, Int.reduceBEq, Bool.not_true, hcf, afo58_0, asz3, Tryd.underlying3]
  have hset7 : ∀ a b c d e f g : Value, setL [Value.int .i64 0, .string ⟨#[]⟩, .string ⟨#[]⟩, .string ⟨#[]⟩, .string ⟨#[]⟩, .int .i64 0, .int .i64 0] 0 [a, b, c, d, e, f, g] = [a, b, c, d, e, f, g] := fun _ _ _ _ _ _ _ => rfl
  unfold okC at hk
  refine ⟨fun hp => ?_, fun hp => ?_⟩
  · rw [if_pos hp] at hk
    simp (config := { implicitDefEqProofs := false }) only [↓GP, ↓GM, GQ, abuiltinX, ↓awp_seq, ↓awp_block, C_ex, Nat.reduceBEq, acap, afieldAddr, aload, astore, abin, anum, astr, aun, isAggD, cond_true, cond_false, ↓reduceIte, C_P, C_G, isTuple, Value.cells, setL, ares, aresL, ares1, reduceCtorEq, Nat.reduceEqDiff, eq_self, Nat.reduceAdd, if_true, if_false, Go.Abs.one, Nat.reduceLeDiff, undef, gsl, aextract, aindexAddr, amake, implies_true, forall_const, alen, abuiltin, anil, isC, Int.reduceEq, Int.reduceLT, Int.reduceLE, Int.reduceAdd, Int.reduceToNat, Int.reduceNeg, Nat.reduceMul, Nat.reduceSub, abuild, afill, Int.reduceBNe, Int.reduceBEq, azc36, apl36, asz36, aalloc, Tryd.underlying36, List.length_cons, List.length_nil, List.size_toArray, List.toList_toArray, List.set_cons_zero, List.set_cons_succ, List.getElem?_cons_zero, List.getElem?_cons_succ, List.all_cons, List.all_nil, Bool.and_true, Option.map_some, hset7, abuildSlice_one (st := s2) (v := .agg #[.int .i64 2, .string (str name), .string ⟨#[]⟩, .string ⟨#[]⟩, .string ⟨#[]⟩, .int .i64 0, .int .i64 0]) Tryd.underlying31 asz36 azc36 rfl rfl rfl (by decide)]
    refine GV.append1 Tryd.underlying31 (by rw [Tryd.underlying31]; rfl) asz36 azc36 (c := [.int .i64 2, .string (str name), .string ⟨#[]⟩, .string ⟨#[]⟩, .string ⟨#[]⟩, .int .i64 0, .int .i64 0]) aby36 (hg := []) GV.nil hO2 rfl rfl (by decide) fun w hw s3 hG3 hO3 => ?_
    have hO5 : Own s3 (h ++ (hw ++ ((st.n, Ob.cells [.int .i64 f.1, .int .i64 f.2] 58 true) :: r))) := hO3.perm (by simpa using perm_of [hw, [(st.n, Ob.cells [.int .i64 f.1, .int .i64 f.2] 58 true)], h, r] [0, 1, 2, 3] [2, 0, 1, 3] rfl)
    have e115 : (⟨#[115]⟩ : ByteArray) = str [115] := rfl
    simp (config := { implicitDefEqProofs := false }) only [↓GP, ↓GM, GQ, abuiltinX, ↓awp_seq, ↓awp_block, C_ex, Nat.reduceBEq, acap, afieldAddr, aload, astore, abin, anum, astr, aun, isAggD, cond_true, cond_false, ↓reduceIte, C_P, C_G, isTuple, Value.cells, setL, ares, aresL, ares1, reduceCtorEq, Nat.reduceEqDiff, eq_self, Nat.reduceAdd, if_true, if_false, Go.Abs.one, Nat.reduceLeDiff, undef, gsl, aextract, aindexAddr, amake, implies_true, forall_const, alen, abuiltin, anil, isC, Int.reduceEq, Int.reduceLT, Int.reduceLE, Int.reduceAdd, Int.reduceToNat, Int.reduceNeg, Nat.reduceMul, Nat.reduceSub, abuild, afill, Int.reduceBNe, Int.reduceBEq, e115]
    refine ACallF.enter Tryd.func22 rfl (by kernel_rfl) (LNext_spec s3 _ D U key c F L h [115] ok hT (Bt.one (by decide)) (by decide) hc hc' hkl hD (List.mem_append_right _ (List.mem_cons_of_mem _ hK)) hO5 _ _ fun s4 hO6 => ?_)
    have hO7 := (hO6.new (.cells [.int .i64 0, .string ⟨#[]⟩, .string ⟨#[]⟩, .string ⟨#[]⟩, .string ⟨#[]⟩, .int .i64 0, .int .i64 0] 36 true)).set rfl (.cells [.int .i64 1, .string ⟨#[]⟩, .string ⟨#[]⟩, .string ⟨#[]⟩, .string ⟨#[]⟩, .int .i64 (c + 1), .int .i64 0] 36 true) rfl
    rw [show tagN [115] (c + 1).toNat key = tagS c key from rfl]
    simp (config := { implicitDefEqProofs := false }) only [↓GP, ↓GM, GQ, abuiltinX, ↓awp_seq, ↓awp_block, C_ex, Nat.reduceBEq, acap, afieldAddr, aload, astore, abin, anum, astr, aun, isAggD, cond_true, cond_false, ↓reduceIte, C_P, C_G, isTuple, Value.cells, setL, ares, aresL, ares1, reduceCtorEq, Nat.reduceEqDiff, eq_self, Nat.reduceAdd, if_true, if_false, Go.Abs.one, Nat.reduceLeDiff, undef, gsl, aextract, aindexAddr, amake, implies_true, forall_const, alen, abuiltin, anil, isC, Int.reduceEq, Int.reduceLT, Int.reduceLE, Int.reduceAdd, Int.reduceToNat, Int.reduceNeg, Nat.reduceMul, Nat.reduceSub, abuild, afill, Int.reduceBNe, Int.reduceBEq, mkC, Chg.cells, azc36, apl36, asz36, aalloc, Tryd.underlying36, List.length_cons, List.length_nil, List.size_toArray, List.toList_toArray, List.set_cons_zero, List.set_cons_succ, List.getElem?_cons_zero, List.getElem?_cons_succ, List.all_cons, List.all_nil, Bool.and_true, Option.map_some, hset7]
    rw [show (str [] : ByteArray) = ⟨#[]⟩ from rfl]
    generalize (s4.new (.cells [.int .i64 0, .string ⟨#[]⟩, .string ⟨#[]⟩, .string ⟨#[]⟩, .string ⟨#[]⟩, .int .i64 0, .int .i64 0] 36 true)).set s4.n (some (.cells [.int .i64 1, .string ⟨#[]⟩, .string ⟨#[]⟩, .string ⟨#[]⟩, .string ⟨#[]⟩, .int .i64 (c + 1), .int .i64 0] 36 true)) = s5 at hO7 ⊢
    generalize s4.n = E at *
    simp (config := { implicitDefEqProofs := false }) only [↓GP, ↓GM, GQ, abuiltinX, ↓awp_seq, ↓awp_block, C_ex, Nat.reduceBEq, acap, afieldAddr, aload, astore, abin, anum, astr, aun, isAggD, cond_true, cond_false, ↓reduceIte, C_P, C_G, isTuple, Value.cells, setL, ares, aresL, ares1, reduceCtorEq, Nat.reduceEqDiff, eq_self, Nat.reduceAdd, if_true, if_false, Go.Abs.one, Nat.reduceLeDiff, undef, gsl, aextract, aindexAddr, amake, implies_true, forall_const, alen, abuiltin, anil, isC, Int.reduceEq, Int.reduceLT, Int.reduceLE, Int.reduceAdd, Int.reduceToNat, Int.reduceNeg, Nat.reduceMul, Nat.reduceSub, abuild, afill, Int.reduceBNe, Int.reduceBEq, cut7, build2C, azc36, apl36, asz36, aalloc, Tryd.underlying36, List.length_cons, List.length_nil, List.size_toArray, List.toList_toArray, List.set_cons_zero, List.set_cons_succ, List.getElem?_cons_zero, List.getElem?_cons_succ, List.all_cons, List.all_nil, Bool.and_true, Option.map_some, hset7]
    have hO8 : Own s5 (hw ++ (h ++ r)) := (hO7.tail.perm (by simpa using perm_of [hw, [(st.n, Ob.cells [.int .i64 f.1, .int .i64 f.2] 58 true)], h, r] [2, 0, 1, 3] [1, 0, 2, 3] rfl)).tail
    refine GVx.appendK (m := 2) Tryd.underlying31 (by rw [Tryd.underlying31]; rfl) asz36 azc36 (cs := [.int .i64 2, .string (str name), .string ⟨#[]⟩, .string ⟨#[]⟩, .string ⟨#[]⟩, .int .i64 0, .int .i64 0]) (n := 1) (c := Chg.cells (mkC 1 [] [] (c + 1) 0) ++ Chg.cells (mkC 3 (tagS c key) name now 0)) aby36 (hg := hw) hG3.x hO8 rfl (by decide) rfl (by decide) fun w' hw' s6 hG6 hO9 => ?_
    simp (config := { implicitDefEqProofs := false }) only [↓GP, ↓GM, GQ, abuiltinX, ↓awp_seq, ↓awp_block, C_ex, Nat.reduceBEq, acap, afieldAddr, aload, astore, abin, anum, astr, aun, isAggD, cond_true, cond_false, ↓reduceIte, C_P, C_G, isTuple, Value.cells, setL, ares, aresL, ares1, reduceCtorEq, Nat.reduceEqDiff, eq_self, Nat.reduceAdd, if_true, if_false, Go.Abs.one, Nat.reduceLeDiff, undef, gsl, aextract, aindexAddr, amake, implies_true, forall_const, alen, abuiltin, anil, isC, Int.reduceEq, Int.reduceLT, Int.reduceLE, Int.reduceAdd, Int.reduceToNat, Int.reduceNeg, Nat.reduceMul, Nat.reduceSub, abuild, afill, Int.reduceBNe, Int.reduceBEq]
    refine hk w' hw' s6 ?_ hO9
    exact (GVx.rws (r := []) (by simp [Chg.cells, mkC]) rfl hG6.x).sub (by simp)
  · rw [if_neg hp] at hk
    have hO5 : Own s2 (h ++ ([] ++ ((st.n, Ob.cells [.int .i64 f.1, .int .i64 f.2] 58 true) :: r))) := hO2.perm ((perm_front h (st.n, Ob.cells [.int .i64 f.1, .int .i64 f.2] 58 true) r).symm)
    have e115 : (⟨#[115]⟩ : ByteArray) = str [115] := rfl
    simp (config := { implicitDefEqProofs := false }) only [↓GP, ↓GM, GQ, abuiltinX, ↓awp_seq, ↓awp_block, C_ex, Nat.reduceBEq, acap, afieldAddr, aload, astore, abin, anum, astr, aun, isAggD, cond_true, cond_false, ↓reduceIte, C_P, C_G, isTuple, Value.cells, setL, ares, aresL, ares1, reduceCtorEq, Nat.reduceEqDiff, eq_self, Nat.reduceAdd, if_true, if_false, Go.Abs.one, Nat.reduceLeDiff, undef, gsl, aextract, aindexAddr, amake, implies_true, forall_const, alen, abuiltin, anil, isC, Int.reduceEq, Int.reduceLT, Int.reduceLE, Int.reduceAdd, Int.reduceToNat, Int.reduceNeg, Nat.reduceMul, Nat.reduceSub, abuild, afill, Int.reduceBNe, Int.reduceBEq, e115]
    refine ACallF.enter Tryd.func22 rfl (by kernel_rfl) (LNext_spec s2 _ D U key c F L h [115] ok hT (Bt.one (by decide)) (by decide) hc hc' hkl hD (List.mem_append_right _ (List.mem_cons_of_mem _ hK)) hO5 _ _ fun s4 hO6 => ?_)
    have hO7 := (hO6.new (.cells [.int .i64 0, .string ⟨#[]⟩, .string ⟨#[]⟩, .string ⟨#[]⟩, .string ⟨#[]⟩, .int .i64 0, .int .i64 0] 36 true)).set rfl (.cells [.int .i64 1, .string ⟨#[]⟩, .string ⟨#[]⟩, .string ⟨#[]⟩, .string ⟨#[]⟩, .int .i64 (c + 1), .int .i64 0] 36 true) rfl
    rw [show tagN [115] (c + 1).toNat key = tagS c key from rfl]
    simp (config := { implicitDefEqProofs := false }) only [↓GP, ↓GM, GQ, abuiltinX, ↓awp_seq, ↓awp_block, C_ex, Nat.reduceBEq, acap, afieldAddr, aload, astore, abin, anum, astr, aun, isAggD, cond_true, cond_false, ↓reduceIte, C_P, C_G, isTuple, Value.cells, setL, ares, aresL, ares1, reduceCtorEq, Nat.reduceEqDiff, eq_self, Nat.reduceAdd, if_true, if_false, Go.Abs.one, Nat.reduceLeDiff, undef, gsl, aextract, aindexAddr, amake, implies_true, forall_const, alen, abuiltin, anil, isC, Int.reduceEq, Int.reduceLT, Int.reduceLE, Int.reduceAdd, Int.reduceToNat, Int.reduceNeg, Nat.reduceMul, Nat.reduceSub, abuild, afill, Int.reduceBNe, Int.reduceBEq, mkC, Chg.cells, azc36, apl36, asz36, aalloc, Tryd.underlying36, List.length_cons, List.length_nil, List.size_toArray, List.toList_toArray, List.set_cons_zero, List.set_cons_succ, List.getElem?_cons_zero, List.getElem?_cons_succ, List.all_cons, List.all_nil, Bool.and_true, Option.map_some, hset7]
    rw [show (str [] : ByteArray) = ⟨#[]⟩ from rfl]
    generalize (s4.new (.cells [.int .i64 0, .string ⟨#[]⟩, .string ⟨#[]⟩, .string ⟨#[]⟩, .string ⟨#[]⟩, .int .i64 0, .int .i64 0] 36 true)).set s4.n (some (.cells [.int .i64 1, .string ⟨#[]⟩, .string ⟨#[]⟩, .string ⟨#[]⟩, .string ⟨#[]⟩, .int .i64 (c + 1), .int .i64 0] 36 true)) = s5 at hO7 ⊢
    generalize s4.n = E at *
    simp (config := { implicitDefEqProofs := false }) only [↓GP, ↓GM, GQ, abuiltinX, ↓awp_seq, ↓awp_block, C_ex, Nat.reduceBEq, acap, afieldAddr, aload, astore, abin, anum, astr, aun, isAggD, cond_true, cond_false, ↓reduceIte, C_P, C_G, isTuple, Value.cells, setL, ares, aresL, ares1, reduceCtorEq, Nat.reduceEqDiff, eq_self, Nat.reduceAdd, if_true, if_false, Go.Abs.one, Nat.reduceLeDiff, undef, gsl, aextract, aindexAddr, amake, implies_true, forall_const, alen, abuiltin, anil, isC, Int.reduceEq, Int.reduceLT, Int.reduceLE, Int.reduceAdd, Int.reduceToNat, Int.reduceNeg, Nat.reduceMul, Nat.reduceSub, abuild, afill, Int.reduceBNe, Int.reduceBEq, cut7, build2C, azc36, apl36, asz36, aalloc, Tryd.underlying36, List.length_cons, List.length_nil, List.size_toArray, List.toList_toArray, List.set_cons_zero, List.set_cons_succ, List.getElem?_cons_zero, List.getElem?_cons_succ, List.all_cons, List.all_nil, Bool.and_true, Option.map_some, hset7]
    have hO8 : Own s5 ([] ++ (h ++ r)) := (hO7.tail.perm (perm_front h (st.n, Ob.cells [.int .i64 f.1, .int .i64 f.2] 58 true) r)).tail
    refine GVx.appendK (m := 2) Tryd.underlying31 (by rw [Tryd.underlying31]; rfl) asz36 azc36 (cs := []) (n := 0) (c := Chg.cells (mkC 1 [] [] (c + 1) 0) ++ Chg.cells (mkC 3 (tagS c key) name now 0)) aby36 (hg := []) GVx.nil hO8 rfl (by decide) rfl (by decide) fun w' hw' s6 hG6 hO9 => ?_
    simp (config := { implicitDefEqProofs := false }) only [↓GP, ↓GM, GQ, abuiltinX, ↓awp_seq, ↓awp_block, C_ex, Nat.reduceBEq, acap, afieldAddr, aload, astore, abin, anum, astr, aun, isAggD, cond_true, cond_false, ↓reduceIte, C_P, C_G, isTuple, Value.cells, setL, ares, aresL, ares1, reduceCtorEq, Nat.reduceEqDiff, eq_self, Nat.reduceAdd, if_true, if_false, Go.Abs.one, Nat.reduceLeDiff, undef, gsl, aextract, aindexAddr, amake, implies_true, forall_const, alen, abuiltin, anil, isC, Int.reduceEq, Int.reduceLT, Int.reduceLE, Int.reduceAdd, Int.reduceToNat, Int.reduceNeg, Nat.reduceMul, Nat.reduceSub, abuild, afill, Int.reduceBNe, Int.reduceBEq]
    refine hk w' hw' s6 ?_ hO9
    exact (GVx.rws (r := []) (by simp [Chg.cells, mkC]) rfl hG6.x).sub (by simp)
end Go.Proofs.YthohmdkibkompaaDoor
