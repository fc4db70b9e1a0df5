/- The desk: sessions that live. No conditions. -/
import Derived.Test.YthohmdkibkompaaDoorLoginB
import Derived.Test.YthohmdkibkompaaDoorMomA
set_option linter.unusedVariables false
set_option linter.unusedSimpArgs false
namespace Go.Proofs.YthohmdkibkompaaDoor
open Go Go.Abs Go.RowKit
variable {base : Nat} {w0 : World} {G : Nat}

structure Ses where
  id : List Nat
  who : List Nat
  at_ : Int
def Ses.ok (s : Ses) : Prop := Bt s.id ∧ Bt s.who ∧ -9223372036854775808 ≤ s.at_ ∧ s.at_ ≤ 1152921504606846976
def Ses.cells (s : Ses) : List Value := [.string (str s.id), .string (str s.who), .int .i64 s.at_]
def sesL (l : List Ses) : List Value := (l.map Ses.cells).flatten
theorem sesL_length (l : List Ses) : (sesL l).length = l.length * 3 := by
  induction l with
  | nil => rfl
  | cons a l ih => simp only [sesL, List.map_cons, List.flatten_cons, List.length_append, List.length_cons] at *; rw [ih]; simp [Ses.cells]; omega
theorem sesL_append (a b : List Ses) : sesL (a ++ b) = sesL a ++ sesL b := by simp [sesL]
theorem sesL_cut {l : List Ses} {i : Nat} {s : Ses} (h : l[i]? = some s) : cut (sesL l) (i * 3) 3 = some s.cells := by
  obtain ⟨hl, he⟩ := List.getElem?_eq_some_iff.1 h
  have e : l = l.take i ++ (s :: l.drop (i + 1)) := by rw [← he]; simp
  have h1 : (sesL (l.take i)).length = i * 3 := by rw [sesL_length, List.length_take, Nat.min_eq_left (by omega)]
  have h2 : sesL l = sesL (l.take i) ++ (s.cells ++ sesL (l.drop (i + 1))) := by
    conv => lhs; rw [e]
    rw [sesL_append]; rfl
  unfold cut
  rw [if_pos (by rw [sesL_length]; omega), h2, ← h1, List.drop_left]
  rfl
def lv (life now : Int) (s : Ses) : Bool := decide (s.at_ ≤ now) && decide (now < s.at_ + life)
/-- The rules. -/
structure Rul where
  tries : Int
  lock : Int
  life : Int
  most : Int
def Rul.ok (R : Rul) : Bool := decide (1 ≤ R.tries ∧ R.tries ≤ 100 ∧ 0 ≤ R.lock ∧ R.lock ≤ 86400000 ∧ 1 ≤ R.life ∧ R.life ≤ 86400000 ∧ 1 ≤ R.most ∧ R.most ≤ 1000)
def dcells (R : Rul) (sv : Value) (c : Int) (m : Nat) (l : Value) : List Value := [.int .i64 R.tries, .int .i64 R.lock, .int .i64 R.life, .int .i64 R.most, sv, .int .i64 c, .map (some m), l]

set_option maxRecDepth 10000 in
theorem Lmoments_spec (st : St) (r : Hp) (ms : Int) (hO : Own st r) (k q : Value → St → Prop) (hk : ∀ st', Own st' r → k (.bool (mok ms)) st') : ACall (C base w0 G) 20 [.int .i64 ms] st k q := by
  refine ACall.of (cx := C base w0 G) mixed Tryd.func20 rfl (by kernel_rfl) (by simp [Tryd.ntmps20]) ?_
  simp only [Tryd.results20]
  simp (config := { implicitDefEqProofs := false }) only [↓GP, ↓GM, GQ, abuiltinX, ↓awp_seq, ↓awp_block, C_ex, Nat.reduceBEq, acap, afieldAddr, aload, astore, abin, anum, astr, aun, isAggD, cond_true, cond_false, ↓reduceIte, C_P, C_G, isTuple, Value.cells, setL, ares, aresL, ares1, reduceCtorEq, Nat.reduceEqDiff, eq_self, Nat.reduceAdd, if_true, if_false, Go.Abs.one, Nat.reduceLeDiff, undef, gsl, aextract, aindexAddr, amake, implies_true, forall_const, alen, abuiltin, anil, isC, Int.reduceEq, Int.reduceLT, Int.reduceLE, Int.reduceAdd, Int.reduceToNat, Int.reduceNeg, Nat.reduceMul, Nat.reduceSub, abuild, afill, Int.reduceBNe, Int.reduceBEq]
  cases hm : mok ms with
  | false =>
    rw [hm] at hk
    refine ACallF.enter Tryd.func31 rfl (by kernel_rfl) (MDate_no st r ms hm hO _ _ fun s1 hO1 => ?_)
    simp (config := { implicitDefEqProofs := false }) only [↓GP, ↓GM, GQ, abuiltinX, ↓awp_seq, ↓awp_block, C_ex, Nat.reduceBEq, acap, afieldAddr, aload, astore, abin, anum, astr, aun, isAggD, cond_true, cond_false, ↓reduceIte, C_P, C_G, isTuple, Value.cells, setL, ares, aresL, ares1, reduceCtorEq, Nat.reduceEqDiff, eq_self, Nat.reduceAdd, if_true, if_false, Go.Abs.one, Nat.reduceLeDiff, undef, gsl, aextract, aindexAddr, amake, implies_true, forall_const, alen, abuiltin, anil, isC, Int.reduceEq, Int.reduceLT, Int.reduceLE, Int.reduceAdd, Int.reduceToNat, Int.reduceNeg, Nat.reduceMul, Nat.reduceSub, abuild, afill, Int.reduceBNe, Int.reduceBEq, aalloc, azc74, asz74, hA3]
    first | exact ⟨rfl, hk _ ((hO1.new (.cells [.int .i64 0, .int .i64 0, .int .i64 0] 74 true)).set rfl (.cells _ 74 true) rfl).tail⟩ | exact hk _ ((hO1.new (.cells [.int .i64 0, .int .i64 0, .int .i64 0] 74 true)).set rfl (.cells _ 74 true) rfl).tail
  | true =>
    rw [hm] at hk
    refine ACallF.enter Tryd.func31 rfl (by kernel_rfl) (MDate_spec st r ms hm hO _ _ fun s1 hO1 => ?_)
    simp (config := { implicitDefEqProofs := false }) only [↓GP, ↓GM, GQ, abuiltinX, ↓awp_seq, ↓awp_block, C_ex, Nat.reduceBEq, acap, afieldAddr, aload, astore, abin, anum, astr, aun, isAggD, cond_true, cond_false, ↓reduceIte, C_P, C_G, isTuple, Value.cells, setL, ares, aresL, ares1, reduceCtorEq, Nat.reduceEqDiff, eq_self, Nat.reduceAdd, if_true, if_false, Go.Abs.one, Nat.reduceLeDiff, undef, gsl, aextract, aindexAddr, amake, implies_true, forall_const, alen, abuiltin, anil, isC, Int.reduceEq, Int.reduceLT, Int.reduceLE, Int.reduceAdd, Int.reduceToNat, Int.reduceNeg, Nat.reduceMul, Nat.reduceSub, abuild, afill, Int.reduceBNe, Int.reduceBEq, aalloc, azc74, asz74, hA3]
    first | exact ⟨rfl, hk _ ((hO1.new (.cells [.int .i64 0, .int .i64 0, .int .i64 0] 74 true)).set rfl (.cells _ 74 true) rfl).tail⟩ | exact hk _ ((hO1.new (.cells [.int .i64 0, .int .i64 0, .int .i64 0] 74 true)).set rfl (.cells _ 74 true) rfl).tail
set_option maxRecDepth 10000 in
theorem Llives_spec (st : St) (r : Hp) (D m : Nat) (R : Rul) (sv l : Value) (c now : Int) (s : Ses) (hR : R.ok = true) (hs : s.ok) (hm : (D, Ob.cells (dcells R sv c m l) 56 true) ∈ r) (hO : Own st r) (k q : Value → St → Prop)
    (hk : ∀ st', Own st' r → k (.bool (lv R.life now s)) st') : ACall (C base w0 G) 25 [.pointer (some ⟨D, 0, none⟩), .agg s.cells.toArray, .int .i64 now] st k q := by
  refine ACall.of (cx := C base w0 G) mixed Tryd.func25 rfl (by kernel_rfl) (by simp [Tryd.ntmps25]) ?_
  simp only [Tryd.results25]
  have hO1 := hO.new (.cells s.cells 64 true)
  have hc1 := hO1.head
  have hcd := hO.get hm
  have hne := hO.fresh hm
  unfold dcells at hcd
  unfold Ses.cells at hc1
  simp (config := { implicitDefEqProofs := false }) only [↓GP, ↓GM, GQ, abuiltinX, ↓awp_seq, ↓awp_block, C_ex, Nat.reduceBEq, acap, afieldAddr, aload, astore, abin, anum, astr, aun, isAggD, cond_true, cond_false, ↓reduceIte, C_P, C_G, isTuple, Value.cells, setL, ares, aresL, ares1, reduceCtorEq, Nat.reduceEqDiff, eq_self, Nat.reduceAdd, if_true, if_false, Go.Abs.one, Nat.reduceLeDiff, undef, gsl, aextract, aindexAddr, amake, implies_true, forall_const, alen, abuiltin, anil, isC, Int.reduceEq, Int.reduceLT, Int.reduceLE, Int.reduceAdd, Int.reduceToNat, Int.reduceNeg, Nat.reduceMul, Nat.reduceSub, abuild, afill, Int.reduceBNe, Int.reduceBEq, abox, Ses.cells, asz64]
  refine ADraw.of [(0, false, []), (1, false, []), (2, false, []), (3, false, []), (4, false, []), (5, false, []), (6, false, []), (7, false, []), (8, false, []), (9, false, []), (10, false, []), (11, false, []), (12, false, []), (13, false, []), (14, false, []), (15, false, []), (16, false, [])] [] [] (by kernel_rfl) ?_
  obtain ⟨hs1, hs2, hs3, hs4⟩ := hs
  have hR' := of_decide_eq_true hR
  have hw : IntKind.i64.wrap (s.at_ + R.life) = s.at_ + R.life := w_i64 (by omega)
  by_cases h1 : now ≥ s.at_
  · have e : lv R.life now s = decide (now < s.at_ + R.life) := by rw [lv, decide_eq_true (show s.at_ ≤ now from h1), Bool.true_and]
    rw [e] at hk
    simp (config := { implicitDefEqProofs := false }) only [↓GP, ↓GM, GQ, abuiltinX, ↓awp_seq, ↓awp_block, C_ex, Nat.reduceBEq, acap, afieldAddr, aload, astore, abin, anum, astr, aun, isAggD, cond_true, cond_false, ↓reduceIte, C_P, C_G, isTuple, Value.cells, setL, ares, aresL, ares1, reduceCtorEq, Nat.reduceEqDiff, eq_self, Nat.reduceAdd, if_true, if_false, Go.Abs.one, Nat.reduceLeDiff, undef, gsl, aextract, aindexAddr, amake, implies_true, forall_const, alen, abuiltin, anil, isC, Int.reduceEq, Int.reduceLT, Int.reduceLE, Int.reduceAdd, Int.reduceToNat, Int.reduceNeg, Nat.reduceMul, Nat.reduceSub, abuild, afill, Int.reduceBNe, Int.reduceBEq, hc1, hcd, h1, decide_true, afo64_2, afo56_0, afo23_2, asz3, hw, hne, Tryd.underlying3]
    exact hk _ hO1.tail
  · have e : lv R.life now s = false := by rw [lv, decide_eq_false (show ¬ s.at_ ≤ now from h1), Bool.false_and]
    rw [e] at hk
    simp (config := { implicitDefEqProofs := false }) only [↓GP, ↓GM, GQ, abuiltinX, ↓awp_seq, ↓awp_block, C_ex, Nat.reduceBEq, acap, afieldAddr, aload, astore, abin, anum, astr, aun, isAggD, cond_true, cond_false, ↓reduceIte, C_P, C_G, isTuple, Value.cells, setL, ares, aresL, ares1, reduceCtorEq, Nat.reduceEqDiff, eq_self, Nat.reduceAdd, if_true, if_false, Go.Abs.one, Nat.reduceLeDiff, undef, gsl, aextract, aindexAddr, amake, implies_true, forall_const, alen, abuiltin, anil, isC, Int.reduceEq, Int.reduceLT, Int.reduceLE, Int.reduceAdd, Int.reduceToNat, Int.reduceNeg, Nat.reduceMul, Nat.reduceSub, abuild, afill, Int.reduceBNe, Int.reduceBEq, hc1, hcd, h1, decide_false, afo64_2, afo56_0, afo23_2, asz3, Tryd.underlying3]
    exact hk _ hO1.tail

theorem lvN (R : Rul) (now : Int) (L : List Ses) : (L.filter (lv R.life now)).length ≤ L.length := List.length_filter_le _ _
theorem filter_take_succ {α : Type} {p : α → Bool} {L : List α} {i : Nat} {s : α} (h : L[i]? = some s) : ((L.take (i + 1)).filter p).length = ((L.take i).filter p).length + (bif p s then 1 else 0) := by
  rw [List.take_add_one, h, List.filter_append, List.length_append]
  cases hp : p s <;> simp [hp]
/-- Where the sessions lie. -/
def SL (r : Hp) (l : Value) (L : List Ses) : Prop := Rws r l 3 (L.map Ses.cells) ∧ ∀ s ∈ L, s.ok
set_option maxRecDepth 10000 in
theorem Lroom_spec (st : St) (r : Hp) (D m : Nat) (R : Rul) (sv l : Value) (c now : Int) (L : List Ses) (hR : R.ok = true) (hL : SL r l L) (hn : L.length ≤ 100000) (hm : (D, Ob.cells (dcells R sv c m l) 56 true) ∈ r) (hO : Own st r) (k q : Value → St → Prop)
    (hk : ∀ st', Own st' r → k (.bool (decide (((L.filter (lv R.life now)).length : Int) < R.most))) st') : ACall (C base w0 G) 21 [.pointer (some ⟨D, 0, none⟩), .int .i64 now] st k q := by
  obtain ⟨a, cp, hls, _⟩ := hL.1.isSlice
  rw [List.length_map] at hls
  refine ACall.of (cx := C base w0 G) mixed Tryd.func21 rfl (by kernel_rfl) (by simp [Tryd.ntmps21]) ?_
  simp only [Tryd.results21]
  have hcd := hO.get hm
  unfold dcells at hcd
  rw [hls] at hcd
  simp (config := { implicitDefEqProofs := false }) only [↓GP, ↓GM, GQ, abuiltinX, ↓awp_seq, ↓awp_block, C_ex, Nat.reduceBEq, acap, afieldAddr, aload, astore, abin, anum, astr, aun, isAggD, cond_true, cond_false, ↓reduceIte, C_P, C_G, isTuple, Value.cells, setL, ares, aresL, ares1, reduceCtorEq, Nat.reduceEqDiff, eq_self, Nat.reduceAdd, if_true, if_false, Go.Abs.one, Nat.reduceLeDiff, undef, gsl, aextract, aindexAddr, amake, implies_true, forall_const, alen, abuiltin, anil, isC, Int.reduceEq, Int.reduceLT, Int.reduceLE, Int.reduceAdd, Int.reduceToNat, Int.reduceNeg, Nat.reduceMul, Nat.reduceSub, abuild, afill, Int.reduceBNe, Int.reduceBEq, hcd, afo56_4, asz54, Tryd.underlying54]
  refine ⟨fun m ρ s => ∃ i : Nat, m = L.length - i ∧ i ≤ L.length ∧ ρ 0 = .pointer (some ⟨D, 0, none⟩) ∧ ρ 1 = .int .i64 now ∧ ρ 5 = .int .i64 ((L.take i).filter (lv R.life now)).length ∧ ρ 11 = l ∧ ρ 12 = .int .i64 L.length ∧ ρ 13 = .int .i64 i ∧ Own s r, ⟨_, 0, rfl, Nat.zero_le _, rfl, rfl, rfl, hls.symm, rfl, rfl, hO⟩, ?_⟩
  rintro _ ρ s ⟨i, rfl, hi, h0, h1, h5, h11, h12, h13, hs⟩
  by_cases him : i < L.length
  · obtain ⟨x, o, sp, c', cs, ty, own, hvx, hmem, hcut⟩ := hL.1.mem (i := i) (l := (L[i]).cells) (by simp [him])
    rw [List.length_map] at hvx
    have hcx := hs.get hmem
    have hLi : L[i]? = some L[i] := List.getElem?_eq_getElem him
    have hok := hL.2 L[i] (List.getElem_mem him)
    have hft := filter_take_succ (p := lv R.life now) hLi
    have hle := List.length_filter_le (lv R.life now) (L.take i)
    rw [List.length_take] at hle
    generalize L[i] = S at *
    have hset : setL [Value.string ⟨#[]⟩, .string ⟨#[]⟩, .int .i64 0] 0 S.cells = S.cells := rfl
    have hcutS : cut S.cells 0 3 = some S.cells := rfl
    have hs2 := (hs.new (.cells [.string ⟨#[]⟩, .string ⟨#[]⟩, .int .i64 0] 64 true)).set rfl (.cells S.cells 64 true) rfl
    simp (config := { implicitDefEqProofs := false }) only [↓GP, ↓GM, GQ, abuiltinX, ↓awp_seq, ↓awp_block, C_ex, Nat.reduceBEq, acap, afieldAddr, aload, astore, abin, anum, astr, aun, isAggD, cond_true, cond_false, ↓reduceIte, C_P, C_G, isTuple, Value.cells, setL, ares, aresL, ares1, reduceCtorEq, Nat.reduceEqDiff, eq_self, Nat.reduceAdd, if_true, if_false, Go.Abs.one, Nat.reduceLeDiff, undef, gsl, aextract, aindexAddr, amake, implies_true, forall_const, alen, abuiltin, anil, isC, Int.reduceEq, Int.reduceLT, Int.reduceLE, Int.reduceAdd, Int.reduceToNat, Int.reduceNeg, Nat.reduceMul, Nat.reduceSub, abuild, afill, Int.reduceBNe, Int.reduceBEq, h0, h1, h5, h11, h12, h13, hvx, him, Int.ofNat_lt, decide_true, hcx, hcut, asz64, azc64, aalloc, Tryd.underlying54, Tryd.underlying64, Option.map_some, hset, hcutS]
    refine ⟨by omega, ⟨rfl, rfl⟩, ?_⟩
    refine ACallF.enter Tryd.func25 rfl (by kernel_rfl) (Llives_spec _ _ D m R sv l c now S hR hok (List.mem_cons_of_mem _ hm) hs2 _ _ fun s3 hs3 => ?_)
    have w1 : IntKind.i64.wrap ((i : Int) + 1) = ((i + 1 : Nat) : Int) := by rw [w_i64 (by omega)]; rfl
    have w2 : IntKind.i64.wrap ((((L.take i).filter (lv R.life now)).length : Int) + 1) = ((((L.take i).filter (lv R.life now)).length + 1 : Nat) : Int) := by rw [w_i64 (by omega)]; rfl
    cases hv : lv R.life now S <;> rw [hv] at hft <;>
      simp (config := { implicitDefEqProofs := false }) only [↓GP, ↓GM, GQ, abuiltinX, ↓awp_seq, ↓awp_block, C_ex, Nat.reduceBEq, acap, afieldAddr, aload, astore, abin, anum, astr, aun, isAggD, cond_true, cond_false, ↓reduceIte, C_P, C_G, isTuple, Value.cells, setL, ares, aresL, ares1, reduceCtorEq, Nat.reduceEqDiff, eq_self, Nat.reduceAdd, if_true, if_false, Go.Abs.one, Nat.reduceLeDiff, undef, gsl, aextract, aindexAddr, amake, implies_true, forall_const, alen, abuiltin, anil, isC, Int.reduceEq, Int.reduceLT, Int.reduceLE, Int.reduceAdd, Int.reduceToNat, Int.reduceNeg, Nat.reduceMul, Nat.reduceSub, abuild, afill, Int.reduceBNe, Int.reduceBEq, h0, h1, h5, h11, h12, h13, w1, w2] <;>
      exact ⟨L.length - (i + 1), by omega, i + 1, rfl, by omega, by rw [hft]; rfl, rfl, hs3.tail⟩
  · obtain rfl : i = L.length := by omega
    have hcd := hs.get hm
    unfold dcells at hcd
    simp (config := { implicitDefEqProofs := false }) only [↓GP, ↓GM, GQ, abuiltinX, ↓awp_seq, ↓awp_block, C_ex, Nat.reduceBEq, acap, afieldAddr, aload, astore, abin, anum, astr, aun, isAggD, cond_true, cond_false, ↓reduceIte, C_P, C_G, isTuple, Value.cells, setL, ares, aresL, ares1, reduceCtorEq, Nat.reduceEqDiff, eq_self, Nat.reduceAdd, if_true, if_false, Go.Abs.one, Nat.reduceLeDiff, undef, gsl, aextract, aindexAddr, amake, implies_true, forall_const, alen, abuiltin, anil, isC, Int.reduceEq, Int.reduceLT, Int.reduceLE, Int.reduceAdd, Int.reduceToNat, Int.reduceNeg, Nat.reduceMul, Nat.reduceSub, abuild, afill, Int.reduceBNe, Int.reduceBEq, h0, h1, h5, h11, h12, h13, Int.ofNat_lt, Nat.lt_irrefl, decide_false, hcd, afo56_0, afo23_3, asz3, Tryd.underlying3]
    rw [List.take_length]
    exact hk _ hs
end Go.Proofs.YthohmdkibkompaaDoor
