/- Rooms of records; a list with one ahead. No conditions. -/
import Derived.Test.YtiooigkcliomlaaQE
import Derived.Test.YtiooigkcliomlaaQ2
set_option linter.unusedVariables false
set_option linter.unusedSimpArgs false
namespace Go.Proofs.Ytiooigkcliomlaa
open Go Go.Abs Go.RowKit
variable {base : Nat} {w0 : World} {G : Nat}

def roomN : List (List Nat) → Nat
  | [] => 0
  | b :: bs => 1 + needN b.length + roomN bs
theorem layF_room (g : Nat) : ∀ (i : Nat) (recs : List (List Nat)), (layF g i recs).length = roomN recs
  | _, [] => rfl
  | i, b :: bs => by
    rw [layF, roomN, List.length_cons, List.length_append, chunks_length, layF_room g (i + 1) bs]; omega
theorem lay_room (g : Nat) (recs : List (List Nat)) : (lay g recs).length = roomN recs := layF_room g 0 recs
theorem roomN_append : ∀ a b : List (List Nat), roomN (a ++ b) = roomN a + roomN b
  | [], b => by simp [roomN]
  | x :: a, b => by rw [List.cons_append, roomN, roomN, roomN_append a b]; omega
theorem roomN_take_le (l : List (List Nat)) (i : Nat) : roomN (l.take i) ≤ roomN l := by
  conv => rhs; rw [← List.take_append_drop i l, roomN_append]
  omega
theorem roomN_take (l : List (List Nat)) (i : Nat) (b : List Nat) (h : l[i]? = some b) : roomN (l.take (i + 1)) = roomN (l.take i) + 1 + needN b.length := by
  rw [List.take_add_one, h, roomN_append]
  simp [roomN]; omega
theorem RNeed_spec (st : St) (n : Nat) (hn : n ≤ 1000000000) (k q : Value → St → Prop) (hk : k (.int .i64 (needN n : Nat)) st) : ACallF (C base w0 G) 29 [.int .i64 n] st k q := by
  refine ACallF.enter Try.func29 rfl (by kernel_rfl) ?_
  refine ACall.of (cx := C base w0 G) mixed Try.func29 rfl (by kernel_rfl) (by simp [Try.ntmps29]) ?_
  simp only [Try.results29]
  have e1 : IntKind.i64.wrap ((n : Int).tdiv 64) = ((n / 64 : Nat) : Int) := by rw [Int.tdiv_eq_ediv_of_nonneg (by omega), w_i64 (by omega)]; omega
  have e2 : IntKind.i64.wrap ((n : Int).tmod 64) = ((n % 64 : Nat) : Int) := by rw [Int.tmod_eq_emod_of_nonneg (by omega), w_i64 (by omega)]; omega
  have e2' : (n : Int).tmod 64 = ((n % 64 : Nat) : Int) := by rw [Int.tmod_eq_emod_of_nonneg (by omega)]; omega
  have e3 : IntKind.i64.wrap (((n / 64 : Nat) : Int) + 1) = ((n / 64 + 1 : Nat) : Int) := by rw [w_i64 (by omega)]; omega
  by_cases h0 : 0 < n % 64
  · have e : needN n = n / 64 + 1 := by unfold needN; omega
    rw [e] at hk
    simp (config := { implicitDefEqProofs := false }) only [↓GP, GQ, ↓awp_seq, ↓awp_block, C_ex, Nat.reduceBEq, acap, afieldAddr, aload, astore, abin, anum, astr, aun, isAggD, cond_true, cond_false, ↓reduceIte, C_P, C_G, isTuple, Value.cells, setL, ares, aresL, ares1, reduceCtorEq, Nat.reduceEqDiff, eq_self, Nat.reduceAdd, if_true, if_false, one, Nat.reduceLeDiff, undef, gsl, aextract, aindexAddr, amake, implies_true, forall_const, alen, abuiltin, anil, isC, Int.reduceEq, Int.reduceLT, Int.reduceLE, Int.reduceAdd, Int.reduceToNat, Int.reduceNeg, Nat.reduceMul, Nat.reduceSub, abuild, afill, Int.reduceBNe, Int.reduceBEq, Try.underlying3, e1, e2', e2, e3, show ((n % 64 : Nat) : Int) > 0 by omega, decide_true]
    exact hk
  · have e : needN n = n / 64 := by unfold needN; omega
    rw [e] at hk
    simp (config := { implicitDefEqProofs := false }) only [↓GP, GQ, ↓awp_seq, ↓awp_block, C_ex, Nat.reduceBEq, acap, afieldAddr, aload, astore, abin, anum, astr, aun, isAggD, cond_true, cond_false, ↓reduceIte, C_P, C_G, isTuple, Value.cells, setL, ares, aresL, ares1, reduceCtorEq, Nat.reduceEqDiff, eq_self, Nat.reduceAdd, if_true, if_false, one, Nat.reduceLeDiff, undef, gsl, aextract, aindexAddr, amake, implies_true, forall_const, alen, abuiltin, anil, isC, Int.reduceEq, Int.reduceLT, Int.reduceLE, Int.reduceAdd, Int.reduceToNat, Int.reduceNeg, Nat.reduceMul, Nat.reduceSub, abuild, afill, Int.reduceBNe, Int.reduceBEq, Try.underlying3, e1, e2', e2, e3, show ¬ ((n % 64 : Nat) : Int) > 0 by omega, decide_false]
    exact hk
set_option maxRecDepth 10000 in
theorem room_spec (st : St) (r : Hp) (v : Value) (ps : List (Value × List Nat)) (hP : Ps r v ps) (hl : roomN (ps.map (·.2)) ≤ 1000000) (hn : ps.length ≤ 1000000) (hO : Own st r) (k q : Value → St → Prop)
    (hk : k (.int .i64 (roomN (ps.map (·.2)) : Nat)) st) : ACallF (C base w0 G) 28 [v] st k q := by
  refine ACallF.enter Try.func28 rfl (by kernel_rfl) ?_
  obtain ⟨va, vc, hV⟩ : ∃ a c, v = .slice a ps.length c := by
    obtain ⟨a, c, h, _⟩ := hP.1.isSlice
    rw [List.length_map] at h
    exact ⟨a, c, h⟩
  refine ACall.of (cx := C base w0 G) mixed Try.func28 rfl (by kernel_rfl) (by simp [Try.ntmps28]) ?_
  simp only [Try.results28]
  simp (config := { implicitDefEqProofs := false }) only [↓GP, GQ, ↓awp_seq, ↓awp_block, C_ex, Nat.reduceBEq, acap, afieldAddr, aload, astore, abin, anum, astr, aun, isAggD, cond_true, cond_false, ↓reduceIte, C_P, C_G, isTuple, Value.cells, setL, ares, aresL, ares1, reduceCtorEq, Nat.reduceEqDiff, eq_self, Nat.reduceAdd, if_true, if_false, one, Nat.reduceLeDiff, undef, gsl, aextract, aindexAddr, amake, implies_true, forall_const, alen, abuiltin, anil, isC, Int.reduceEq, Int.reduceLT, Int.reduceLE, Int.reduceAdd, Int.reduceToNat, Int.reduceNeg, Nat.reduceMul, Nat.reduceSub, abuild, afill, Int.reduceBNe, Int.reduceBEq]
  refine ⟨fun m ρ s => ∃ i : Nat, m = ps.length - i ∧ i ≤ ps.length ∧ ρ 0 = v ∧ ρ 3 = .int .i64 (roomN ((ps.map (·.2)).take i) : Nat) ∧ ρ 4 = .int .i64 i ∧ s = st, ⟨ps.length, 0, rfl, Nat.zero_le _, rfl, rfl, rfl, rfl⟩, ?_⟩
  rintro m ρ s ⟨i, rfl, hi, h0, h3, h4, rfl⟩
  by_cases him : i < ps.length
  · obtain ⟨B, o, sp, c, cs, ty, own, hvx, hmem, hget⟩ := hP.at hO (by intro e; rw [e] at him; simp at him)
    have hp : ps[i]? = some ps[i] := List.getElem?_eq_getElem him
    generalize ps[i] = x at hp
    obtain ⟨x1, xl⟩ := x
    have hg := hget i (x1, xl) hp
    have hB := hO.get hmem
    have hNx := hP.2 (x1, xl) (List.mem_of_getElem? hp)
    obtain ⟨xa, xc, hx⟩ := hNx.isSlice
    have hx : x1 = .slice xa xl.length xc := hx
    subst hx
    have hr := roomN_take (ps.map (·.2)) i xl (by rw [List.getElem?_map, hp]; rfl)
    have hle := roomN_take_le (ps.map (·.2)) (i + 1)
    have hxn : xl.length ≤ 64 * needN xl.length := by unfold needN; omega
    have e1 : IntKind.i64.wrap (1 + ((needN xl.length : Nat) : Int)) = ((1 + needN xl.length : Nat) : Int) := by rw [w_i64 (by omega)]; omega
    have e2 : IntKind.i64.wrap (((roomN ((ps.map (·.2)).take i) : Nat) : Int) + ((1 + needN xl.length : Nat) : Int)) = ((roomN ((ps.map (·.2)).take (i + 1)) : Nat) : Int) := by rw [w_i64 (by omega)]; omega
    simp (config := { implicitDefEqProofs := false }) only [↓GP, GQ, ↓awp_seq, ↓awp_block, C_ex, Nat.reduceBEq, acap, afieldAddr, aload, astore, abin, anum, astr, aun, isAggD, cond_true, cond_false, ↓reduceIte, C_P, C_G, isTuple, Value.cells, setL, ares, aresL, ares1, reduceCtorEq, Nat.reduceEqDiff, eq_self, Nat.reduceAdd, if_true, if_false, one, Nat.reduceLeDiff, undef, gsl, aextract, aindexAddr, amake, implies_true, forall_const, alen, abuiltin, anil, isC, Int.reduceEq, Int.reduceLT, Int.reduceLE, Int.reduceAdd, Int.reduceToNat, Int.reduceNeg, Nat.reduceMul, Nat.reduceSub, abuild, afill, Int.reduceBNe, Int.reduceBEq, h0, h3, h4, hvx, hB, hg, asz23, Try.underlying22, Try.underlying23, Try.underlying3, Int.ofNat_lt, him, decide_true]
    refine ⟨by omega, RNeed_spec s xl.length (by omega) _ _ ?_⟩
    simp (config := { implicitDefEqProofs := false }) only [↓GP, GQ, ↓awp_seq, ↓awp_block, C_ex, Nat.reduceBEq, acap, afieldAddr, aload, astore, abin, anum, astr, aun, isAggD, cond_true, cond_false, ↓reduceIte, C_P, C_G, isTuple, Value.cells, setL, ares, aresL, ares1, reduceCtorEq, Nat.reduceEqDiff, eq_self, Nat.reduceAdd, if_true, if_false, one, Nat.reduceLeDiff, undef, gsl, aextract, aindexAddr, amake, implies_true, forall_const, alen, abuiltin, anil, isC, Int.reduceEq, Int.reduceLT, Int.reduceLE, Int.reduceAdd, Int.reduceToNat, Int.reduceNeg, Nat.reduceMul, Nat.reduceSub, abuild, afill, Int.reduceBNe, Int.reduceBEq, h0, h3, h4, e1, e2, Try.underlying3]
    exact ⟨ps.length - (i + 1), by omega, i + 1, rfl, by omega, rfl, by rw [w_i64 (by omega)]; rfl⟩
  · obtain rfl : i = ps.length := by omega
    rw [List.take_of_length_le (by simp)] at h3
    simp (config := { implicitDefEqProofs := false }) only [↓GP, GQ, ↓awp_seq, ↓awp_block, C_ex, Nat.reduceBEq, acap, afieldAddr, aload, astore, abin, anum, astr, aun, isAggD, cond_true, cond_false, ↓reduceIte, C_P, C_G, isTuple, Value.cells, setL, ares, aresL, ares1, reduceCtorEq, Nat.reduceEqDiff, eq_self, Nat.reduceAdd, if_true, if_false, one, Nat.reduceLeDiff, undef, gsl, aextract, aindexAddr, amake, implies_true, forall_const, alen, abuiltin, anil, isC, Int.reduceEq, Int.reduceLT, Int.reduceLE, Int.reduceAdd, Int.reduceToNat, Int.reduceNeg, Nat.reduceMul, Nat.reduceSub, abuild, afill, Int.reduceBNe, Int.reduceBEq, h0, h3, h4, hV, Try.underlying22, Try.underlying3, Int.ofNat_lt, Nat.lt_irrefl, decide_false]
    exact hk
theorem GVy.appendAll {P : Program} {st : St} {t t' e : TypeId} {n sz b m : Nat} {z cs Cs : List Value} {x v : Value} {hg r : Hp} {f : Value → St → Prop}
    (hu : P.underlying t = some (.slice e)) (hi : isIntD (P.underlying t') = some false) (hn : asz P e = some (sz + 1)) (hz : azc P e = some z) (hb : abytes P e = some (b + 1))
    (hG : ∃ b, v = .slice (some ⟨b, 0, none⟩) n n ∧ hg = [(b, .cells cs e true)] ∧ cs.length = n * (sz + 1)) (hO : Own st (hg ++ r)) (hs : asrc st (sz + 1) x = some (m, Cs)) (hl : Cs.length = m * (sz + 1)) (ho : Cs.all one = true) (hlim : (n + m) * (b + 1) ≤ 140737488355328)
    (k : ∀ v' hg' st', GVy v' (cs ++ Cs) (n + m) (sz + 1) e hg' → Own st' (hg' ++ r) → f v' st') : alet (aappend P st #[t, t'] v x) (stop f .mk) := by
  by_cases hm : m = 0
  · subst hm
    have hC : Cs = [] := List.eq_nil_of_length_eq_zero (by simpa using hl)
    subst hC
    obtain ⟨B, rfl, rfl, hc⟩ := hG
    rw [aappend_fit (cs := cs) hu hi hn hz hb hs ho hO.head (by omega) (by rw [hc, Nat.add_zero, Nat.zero_add]; exact Nat.le_refl _)]
    have : setL cs (0 + n * (sz + 1)) [] = cs := rfl
    rw [this, set_self hO.head]
    refine k _ _ _ (.inr ⟨B, rfl, rfl, by simpa using hc⟩) (by simpa using hO)
  · exact GVy.appendN hu hi hn hz hb (.inr hG) hO hs hm hl ho hlim fun v' hg' st' h1 h2 => k v' hg' st' (h1.elim (fun h => .inl (.inl h)) (fun ⟨b, h1, h2, h3⟩ => .inl (GV.c (.inr ⟨b, h1, h2, h3⟩)).x)) h2
theorem GVy.ps {v : Value} {qs : List (Value × List Nat)} {n : Nat} {ty : TypeId} {hg h : Hp} (hG : GVy v (qs.map (·.1)) n 1 ty hg) (hn : n = qs.length) (hq : ∀ q ∈ qs, Nb h q.1 q.2) : Ps (hg ++ h) v qs := by
  subst hn
  have hq' : ∀ q ∈ qs, Nb (hg ++ h) q.1 q.2 := fun q h => (hq q h).sub fun e he => List.mem_append_right _ he
  rcases hG with (⟨rfl, h2, h3, rfl⟩ | ⟨b, rfl, h2, h3, rfl⟩ | ⟨b, c, D, rfl, rfl, hc⟩) | ⟨b, rfl, rfl, _⟩
  · have : qs = [] := List.map_eq_nil_iff.1 h3
    subst this
    exact ⟨.inl ⟨rfl, .inl rfl⟩, hq'⟩
  · have : qs = [] := List.map_eq_nil_iff.1 h3
    subst this
    exact ⟨.inl ⟨rfl, .inr ⟨b, 0, none, 0, rfl⟩⟩, hq'⟩
  · have hs := cut_spec hc
    refine Ps.of (D := D) (own := true) (ty := ty) (by simp) ?_ hq'
    rw [hs.2.1, List.drop_zero, Nat.mul_one]
  · refine Ps.of (D := qs.map (·.1)) (own := true) (ty := ty) (by simp) ?_ hq'
    rw [List.take_of_length_le (by simp)]
end Go.Proofs.Ytiooigkcliomlaa
/- What was called, and a journal opened anew, of the statement's world. No conditions. -/
set_option linter.unusedVariables false
set_option linter.unusedSimpArgs false
namespace Go.Proofs.Ytiooigkcliomlaa
open Go Go.Abs Go.RowKit
variable {base : Nat} {w0 : World} {G : Nat}

/-- The world's block. -/
def wb (p : Nat) (j A P : Value) (gone : Bool) (g : Nat) : Ob := .cells [.pointer (some ⟨p, 0, none⟩), j, A, P, .bool gone, .int .i64 g] 55 true
def nils : Value := .slice none 0 0
set_option maxRecDepth 10000 in
theorem call_spec (st : St) (r : Hp) (wp p : Nat) (j A P : Value) (gone : Bool) (g gen : Nat) (e want : Int) (a : Option Addr) (n c : Nat) (hO : Own st ((wp, wb p j A P gone g) :: r)) (k q : Value → St → Prop)
    (h1 : want ≠ 0 → k (.bool (decide (e = want))) st)
    (h2 : want = 0 → gone = true → k (.bool (decide (e = 50))) st)
    (h3 : want = 0 → gone = false → e = 0 → ∀ st', Own st' ((wp, wb p j (.slice a n c) P false gen) :: r) → k (.bool true) st')
    (h4 : want = 0 → gone = false → e ≠ 0 → ∀ st', Own st' ((wp, wb p j A (.slice a n c) true g) :: r) → k (.bool (decide (e = 50))) st') :
    ACallF (C base w0 G) 30 [.pointer (some ⟨wp, 0, none⟩), .int .i64 e, .int .i64 want, .slice a n c, .int .i64 gen] st k q := by
  refine ACallF.enter Try.func30 rfl (by kernel_rfl) ?_
  refine ACall.of (cx := C base w0 G) mixed Try.func30 rfl (by kernel_rfl) (by simp [Try.ntmps30]) ?_
  simp only [Try.results30]
  have hw := hO.head
  unfold wb at hw
  by_cases hwant : want = 0
  case neg =>
    simp (config := { implicitDefEqProofs := false }) only [↓GP, GQ, ↓awp_seq, ↓awp_block, C_ex, Nat.reduceBEq, acap, afieldAddr, aload, astore, abin, anum, astr, aun, isAggD, cond_true, cond_false, ↓reduceIte, C_P, C_G, isTuple, Value.cells, setL, ares, aresL, ares1, reduceCtorEq, Nat.reduceEqDiff, eq_self, Nat.reduceAdd, if_true, if_false, one, Nat.reduceLeDiff, undef, gsl, aextract, aindexAddr, amake, implies_true, forall_const, alen, abuiltin, anil, isC, Int.reduceEq, Int.reduceLT, Int.reduceLE, Int.reduceAdd, Int.reduceToNat, Int.reduceNeg, Nat.reduceMul, Nat.reduceSub, abuild, afill, Int.reduceBNe, Int.reduceBEq, Try.underlying27, beqF hwant, bneT hwant]
    exact h1 hwant
  subst hwant
  cases gone with
  | true =>
    simp (config := { implicitDefEqProofs := false }) only [↓GP, GQ, ↓awp_seq, ↓awp_block, C_ex, Nat.reduceBEq, acap, afieldAddr, aload, astore, abin, anum, astr, aun, isAggD, cond_true, cond_false, ↓reduceIte, C_P, C_G, isTuple, Value.cells, setL, ares, aresL, ares1, reduceCtorEq, Nat.reduceEqDiff, eq_self, Nat.reduceAdd, if_true, if_false, one, Nat.reduceLeDiff, undef, gsl, aextract, aindexAddr, amake, implies_true, forall_const, alen, abuiltin, anil, isC, Int.reduceEq, Int.reduceLT, Int.reduceLE, Int.reduceAdd, Int.reduceToNat, Int.reduceNeg, Nat.reduceMul, Nat.reduceSub, abuild, afill, Int.reduceBNe, Int.reduceBEq, Try.underlying27, hw, afo55_4, asz4, Try.underlying4]
    exact h2 rfl rfl
  | false =>
    by_cases he : e = 0
    · subst he
      have hO3 := (hO.set rfl (wb p j (.slice a n c) P false g) rfl).set rfl (wb p j (.slice a n c) P false gen) rfl
      unfold wb at hO3
      simp (config := { implicitDefEqProofs := false }) only [↓GP, GQ, ↓awp_seq, ↓awp_block, C_ex, Nat.reduceBEq, acap, afieldAddr, aload, astore, abin, anum, astr, aun, isAggD, cond_true, cond_false, ↓reduceIte, C_P, C_G, isTuple, Value.cells, setL, ares, aresL, ares1, reduceCtorEq, Nat.reduceEqDiff, eq_self, Nat.reduceAdd, if_true, if_false, one, Nat.reduceLeDiff, undef, gsl, aextract, aindexAddr, amake, implies_true, forall_const, alen, abuiltin, anil, isC, Int.reduceEq, Int.reduceLT, Int.reduceLE, Int.reduceAdd, Int.reduceToNat, Int.reduceNeg, Nat.reduceMul, Nat.reduceSub, abuild, afill, Int.reduceBNe, Int.reduceBEq, Try.underlying27, hw, afo55_2, afo55_4, afo55_5, asz3, asz4, asz22, Try.underlying4, Try.underlying3, Try.underlying22]
      exact h3 rfl rfl rfl _ hO3
    · have hO3 := (hO.set rfl (wb p j A P true g) rfl).set rfl (wb p j A (.slice a n c) true g) rfl
      unfold wb at hO3
      simp (config := { implicitDefEqProofs := false }) only [↓GP, GQ, ↓awp_seq, ↓awp_block, C_ex, Nat.reduceBEq, acap, afieldAddr, aload, astore, abin, anum, astr, aun, isAggD, cond_true, cond_false, ↓reduceIte, C_P, C_G, isTuple, Value.cells, setL, ares, aresL, ares1, reduceCtorEq, Nat.reduceEqDiff, eq_self, Nat.reduceAdd, if_true, if_false, one, Nat.reduceLeDiff, undef, gsl, aextract, aindexAddr, amake, implies_true, forall_const, alen, abuiltin, anil, isC, Int.reduceEq, Int.reduceLT, Int.reduceLE, Int.reduceAdd, Int.reduceToNat, Int.reduceNeg, Nat.reduceMul, Nat.reduceSub, abuild, afill, Int.reduceBNe, Int.reduceBEq, Try.underlying27, hw, afo55_2, afo55_3, afo55_4, afo55_5, asz3, asz4, asz22, Try.underlying4, Try.underlying3, Try.underlying22, beqF he]
      exact h4 rfl rfl he _ hO3
end Go.Proofs.Ytiooigkcliomlaa
/- A journal opened anew, of the statement's world. No conditions. -/
set_option linter.unusedVariables false
set_option linter.unusedSimpArgs false
namespace Go.Proofs.Ytiooigkcliomlaa
open Go Go.Abs Go.RowKit
variable {base : Nat} {w0 : World} {G : Nat}

/-- What there may be besides: nothing, or a list. -/
def Perhaps (Z : Hp) (P : Value) (rs : Option (List (List Nat))) : Prop := (P = nils ∧ rs = none) ∨ ∃ l ps a n c, rs = some l ∧ P = .slice (some a) n c ∧ Ps Z P ps ∧ ps.map (·.2) = l ∧ ps ≠ []
theorem Perhaps.sub {h h' : Hp} {P : Value} {rs : Option (List (List Nat))} (hb : Perhaps h P rs) (hs : ∀ e ∈ h, e ∈ h') : Perhaps h' P rs := by
  rcases hb with h1 | ⟨l, ps, a, n, c, h1, h2, h3, h4⟩
  · exact .inl h1
  · exact .inr ⟨l, ps, a, n, c, h1, h2, h3.sub hs, h4⟩
theorem perm_m1 (a : Nat × Ob) (h r : Hp) : List.Perm (h ++ (a :: r)) (a :: (h ++ r)) := List.perm_middle
theorem perm_w7 (h : Hp) (a : Nat × Ob) (h6 H6 : Hp) (b : Nat × Ob) (Z : Hp) : List.Perm (h ++ (a :: (h6 ++ (H6 ++ (b :: Z))))) (b :: (h ++ (a :: (h6 ++ (H6 ++ Z))))) := by
  simpa using perm_of [h, [a], h6, H6, [b], Z] [0, 1, 2, 3, 4, 5] [4, 0, 1, 2, 3, 5] rfl
theorem perm_w8 (b : Nat × Ob) (h : Hp) (a : Nat × Ob) (h6 H6 : Hp) (Z : Hp) : List.Perm (b :: (h ++ (a :: (h6 ++ (H6 ++ Z))))) (b :: a :: (h6 ++ ((h ++ H6) ++ Z))) := by
  simpa using perm_of [[b], h, [a], h6, H6, Z] [0, 1, 2, 3, 4, 5] [0, 2, 3, 1, 4, 5] rfl
theorem perm_w9 (b : Nat × Ob) (h : Hp) (a : Nat × Ob) (h6 H6 : Hp) (Z : Hp) : List.Perm (b :: (h ++ (a :: (h6 ++ (H6 ++ Z))))) (a :: (h ++ (h6 ++ (H6 ++ (b :: Z))))) := by
  simpa using perm_of [[b], h, [a], h6, H6, Z] [0, 1, 2, 3, 4, 5] [2, 1, 3, 4, 0, 5] rfl
set_option maxHeartbeats 1000000 in
set_option maxRecDepth 10000 in
theorem opened_spec (st : St) (Z hd : Hp) (wp p : Nat) (j A P : Value) (qs : List (Value × List Nat)) (rs : Option (List (List Nat))) (gone : Bool) (g0 : Nat) (S : List (List Nat)) (L : List LN) {w g : Nat} {recs : List (List Nat)}
    (hop : Opens (appN S L) w g recs) (hD : DN p S L (-1) hd) (hO : Own st ((wp, wb p j A P gone g0) :: (hd ++ Z))) (hA : Ps Z A qs) (hP : Perhaps Z P rs) (hr : recs = qs.map (·.2) ∨ rs = some recs)
    (h4 : 4 ≤ S.length) (hS : S.length ≤ 1500) (hL : L.length ≤ 1000000) (hql : qs.length ≤ 1000000) (k q : Value → St → Prop)
    (hk : ∀ jp A' qs' hd' X T st', JI T w g recs → T.length = S.length → DN p T [] (-1) hd' → Ps (X ++ Z) A' qs' → qs'.map (·.2) = recs → Own st' ((wp, wb p (.pointer (some ⟨jp, 0, none⟩)) A' nils false g) :: JB jp p T w g recs false :: (hd' ++ (X ++ Z))) → k (.bool true) st') :
    ACallF (C base w0 G) 27 [.pointer (some ⟨wp, 0, none⟩)] st k q := by
  refine ACallF.enter Try.func27 rfl (by kernel_rfl) ?_
  refine ACall.of (cx := C base w0 G) mixed Try.func27 rfl (by kernel_rfl) (by simp [Try.ntmps27]) ?_
  simp only [Try.results27]
  have hw := hO.head
  have hwb : (wp, wb p j A P gone g0) ∈ ((wp, wb p j A P gone g0) :: Z) := List.mem_cons_self ..
  generalize hW : wb p j A P gone g0 = W at *
  have hW1 := hW
  unfold wb at hW1
  rw [← hW1] at hw
  simp (config := { implicitDefEqProofs := false }) only [↓GP, GQ, ↓awp_seq, ↓awp_block, C_ex, Nat.reduceBEq, acap, afieldAddr, aload, astore, abin, anum, astr, aun, isAggD, cond_true, cond_false, ↓reduceIte, C_P, C_G, isTuple, Value.cells, setL, ares, aresL, ares1, reduceCtorEq, Nat.reduceEqDiff, eq_self, Nat.reduceAdd, if_true, if_false, one, Nat.reduceLeDiff, undef, gsl, aextract, aindexAddr, amake, implies_true, forall_const, alen, abuiltin, anil, isC, Int.reduceEq, Int.reduceLT, Int.reduceLE, Int.reduceAdd, Int.reduceToNat, Int.reduceNeg, Nat.reduceMul, Nat.reduceSub, abuild, afill, Int.reduceBNe, Int.reduceBEq, hw, afo55_0, asz26, Try.underlying26]
  have hO1 : Own st (hd ++ ((wp, W) :: Z)) := hO.perm (perm_front hd _ _).symm
  refine OpenJ st _ hd p S L hop hD hO1 h4 hS hL _ _ fun jp6 sv6 rv6 h6 H6 T6 s6 hJ6 hl6 hD6 hN6 hR6 hO6 => ?_
  have hw6 := hO6.get (b := wp) (o := W) (by simp)
  rw [← hW1] at hw6
  obtain ⟨sa, sc, hsv⟩ := hN6.isSlice
  obtain ⟨qs6, hq6, hP6, _⟩ := hR6
  have hne := hJ6.ne
  have hle := hJ6.end_le
  have hge : recs.length ≤ (lay g recs).length := layF_ge g 0 recs
  have hq6l : qs6.length + 1 = recs.length := by
    have h1 := congrArg List.length hq6
    rw [List.length_map, List.length_tail] at h1
    have : recs.length ≠ 0 := fun e => hne (List.eq_nil_of_length_eq_zero e)
    omega
  have hb1 := abuildSlice_one (st := s6) (v := .slice sa (recs.headD []).length sc) Try.underlying22 asz23 azc23 rfl rfl rfl (by decide)
  have hO7 : Own _ ([(s6.n, Ob.cells [.slice sa (recs.headD []).length sc] 23 true)] ++ (JB jp6 p T6 w g recs false :: (h6 ++ (H6 ++ ((wp, W) :: Z))))) := hO6.new _
  have hP6' := hP6.sub (h' := [(s6.n, Ob.cells [.slice sa (recs.headD []).length sc] 23 true)] ++ (JB jp6 p T6 w g recs false :: (h6 ++ (H6 ++ ((wp, W) :: Z))))) (fun e he => by simp [he])
  rw [hsv]
  simp (config := { implicitDefEqProofs := false }) only [↓GP, GQ, ↓awp_seq, ↓awp_block, C_ex, Nat.reduceBEq, acap, afieldAddr, aload, astore, abin, anum, astr, aun, isAggD, cond_true, cond_false, ↓reduceIte, C_P, C_G, isTuple, Value.cells, setL, ares, aresL, ares1, reduceCtorEq, Nat.reduceEqDiff, eq_self, Nat.reduceAdd, if_true, if_false, one, Nat.reduceLeDiff, undef, gsl, aextract, aindexAddr, amake, implies_true, forall_const, alen, abuiltin, anil, isC, Int.reduceEq, Int.reduceLT, Int.reduceLE, Int.reduceAdd, Int.reduceToNat, Int.reduceNeg, Nat.reduceMul, Nat.reduceSub, abuild, afill, Int.reduceBNe, Int.reduceBEq, hb1, Try.underlying27, Try.underlying30]
  refine GVy.appendAll (n := 1) (m := qs6.length) (cs := [.slice sa (recs.headD []).length sc]) (Cs := qs6.map (·.1)) Try.underlying22 (by rw [Try.underlying22]; rfl) asz23 azc23 aby23 ⟨s6.n, rfl, rfl, rfl⟩ hO7 (hP6'.src hO7) (by simp) hP6'.one (by omega) fun v7 h7 s7 hG7 hO7 => ?_
  have hG7' : GVy v7 (((.slice sa (recs.headD []).length sc, recs.headD []) :: qs6 : List (Value × List Nat)).map (·.1)) (1 + qs6.length) 1 23 h7 := hG7
  have hal : ∀ x ∈ ((.slice sa (recs.headD []).length sc, recs.headD []) :: qs6 : List (Value × List Nat)), Nb (JB jp6 p T6 w g recs false :: (h6 ++ (H6 ++ Z))) x.1 x.2 := fun x hx => by
    rcases List.mem_cons.1 hx with e | e
    · subst e
      show Nb _ (.slice sa (recs.headD []).length sc) _
      rw [← hsv]
      exact hN6.sub fun e he => by simp [he]
    · exact (hP6.2 x e).sub fun e he => by simp [he]
  have hall : (((.slice sa (recs.headD []).length sc, recs.headD []) :: qs6 : List (Value × List Nat)).map (·.2)) = recs := by
    rw [List.map_cons, hq6]
    cases recs with
    | nil => exact absurd rfl hne
    | cons a b => rfl
  have hlen : ((.slice sa (recs.headD []).length sc, recs.headD []) :: qs6 : List (Value × List Nat)).length ≤ 1000000 := by rw [List.length_cons]; omega
  have hlen2 : 1 + qs6.length = ((.slice sa (recs.headD []).length sc, recs.headD []) :: qs6 : List (Value × List Nat)).length := by rw [List.length_cons]; omega
  generalize ((.slice sa (recs.headD []).length sc, recs.headD []) :: qs6 : List (Value × List Nat)) = al at *
  have hw7 := hO7.get (b := wp) (o := W) (by simp)
  rw [← hW1] at hw7
  have hO8 : Own s7 ((wp, wb p j A P gone g0) :: (h7 ++ (JB jp6 p T6 w g recs false :: (h6 ++ (H6 ++ Z))))) := by
    rw [hW]
    exact hO7.perm (perm_w7 _ _ _ _ _ _)
  have hPal : Ps (h7 ++ (JB jp6 p T6 w g recs false :: (h6 ++ (H6 ++ Z)))) v7 al := GVy.ps hG7' hlen2 hal
  rcases hP with ⟨rfl, rfl⟩ | ⟨l, ps, a, n, c, rfl, rfl, hPs, hPl, hPne⟩
  · unfold nils at hw7
    simp (config := { implicitDefEqProofs := false }) only [↓GP, GQ, ↓awp_seq, ↓awp_block, C_ex, Nat.reduceBEq, acap, afieldAddr, aload, astore, abin, anum, astr, aun, isAggD, cond_true, cond_false, ↓reduceIte, C_P, C_G, isTuple, Value.cells, setL, ares, aresL, ares1, reduceCtorEq, Nat.reduceEqDiff, eq_self, Nat.reduceAdd, if_true, if_false, one, Nat.reduceLeDiff, undef, gsl, aextract, aindexAddr, amake, implies_true, forall_const, alen, abuiltin, anil, isC, Int.reduceEq, Int.reduceLT, Int.reduceLE, Int.reduceAdd, Int.reduceToNat, Int.reduceNeg, Nat.reduceMul, Nat.reduceSub, abuild, afill, Int.reduceBNe, Int.reduceBEq, hw7, afo55_3, asz22, Try.underlying22, Try.underlying27, Try.underlying30]
    refine GenJ s7 jp6 p T6 w g recs false (h7 ++ (h6 ++ (H6 ++ ((wp, W) :: Z)))) (hO7.perm (perm_m1 _ _ _)) _ _ ?_
    simp (config := { implicitDefEqProofs := false }) only [↓GP, GQ, ↓awp_seq, ↓awp_block, C_ex, Nat.reduceBEq, acap, afieldAddr, aload, astore, abin, anum, astr, aun, isAggD, cond_true, cond_false, ↓reduceIte, C_P, C_G, isTuple, Value.cells, setL, ares, aresL, ares1, reduceCtorEq, Nat.reduceEqDiff, eq_self, Nat.reduceAdd, if_true, if_false, one, Nat.reduceLeDiff, undef, gsl, aextract, aindexAddr, amake, implies_true, forall_const, alen, abuiltin, anil, isC, Int.reduceEq, Int.reduceLT, Int.reduceLE, Int.reduceAdd, Int.reduceToNat, Int.reduceNeg, Nat.reduceMul, Nat.reduceSub, abuild, afill, Int.reduceBNe, Int.reduceBEq, hw7, afo55_1, afo55_2, afo55_3, afo55_4, afo55_5, asz3, asz4, asz22, asz30, Try.underlying3, Try.underlying4, Try.underlying22, Try.underlying27, Try.underlying30]
    have hqe : qs.map (·.2) = recs := by
      rcases hr with e | e
      · exact e.symm
      · cases e
    have hO9 := (((hO8.set rfl (wb p (.pointer (some ⟨jp6, 0, none⟩)) A nils gone g0) rfl).set rfl (wb p (.pointer (some ⟨jp6, 0, none⟩)) A nils gone g0) rfl).set rfl (wb p (.pointer (some ⟨jp6, 0, none⟩)) A nils false g0) rfl).set rfl (wb p (.pointer (some ⟨jp6, 0, none⟩)) A nils false g) rfl
    have hfin := hk jp6 A qs h6 (h7 ++ H6) T6 _ hJ6 hl6 hD6 (hA.sub fun e he => List.mem_append_right _ he) hqe (hO9.perm (perm_w8 _ _ _ _ _ _))
    unfold wb nils at hO9 hfin
    refine Same_spec _ _ v7 A al qs (hPal.sub fun e he => List.mem_cons_of_mem _ he) (hA.sub fun e he => by simp [he]) (by omega) hO9 _ _ ?_
    rw [hall, hqe, decide_eq_true rfl]
    simp (config := { implicitDefEqProofs := false }) only [↓GP, GQ, ↓awp_seq, ↓awp_block, C_ex, Nat.reduceBEq, acap, afieldAddr, aload, astore, abin, anum, astr, aun, isAggD, cond_true, cond_false, ↓reduceIte, C_P, C_G, isTuple, Value.cells, setL, ares, aresL, ares1, reduceCtorEq, Nat.reduceEqDiff, eq_self, Nat.reduceAdd, if_true, if_false, one, Nat.reduceLeDiff, undef, gsl, aextract, aindexAddr, amake, implies_true, forall_const, alen, abuiltin, anil, isC, Int.reduceEq, Int.reduceLT, Int.reduceLE, Int.reduceAdd, Int.reduceToNat, Int.reduceNeg, Nat.reduceMul, Nat.reduceSub, abuild, afill, Int.reduceBNe, Int.reduceBEq]
    exact hfin
  · have hPs' := hPs.sub (h' := h7 ++ (JB jp6 p T6 w g recs false :: (h6 ++ (H6 ++ ((wp, W) :: Z))))) (fun e he => by simp [he])
    simp (config := { implicitDefEqProofs := false }) only [↓GP, GQ, ↓awp_seq, ↓awp_block, C_ex, Nat.reduceBEq, acap, afieldAddr, aload, astore, abin, anum, astr, aun, isAggD, cond_true, cond_false, ↓reduceIte, C_P, C_G, isTuple, Value.cells, setL, ares, aresL, ares1, reduceCtorEq, Nat.reduceEqDiff, eq_self, Nat.reduceAdd, if_true, if_false, one, Nat.reduceLeDiff, undef, gsl, aextract, aindexAddr, amake, implies_true, forall_const, alen, abuiltin, anil, isC, Int.reduceEq, Int.reduceLT, Int.reduceLE, Int.reduceAdd, Int.reduceToNat, Int.reduceNeg, Nat.reduceMul, Nat.reduceSub, abuild, afill, Int.reduceBNe, Int.reduceBEq, hw7, afo55_3, asz22, Try.underlying22, Try.underlying27, Try.underlying30]
    refine Same_spec s7 _ v7 _ al ps (hPal.sub fun e he => (perm_w7 _ _ _ _ _ _).symm.subset (List.mem_cons_of_mem _ he)) hPs' (by omega) hO7 _ _ ?_
    rw [hall, hPl]
    by_cases hrl : recs = l
    · rw [decide_eq_true hrl]
      simp (config := { implicitDefEqProofs := false }) only [↓GP, GQ, ↓awp_seq, ↓awp_block, C_ex, Nat.reduceBEq, acap, afieldAddr, aload, astore, abin, anum, astr, aun, isAggD, cond_true, cond_false, ↓reduceIte, C_P, C_G, isTuple, Value.cells, setL, ares, aresL, ares1, reduceCtorEq, Nat.reduceEqDiff, eq_self, Nat.reduceAdd, if_true, if_false, one, Nat.reduceLeDiff, undef, gsl, aextract, aindexAddr, amake, implies_true, forall_const, alen, abuiltin, anil, isC, Int.reduceEq, Int.reduceLT, Int.reduceLE, Int.reduceAdd, Int.reduceToNat, Int.reduceNeg, Nat.reduceMul, Nat.reduceSub, abuild, afill, Int.reduceBNe, Int.reduceBEq, hw7, afo55_1, afo55_2, afo55_3, afo55_4, afo55_5, asz3, asz4, asz22, asz30, Try.underlying3, Try.underlying4, Try.underlying22, Try.underlying27, Try.underlying30]
      have hO8 := hO8.set rfl (wb p j (.slice (some a) n c) (.slice (some a) n c) gone g0) rfl
      have hO8' : Own _ (JB jp6 p T6 w g recs false :: (h7 ++ (h6 ++ (H6 ++ ((wp, wb p j (.slice (some a) n c) (.slice (some a) n c) gone g0) :: Z))))) := hO8.perm (perm_w9 _ _ _ _ _ _)
      unfold wb at hO8'
      refine GenJ _ jp6 p T6 w g recs false _ hO8' _ _ ?_
      have hw8 := hO8.head
      unfold wb at hw8
      simp (config := { implicitDefEqProofs := false }) only [↓GP, GQ, ↓awp_seq, ↓awp_block, C_ex, Nat.reduceBEq, acap, afieldAddr, aload, astore, abin, anum, astr, aun, isAggD, cond_true, cond_false, ↓reduceIte, C_P, C_G, isTuple, Value.cells, setL, ares, aresL, ares1, reduceCtorEq, Nat.reduceEqDiff, eq_self, Nat.reduceAdd, if_true, if_false, one, Nat.reduceLeDiff, undef, gsl, aextract, aindexAddr, amake, implies_true, forall_const, alen, abuiltin, anil, isC, Int.reduceEq, Int.reduceLT, Int.reduceLE, Int.reduceAdd, Int.reduceToNat, Int.reduceNeg, Nat.reduceMul, Nat.reduceSub, abuild, afill, Int.reduceBNe, Int.reduceBEq, hw8, afo55_1, afo55_2, afo55_3, afo55_4, afo55_5, asz3, asz4, asz22, asz30, Try.underlying3, Try.underlying4, Try.underlying22, Try.underlying27, Try.underlying30]
      have hqe : ps.map (·.2) = recs := by rw [hPl, hrl]
      have hO9 := (((hO8.set rfl (wb p (.pointer (some ⟨jp6, 0, none⟩)) (.slice (some a) n c) (.slice (some a) n c) gone g0) rfl).set rfl (wb p (.pointer (some ⟨jp6, 0, none⟩)) (.slice (some a) n c) nils gone g0) rfl).set rfl (wb p (.pointer (some ⟨jp6, 0, none⟩)) (.slice (some a) n c) nils false g0) rfl).set rfl (wb p (.pointer (some ⟨jp6, 0, none⟩)) (.slice (some a) n c) nils false g) rfl
      have hfin := hk jp6 (.slice (some a) n c) ps h6 (h7 ++ H6) T6 _ hJ6 hl6 hD6 (hPs.sub fun e he => List.mem_append_right _ he) hqe (hO9.perm (perm_w8 _ _ _ _ _ _))
      unfold wb nils at hO9 hfin
      refine Same_spec _ _ v7 (.slice (some a) n c) al ps (hPal.sub fun e he => List.mem_cons_of_mem _ he) (hPs.sub fun e he => by simp [he]) (by omega) hO9 _ _ ?_
      rw [hall, hqe, decide_eq_true rfl]
      simp (config := { implicitDefEqProofs := false }) only [↓GP, GQ, ↓awp_seq, ↓awp_block, C_ex, Nat.reduceBEq, acap, afieldAddr, aload, astore, abin, anum, astr, aun, isAggD, cond_true, cond_false, ↓reduceIte, C_P, C_G, isTuple, Value.cells, setL, ares, aresL, ares1, reduceCtorEq, Nat.reduceEqDiff, eq_self, Nat.reduceAdd, if_true, if_false, one, Nat.reduceLeDiff, undef, gsl, aextract, aindexAddr, amake, implies_true, forall_const, alen, abuiltin, anil, isC, Int.reduceEq, Int.reduceLT, Int.reduceLE, Int.reduceAdd, Int.reduceToNat, Int.reduceNeg, Nat.reduceMul, Nat.reduceSub, abuild, afill, Int.reduceBNe, Int.reduceBEq]
      exact hfin
    · have hqe : qs.map (·.2) = recs := by
        rcases hr with e | e
        · exact e.symm
        · exact absurd (Option.some.inj e).symm hrl
      rw [decide_eq_false hrl]
      simp (config := { implicitDefEqProofs := false }) only [↓GP, GQ, ↓awp_seq, ↓awp_block, C_ex, Nat.reduceBEq, acap, afieldAddr, aload, astore, abin, anum, astr, aun, isAggD, cond_true, cond_false, ↓reduceIte, C_P, C_G, isTuple, Value.cells, setL, ares, aresL, ares1, reduceCtorEq, Nat.reduceEqDiff, eq_self, Nat.reduceAdd, if_true, if_false, one, Nat.reduceLeDiff, undef, gsl, aextract, aindexAddr, amake, implies_true, forall_const, alen, abuiltin, anil, isC, Int.reduceEq, Int.reduceLT, Int.reduceLE, Int.reduceAdd, Int.reduceToNat, Int.reduceNeg, Nat.reduceMul, Nat.reduceSub, abuild, afill, Int.reduceBNe, Int.reduceBEq, hw7, afo55_1, afo55_2, afo55_3, afo55_4, afo55_5, asz3, asz4, asz22, asz30, Try.underlying3, Try.underlying4, Try.underlying22, Try.underlying27, Try.underlying30]
      refine GenJ s7 jp6 p T6 w g recs false (h7 ++ (h6 ++ (H6 ++ ((wp, W) :: Z)))) (hO7.perm (perm_m1 _ _ _)) _ _ ?_
      simp (config := { implicitDefEqProofs := false }) only [↓GP, GQ, ↓awp_seq, ↓awp_block, C_ex, Nat.reduceBEq, acap, afieldAddr, aload, astore, abin, anum, astr, aun, isAggD, cond_true, cond_false, ↓reduceIte, C_P, C_G, isTuple, Value.cells, setL, ares, aresL, ares1, reduceCtorEq, Nat.reduceEqDiff, eq_self, Nat.reduceAdd, if_true, if_false, one, Nat.reduceLeDiff, undef, gsl, aextract, aindexAddr, amake, implies_true, forall_const, alen, abuiltin, anil, isC, Int.reduceEq, Int.reduceLT, Int.reduceLE, Int.reduceAdd, Int.reduceToNat, Int.reduceNeg, Nat.reduceMul, Nat.reduceSub, abuild, afill, Int.reduceBNe, Int.reduceBEq, hw7, afo55_1, afo55_2, afo55_3, afo55_4, afo55_5, asz3, asz4, asz22, asz30, Try.underlying3, Try.underlying4, Try.underlying22, Try.underlying27, Try.underlying30]
      have hO9 := (((hO8.set rfl (wb p (.pointer (some ⟨jp6, 0, none⟩)) A (.slice (some a) n c) gone g0) rfl).set rfl (wb p (.pointer (some ⟨jp6, 0, none⟩)) A nils gone g0) rfl).set rfl (wb p (.pointer (some ⟨jp6, 0, none⟩)) A nils false g0) rfl).set rfl (wb p (.pointer (some ⟨jp6, 0, none⟩)) A nils false g) rfl
      have hfin := hk jp6 A qs h6 (h7 ++ H6) T6 _ hJ6 hl6 hD6 (hA.sub fun e he => List.mem_append_right _ he) hqe (hO9.perm (perm_w8 _ _ _ _ _ _))
      unfold wb nils at hO9 hfin
      refine Same_spec _ _ v7 A al qs (hPal.sub fun e he => List.mem_cons_of_mem _ he) (hA.sub fun e he => by simp [he]) (by omega) hO9 _ _ ?_
      rw [hall, hqe, decide_eq_true rfl]
      simp (config := { implicitDefEqProofs := false }) only [↓GP, GQ, ↓awp_seq, ↓awp_block, C_ex, Nat.reduceBEq, acap, afieldAddr, aload, astore, abin, anum, astr, aun, isAggD, cond_true, cond_false, ↓reduceIte, C_P, C_G, isTuple, Value.cells, setL, ares, aresL, ares1, reduceCtorEq, Nat.reduceEqDiff, eq_self, Nat.reduceAdd, if_true, if_false, one, Nat.reduceLeDiff, undef, gsl, aextract, aindexAddr, amake, implies_true, forall_const, alen, abuiltin, anil, isC, Int.reduceEq, Int.reduceLT, Int.reduceLE, Int.reduceAdd, Int.reduceToNat, Int.reduceNeg, Nat.reduceMul, Nat.reduceSub, abuild, afill, Int.reduceBNe, Int.reduceBEq]
      exact hfin
end Go.Proofs.Ytiooigkcliomlaa
/- What is kept while things are done with a journal. No conditions. -/
set_option linter.unusedVariables false
set_option linter.unusedSimpArgs false
namespace Go.Proofs.Ytiooigkcliomlaa
open Go Go.Abs Go.RowKit
variable {base : Nat} {w0 : World} {G : Nat}

def actJ (kd a m : Int) (raw : Value) : List Value := [.int .i64 kd, .int .i64 a, .int .i64 m, raw]
def IsActJ (h : Hp) (x : List Value) : Prop := ∃ kd a m raw l, x = actJ kd a m raw ∧ Nb h raw l ∧ l.length ≤ 9223372036854775807 ∧ a ≤ 9223372036854775807
/-- The world, its journal and its disk. -/
structure WI (F : Hp) (wp p n gm jp w g : Nat) (A P : Value) (qs : List (Value × List Nat)) (rs : Option (List (List Nat))) (gone : Bool) (S T : List (List Nat)) (L : List LN) (recs : List (List Nat)) (fz : Int) (hd Z : Hp) (s : St) : Prop where
  own : Own s ((wp, wb p (.pointer (some ⟨jp, 0, none⟩)) A P gone g) :: JB jp p T w g recs gone :: (hd ++ (Z ++ F)))
  disk : DN p S L fz hd
  fz : FZ fz
  ji : JI T w g recs
  tl : T.length = n
  sl : S.length = n
  ll : L.length ≤ 5000
  has : Ps (Z ++ F) A qs
  hrecs : qs.map (·.2) = recs
  per : Perhaps (Z ++ F) P rs
  ok : gone = false → S = T ∧ L = [] ∧ rs = none
  opn : ∀ T2, ((∃ a c, T2 = crashN S L a c) ∨ T2 = appN S L) → ∃ w2 g2 recs2, Opens T2 w2 g2 recs2 ∧ (recs2 = recs ∨ rs = some recs2) ∧ g2 ≤ gm
  gle : g ≤ gm
theorem WI.room {F : Hp} {wp p n gm jp w g : Nat} {A P : Value} {qs : List (Value × List Nat)} {rs : Option (List (List Nat))} {gone : Bool} {S T : List (List Nat)} {L : List LN} {recs : List (List Nat)} {fz : Int} {hd Z : Hp} {s : St}
    (h : WI F wp p n gm jp w g A P qs rs gone S T L recs fz hd Z s) : roomN (qs.map (·.2)) ≤ n / 2 ∧ qs.length ≤ n / 2 := by
  have h1 := h.ji.end_le
  have h2 : recs.length ≤ (lay g recs).length := layF_ge g 0 recs
  have h3 := h.tl
  have h4 := congrArg List.length h.hrecs
  rw [List.length_map] at h4
  rw [h.hrecs]
  rw [lay_room] at h1 h2
  omega
theorem WI.more {F : Hp} {wp p n gm jp w g : Nat} {A P : Value} {qs : List (Value × List Nat)} {rs : Option (List (List Nat))} {gone : Bool} {S T : List (List Nat)} {L : List LN} {recs : List (List Nat)} {fz : Int} {hd Z : Hp} {s : St} (X : Hp)
    (h : WI (X ++ F) wp p n gm jp w g A P qs rs gone S T L recs fz hd Z s) (gm' : Nat) (hg : gm ≤ gm') : WI F wp p n gm' jp w g A P qs rs gone S T L recs fz hd (Z ++ X) s :=
  ⟨by rw [List.append_assoc]; exact h.own, h.disk, h.fz, h.ji, h.tl, h.sl, h.ll, by rw [List.append_assoc]; exact h.has, h.hrecs, by rw [List.append_assoc]; exact h.per, h.ok, fun T2 h2 => by
    obtain ⟨w2, g2, r2, a, b, c⟩ := h.opn T2 h2
    exact ⟨w2, g2, r2, a, b, by omega⟩, Nat.le_trans h.gle hg⟩
theorem perm_push (x a b : Nat × Ob) (hd Z F : Hp) : List.Perm (x :: a :: b :: (hd ++ (Z ++ F))) (a :: b :: (hd ++ (Z ++ (x :: F)))) := by
  simpa using perm_of [[x], [a], [b], hd, Z, F] [0, 1, 2, 3, 4, 5] [1, 2, 3, 4, 0, 5] rfl
theorem WI.push {F : Hp} {wp p n gm jp w g : Nat} {A P : Value} {qs : List (Value × List Nat)} {rs : Option (List (List Nat))} {gone : Bool} {S T : List (List Nat)} {L : List LN} {recs : List (List Nat)} {fz : Int} {hd Z : Hp} {s s' : St} {x : Nat × Ob}
    (h : WI F wp p n gm jp w g A P qs rs gone S T L recs fz hd Z s) (hO : Own s' (x :: (wp, wb p (.pointer (some ⟨jp, 0, none⟩)) A P gone g) :: JB jp p T w g recs gone :: (hd ++ (Z ++ F)))) : WI (x :: F) wp p n gm jp w g A P qs rs gone S T L recs fz hd Z s' :=
  ⟨hO.perm (perm_push _ _ _ _ _ _), h.disk, h.fz, h.ji, h.tl, h.sl, h.ll, h.has.sub (fun e he => by rcases List.mem_append.1 he with e1 | e1 <;> simp [e1]), h.hrecs, h.per.sub (fun e he => by rcases List.mem_append.1 he with e1 | e1 <;> simp [e1]), h.ok, h.opn, h.gle⟩
/-- A journal opened anew. -/
theorem WI.opened {F : Hp} {wp p n gm : Nat} {jp w g : Nat} {A : Value} {qs : List (Value × List Nat)} {T : List (List Nat)} {recs : List (List Nat)} {fz : Int} {hd Z : Hp} {s : St} (hJ : JI T w g recs) (hl : T.length = n) (hfz : FZ fz) (hD : DN p T [] fz hd) (hA : Ps (Z ++ F) A qs) (hq : qs.map (·.2) = recs)
    (hg : g ≤ gm) (hO : Own s ((wp, wb p (.pointer (some ⟨jp, 0, none⟩)) A nils false g) :: JB jp p T w g recs false :: (hd ++ (Z ++ F)))) : WI F wp p n gm jp w g A nils qs none false T T [] recs fz hd Z s :=
  ⟨hO, hD, hfz, hJ, hl, hl, by simp, hA, hq, .inl ⟨rfl, rfl⟩, fun _ => ⟨rfl, rfl, rfl⟩, fun T2 h2 => by
    have : T2 = T := by
      rcases h2 with ⟨a, c, rfl⟩ | rfl
      · exact crashN_none _ _ _
      · rfl
    subst this
    exact ⟨w, g, recs, hJ.opens, .inl rfl, hg⟩, hg⟩
theorem AppendP (st : St) (r h : Hp) (jp p : Nat) (T S : List (List Nat)) (L : List LN) (w g : Nat) (recs : List (List Nat)) (fz : Int) (bv : Value) (l : List Nat) (hJ : JI T w g recs) (hD : DN p S L fz h) (hO : Own st (JB jp p T w g recs true :: (h ++ r))) (hb : Nb r bv l) (hfz : FZ fz)
    (hS : T.length ≤ 1500) (hs : S.length = T.length) (hl : l.length ≤ 262144) (k q : Value → St → Prop)
    (hfull : ¬ (1 + needN l.length ≤ T.length / 2 - (lay g recs).length) → k (.int .i64 51) st)
    (hoff : 1 + needN l.length ≤ T.length / 2 - (lay g recs).length → k (.int .i64 50) st) :
    ACallF (C base w0 G) 11 [.pointer (some ⟨jp, 0, none⟩), bv] st k q := by
  have he := hJ.end_le
  have hge : recs.length ≤ (lay g recs).length := layF_ge g 0 recs
  exact Append_spec st r h jp p (T.length / 2) w g recs.length (lay g recs).length true S L fz bv l hD hO hb (fun h => by cases h) hfz (by omega) (by omega) (by omega) hJ.hw hJ.glt (by omega) (by omega) k q (fun h => absurd h (by omega)) (fun _ h => hfull h) (fun _ h _ => hoff h) (fun _ _ _ _ _ _ h => by cases h) (fun _ _ _ _ _ h => by cases h)
theorem CompactP (st : St) (r h : Hp) (jp p : Nat) (T S : List (List Nat)) (L : List LN) (w g : Nat) (recs : List (List Nat)) (fz : Int) (bv : Value) (l : List Nat) (hJ : JI T w g recs) (hD : DN p S L fz h) (hO : Own st (JB jp p T w g recs true :: (h ++ r))) (hb : Nb r bv l) (hfz : FZ fz)
    (hS : T.length ≤ 1500) (hs : S.length = T.length) (hl : l.length ≤ 262144) (hg : g < 4294967295) (k q : Value → St → Prop)
    (hfull : ¬ (1 + needN l.length ≤ T.length / 2) → k (.int .i64 51) st)
    (hoff : 1 + needN l.length ≤ T.length / 2 → k (.int .i64 50) st) :
    ACallF (C base w0 G) 25 [.pointer (some ⟨jp, 0, none⟩), bv] st k q :=
  Compact_spec st r h jp p (T.length / 2) w g recs.length (lay g recs).length true S L fz bv l hD hO hb (fun h => by cases h) hfz (by omega) (by omega) hJ.hw hJ.glt (by omega) k q (fun h => absurd h (by omega)) (fun _ h => hfull h) (fun _ _ h => absurd h (by omega)) (fun _ h _ _ => hoff h) (fun _ _ _ _ _ _ h => by cases h) (fun _ _ _ _ _ _ _ h => by cases h) (fun _ _ _ _ _ _ h => by cases h)
/-- What a record that failed leaves. -/
theorem app_opn {T S' : List (List Nat)} {L' : List LN} {w g : Nat} {recs : List (List Nat)} {l : List Nat} (hJ : JI T w g recs) (hb : ∀ d ∈ l, d < 256) (hbl : l.length < 4294967296) (hfit : 1 + needN l.length ≤ T.length / 2 - (lay g recs).length) (hF : WFail T (w * (T.length / 2) + (lay g recs).length) g recs.length l S' L') (T2 : List (List Nat))
    (h2 : (∃ a c, T2 = crashN S' L' a c) ∨ T2 = appN S' L') : ∃ w2 g2 recs2, Opens T2 w2 g2 recs2 ∧ (recs2 = recs ∨ some (recs ++ [l]) = some recs2) ∧ g2 ≤ g := by
  have he := hJ.end_le
  have hwm : w * (T.length / 2) ≤ 1 * (T.length / 2) := Nat.mul_le_mul_right _ hJ.hw
  rcases fail_left hJ.sec hb (by omega) (hJ.nought (Nat.le_refl _) (by omega)) hF h2 with hL | hL
  · obtain ⟨tail, ht⟩ := hJ.left hfit hL
    exact ⟨w, g, recs, ht.opens, .inl rfl, Nat.le_refl _⟩
  · rw [hL]
    exact ⟨w, g, _, (hJ.wrote hb hbl hfit).1.opens, .inr rfl, Nat.le_refl _⟩
set_option maxRecDepth 10000 in
theorem with_specR (st : St) (R r : Hp) (v bv : Value) (ps : List (Value × List Nat)) (b : List Nat) (hP : Ps r v ps) (hb : Nb r bv b) (hl : ps.length ≤ 100000000) (hbl : b.length ≤ 100000000) (hO : Own st (R ++ r)) (k q : Value → St → Prop)
    (hk : ∀ H ov qs st', Ps (H ++ r) ov qs → qs.map (·.2) = ps.map (·.2) ++ [b] → Own st' (H ++ (R ++ r)) → k ov st') : ACallF (C base w0 G) 15 [v, bv] st k q := by
  refine ACallF.enter Try.func15 rfl (by kernel_rfl) ?_
  have hP0 := hP
  have hb0 := hb
  have hP : Ps (R ++ r) v ps := hP.sub fun e he => List.mem_append_right _ he
  have hb : Nb (R ++ r) bv b := hb.sub fun e he => List.mem_append_right _ he
  refine ACall.of (cx := C base w0 G) mixed Try.func15 rfl (by kernel_rfl) (by simp [Try.ntmps15]) ?_
  simp only [Try.results15]
  simp (config := { implicitDefEqProofs := false }) only [↓GP, GQ, ↓awp_seq, ↓awp_block, C_ex, Nat.reduceBEq, acap, afieldAddr, aload, astore, abin, anum, astr, aun, isAggD, cond_true, cond_false, ↓reduceIte, C_P, C_G, isTuple, Value.cells, setL, ares, aresL, ares1, reduceCtorEq, Nat.reduceEqDiff, eq_self, Nat.reduceAdd, if_true, if_false, one, Nat.reduceLeDiff, undef, gsl, aextract, aindexAddr, amake, implies_true, forall_const, alen, abuiltin, anil, isC, Int.reduceEq, Int.reduceLT, Int.reduceLE, Int.reduceAdd, Int.reduceToNat, Int.reduceNeg, Nat.reduceMul, Nat.reduceSub, abuild, afill, Int.reduceBNe, Int.reduceBEq]
  refine GVc.append (cs := []) (n := 0) (hg := []) (m := ps.length) (Cs := ps.map (·.1)) Try.underlying22 (by rw [Try.underlying22]; rfl) asz23 azc23 aby23 GVc.nil (show Own st ([] ++ (R ++ r)) from hO) (hP.src hO) (by simp) hP.one (by omega) fun v2 h2 s2 hG2 hO2 => ?_
  have hOe := hO2.new (.cells [] 5 true)
  have hbs : Nb ((s2.n, .cells [] 5 true) :: (h2 ++ (R ++ r))) bv b := hb.sub fun e he => by simp [he]
  simp (config := { implicitDefEqProofs := false }) only [↓GP, GQ, ↓awp_seq, ↓awp_block, C_ex, Nat.reduceBEq, acap, afieldAddr, aload, astore, abin, anum, astr, aun, isAggD, cond_true, cond_false, ↓reduceIte, C_P, C_G, isTuple, Value.cells, setL, ares, aresL, ares1, reduceCtorEq, Nat.reduceEqDiff, eq_self, Nat.reduceAdd, if_true, if_false, one, Nat.reduceLeDiff, undef, gsl, aextract, aindexAddr, amake, implies_true, forall_const, alen, abuiltin, anil, isC, Int.reduceEq, Int.reduceLT, Int.reduceLE, Int.reduceAdd, Int.reduceToNat, Int.reduceNeg, Nat.reduceMul, Nat.reduceSub, abuild, afill, Int.reduceBNe, Int.reduceBEq, abuildSlice_none (st := s2) Try.underlying23 asz5 azc5]
  refine GVc.append (cs := []) (n := 0) (hg := [(s2.n, .cells [] 5 true)]) (m := b.length) (Cs := nl b) Try.underlying23 (by rw [Try.underlying23]; rfl) asz5 azc5 aby5 (.inr (.inl ⟨s2.n, rfl, rfl, rfl, rfl⟩)) hOe (hbs.src hOe) (by rw [nl_length, Nat.mul_one]) (nl_one _) (by omega) fun v3 h3 s3 hG3 hO3 => ?_
  rw [Nat.zero_add] at hG3
  rw [List.nil_append] at hG3
  obtain ⟨a3, c3, hv3⟩ := hG3.isSlice
  have hb1 := abuildSlice_one (st := s3) (v := .slice a3 b.length c3) Try.underlying22 asz23 azc23 rfl rfl rfl (by decide)
  have hO3' : Own s3 (h2 ++ (h3 ++ (R ++ r))) := hO3.perm (by simpa using perm_of [h3, h2, R ++ r] [0, 1, 2] [1, 0, 2] rfl)
  rw [List.nil_append, Nat.zero_add] at hG2
  simp (config := { implicitDefEqProofs := false }) only [↓GP, GQ, ↓awp_seq, ↓awp_block, C_ex, Nat.reduceBEq, acap, afieldAddr, aload, astore, abin, anum, astr, aun, isAggD, cond_true, cond_false, ↓reduceIte, C_P, C_G, isTuple, Value.cells, setL, ares, aresL, ares1, reduceCtorEq, Nat.reduceEqDiff, eq_self, Nat.reduceAdd, if_true, if_false, one, Nat.reduceLeDiff, undef, gsl, aextract, aindexAddr, amake, implies_true, forall_const, alen, abuiltin, anil, isC, Int.reduceEq, Int.reduceLT, Int.reduceLE, Int.reduceAdd, Int.reduceToNat, Int.reduceNeg, Nat.reduceMul, Nat.reduceSub, abuild, afill, Int.reduceBNe, Int.reduceBEq, hv3, hb1]
  refine GVc.append1 (c := [.slice a3 b.length c3]) Try.underlying22 (by rw [Try.underlying22]; rfl) asz23 azc23 aby23 hG2 hO3' rfl rfl (by omega) fun v7 h7 s7 hG7 hO7 => ?_
  simp (config := { implicitDefEqProofs := false }) only [↓GP, GQ, ↓awp_seq, ↓awp_block, C_ex, Nat.reduceBEq, acap, afieldAddr, aload, astore, abin, anum, astr, aun, isAggD, cond_true, cond_false, ↓reduceIte, C_P, C_G, isTuple, Value.cells, setL, ares, aresL, ares1, reduceCtorEq, Nat.reduceEqDiff, eq_self, Nat.reduceAdd, if_true, if_false, one, Nat.reduceLeDiff, undef, gsl, aextract, aindexAddr, amake, implies_true, forall_const, alen, abuiltin, anil, isC, Int.reduceEq, Int.reduceLT, Int.reduceLE, Int.reduceAdd, Int.reduceToNat, Int.reduceNeg, Nat.reduceMul, Nat.reduceSub, abuild, afill, Int.reduceBNe, Int.reduceBEq]
  have hG7' : GVc v7 ((ps ++ [(v3, b)]).map (·.1)) (ps ++ [(v3, b)]).length 1 23 h7 := by
    rw [List.map_append, List.length_append, List.map_singleton, hv3]
    exact hG7
  refine hk (h7 ++ h3) v7 (ps ++ [(v3, b)]) s7 ?_ (by simp) (by rw [List.append_assoc]; exact hO7)
  rw [List.append_assoc]
  refine (hG7'.ps rfl asz23 fun x hx => ?_).1
  rcases List.mem_append.1 hx with e | e
  · exact (hP0.2 x e).sub fun e he => List.mem_append_right _ he
  · simp only [List.mem_singleton] at e
    subst e
    exact hG3.nb rfl hb.2
theorem perm_c (H : Hp) (b : Nat × Ob) (h : Hp) (a : Nat × Ob) (Z F : Hp) : List.Perm (H ++ ((b :: (h ++ [a])) ++ (Z ++ F))) (a :: b :: (h ++ ((H ++ Z) ++ F))) := by
  simpa using perm_of [H, [b], h, [a], Z, F] [0, 1, 2, 3, 4, 5] [3, 1, 2, 0, 4, 5] rfl
theorem app_e (b : Nat × Ob) (h : Hp) (a : Nat × Ob) (R : Hp) : b :: (h ++ (a :: R)) = (b :: (h ++ [a])) ++ R := by simp
theorem perm_d (a b : Nat × Ob) (h R : Hp) : List.Perm (b :: (h ++ (a :: R))) (a :: b :: (h ++ R)) := (perm_jN a b h R).symm
end Go.Proofs.Ytiooigkcliomlaa
