/- The journal's small functions: bytes that are the same, numbers as bytes, sectors that bytes need. No conditions. -/
import Derived.Test.YtiooigkcliomlaaJ9
set_option linter.unusedVariables false
set_option linter.unusedSimpArgs false
namespace Go.Proofs.Ytiooigkcliomlaa
open Go Go.Abs Go.RowKit
variable {base : Nat} {w0 : World} {G : Nat}

theorem _root_.Go.Abs.Nb.strP {st : St} {h : Hp} {v : Value} {l : List Nat} (hb : Nb h v l) (hO : Own st h) : aconv Try.prog st 23 9 v = some (.string (strOf (l.map fun n : Nat => (n : Int))), st) := by
  obtain ⟨a, c, e⟩ := hb.isSlice
  exact aconv_nl Try.underlying23 Try.underlying5 Try.underlying9 (hb.src hO) ⟨_, _, _, e⟩
set_option maxRecDepth 10000 in
theorem Equal_spec (st : St) (r : Hp) (av bv : Value) (a b : List Nat) (ha : Nb r av a) (hb : Nb r bv b) (hO : Own st r) (k q : Value → St → Prop) (hk : k (.bool (decide (a = b))) st) :
    ACall (C base w0 G) 48 [av, bv] st k q := by
  refine ACall.of (cx := C base w0 G) mixed Try.func48 rfl (by kernel_rfl) (by simp [Try.ntmps48]) ?_
  simp only [Try.results48]
  simp (config := { implicitDefEqProofs := false }) only [↓GP, GQ, ↓awp_seq, ↓awp_block, C_ex, Nat.reduceBEq, acap, afieldAddr, aload, astore, abin, anum, astr, aun, isAggD, cond_true, cond_false, ↓reduceIte, C_P, C_G, isTuple, Value.cells, setL, ares, aresL, ares1, reduceCtorEq, Nat.reduceEqDiff, eq_self, Nat.reduceAdd, if_true, if_false, one, Nat.reduceLeDiff, undef, gsl, aextract, aindexAddr, amake, implies_true, forall_const, alen, abuiltin, anil, isC, Int.reduceEq, Int.reduceLT, Int.reduceLE, Int.reduceAdd, Int.reduceToNat, Int.reduceNeg, Nat.reduceMul, Nat.reduceSub, abuild, afill, Int.reduceBNe, Int.reduceBEq, ha.strP hO, hb.strP hO, Try.underlying9, abin, astr, strOf_eq ha.2 hb.2]
  exact hk
def needN (n : Nat) : Nat := (n + 63) / 64
set_option maxRecDepth 10000 in
theorem need_spec (st : St) (n : Nat) (hn : n ≤ 1000000) (k q : Value → St → Prop) (hk : k (.int .i64 (needN n : Nat)) st) : ACall (C base w0 G) 38 [.int .i64 n] st k q := by
  refine ACall.of (cx := C base w0 G) mixed Try.func38 rfl (by kernel_rfl) (by simp [Try.ntmps38]) ?_
  simp only [Try.results38]
  simp (config := { implicitDefEqProofs := false }) only [↓GP, GQ, ↓awp_seq, ↓awp_block, C_ex, Nat.reduceBEq, acap, afieldAddr, aload, astore, abin, anum, astr, aun, isAggD, cond_true, cond_false, ↓reduceIte, C_P, C_G, isTuple, Value.cells, setL, ares, aresL, ares1, reduceCtorEq, Nat.reduceEqDiff, eq_self, Nat.reduceAdd, if_true, if_false, one, Nat.reduceLeDiff, undef, gsl, aextract, aindexAddr, amake, implies_true, forall_const, alen, abuiltin, anil, isC, Int.reduceEq, Int.reduceLT, Int.reduceLE, Int.reduceAdd, Int.reduceToNat, Int.reduceNeg, Nat.reduceMul, Nat.reduceSub, abuild, afill, Int.reduceBNe, Int.reduceBEq, Try.underlying3]
  have e1 : IntKind.i64.wrap (IntKind.i64.wrap ((n : Int) + 64) - 1) = ((n + 63 : Nat) : Int) := by rw [w_i64 (x := (n : Int) + 64) (by omega), w_i64 (by omega)]; omega
  have e2 : IntKind.i64.wrap (((n + 63 : Nat) : Int).tdiv 64) = ((needN n : Nat) : Int) := by rw [Int.tdiv_eq_ediv_of_nonneg (by omega), w_i64 (by omega)]; unfold needN; omega
  rw [e1, e2]
  exact hk
theorem build4 {st : St} {a b c d : Nat} : abuildSlice Try.prog st 23 4 [(0, .int .u8 a), (1, .int .u8 b), (2, .int .u8 c), (3, .int .u8 d)] = some (.slice (some ⟨st.n, 0, none⟩) 4 4, st.new (.cells (nl [a, b, c, d]) 5 true)) := by
  simp [abuildSlice, Try.underlying23, asz5, azc5, afill, zeros, isTuple, Value.cells, setL, nl, bl, List.replicate]
set_option maxRecDepth 10000 in
theorem four_spec (st : St) (r h : Hp) (v : Value) (l : List Nat) (n x : Nat) (hG : GVy v (nl l) n 1 5 h) (hO : Own st (h ++ r)) (hn : n ≤ 100000) (hx : x < 4294967296) (k q : Value → St → Prop)
    (hk : ∀ v' h' st', GV v' (nl (l ++ out4 x)) (n + 4) 1 5 h' → Own st' (h' ++ r) → k v' st') :
    ACall (C base w0 G) 54 [v, .int .u32 x] st k q := by
  refine ACall.of (cx := C base w0 G) mixed Try.func54 rfl (by kernel_rfl) (by simp [Try.ntmps54]) ?_
  simp only [Try.results54]
  have e24 : ((x : Int) / 2 ^ 24) = ((x / 16777216 : Nat) : Int) := by rw [show (2 : Int) ^ 24 = 16777216 from rfl]; omega
  have e16 : ((x : Int) / 2 ^ 16) = ((x / 65536 : Nat) : Int) := by rw [show (2 : Int) ^ 16 = 65536 from rfl]; omega
  have e8 : ((x : Int) / 2 ^ 8) = ((x / 256 : Nat) : Int) := by rw [show (2 : Int) ^ 8 = 256 from rfl]; omega
  simp (config := { implicitDefEqProofs := false }) only [↓GP, GQ, ↓awp_seq, ↓awp_block, C_ex, Nat.reduceBEq, acap, afieldAddr, aload, astore, abin, anum, astr, aun, isAggD, cond_true, cond_false, ↓reduceIte, C_P, C_G, isTuple, Value.cells, setL, ares, aresL, ares1, reduceCtorEq, Nat.reduceEqDiff, eq_self, Nat.reduceAdd, if_true, if_false, one, Nat.reduceLeDiff, undef, gsl, aextract, aindexAddr, amake, implies_true, forall_const, alen, abuiltin, anil, isC, Int.reduceEq, Int.reduceLT, Int.reduceLE, Int.reduceAdd, Int.reduceToNat, Int.reduceNeg, Nat.reduceMul, Nat.reduceSub, abuild, afill, Int.reduceBNe, Int.reduceBEq, Try.underlying47, Try.underlying93, Try.underlying5, ashift, aconv, show ((24 : Int).toNat) = 24 from rfl, show ((16 : Int).toNat) = 16 from rfl, show ((8 : Int).toNat) = 8 from rfl, e24, e16, e8, w_u8n, build4,
    show (0 : Int) ≤ 24 ∧ (24 : Int) ≤ ((IntKind.u32.bits : Nat) : Int) by decide, show (0 : Int) ≤ 16 ∧ (16 : Int) ≤ ((IntKind.u32.bits : Nat) : Int) by decide, show (0 : Int) ≤ 8 ∧ (8 : Int) ≤ ((IntKind.u32.bits : Nat) : Int) by decide]
  refine hG.appendK (m := 4) Try.underlying23 (by rw [Try.underlying23]; rfl) asz5 azc5 (c := nl [x / 16777216 % 256, x / 65536 % 256, x / 256 % 256, x % 256]) aby5 hO rfl (by decide) (nl_one _) (by omega) fun v' h' s' hG' hs' => ?_
  simp (config := { implicitDefEqProofs := false }) only [↓GP, GQ, ↓awp_seq, ↓awp_block, C_ex, Nat.reduceBEq, acap, afieldAddr, aload, astore, abin, anum, astr, aun, isAggD, cond_true, cond_false, ↓reduceIte, C_P, C_G, isTuple, Value.cells, setL, ares, aresL, ares1, reduceCtorEq, Nat.reduceEqDiff, eq_self, Nat.reduceAdd, if_true, if_false, one, Nat.reduceLeDiff, undef, gsl, aextract, aindexAddr, amake, implies_true, forall_const, alen, abuiltin, anil, isC, Int.reduceEq, Int.reduceLT, Int.reduceLE, Int.reduceAdd, Int.reduceToNat, Int.reduceNeg, Nat.reduceMul, Nat.reduceSub, abuild, afill, Int.reduceBNe, Int.reduceBEq]
  refine hk v' h' _ ?_ hs'
  rw [nl_append]
  exact hG'
set_option maxRecDepth 10000 in
theorem word_spec (st : St) (r : Hp) (l : List Nat) (B o o0 n c : Nat) (sp : Option Nat) (cs : List Value) (ty : TypeId) (own : Bool) (hl : ∀ d ∈ l, d < 256) (hm : (B, .cells cs ty own) ∈ r) (hg : ∀ i, i < 4 → cs[o + i]? = some (.int .u8 (l.getD (o0 + i) 0 : Nat))) (hn : 4 ≤ n) (hO : Own st r) (k q : Value → St → Prop)
    (hk : k (.int .i64 (word4 l o0 : Nat)) st) : ACall (C base w0 G) 56 [.slice (some ⟨B, o, sp⟩) n c] st k q := by
  refine ACall.of (cx := C base w0 G) mixed Try.func56 rfl (by kernel_rfl) (by simp [Try.ntmps56]) ?_
  simp only [Try.results56]
  have hB := hO.get hm
  have g0 := hg 0 (by decide)
  have g1 := hg 1 (by decide)
  have g2 := hg 2 (by decide)
  have g3 := hg 3 (by decide)
  rw [Nat.add_zero, Nat.add_zero] at g0
  have b0 := getD8 hl o0
  have b1 := getD8 hl (o0 + 1)
  have b2 := getD8 hl (o0 + 2)
  have b3 := getD8 hl (o0 + 3)
  rw [word4] at hk
  generalize l.getD o0 0 = x0 at *
  generalize l.getD (o0 + 1) 0 = x1 at *
  generalize l.getD (o0 + 2) 0 = x2 at *
  generalize l.getD (o0 + 3) 0 = x3 at *
  have i24 : ((24 : Int).toNat) = 24 := rfl
  simp (config := { implicitDefEqProofs := false }) only [↓GP, GQ, ↓awp_seq, ↓awp_block, C_ex, Nat.reduceBEq, acap, afieldAddr, aload, astore, abin, anum, astr, aun, isAggD, cond_true, cond_false, ↓reduceIte, C_P, C_G, isTuple, Value.cells, setL, ares, aresL, ares1, reduceCtorEq, Nat.reduceEqDiff, eq_self, Nat.reduceAdd, if_true, if_false, one, Nat.reduceLeDiff, undef, gsl, aextract, aindexAddr, amake, implies_true, forall_const, alen, abuiltin, anil, isC, Int.reduceEq, Int.reduceLT, Int.reduceLE, Int.reduceAdd, Int.reduceToNat, Int.reduceNeg, Nat.reduceMul, Nat.reduceSub, abuild, afill, Int.reduceBNe, Int.reduceBEq]
  refine ADraw.of [(0, false, []), (1, false, []), (2, false, []), (3, false, []), (4, false, []), (5, false, []), (6, false, []), (7, false, []), (8, false, []), (9, false, []), (10, false, []), (11, false, []), (12, false, []), (13, false, []), (14, false, []), (15, false, []), (16, false, []), (17, false, []), (18, false, []), (19, false, []), (20, false, []), (21, false, []), (22, false, [])] [] [] (by kernel_rfl) ?_
  have e0 : IntKind.i64.wrap (IntKind.i64.wrap (x0 : Int) * 2 ^ 24) = ((x0 * 16777216 : Nat) : Int) := by
    rw [w_i64 (x := (x0 : Int)) (by omega), show (2 : Int) ^ 24 = 16777216 from rfl, w_i64 (by omega)]; omega
  have e1 : IntKind.i64.wrap (IntKind.i64.wrap (x1 : Int) * 2 ^ 16) = ((x1 * 65536 : Nat) : Int) := by
    rw [w_i64 (x := (x1 : Int)) (by omega), show (2 : Int) ^ 16 = 65536 from rfl, w_i64 (by omega)]; omega
  have e2 : IntKind.i64.wrap (IntKind.i64.wrap (x2 : Int) * 2 ^ 8) = ((x2 * 256 : Nat) : Int) := by
    rw [w_i64 (x := (x2 : Int)) (by omega), show (2 : Int) ^ 8 = 256 from rfl, w_i64 (by omega)]; omega
  have e3 : IntKind.i64.wrap (x3 : Int) = (x3 : Int) := w_i64 (by omega)
  have l1 := or_lt (a := x0 * 16777216) (b := x1 * 65536) (by omega) (by omega)
  have l2 := or_lt (a := x0 * 16777216 ||| x1 * 65536) (b := x2 * 256) l1 (by omega)
  simp (config := { implicitDefEqProofs := false }) only [↓GP, GQ, ↓awp_seq, ↓awp_block, C_ex, Nat.reduceBEq, acap, afieldAddr, aload, astore, abin, anum, astr, aun, isAggD, cond_true, cond_false, ↓reduceIte, C_P, C_G, isTuple, Value.cells, setL, ares, aresL, ares1, reduceCtorEq, Nat.reduceEqDiff, eq_self, Nat.reduceAdd, if_true, if_false, one, Nat.reduceLeDiff, undef, gsl, aextract, aindexAddr, amake, implies_true, forall_const, alen, abuiltin, anil, isC, Int.reduceEq, Int.reduceLT, Int.reduceLE, Int.reduceAdd, Int.reduceToNat, Int.reduceNeg, Nat.reduceMul, Nat.reduceSub, abuild, afill, Int.reduceBNe, Int.reduceBEq, Try.underlying23, Try.underlying5, Try.underlying3, Try.underlying93, asz5, hB, g0, g1, g2, g3, aconv, ashift, i24, show ((16 : Int).toNat) = 16 from rfl, show ((8 : Int).toNat) = 8 from rfl, e0, e1, e2, e3,
    show (0 : Int) ≤ 24 ∧ (24 : Int) ≤ ((IntKind.i64.bits : Nat) : Int) by decide, show (0 : Int) ≤ 16 ∧ (16 : Int) ≤ ((IntKind.i64.bits : Nat) : Int) by decide, show (0 : Int) ≤ 8 ∧ (8 : Int) ≤ ((IntKind.i64.bits : Nat) : Int) by decide,
    bits_or64 (a := x0 * 16777216) (b := x1 * 65536) (by omega) (by omega), bits_or64 (a := x0 * 16777216 ||| x1 * 65536) (b := x2 * 256) l1 (by omega), bits_or64 (a := (x0 * 16777216 ||| x1 * 65536) ||| x2 * 256) (b := x3) l2 (by omega), sh_or b0 b1 b2 b3]
  refine ⟨by omega, by omega, by omega, by omega, hk⟩
end Go.Proofs.Ytiooigkcliomlaa
