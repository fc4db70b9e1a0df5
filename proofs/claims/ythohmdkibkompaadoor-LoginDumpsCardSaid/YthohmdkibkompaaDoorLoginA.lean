/- Hexadecimal digits. No conditions. -/
import Derived.Test.YthohmdkibkompaaDoorBuil
import Derived.Test.YthohmdkibkompaaDoorHashR
set_option linter.unusedVariables false
set_option linter.unusedSimpArgs false
namespace Go.Proofs.YthohmdkibkompaaDoor
open Go Go.Abs Go.RowKit
variable {base : Nat} {w0 : World} {G : Nat}

def hexd (x : Nat) : Nat := bif Nat.blt x 10 then 48 + x else 87 + x
def hexN (l : List Nat) : Nat → List Nat
  | 0 => []
  | i + 1 => hexN l i ++ [hexd (l.getD i 0 / 16), hexd (l.getD i 0 % 16)]
theorem hexN_length (l : List Nat) : ∀ i, (hexN l i).length = 2 * i
  | 0 => rfl
  | i + 1 => by simp [hexN, hexN_length l i]; omega
theorem hexd_lt {x : Nat} (h : x < 16) : hexd x < 256 := by
  unfold hexd
  cases Nat.blt x 10 <;> simp <;> omega
theorem and15 {x : Nat} (h : x < 256) : bits .and .u8 (x : Int) 15 = ((x % 16 : Nat) : Int) := by
  have h1 : bits .and .u8 (x : Int) 15 = ((x &&& 15 : Nat) : Int) := by
    have hlt : x &&& 15 < 256 := Nat.lt_of_le_of_lt Nat.and_le_left h
    show IntKind.u8.wrap (((BitVec.ofInt 8 (x : Int)) &&& (BitVec.ofInt 8 ((15 : Nat) : Int))).toNat : Int) = _
    rw [ofInt_nat, ofInt_nat, BitVec.toNat_and, BitVec.toNat_ofNat, BitVec.toNat_ofNat, Nat.mod_eq_of_lt h, Nat.mod_eq_of_lt (by decide), w_u8 (by omega)]
  rw [h1, show (15 : Nat) = 2 ^ 4 - 1 from rfl, Nat.and_two_pow_sub_one_eq_mod]
def hexs : List Nat := [48, 49, 50, 51, 52, 53, 54, 55, 56, 57, 97, 98, 99, 100, 101, 102]
theorem hex_get : ∀ d : Fin 16, hexs.getD d.1 0 = hexd d.1 := by decide
theorem hex_index {d : Nat} (h : d < 16) : aindex Tryd.prog 9 (Value.string ⟨#[48, 49, 50, 51, 52, 53, 54, 55, 56, 57, 97, 98, 99, 100, 101, 102]⟩) (.int .u8 (d : Int)) = some (.int .u8 (hexd d : Nat)) := by
  rw [show (⟨#[48, 49, 50, 51, 52, 53, 54, 55, 56, 57, 97, 98, 99, 100, 101, 102]⟩ : ByteArray) = str hexs from rfl, aindex_str (l := hexs) Tryd.underlying9 (by unfold Bt; decide) h, hex_get ⟨d, h⟩]
set_option maxRecDepth 10000 in
theorem Hex_spec (st : St) (r : Hp) (v : Value) (l : List Nat) (hv : Nb r v l) (hl : l.length ≤ 100000) (hO : Own st r) (k q : Value → St → Prop)
    (hk : ∀ st', Own st' r → k (.string (str (hexN l l.length))) st') :
    ACall (C base w0 G) 27 [v] st k q := by
  obtain ⟨a, c, hvs⟩ := hv.isSlice
  refine ACall.of (cx := C base w0 G) mixed Tryd.func27 rfl (by kernel_rfl) (by simp [Tryd.ntmps27]) ?_
  simp only [Tryd.results27]
  simp (config := { implicitDefEqProofs := false }) only [↓GP, ↓GM, GQ, abuiltinX, ↓awp_seq, ↓awp_block, C_ex, Nat.reduceBEq, acap, afieldAddr, aload, astore, abin, anum, astr, aun, isAggD, cond_true, cond_false, ↓reduceIte, C_P, C_G, isTuple, Value.cells, setL, ares, aresL, ares1, reduceCtorEq, Nat.reduceEqDiff, eq_self, Nat.reduceAdd, if_true, if_false, Go.Abs.one, Nat.reduceLeDiff, undef, gsl, aextract, aindexAddr, amake, implies_true, forall_const, alen, abuiltin, anil, isC, Int.reduceEq, Int.reduceLT, Int.reduceLE, Int.reduceAdd, Int.reduceToNat, Int.reduceNeg, Nat.reduceMul, Nat.reduceSub, abuild, afill, Int.reduceBNe, Int.reduceBEq, aalloc, azc82, hvs, Tryd.underlying38]
  have hO1 := hO.new (.cells [.pointer none, .slice none 0 0] 82 true)
  refine ⟨fun m ρ s => ∃ (i : Nat) (h : Hp), m = l.length - i ∧ i ≤ l.length ∧ ρ 3 = .pointer (some ⟨st.n, 0, none⟩) ∧ ρ 6 = v ∧ ρ 7 = .int .i64 l.length ∧ ρ 8 = .int .i64 i ∧ Bld st.n (hexN l i) h ∧ Own s (h ++ r), ⟨_, 0, _, rfl, Nat.zero_le _, rfl, hvs.symm, rfl, rfl, Bld.new _, hO1⟩, ?_⟩
  rintro m ρ s ⟨i, h, rfl, hi, h3, h6, h7, h8, hB, hO⟩
  by_cases him : i < l.length
  · obtain ⟨B, o, sp, c', cs, ty, own, hvx, hmem, hget⟩ := hv.at (by intro e; rw [e] at him; simp at him)
    have hg := hget i him
    have hx := getD8 hv.2 i
    have hcs := hO.get (List.mem_append_right h hmem)
    have hhex : hexN l (i + 1) = hexN l i ++ [hexd (l.getD i 0 / 16)] ++ [hexd (l.getD i 0 % 16)] := by simp [hexN]
    have hll := hexN_length l i
    generalize l.getD i 0 = x at *
    simp (config := { implicitDefEqProofs := false }) only [↓GP, ↓GM, GQ, abuiltinX, ↓awp_seq, ↓awp_block, C_ex, Nat.reduceBEq, acap, afieldAddr, aload, astore, abin, anum, astr, aun, isAggD, cond_true, cond_false, ↓reduceIte, C_P, C_G, isTuple, Value.cells, setL, ares, aresL, ares1, reduceCtorEq, Nat.reduceEqDiff, eq_self, Nat.reduceAdd, if_true, if_false, Go.Abs.one, Nat.reduceLeDiff, undef, gsl, aextract, aindexAddr, amake, implies_true, forall_const, alen, abuiltin, anil, isC, Int.reduceEq, Int.reduceLT, Int.reduceLE, Int.reduceAdd, Int.reduceToNat, Int.reduceNeg, Nat.reduceMul, Nat.reduceSub, abuild, afill, Int.reduceBNe, Int.reduceBEq, h3, h6, h7, h8, hvx, him, Int.ofNat_lt, decide_true, Tryd.underlying38, asz5, hcs, hg, Tryd.underlying5, ashift]
    refine ⟨by omega, by decide, ?_⟩
    have e1 : (x : Int) / 2 ^ 4 = ((x / 16 : Nat) : Int) := by rw [show (2 : Int) ^ 4 = ((16 : Nat) : Int) from rfl, ← Int.natCast_ediv]
    have e2 : bits .and .u8 (x : Int) 15 = ((x % 16 : Nat) : Int) := and15 hx
    simp (config := { implicitDefEqProofs := false }) only [↓GP, ↓GM, GQ, abuiltinX, ↓awp_seq, ↓awp_block, C_ex, Nat.reduceBEq, acap, afieldAddr, aload, astore, abin, anum, astr, aun, isAggD, cond_true, cond_false, ↓reduceIte, C_P, C_G, isTuple, Value.cells, setL, ares, aresL, ares1, reduceCtorEq, Nat.reduceEqDiff, eq_self, Nat.reduceAdd, if_true, if_false, Go.Abs.one, Nat.reduceLeDiff, undef, gsl, aextract, aindexAddr, amake, implies_true, forall_const, alen, abuiltin, anil, isC, Int.reduceEq, Int.reduceLT, Int.reduceLE, Int.reduceAdd, Int.reduceToNat, Int.reduceNeg, Nat.reduceMul, Nat.reduceSub, abuild, afill, Int.reduceBNe, Int.reduceBEq, h3, e1, hex_index (d := x / 16) (by omega)]
    refine ACallF.enter Tryd.func37 rfl (by kernel_rfl) (WriteByte_spec s r h _ _ _ hB (hexd_lt (by omega)) (by omega) hO _ _ fun h1 s1 hB1 hO1 => ?_)
    simp (config := { implicitDefEqProofs := false }) only [↓GP, ↓GM, GQ, abuiltinX, ↓awp_seq, ↓awp_block, C_ex, Nat.reduceBEq, acap, afieldAddr, aload, astore, abin, anum, astr, aun, isAggD, cond_true, cond_false, ↓reduceIte, C_P, C_G, isTuple, Value.cells, setL, ares, aresL, ares1, reduceCtorEq, Nat.reduceEqDiff, eq_self, Nat.reduceAdd, if_true, if_false, Go.Abs.one, Nat.reduceLeDiff, undef, gsl, aextract, aindexAddr, amake, implies_true, forall_const, alen, abuiltin, anil, isC, Int.reduceEq, Int.reduceLT, Int.reduceLE, Int.reduceAdd, Int.reduceToNat, Int.reduceNeg, Nat.reduceMul, Nat.reduceSub, abuild, afill, Int.reduceBNe, Int.reduceBEq, h3, e2, hex_index (d := x % 16) (by omega)]
    refine ACallF.enter Tryd.func37 rfl (by kernel_rfl) (WriteByte_spec s1 r h1 _ _ _ hB1 (hexd_lt (by omega)) (by rw [List.length_append]; simp; omega) hO1 _ _ fun h2 s2 hB2 hO2 => ?_)
    simp (config := { implicitDefEqProofs := false }) only [↓GP, ↓GM, GQ, abuiltinX, ↓awp_seq, ↓awp_block, C_ex, Nat.reduceBEq, acap, afieldAddr, aload, astore, abin, anum, astr, aun, isAggD, cond_true, cond_false, ↓reduceIte, C_P, C_G, isTuple, Value.cells, setL, ares, aresL, ares1, reduceCtorEq, Nat.reduceEqDiff, eq_self, Nat.reduceAdd, if_true, if_false, Go.Abs.one, Nat.reduceLeDiff, undef, gsl, aextract, aindexAddr, amake, implies_true, forall_const, alen, abuiltin, anil, isC, Int.reduceEq, Int.reduceLT, Int.reduceLE, Int.reduceAdd, Int.reduceToNat, Int.reduceNeg, Nat.reduceMul, Nat.reduceSub, abuild, afill, Int.reduceBNe, Int.reduceBEq, h3, h6, h7, h8]
    exact ⟨l.length - (i + 1), by omega, i + 1, h2, rfl, by omega, by rw [w_i64 (by omega)]; rfl, by rw [hhex]; exact hB2, hO2⟩
  · obtain rfl : i = l.length := by omega
    simp (config := { implicitDefEqProofs := false }) only [↓GP, ↓GM, GQ, abuiltinX, ↓awp_seq, ↓awp_block, C_ex, Nat.reduceBEq, acap, afieldAddr, aload, astore, abin, anum, astr, aun, isAggD, cond_true, cond_false, ↓reduceIte, C_P, C_G, isTuple, Value.cells, setL, ares, aresL, ares1, reduceCtorEq, Nat.reduceEqDiff, eq_self, Nat.reduceAdd, if_true, if_false, Go.Abs.one, Nat.reduceLeDiff, undef, gsl, aextract, aindexAddr, amake, implies_true, forall_const, alen, abuiltin, anil, isC, Int.reduceEq, Int.reduceLT, Int.reduceLE, Int.reduceAdd, Int.reduceToNat, Int.reduceNeg, Nat.reduceMul, Nat.reduceSub, abuild, afill, Int.reduceBNe, Int.reduceBEq, h3, h6, h7, h8, Int.ofNat_lt, Nat.lt_irrefl, decide_false]
    refine ACallF.enter Tryd.func38 rfl (by kernel_rfl) (String_spec s r h _ _ hB (by rw [hexN_length]; omega) hO _ _ fun s1 hO1 => ?_)
    simp (config := { implicitDefEqProofs := false }) only [↓GP, ↓GM, GQ, abuiltinX, ↓awp_seq, ↓awp_block, C_ex, Nat.reduceBEq, acap, afieldAddr, aload, astore, abin, anum, astr, aun, isAggD, cond_true, cond_false, ↓reduceIte, C_P, C_G, isTuple, Value.cells, setL, ares, aresL, ares1, reduceCtorEq, Nat.reduceEqDiff, eq_self, Nat.reduceAdd, if_true, if_false, Go.Abs.one, Nat.reduceLeDiff, undef, gsl, aextract, aindexAddr, amake, implies_true, forall_const, alen, abuiltin, anil, isC, Int.reduceEq, Int.reduceLT, Int.reduceLE, Int.reduceAdd, Int.reduceToNat, Int.reduceNeg, Nat.reduceMul, Nat.reduceSub, abuild, afill, Int.reduceBNe, Int.reduceBEq]
    exact hk _ hO1
end Go.Proofs.YthohmdkibkompaaDoor
