/- Products; bytes again and again. No conditions. -/
import Derived.Test.YthohmdkibkompaaDoorHashE
set_option linter.unusedVariables false
set_option linter.unusedSimpArgs false
namespace Go.Proofs.YthohmdkibkompaaDoor
open Go Go.Abs Go.RowKit
variable {base : Nat} {w0 : World} {G : Nat}

theorem outN_lt (h : List Nat) : ∀ i, ∀ d ∈ outN h i, d < 256
  | 0, d, hd => by simp [outN] at hd
  | i + 1, d, hd => by
    rcases List.mem_append.1 hd with hd | hd
    · exact outN_lt h i d hd
    · exact out4_lt _ d hd
theorem outN_length (h : List Nat) : ∀ i, (outN h i).length = 4 * i
  | 0 => rfl
  | i + 1 => by simp [outN, outN_length h i, out4]; omega
theorem digest_lt (l : List Nat) : ∀ d ∈ digest l, d < 256 := outN_lt _ 8
theorem digest_length (l : List Nat) : (digest l).length = 32 := outN_length _ 8
set_option maxRecDepth 10000 in
theorem Mul64_spec (st : St) (k q : Value → St → Prop) (hk : k (.tuple #[.int .u64 0, .int .u64 64]) st) : ACall (C base w0 G) 86 [.int .u64 1, .int .u64 64] st k q := by
  refine ACall.of (cx := C base w0 G) mixed Tryd.func86 rfl (by kernel_rfl) (by simp [Tryd.ntmps86]) ?_
  simp only [Tryd.results86]
  have a1 : bits .and .u64 1 4294967295 = 1 := by decide +kernel
  have a64 : bits .and .u64 64 4294967295 = 64 := by decide +kernel
  have a0 : bits .and .u64 0 4294967295 = 0 := by decide +kernel
  have hb : (IntKind.u64.bits : Int) = 64 := rfl
  have c0 : IntKind.u64.wrap 0 = 0 := by decide
  have c64 : IntKind.u64.wrap 64 = 64 := by decide
  simp (config := { implicitDefEqProofs := false }) only [↓GP, ↓GM, GQ, abuiltinX, ↓awp_seq, ↓awp_block, C_ex, Nat.reduceBEq, acap, afieldAddr, aload, astore, abin, anum, astr, aun, isAggD, cond_true, cond_false, ↓reduceIte, C_P, C_G, isTuple, Value.cells, setL, ares, aresL, ares1, reduceCtorEq, Nat.reduceEqDiff, eq_self, Nat.reduceAdd, if_true, if_false, Go.Abs.one, Nat.reduceLeDiff, undef, gsl, aextract, aindexAddr, amake, implies_true, forall_const, alen, abuiltin, anil, isC, Int.reduceEq, Int.reduceLT, Int.reduceLE, Int.reduceAdd, Int.reduceToNat, Int.reduceNeg, Nat.reduceMul, Nat.reduceSub, abuild, afill, Int.reduceBNe, Int.reduceBEq, Tryd.underlying100, Tryd.underlying86, ashift, a1, a64, a0, hb, c0, c64, Int.reducePow, Int.reduceDiv, Int.reduceMul]
  exact hk
set_option maxRecDepth 10000 in
theorem Mul_spec (st : St) (k q : Value → St → Prop) (hk : k (.tuple #[.int .u64 0, .int .u64 64]) st) : ACall (C base w0 G) 68 [.int .u64 1, .int .u64 64] st k q := by
  refine ACall.of (cx := C base w0 G) mixed Tryd.func68 rfl (by kernel_rfl) (by simp [Tryd.ntmps68]) ?_
  simp only [Tryd.results68]
  simp (config := { implicitDefEqProofs := false }) only [↓GP, ↓GM, GQ, abuiltinX, ↓awp_seq, ↓awp_block, C_ex, Nat.reduceBEq, acap, afieldAddr, aload, astore, abin, anum, astr, aun, isAggD, cond_true, cond_false, ↓reduceIte, C_P, C_G, isTuple, Value.cells, setL, ares, aresL, ares1, reduceCtorEq, Nat.reduceEqDiff, eq_self, Nat.reduceAdd, if_true, if_false, Go.Abs.one, Nat.reduceLeDiff, undef, gsl, aextract, aindexAddr, amake, implies_true, forall_const, alen, abuiltin, anil, isC, Int.reduceEq, Int.reduceLT, Int.reduceLE, Int.reduceAdd, Int.reduceToNat, Int.reduceNeg, Nat.reduceMul, Nat.reduceSub, abuild, afill, Int.reduceBNe, Int.reduceBEq]
  refine ACallF.enter Tryd.func86 rfl (by kernel_rfl) (Mul64_spec st _ _ ?_)
  simp (config := { implicitDefEqProofs := false }) only [↓GP, ↓GM, GQ, abuiltinX, ↓awp_seq, ↓awp_block, C_ex, Nat.reduceBEq, acap, afieldAddr, aload, astore, abin, anum, astr, aun, isAggD, cond_true, cond_false, ↓reduceIte, C_P, C_G, isTuple, Value.cells, setL, ares, aresL, ares1, reduceCtorEq, Nat.reduceEqDiff, eq_self, Nat.reduceAdd, if_true, if_false, Go.Abs.one, Nat.reduceLeDiff, undef, gsl, aextract, aindexAddr, amake, implies_true, forall_const, alen, abuiltin, anil, isC, Int.reduceEq, Int.reduceLT, Int.reduceLE, Int.reduceAdd, Int.reduceToNat, Int.reduceNeg, Nat.reduceMul, Nat.reduceSub, abuild, afill, Int.reduceBNe, Int.reduceBEq]
  exact hk
def keyOf (key : List Nat) : List Nat := bif Nat.blt 64 key.length then digest key else key
def pd (k : List Nat) (x : Nat) : List Nat := k.map (fun d => x ^^^ d) ++ List.replicate (64 - k.length) x
theorem keyOf_length (key : List Nat) : (keyOf key).length ≤ 64 := by
  unfold keyOf
  cases h : Nat.blt 64 key.length with
  | true => rw [cond_true, digest_length]; decide
  | false =>
    rw [cond_false]
    rcases Nat.lt_or_ge 64 key.length with h2 | h2
    · have : Nat.blt 64 key.length = true := Nat.ble_eq_true_of_le h2
      rw [this] at h; cases h
    · exact h2
theorem keyOf_lt {key : List Nat} (h : ∀ d ∈ key, d < 256) : ∀ d ∈ keyOf key, d < 256 := by
  unfold keyOf
  cases Nat.blt 64 key.length with
  | true => rw [cond_true]; exact digest_lt _
  | false => rw [cond_false]; exact h
theorem pd_length {k : List Nat} (h : k.length ≤ 64) (x : Nat) : (pd k x).length = 64 := by simp [pd]; omega
theorem pd_lt {k : List Nat} {x : Nat} (h : ∀ d ∈ k, d < 256) (hx : x < 256) : ∀ d ∈ pd k x, d < 256 := by
  intro d hd
  rcases List.mem_append.1 hd with hd | hd
  · obtain ⟨y, hy, rfl⟩ := List.mem_map.1 hd
    exact xor8_lt hx (h y hy)
  · rw [List.eq_of_mem_replicate hd]; exact hx

set_option maxRecDepth 10000 in
theorem Repeat_spec (st : St) (r : Hp) (B x : Nat) (hB : (B, .cells (nl [x]) 5 true) ∈ r) (hO : Own st r) (k q : Value → St → Prop)
    (hk : ∀ b st', Own st' ((b, .cells (nl (List.replicate 64 x)) 5 true) :: r) → k (.slice (some ⟨b, 0, none⟩) 64 64) st') :
    ACall (C base w0 G) 54 [.slice (some ⟨B, 0, none⟩) 1 1, .int .i64 64] st k q := by
  refine ACall.of (cx := C base w0 G) mixed Tryd.func54 rfl (by kernel_rfl) (by simp [Tryd.ntmps54]) ?_
  simp only [Tryd.results54]
  have c1 : IntKind.u64.wrap 1 = 1 := by decide
  have c64 : IntKind.u64.wrap 64 = 64 := by decide
  have d64 : IntKind.i64.wrap 64 = 64 := by decide
  have g0 : decide ((0 : Int) > 0) = false := by decide
  have g64 : decide ((64 : Int) > 9223372036854775807) = false := by decide
  simp (config := { implicitDefEqProofs := false }) only [↓GP, ↓GM, GQ, abuiltinX, ↓awp_seq, ↓awp_block, C_ex, Nat.reduceBEq, acap, afieldAddr, aload, astore, abin, anum, astr, aun, isAggD, cond_true, cond_false, ↓reduceIte, C_P, C_G, isTuple, Value.cells, setL, ares, aresL, ares1, reduceCtorEq, Nat.reduceEqDiff, eq_self, Nat.reduceAdd, if_true, if_false, Go.Abs.one, Nat.reduceLeDiff, undef, gsl, aextract, aindexAddr, amake, implies_true, forall_const, alen, abuiltin, anil, isC, Int.reduceEq, Int.reduceLT, Int.reduceLE, Int.reduceAdd, Int.reduceToNat, Int.reduceNeg, Nat.reduceMul, Nat.reduceSub, abuild, afill, Int.reduceBNe, Int.reduceBEq, Tryd.underlying3, Tryd.underlying86, Tryd.underlying38, aconv, c1, c64]
  refine ACallF.enter Tryd.func68 rfl (by kernel_rfl) (Mul_spec st _ _ ?_)
  have hO1 := hO.new (.cells (zeros [.int .u8 0] 64) 5 true)
  have hnew := hO1.head
  have hsrcB : asrc (st.new (.cells (zeros [.int .u8 0] 64) 5 true)) 1 (.slice (some ⟨B, 0, none⟩) 1 1) = some (1, nl [x]) := asrc_one (hO1.get (List.mem_cons_of_mem _ hB)) rfl
  have hz : zeros [Value.int .u8 0] 64 = nl (List.replicate 64 0) := by simp [zeros, nl, bl, List.replicate]
  simp (config := { implicitDefEqProofs := false }) only [↓GP, ↓GM, GQ, abuiltinX, ↓awp_seq, ↓awp_block, C_ex, Nat.reduceBEq, acap, afieldAddr, aload, astore, abin, anum, astr, aun, isAggD, cond_true, cond_false, ↓reduceIte, C_P, C_G, isTuple, Value.cells, setL, ares, aresL, ares1, reduceCtorEq, Nat.reduceEqDiff, eq_self, Nat.reduceAdd, if_true, if_false, Go.Abs.one, Nat.reduceLeDiff, undef, gsl, aextract, aindexAddr, amake, implies_true, forall_const, alen, abuiltin, anil, isC, Int.reduceEq, Int.reduceLT, Int.reduceLE, Int.reduceAdd, Int.reduceToNat, Int.reduceNeg, Nat.reduceMul, Nat.reduceSub, abuild, afill, Int.reduceBNe, Int.reduceBEq, g0, g64, Tryd.underlying3, Tryd.underlying86, Tryd.underlying38, aconv, d64, asz5, azc5, aby5,
    acopy_of (st := st.new (.cells (zeros [.int .u8 0] 64) 5 true)) (t' := 38) (sp := none) (off := 0) (L := 64) (c := 64) (x := .slice (some ⟨B, 0, none⟩) 1 1) Tryd.underlying38 asz5 hsrcB (nl_one _) hnew (by rw [hz]; simp [nl_length])]
  refine ⟨by decide, ?_⟩
  have hinit : setL (zeros [Value.int .u8 0] 64) 0 (List.take (Nat.min 1 64) (nl [x])) = nl (List.replicate 1 x ++ List.replicate 63 0) := by
    rw [hz]; rfl
  rw [hinit]
  have hO2 : Own _ ((st.n, .cells (nl (List.replicate 1 x ++ List.replicate 63 0)) 5 true) :: r) := hO1.set rfl (.cells (nl (List.replicate 1 x ++ List.replicate 63 0)) 5 true) rfl
  refine ⟨fun m ρ s => ∃ (j n : Nat), m = 6 - j ∧ j ≤ 6 ∧ n = 2 ^ j ∧ ρ 7 = .slice (some ⟨st.n, 0, none⟩) 64 64 ∧ ρ 8 = .int .i64 n ∧ Own s ((st.n, .cells (nl (List.replicate n x ++ List.replicate (64 - n) 0)) 5 true) :: r), ⟨6, 0, 1, rfl, by decide, rfl, rfl, rfl, hO2⟩, ?_⟩
  rintro m ρ s ⟨j, n, rfl, hj, hn, h7, h8, hs⟩
  have hcb := hs.head
  by_cases hj6 : j < 6
  · have hn32 : n ≤ 32 := by rw [hn]; exact Nat.le_trans (Nat.pow_le_pow_right (by decide) (show j ≤ 5 by omega)) (by decide)
    have hnl : (List.replicate n x ++ List.replicate (64 - n) 0).length = 64 := by simp; omega
    have hnl2 : (nl (List.replicate n x ++ List.replicate (64 - n) 0)).length = 64 := by rw [nl_length, hnl]
    have hs1 : aslice Tryd.prog s 38 (.slice (some ⟨st.n, 0, none⟩) 64 64) (some (.int .i64 n)) none none = some (.slice (some ⟨st.n, n, none⟩) (64 - n) (64 - n)) :=
      (aslice_exact (lo := some (.int .i64 (n : Nat))) (hi := none) Tryd.underlying38 asz5 (abounds_lo (by omega) (Nat.le_refl _))).trans (by simp)
    have hs2 : aslice Tryd.prog s 38 (.slice (some ⟨st.n, 0, none⟩) 64 64) none (some (.int .i64 n)) none = some (.slice (some ⟨st.n, 0, none⟩) n 64) :=
      (aslice_exact (lo := none) (hi := some (.int .i64 (n : Nat))) Tryd.underlying38 asz5 (abounds_hi (by omega))).trans (by simp)
    have hsrc : asrc s 1 (.slice (some ⟨st.n, 0, none⟩) n 64) = some (n, nl (List.replicate n x)) := by
      have : cut (nl (List.replicate n x ++ List.replicate (64 - n) 0)) 0 n = some (nl (List.replicate n x)) := by
        unfold cut
        rw [if_pos (by omega), List.drop_zero, nl_take, List.take_append_of_le_length (by simp), List.take_of_length_le (by simp)]
      simp [asrc, acut, hcb, this]
    have hcp : setL (nl (List.replicate n x ++ List.replicate (64 - n) 0)) n (List.take (Nat.min n (64 - n) * 1) (nl (List.replicate n x))) = nl (List.replicate (n + n) x ++ List.replicate (64 - (n + n)) 0) := by
      rw [show Nat.min n (64 - n) = n from Nat.min_eq_left (by omega), Nat.mul_one, List.take_of_length_le (by simp [nl_length]), nl_setL _ _ _ (by simp; omega)]
      congr 1
      rw [List.take_append_of_le_length (by simp), List.take_of_length_le (by simp), List.length_replicate, List.drop_append, List.drop_replicate, List.drop_replicate, List.length_replicate, List.replicate_append_replicate,
        show n - (n + n) = 0 by omega, List.replicate_zero, List.nil_append, show 64 - n - (n + n - n) = 64 - (n + n) by omega]
    have hmn : Nat.min n (64 - n) = n := Nat.min_eq_left (by omega)
    have hwn : IntKind.i64.wrap ((n : Int) + n) = ((n + n : Nat) : Int) := by rw [w_i64 (by omega)]; omega
    simp (config := { implicitDefEqProofs := false }) only [↓GP, ↓GM, GQ, abuiltinX, ↓awp_seq, ↓awp_block, C_ex, Nat.reduceBEq, acap, afieldAddr, aload, astore, abin, anum, astr, aun, isAggD, cond_true, cond_false, ↓reduceIte, C_P, C_G, isTuple, Value.cells, setL, ares, aresL, ares1, reduceCtorEq, Nat.reduceEqDiff, eq_self, Nat.reduceAdd, if_true, if_false, Go.Abs.one, Nat.reduceLeDiff, undef, gsl, aextract, aindexAddr, amake, implies_true, forall_const, alen, abuiltin, anil, isC, Int.reduceEq, Int.reduceLT, Int.reduceLE, Int.reduceAdd, Int.reduceToNat, Int.reduceNeg, Nat.reduceMul, Nat.reduceSub, abuild, afill, Int.reduceBNe, Int.reduceBEq, h7, h8, Tryd.underlying38, Tryd.underlying3, show (n : Int) < 64 by omega, decide_true]
    refine ADraw.of [(0, false, []), (1, false, []), (2, false, []), (3, false, []), (4, false, []), (5, false, []), (6, false, []), (7, false, []), (8, false, []), (9, false, [])] [] [] (by kernel_rfl) ?_
    simp (config := { implicitDefEqProofs := false }) only [↓GP, ↓GM, GQ, abuiltinX, ↓awp_seq, ↓awp_block, C_ex, Nat.reduceBEq, acap, afieldAddr, aload, astore, abin, anum, astr, aun, isAggD, cond_true, cond_false, ↓reduceIte, C_P, C_G, isTuple, Value.cells, setL, ares, aresL, ares1, reduceCtorEq, Nat.reduceEqDiff, eq_self, Nat.reduceAdd, if_true, if_false, Go.Abs.one, Nat.reduceLeDiff, undef, gsl, aextract, aindexAddr, amake, implies_true, forall_const, alen, abuiltin, anil, isC, Int.reduceEq, Int.reduceLT, Int.reduceLE, Int.reduceAdd, Int.reduceToNat, Int.reduceNeg, Nat.reduceMul, Nat.reduceSub, abuild, afill, Int.reduceBNe, Int.reduceBEq, h7, h8, Tryd.underlying38, Tryd.underlying3, hs1, hs2,
      acopy_of (st := s) (t' := 38) (sp := none) (off := n) (L := 64 - n) (c := 64 - n) (x := .slice (some ⟨st.n, 0, none⟩) n 64) Tryd.underlying38 asz5 hsrc (nl_one _) hcb (by omega), hwn, hmn]
    refine ⟨6 - (j + 1), by omega, j + 1, n + n, rfl, by omega, by rw [hn, Nat.pow_succ]; omega, rfl, ?_⟩
    refine own_set_eq hs ?_
    rw [← hcp, hmn, Nat.mul_one]
  · obtain rfl : j = 6 := by omega
    obtain rfl : n = 64 := hn
    simp (config := { implicitDefEqProofs := false }) only [↓GP, ↓GM, GQ, abuiltinX, ↓awp_seq, ↓awp_block, C_ex, Nat.reduceBEq, acap, afieldAddr, aload, astore, abin, anum, astr, aun, isAggD, cond_true, cond_false, ↓reduceIte, C_P, C_G, isTuple, Value.cells, setL, ares, aresL, ares1, reduceCtorEq, Nat.reduceEqDiff, eq_self, Nat.reduceAdd, if_true, if_false, Go.Abs.one, Nat.reduceLeDiff, undef, gsl, aextract, aindexAddr, amake, implies_true, forall_const, alen, abuiltin, anil, isC, Int.reduceEq, Int.reduceLT, Int.reduceLE, Int.reduceAdd, Int.reduceToNat, Int.reduceNeg, Nat.reduceMul, Nat.reduceSub, abuild, afill, Int.reduceBNe, Int.reduceBEq, h7, h8, Tryd.underlying38, Tryd.underlying3, show ¬ ((64 : Nat) : Int) < 64 by decide, decide_false]
    have := hk st.n s (by simpa using hs)
    exact this
end Go.Proofs.YthohmdkibkompaaDoor
