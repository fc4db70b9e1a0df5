/- The cyclic sum: by a table of sixteen, and bit by bit. No conditions. -/
import Derived.Test.YtiooigkcliomlaaJ10
set_option linter.unusedVariables false
set_option linter.unusedSimpArgs false
namespace Go.Proofs.Ytiooigkcliomlaa
open Go Go.Abs Go.RowKit
variable {base : Nat} {w0 : World} {G : Nat}

def stp (r : Nat) : Nat := if r % 2 = 1 then (r / 2) ^^^ 3988292384 else r / 2
def stpN : Nat → Nat → Nat
  | 0, r => r
  | n + 1, r => stp (stpN n r)
def crcB (r x : Nat) : Nat := stpN 8 (r ^^^ x)
def crcR (l : List Nat) : Nat := l.foldl crcB 4294967295
def crcN (l : List Nat) : Nat := crcR l ^^^ 4294967295
def tab : List Nat := [0, 498536548, 997073096, 651767980, 1994146192, 1802195444, 1303535960, 1342533948, 3988292384, 4027552580, 3604390888, 3412177804, 2607071920, 2262029012, 2685067896, 3183342108]
def nib (r : Nat) : Nat := tab.getD (r % 16) 0 ^^^ (r / 16)

theorem stp_lin (q K : Nat) : stp ((2 * q) ^^^ K) = q ^^^ stp K := by
  have h1 : ((2 * q) ^^^ K) / 2 = q ^^^ (K / 2) := by rw [Nat.xor_div_two, Nat.mul_div_cancel_left _ (by decide)]
  have h2 : ((2 * q) ^^^ K) % 2 = K % 2 := by
    rcases Nat.mod_two_eq_zero_or_one K with h | h
    · have := @Nat.xor_mod_two_eq_one (2 * q) K
      rcases Nat.mod_two_eq_zero_or_one ((2 * q) ^^^ K) with e | e
      · omega
      · rw [e] at this; omega
    · have := @Nat.xor_mod_two_eq_one (2 * q) K
      have h3 : ((2 * q) ^^^ K) % 2 = 1 := this.2 (by omega)
      omega
  unfold stp
  rw [h1, h2]
  split
  · rw [Nat.xor_assoc]
  · rfl
theorem split16 (y : Nat) : y = (16 * (y / 16)) ^^^ (y % 16) := by
  apply Nat.eq_of_testBit_eq
  intro i
  rw [Nat.testBit_xor, show 16 = 2 ^ 4 from rfl, Nat.testBit_two_pow_mul, Nat.testBit_div_two_pow, Nat.testBit_mod_two_pow]
  by_cases h : 4 ≤ i
  · simp [h, show ¬ i < 4 by omega, show i - 4 + 4 = i by omega]
  · simp [h, show i < 4 by omega]
theorem stp4 (y : Nat) : stpN 4 y = nib y := by
  have e : stpN 4 y = stp (stp (stp (stp y))) := rfl
  have hc : y % 16 < 16 := Nat.mod_lt _ (by decide)
  have h16 : 16 * (y / 16) = 2 * (2 * (2 * (2 * (y / 16)))) := by omega
  rw [e]
  conv => lhs; rw [split16 y]
  rw [h16, stp_lin, stp_lin, stp_lin, stp_lin, Nat.xor_comm, nib]
  congr 1
  generalize y % 16 = c at hc
  revert c
  decide
theorem stp8 (y : Nat) : stpN 8 y = nib (nib y) := by
  have : stpN 8 y = stpN 4 (stpN 4 y) := rfl
  rw [this, stp4, stp4]
theorem and15 (x : Nat) : x &&& 15 = x % 16 := Nat.and_two_pow_sub_one_eq_mod x 4
/-- A byte, in two steps of the table. -/
theorem crc_tab (r x : Nat) (hx : x < 256) : nib (r ^^^ x) = (tab.getD ((r ^^^ x) &&& 15) 0 ^^^ (r / 16)) ^^^ (x / 16) ∧
    crcB r x = tab.getD (((tab.getD ((r ^^^ x) &&& 15) 0 ^^^ (r / 16)) ^^^ (x / 16)) &&& 15) 0 ^^^ ((tab.getD ((r ^^^ x) &&& 15) 0 ^^^ (r / 16)) / 16) := by
  have h1 : (r ^^^ x) / 16 = (r / 16) ^^^ (x / 16) := Nat.xor_div_two_pow (n := 4)
  have e1 : nib (r ^^^ x) = (tab.getD ((r ^^^ x) &&& 15) 0 ^^^ (r / 16)) ^^^ (x / 16) := by
    rw [nib, h1, and15, Nat.xor_assoc]
  refine ⟨e1, ?_⟩
  rw [crcB, stp8, e1]
  generalize tab.getD ((r ^^^ x) &&& 15) 0 ^^^ (r / 16) = y
  have h2 : (y ^^^ (x / 16)) / 16 = (y / 16) ^^^ (x / 16 / 16) := Nat.xor_div_two_pow (n := 4)
  have h3 : x / 16 / 16 = 0 := by omega
  rw [nib, h2, h3, Nat.xor_zero, and15]
theorem tab_lt (j : Nat) : tab.getD j 0 < 4294967296 := by
  have h : ∀ d ∈ tab, d < 4294967296 := by decide
  by_cases hj : j < tab.length
  · rw [List.getD_eq_getElem?_getD, List.getElem?_eq_getElem hj]; exact h _ (List.getElem_mem hj)
  · rw [List.getD_eq_getElem?_getD, List.getElem?_eq_none (by omega)]; decide
theorem nib_lt {y : Nat} (h : y < 4294967296) : nib y < 4294967296 := xor_lt (tab_lt _) (by omega)
theorem crcB_lt {r x : Nat} (hr : r < 4294967296) (hx : x < 256) : crcB r x < 4294967296 := by
  rw [crcB, stp8]
  exact nib_lt (nib_lt (xor_lt hr (by omega)))
theorem crcR_take {l : List Nat} {i : Nat} (h : i < l.length) : crcR (l.take (i + 1)) = crcB (crcR (l.take i)) (l.getD i 0) := by
  rw [List.take_add_one, List.getElem?_eq_getElem h, List.getD_eq_getElem?_getD, List.getElem?_eq_getElem h]
  unfold crcR
  rw [List.foldl_append]
  rfl
theorem crcR_lt {l : List Nat} (hl : ∀ d ∈ l, d < 256) : ∀ i, crcR (l.take i) < 4294967296
  | 0 => by simp [crcR]
  | i + 1 => by
    by_cases h : i < l.length
    · rw [crcR_take h]; exact crcB_lt (crcR_lt hl i) (getD8 hl i)
    · rw [List.take_of_length_le (by omega), ← List.take_of_length_le (l := l) (i := i) (by omega)]; exact crcR_lt hl i
theorem crcN_lt {l : List Nat} (hl : ∀ d ∈ l, d < 256) : crcN l < 4294967296 := by
  have := crcR_lt hl l.length
  rw [List.take_length] at this
  exact xor_lt this (by decide)
def wl (l : List Nat) : List Value := l.map fun n => .int .u32 (n : Nat)
theorem wl_get {l : List Nat} {i : Nat} (h : i < l.length) : (wl l)[i]? = some (.int .u32 (l.getD i 0 : Nat)) := by
  simp [wl, List.getD_eq_getElem?_getD, h]
theorem not32 {x : Nat} (h : x < 4294967296) : bits .xor .u32 (x : Int) 4294967295 = ((x ^^^ 4294967295 : Nat) : Int) := bits_xor32 (b := 4294967295) h (by decide)

theorem build_tab : abuild Try.prog 94 [(0, .int .u32 0), (1, .int .u32 498536548), (2, .int .u32 997073096), (3, .int .u32 651767980), (4, .int .u32 1994146192), (5, .int .u32 1802195444), (6, .int .u32 1303535960), (7, .int .u32 1342533948), (8, .int .u32 3988292384), (9, .int .u32 4027552580), (10, .int .u32 3604390888), (11, .int .u32 3412177804), (12, .int .u32 2607071920), (13, .int .u32 2262029012), (14, .int .u32 2685067896), (15, .int .u32 3183342108)] = some (.agg (wl tab).toArray) := by kernel_rfl
theorem tab_length : tab.length = 16 := rfl
theorem wl_cells : (Value.agg (wl tab).toArray).cells.toList = wl tab := rfl
set_option maxRecDepth 10000 in
theorem crc_spec (st : St) (r : Hp) (v : Value) (l : List Nat) (hv : Nb r v l) (hl : l.length ≤ 1000000) (hO : Own st r) (k q : Value → St → Prop)
    (hk : ∀ st', Own st' r → k (.int .u32 (crcN l : Nat)) st') : ACall (C base w0 G) 55 [v] st k q := by
  obtain ⟨a, c, hvs⟩ := hv.isSlice
  refine ACall.of (cx := C base w0 G) mixed Try.func55 rfl (by kernel_rfl) (by simp [Try.ntmps55]) ?_
  simp only [Try.results55]
  simp (config := { implicitDefEqProofs := false }) only [↓GP, GQ, ↓awp_seq, ↓awp_block, C_ex, Nat.reduceBEq, acap, afieldAddr, aload, astore, abin, anum, astr, aun, isAggD, cond_true, cond_false, ↓reduceIte, C_P, C_G, isTuple, Value.cells, setL, ares, aresL, ares1, reduceCtorEq, Nat.reduceEqDiff, eq_self, Nat.reduceAdd, if_true, if_false, one, Nat.reduceLeDiff, undef, gsl, aextract, aindexAddr, amake, implies_true, forall_const, alen, abuiltin, anil, isC, Int.reduceEq, Int.reduceLT, Int.reduceLE, Int.reduceAdd, Int.reduceToNat, Int.reduceNeg, Nat.reduceMul, Nat.reduceSub, Int.reduceBNe, Int.reduceBEq, build_tab, hvs, Try.underlying23, aalloc, azc94, Try.underlying94, asz94]
  have hset : setL (List.replicate 16 (Value.int .u32 0)) 0 (wl tab) = wl tab := rfl
  rw [hset]
  have hOT := (hO.new (.cells (List.replicate 16 (Value.int .u32 0)) 94 true)).set rfl (.cells (wl tab) 94 true) rfl
  refine ⟨⟨rfl, by simp, rfl⟩, fun m ρ s => ∃ (i T : Nat), m = l.length - i ∧ i ≤ l.length ∧ ρ 3 = .pointer (some ⟨T, 0, none⟩) ∧ ρ 4 = .int .u32 (crcR (l.take i) : Nat) ∧ ρ 8 = v ∧ ρ 9 = .int .i64 l.length ∧ ρ 10 = .int .i64 i ∧ Own s ((T, .cells (wl tab) 94 true) :: r),
    ⟨l.length, 0, st.n, rfl, Nat.zero_le _, rfl, rfl, hvs.symm, rfl, rfl, hOT⟩, ?_⟩
  clear hOT
  rintro m ρ s ⟨i, T, rfl, hi, h3, h4, h8, h9, h10, hO⟩
  by_cases him : i < l.length
  · obtain ⟨B, o, sp, c', cs, ty, own, hvx, hmem, hget⟩ := hv.at (by intro e; rw [e] at him; simp at him)
    have hB := hO.get (List.mem_cons_of_mem _ hmem)
    have hT := hO.head
    have hg := hget i him
    have hx := getD8 hv.2 i
    have hr := crcR_lt hv.2 i
    have hcr := crcR_take him
    generalize l.getD i 0 = x at *
    generalize crcR (l.take i) = y at *
    have e1 : IntKind.u32.wrap (x : Int) = (x : Int) := w_u32 (by omega)
    have x1 := bits_xor32 (a := y) (b := x) hr (by omega)
    have l1 := xor_lt (a := y) (b := x) hr (by omega)
    have a1 : bits .and .u32 ((y ^^^ x : Nat) : Int) 15 = (((y ^^^ x) &&& 15 : Nat) : Int) := bits_and32 (b := 15) l1 (by decide)
    have n1 : (y ^^^ x) &&& 15 < 16 := by rw [and15]; exact Nat.mod_lt _ (by decide)
    have g1 := wl_get (l := tab) (i := (y ^^^ x) &&& 15) n1
    have t1 := tab_lt ((y ^^^ x) &&& 15)
    have hh := (crc_tab y x hx).2
    generalize (y ^^^ x) &&& 15 = j1 at *
    generalize tab.getD j1 0 = z1 at *
    have s1 : ((y : Int) / 2 ^ 4) = ((y / 16 : Nat) : Int) := by rw [show (2 : Int) ^ 4 = 16 from rfl]; omega
    have s2 : ((x : Int) / 2 ^ 4) = ((x / 16 : Nat) : Int) := by rw [show (2 : Int) ^ 4 = 16 from rfl]; omega
    have x2 := bits_xor32 (a := z1) (b := y / 16) t1 (by omega)
    have l2 := xor_lt (a := z1) (b := y / 16) t1 (by omega)
    generalize z1 ^^^ (y / 16) = y1 at *
    have x3 := bits_xor32 (a := y1) (b := x / 16) l2 (by omega)
    have l3 := xor_lt (a := y1) (b := x / 16) l2 (by omega)
    have a2 : bits .and .u32 ((y1 ^^^ (x / 16) : Nat) : Int) 15 = (((y1 ^^^ (x / 16)) &&& 15 : Nat) : Int) := bits_and32 (b := 15) l3 (by decide)
    have n2 : (y1 ^^^ (x / 16)) &&& 15 < 16 := by rw [and15]; exact Nat.mod_lt _ (by decide)
    have g2 := wl_get (l := tab) (i := (y1 ^^^ (x / 16)) &&& 15) n2
    have t2 := tab_lt ((y1 ^^^ (x / 16)) &&& 15)
    generalize (y1 ^^^ (x / 16)) &&& 15 = j2 at *
    generalize tab.getD j2 0 = z2 at *
    have s3 : ((y1 : Int) / 2 ^ 4) = ((y1 / 16 : Nat) : Int) := by rw [show (2 : Int) ^ 4 = 16 from rfl]; omega
    have x4 := bits_xor32 (a := z2) (b := y1 / 16) t2 (by omega)
    simp (config := { implicitDefEqProofs := false }) only [↓GP, GQ, ↓awp_seq, ↓awp_block, C_ex, Nat.reduceBEq, acap, afieldAddr, aload, astore, abin, anum, astr, aun, isAggD, cond_true, cond_false, ↓reduceIte, C_P, C_G, isTuple, Value.cells, setL, ares, aresL, ares1, reduceCtorEq, Nat.reduceEqDiff, eq_self, Nat.reduceAdd, if_true, if_false, one, Nat.reduceLeDiff, undef, gsl, aextract, aindexAddr, amake, implies_true, forall_const, alen, abuiltin, anil, isC, Int.reduceEq, Int.reduceLT, Int.reduceLE, Int.reduceAdd, Int.reduceToNat, Int.reduceNeg, Nat.reduceMul, Nat.reduceSub, abuild, afill, Int.reduceBNe, Int.reduceBEq, h3, h4, h8, h9, h10, him, Int.ofNat_lt, decide_true, hvx, hB, hT, hg, Try.underlying23, Try.underlying5, Try.underlying47, Try.underlying94, Try.underlying93, asz5, asz47, aconv, ashift, e1, x1, a1, g1, s1, s2, x2, x3, a2, g2, s3, x4, n1, n2,
      show ((4 : Int).toNat) = 4 from rfl, show (0 : Int) ≤ 4 ∧ (4 : Int) ≤ ((IntKind.u32.bits : Nat) : Int) by decide]
    refine ⟨by omega, by omega, by omega, l.length - (i + 1), by omega, i + 1, T, rfl, by omega, rfl, by rw [hcr, hh], by rw [w_i64 (by omega)]; rfl, hO⟩
  · obtain rfl : i = l.length := by omega
    rw [List.take_length] at h4
    have hx : bits .xor .u32 (if IntKind.u32.signed = true then -1 else IntKind.u32.max) ((crcR l : Nat) : Int) = ((crcN l : Nat) : Int) := by
      have := crcR_lt hv.2 l.length
      rw [List.take_length] at this
      rw [crcN, Nat.xor_comm]
      exact bits_xor32 (a := 4294967295) (by decide) this
    simp (config := { implicitDefEqProofs := false }) only [↓GP, GQ, ↓awp_seq, ↓awp_block, C_ex, Nat.reduceBEq, acap, afieldAddr, aload, astore, abin, anum, astr, aun, isAggD, cond_true, cond_false, ↓reduceIte, C_P, C_G, isTuple, Value.cells, setL, ares, aresL, ares1, reduceCtorEq, Nat.reduceEqDiff, eq_self, Nat.reduceAdd, if_true, if_false, one, Nat.reduceLeDiff, undef, gsl, aextract, aindexAddr, amake, implies_true, forall_const, alen, abuiltin, anil, isC, Int.reduceEq, Int.reduceLT, Int.reduceLE, Int.reduceAdd, Int.reduceToNat, Int.reduceNeg, Nat.reduceMul, Nat.reduceSub, abuild, afill, Int.reduceBNe, Int.reduceBEq, h3, h4, h8, h9, h10, Nat.lt_irrefl, Int.ofNat_lt, decide_false]
    rw [hx]
    exact hk _ hO.tail
end Go.Proofs.Ytiooigkcliomlaa
