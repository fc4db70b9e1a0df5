/- Tags. No conditions. -/
import Derived.Test.YthohmdkibkompaaDoorLoginA
import Derived.Test.YthohmdkibkompaaDoorShelf
import Derived.Lib.ItoaLen
set_option linter.unusedVariables false
set_option linter.unusedSimpArgs false
namespace Go.Proofs.YthohmdkibkompaaDoor
open Go Go.Abs Go.RowKit
variable {base : Nat} {w0 : World} {G : Nat}

/-- A number's digits. -/
def dec (n : Nat) : List Nat := (Lib.decDigits n).map UInt8.toNat
theorem dec_str (n : Nat) : str (dec n) = ⟨(Lib.decDigits n).toArray⟩ := by
  unfold str dec
  rw [List.map_map, show (UInt8.ofNat ∘ UInt8.toNat) = id from funext fun x => by simp, List.map_id]
theorem dec_lt (n : Nat) : Bt (dec n) := fun d hd => by
  obtain ⟨b, _, rfl⟩ := List.mem_map.1 hd
  exact b.toNat_lt
theorem dec_rec (n : Nat) : dec n = if n < 10 then [48 + n] else dec (n / 10) ++ [48 + n % 10] := by
  unfold dec
  rw [Lib.decDigits]
  split
  · simp; omega
  · simp; omega
theorem dec_digit : ∀ (n : Nat), ∀ d ∈ dec n, 48 ≤ d ∧ d ≤ 57 := by
  intro n
  induction n using Nat.strongRecOn with
  | _ n ih =>
    intro d hd
    rw [dec_rec] at hd
    split at hd
    · rw [List.mem_singleton.1 hd]; omega
    · rcases List.mem_append.1 hd with hd | hd
      · exact ih (n / 10) (by omega) d hd
      · rw [List.mem_singleton.1 hd]; omega
theorem dec_ne (n : Nat) : dec n ≠ [] := by rw [dec_rec]; split <;> simp
theorem dec_inj : ∀ (a b : Nat), dec a = dec b → a = b := by
  intro a
  induction a using Nat.strongRecOn with
  | _ a ih =>
    intro b h
    rw [dec_rec a, dec_rec b] at h
    split at h <;> split at h
    · simp at h; exact h
    · rename_i h1 h2
      have h3 := congrArg List.length h
      have h4 : 0 < (dec (b / 10)).length := List.length_pos_iff.2 (dec_ne (b / 10))
      rw [List.length_append] at h3
      simp only [List.length_singleton] at h3
      omega
    · rename_i h1 h2
      have h3 := congrArg List.length h
      have h4 : 0 < (dec (a / 10)).length := List.length_pos_iff.2 (dec_ne (a / 10))
      rw [List.length_append] at h3
      simp only [List.length_singleton] at h3
      omega
    · have h1 := List.append_inj_left' h rfl
      have h2 := List.append_inj_right' h rfl
      have := ih (a / 10) (by omega) _ h1
      simp at h2
      omega
theorem dec_len {n : Nat} (h : n ≤ 9223372036854775807) : (dec n).length ≤ 21 := by
  have := Lib.itoa_length_le (n : Int) (by omega) (by omega)
  rw [Lib.itoa_nonneg] at this
  simpa [dec] using this
def TabOk (w0 : World) : Prop := Lib.TabIs Tryd.prog w0 "internal/strconv.uint64pow10" .u64 Lib.pow10Tab
theorem below_grow' (w : World) (k : Nat) (os : Array Obj) : Below w.heap.size w (Go.Sort.grow (w.drewN k) os) :=
  ⟨rfl, rfl, rfl, by show w.heap.size ≤ (w.heap ++ os).size; rw [Array.size_append]; omega, fun j hj => by show (w.heap ++ os)[j]? = _; exact Array.getElem?_append_left hj⟩
theorem amm_max (n : Int) : amm true (.int .i64 n) [.int .i64 0] = some (.int .i64 (n.toNat : Int)) := by
  simp only [amm, if_true]
  split <;> congr 2 <;> omega
theorem Itoa_call {st : St} {n : Nat} (hT : TabOk w0) (hn : n ≤ 9223372036854775807) (k q : Value → St → Prop) (hk : k (.string (str (dec n))) st) : ACallF (C base w0 4) 26 [.int .i64 n] st k q := by
  refine ACallF.world (V := .string (str (dec n))) Tryd.func26 rfl (by kernel_rfl) (by simp [lf]) (fun φ => .string _) (fun w hG hb => ?_) hk
  have ht := tabIs_below hT hb fun g hg => by
    have : Tryd.prog.globalNamed "internal/strconv.uint64pow10" = some 1 := by kernel_rfl
    rw [this] at hg
    injection hg with hg
    subst hg
    exact Nat.lt_of_lt_of_le (by decide) (show 4 ≤ base from hG)
  refine (Tryd.strconv_Itoa (n : Int) (by omega) (by omega) w ht).mono ?_
  rintro e w' ⟨rfl, kk, os, rfl⟩
  exact ⟨by rw [Lib.itoa_nonneg, ← dec_str], below_grow' w kk os⟩
def tagN (l : List Nat) (n : Nat) (key : List Nat) : List Nat := (l ++ dec n ++ [45]) ++ (hexN (mac key (l ++ dec n)) 32).take 16
set_option maxRecDepth 10000 in
theorem Tag_spec (st : St) (r : Hp) (l key : List Nat) (n : Int) (sv : Value) (ok : Bool) {kt : TypeId} (hT : TabOk w0) (hl : Bt l) (hll : l.length ≤ 1000) (hn : n ≤ 9223372036854775807) (hs : Nb r sv key) (hkl : key.length ≤ 1000)
    (hK : (0, .cells (wl ks0) kt ok) ∈ r) (hO : Own st r) (k q : Value → St → Prop)
    (hk : ∀ st', Own st' r → k (.string (str (tagN l n.toNat key))) st') :
    ACall (C base w0 4) 13 [.string (str l), .int .i64 n, sv] st k q := by
  obtain ⟨a, c, hvs⟩ := hs.isSlice
  refine ACall.of (cx := C base w0 4) mixed Tryd.func13 rfl (by kernel_rfl) (by simp [Tryd.ntmps13]) ?_
  simp only [Tryd.results13]
  simp (config := { implicitDefEqProofs := false }) only [↓GP, ↓GM, GQ, abuiltinX, ↓awp_seq, ↓awp_block, C_ex, Nat.reduceBEq, acap, afieldAddr, aload, astore, abin, anum, aun, isAggD, cond_true, cond_false, ↓reduceIte, C_P, C_G, isTuple, Value.cells, setL, ares, aresL, ares1, reduceCtorEq, Nat.reduceEqDiff, eq_self, Nat.reduceAdd, if_true, if_false, Go.Abs.one, Nat.reduceLeDiff, undef, gsl, aextract, aindexAddr, amake, implies_true, forall_const, alen, abuiltin, anil, isC, Int.reduceEq, Int.reduceLT, Int.reduceLE, Int.reduceAdd, Int.reduceToNat, Int.reduceNeg, Nat.reduceMul, Nat.reduceSub, abuild, afill, Int.reduceBNe, Int.reduceBEq, Tryd.underlying3, amm_max, Option.map_some]
  refine Itoa_call hT (by omega) _ _ ?_
  have hdl := dec_len (n := n.toNat) (by omega)
  have hdb := dec_lt n.toNat
  have hL : (l ++ dec n.toNat).length ≤ 1021 := by rw [List.length_append]; omega
  have hLb : Bt (l ++ dec n.toNat) := hl.app hdb
  simp (config := { implicitDefEqProofs := false }) only [↓GP, ↓GM, GQ, abuiltinX, ↓awp_seq, ↓awp_block, C_ex, Nat.reduceBEq, acap, afieldAddr, aload, astore, abin, anum, aun, isAggD, cond_true, cond_false, ↓reduceIte, C_P, C_G, isTuple, Value.cells, setL, ares, aresL, ares1, reduceCtorEq, Nat.reduceEqDiff, eq_self, Nat.reduceAdd, if_true, if_false, Go.Abs.one, Nat.reduceLeDiff, undef, gsl, aextract, aindexAddr, amake, implies_true, forall_const, alen, abuiltin, anil, isC, Int.reduceEq, Int.reduceLT, Int.reduceLE, Int.reduceAdd, Int.reduceToNat, Int.reduceNeg, Nat.reduceMul, Nat.reduceSub, abuild, afill, Int.reduceBNe, Int.reduceBEq, astr_add (show l.length + (dec n.toNat).length ≤ 9223372036854775807 by omega)]
  have e45 : (⟨#[45]⟩ : ByteArray) = str [45] := rfl
  unfold tagN at hk
  generalize l ++ dec n.toNat = L at *
  simp (config := { implicitDefEqProofs := false }) only [↓GP, ↓GM, GQ, abuiltinX, ↓awp_seq, ↓awp_block, C_ex, Nat.reduceBEq, acap, afieldAddr, aload, astore, abin, anum, aun, isAggD, cond_true, cond_false, ↓reduceIte, C_P, C_G, isTuple, Value.cells, setL, ares, aresL, ares1, reduceCtorEq, Nat.reduceEqDiff, eq_self, Nat.reduceAdd, if_true, if_false, Go.Abs.one, Nat.reduceLeDiff, undef, gsl, aextract, aindexAddr, amake, implies_true, forall_const, alen, abuiltin, anil, isC, Int.reduceEq, Int.reduceLT, Int.reduceLE, Int.reduceAdd, Int.reduceToNat, Int.reduceNeg, Nat.reduceMul, Nat.reduceSub, abuild, afill, Int.reduceBNe, Int.reduceBEq, e45, astr_add (show L.length + [45].length ≤ 9223372036854775807 by simp; omega), aconv_bytes Tryd.underlying9 Tryd.underlying38 Tryd.underlying5 asz5 hLb, abuildSlice_one (st := st.new (.cells (nl L) 5 true)) (v := .slice (some ⟨st.n, 0, some 0⟩) L.length L.length) Tryd.underlying88 asz38 azc38 rfl rfl rfl (by decide)]
  have hO1 := (hO.new (.cells (nl L) 5 true)).new (.cells [.slice (some ⟨st.n, 0, some 0⟩) L.length L.length] 38 true)
  have hps : Ps ((st.n + 1, Ob.cells [.slice (some ⟨st.n, 0, some 0⟩) L.length L.length] 38 true) :: (st.n, .cells (nl L) 5 true) :: r) (.slice (some ⟨st.n + 1, 0, none⟩) 1 1) [(.slice (some ⟨st.n, 0, some 0⟩) L.length L.length, L)] :=
    Ps.of (ps := [(.slice (some ⟨st.n, 0, some 0⟩) L.length L.length, L)]) (List.mem_cons_self ..) rfl fun p hp => by
      rw [List.mem_singleton.1 hp]
      exact nb_exact (ty := 5) (own := true) (by simp) hLb
  have hfl : flat [((.slice (some ⟨st.n, 0, some 0⟩) L.length L.length : Value), L)] = L := by simp [flat]
  have hin : ∀ e ∈ r, e ∈ (st.n + 1, Ob.cells [.slice (some ⟨st.n, 0, some 0⟩) L.length L.length] 38 true) :: (st.n, .cells (nl L) 5 true) :: r := fun e he => by simp [he]
  refine ACallF.enter Tryd.func28 rfl (by kernel_rfl) (Mac_spec _ _ _ _ key _ ok (hs.sub hin) hps (by omega) (by rw [hfl]; omega) (by simp) (hin _ hK) hO1 _ _ fun v hg s1 hG hO2 => ?_)
  rw [hfl] at hG
  have hml : (mac key L).length = 32 := digest_length _
  have hnb := hG.x.nb (r := (st.n + 1, Ob.cells [.slice (some ⟨st.n, 0, some 0⟩) L.length L.length] 38 true) :: (st.n, .cells (nl L) 5 true) :: r) (by rw [hml]) (digest_lt _)
  simp (config := { implicitDefEqProofs := false }) only [↓GP, ↓GM, GQ, abuiltinX, ↓awp_seq, ↓awp_block, C_ex, Nat.reduceBEq, acap, afieldAddr, aload, astore, abin, anum, aun, isAggD, cond_true, cond_false, ↓reduceIte, C_P, C_G, isTuple, Value.cells, setL, ares, aresL, ares1, reduceCtorEq, Nat.reduceEqDiff, eq_self, Nat.reduceAdd, if_true, if_false, Go.Abs.one, Nat.reduceLeDiff, undef, gsl, aextract, aindexAddr, amake, implies_true, forall_const, alen, abuiltin, anil, isC, Int.reduceEq, Int.reduceLT, Int.reduceLE, Int.reduceAdd, Int.reduceToNat, Int.reduceNeg, Nat.reduceMul, Nat.reduceSub, abuild, afill, Int.reduceBNe, Int.reduceBEq]
  refine ACallF.enter Tryd.func27 rfl (by kernel_rfl) (Hex_spec _ _ v (mac key L) hnb (by omega) hO2 _ _ fun s2 hO3 => ?_)
  have hhl : 16 ≤ (hexN (mac key L) 32).length := by rw [hexN_length]; decide
  rw [hml]
  generalize hexN (mac key L) 32 = X at *
  have h16 : aslice Tryd.prog s2 9 (.string (str X)) none (some (.int .i64 16)) none = some (.string (str (X.take 16))) := aslice_strTo (b := 16) Tryd.underlying9 hhl
  simp (config := { implicitDefEqProofs := false }) only [↓GP, ↓GM, GQ, abuiltinX, ↓awp_seq, ↓awp_block, C_ex, Nat.reduceBEq, acap, afieldAddr, aload, astore, abin, anum, aun, isAggD, cond_true, cond_false, ↓reduceIte, C_P, C_G, isTuple, Value.cells, setL, ares, aresL, ares1, reduceCtorEq, Nat.reduceEqDiff, eq_self, Nat.reduceAdd, if_true, if_false, Go.Abs.one, Nat.reduceLeDiff, undef, gsl, aextract, aindexAddr, amake, implies_true, forall_const, alen, abuiltin, anil, isC, Int.reduceEq, Int.reduceLT, Int.reduceLE, Int.reduceAdd, Int.reduceToNat, Int.reduceNeg, Nat.reduceMul, Nat.reduceSub, abuild, afill, Int.reduceBNe, Int.reduceBEq, h16, astr_add (show (L ++ [45]).length + (X.take 16).length ≤ 9223372036854775807 by rw [List.length_append, List.length_take]; simp only [List.length_singleton]; omega)]
  exact hk _ (hO3.right.tail.tail)
end Go.Proofs.YthohmdkibkompaaDoor
