/- Contracts of the program's functions over the abstract heap, and what follows from them (a part of the proof of this seat's laws). No conditions. -/
import Derived.Test.YtiooigkcliomlaaAbsT
import Derived.Test.YtiooigkcliomlaaAbsR
set_option linter.unusedVariables false
set_option linter.unusedSimpArgs false
namespace Go.Proofs.Ytiooigkcliomlaa
open Go Go.Abs
variable {base : Nat} {w0 : World} {G : Nat}

set_option maxRecDepth 10000 in
theorem Clone_spec (st : St) (h : Hp) (v : Value) (l : List Int) (hO : Own st h) (hb : Bs h v l) (hl : l ≠ []) (hlim : l.length ≤ 140737488355328) (k q : Value → St → Prop)
    (hk : ∀ b st', Own st' ((b, .cells (bl l) 5 true) :: h) → k (.slice (some ⟨b, 0, some 0⟩) l.length l.length) st') :
    ACall (C base w0 G) 44 [v] st k q := by
  refine ACall.of (cx := C base w0 G) mixed Try.func44 rfl (by kernel_rfl) (by simp [Try.ntmps44]) ?_
  simp only [Try.results44]
  obtain ⟨a, c, rfl, ha⟩ := hb.isSlice
  have hne : l.length ≠ 0 := by simpa using hl
  have hs := Bs.src (hO.new (.cells [] 5 true)) (hb.sub fun e he => List.mem_cons_of_mem _ he)
  simp (config := { implicitDefEqProofs := false }) only [↓GP, GQ, ↓awp_seq, ↓awp_block, C_ex, Nat.reduceBEq, acap, afieldAddr, aload, astore, abin, anum, astr, aun, isAggD, cond_true, cond_false, ↓reduceIte, C_P, C_G, isTuple, Value.cells, setL, ares, aresL, ares1, reduceCtorEq, Nat.reduceEqDiff, eq_self, Nat.reduceAdd, if_true, if_false, one, Nat.reduceLeDiff, undef, gsl, aextract, aindexAddr, amake, implies_true, forall_const, alen, abuiltin, anil, isC, Int.reduceEq, Int.reduceLT, Int.reduceLE, Int.reduceAdd, Int.reduceToNat, Int.reduceNeg, Nat.reduceMul, Nat.reduceSub, abuild, afill, Int.reduceBNe, Int.reduceBEq, Try.underlying23, anil, isC, ha hl, abuiltin, abuildSlice_none (st := st) Try.underlying23 asz5 azc5,
    aappend_grow (t' := 23) (st := st.new (.cells [] 5 true)) (B := st.n) (off := 0) (len := 0) (cap := 0) (x := .slice a l.length c) (m := l.length) (Cs := bl l) (cs := []) (ty := 5) (own := true) (old := []) (n := 0) (b := 0) (e := 5) (z := [.int .u8 0]) Try.underlying23 (by rw [Try.underlying23]; rfl) asz5 azc5 aby5 hs (bl_one l) (new_at _) (by omega) rfl (by omega)]
  exact hk _ _ ((hO.new (.cells [] 5 true)).tail.new (.cells (bl l) 5 true))
set_option maxRecDepth 10000 in
theorem burn_spec (st : St) (p : Nat) (sv wv : Value) (fz : Int) (hp : st.H p = some (.cells [sv, wv, .int .i64 fz] 64 true)) (hb : fz ≤ 9223372036854775807) (k q : Value → St → Prop)
    (h0 : fz = 0 → k (.int .i64 50) st) (h1 : 0 < fz → k (.int .i64 0) (st.set p (some (.cells [sv, wv, .int .i64 (fz - 1)] 64 true)))) (h2 : fz < 0 → k (.int .i64 0) st) :
    ACall (C base w0 G) 43 [.pointer (some ⟨p, 0, none⟩)] st k q := by
  refine ACall.of (cx := C base w0 G) mixed Try.func43 rfl (by kernel_rfl) (by simp [Try.ntmps43]) ?_
  simp only [Try.results43]
  simp (config := { implicitDefEqProofs := false }) only [↓GP, GQ, ↓awp_seq, ↓awp_block, C_ex, Nat.reduceBEq, acap, afieldAddr, aload, astore, abin, anum, astr, aun, isAggD, cond_true, cond_false, ↓reduceIte, C_P, C_G, isTuple, Value.cells, setL, ares, aresL, ares1, reduceCtorEq, Nat.reduceEqDiff, eq_self, Nat.reduceAdd, if_true, if_false, one, Nat.reduceLeDiff, undef, gsl, aextract, aindexAddr, amake, implies_true, forall_const, alen, abuiltin, anil, isC, Int.reduceEq, Int.reduceLT, Int.reduceLE, Int.reduceAdd, Int.reduceToNat, Int.reduceNeg, Nat.reduceMul, Nat.reduceSub, abuild, afill, Int.reduceBNe, Int.reduceBEq, hp, afo64_2, asz3, Try.underlying3]
  refine ⟨h0, fun h3 => ⟨fun h4 => ?_, fun h4 => ?_⟩⟩
  · rw [w_i64 (by omega)]; exact h1 h4
  · exact h2 (by omega)

set_option maxRecDepth 10000 in
theorem there_spec (st : St) (p : Nat) (a : Option Addr) (n c : Nat) (wv fv : Value) (at_ : Int) (hp : st.H p = some (.cells [.slice a n c, wv, fv] 64 true)) (k q : Value → St → Prop)
    (h0 : k (.bool (decide (0 ≤ at_ ∧ at_ < n))) st) :
    ACall (C base w0 G) 42 [.pointer (some ⟨p, 0, none⟩), .int .i64 at_] st k q := by
  refine ACall.of (cx := C base w0 G) mixed Try.func42 rfl (by kernel_rfl) (by simp [Try.ntmps42]) ?_
  simp only [Try.results42]
  by_cases h : 0 ≤ at_
  · simp (config := { implicitDefEqProofs := false }) only [↓GP, GQ, ↓awp_seq, ↓awp_block, C_ex, Nat.reduceBEq, acap, afieldAddr, aload, astore, abin, anum, astr, aun, isAggD, cond_true, cond_false, ↓reduceIte, C_P, C_G, isTuple, Value.cells, setL, ares, aresL, ares1, reduceCtorEq, Nat.reduceEqDiff, eq_self, Nat.reduceAdd, if_true, if_false, one, Nat.reduceLeDiff, undef, gsl, aextract, aindexAddr, amake, implies_true, forall_const, alen, abuiltin, anil, isC, Int.reduceEq, Int.reduceLT, Int.reduceLE, Int.reduceAdd, Int.reduceToNat, Int.reduceNeg, Nat.reduceMul, Nat.reduceSub, abuild, afill, Int.reduceBNe, Int.reduceBEq, hp, afo64_0, asz22, Try.underlying22, Try.underlying3, abuiltin, alen, ge_iff_le, h, decide_true]
    simpa [h] using h0
  · simp (config := { implicitDefEqProofs := false }) only [↓GP, GQ, ↓awp_seq, ↓awp_block, C_ex, Nat.reduceBEq, acap, afieldAddr, aload, astore, abin, anum, astr, aun, isAggD, cond_true, cond_false, ↓reduceIte, C_P, C_G, isTuple, Value.cells, setL, ares, aresL, ares1, reduceCtorEq, Nat.reduceEqDiff, eq_self, Nat.reduceAdd, if_true, if_false, one, Nat.reduceLeDiff, undef, gsl, aextract, aindexAddr, amake, implies_true, forall_const, alen, abuiltin, anil, isC, Int.reduceEq, Int.reduceLT, Int.reduceLE, Int.reduceAdd, Int.reduceToNat, Int.reduceNeg, Nat.reduceMul, Nat.reduceSub, abuild, afill, Int.reduceBNe, Int.reduceBEq, hp, afo64_0, asz22, Try.underlying22, Try.underlying3, abuiltin, alen, ge_iff_le, h, decide_false]
    simpa [h] using h0
end Go.Proofs.Ytiooigkcliomlaa
/- Contracts of the program's functions over the abstract heap, and what follows from them (a part of the proof of this seat's laws). No conditions. -/
set_option linter.unusedVariables false
set_option linter.unusedSimpArgs false
namespace Go.Proofs.Ytiooigkcliomlaa
open Go Go.Abs
variable {base : Nat} {w0 : World} {G : Nat}

abbrev sl (b : Nat) : Value := .slice (some ⟨b, 0, none⟩) 64 64
abbrev slo (b : Nat) : Value := .slice (some ⟨b, 0, some 0⟩) 64 64
/-- A waiting write: its sector, its letters, their block. -/
abbrev Wt := Nat × List Int × Nat
def wc (W : List Wt) : List Value := (W.map fun x => [Value.int .i64 (x.1 : Nat), slo x.2.2]).flatten
def wbs (W : List Wt) : Hp := W.map fun x => (x.2.2, .cells (bl x.2.1) 5 true)
def pc (sb n : Nat) (wv : Value) (fz : Int) : Ob := .cells [.slice (some ⟨sb, 0, some 0⟩) n n, wv, .int .i64 fz] 64 true
def WV (wv : Value) (W : List Wt) (hw : Hp) : Prop := (wv = .slice none 0 0 ∧ W = [] ∧ hw = []) ∨
  ∃ wb pre, wv = .slice (some ⟨wb, pre.length, some 0⟩) W.length W.length ∧ hw = [(wb, .cells (pre ++ wc W) 76 true)]
def dec1 (fz : Int) : Int := if 0 < fz then fz - 1 else fz

theorem wc_length (W : List Wt) : (wc W).length = W.length * 2 := by
  unfold wc
  induction W with
  | nil => rfl
  | cons a r ih => simp [List.flatten_cons] at ih ⊢; omega
theorem wc_cut {pre : List Value} {W : List Wt} : cut (pre ++ wc W) pre.length (W.length * 2) = some (wc W) := by
  unfold cut
  rw [if_pos (by simp [wc_length]), List.drop_left, ← wc_length, List.take_length]

theorem burn_own (st : St) (r : Hp) (p : Nat) (sv wv : Value) (fz : Int) (hO : Own st ((p, .cells [sv, wv, .int .i64 fz] 64 true) :: r)) (hb : fz ≤ 9223372036854775807) (k q : Value → St → Prop)
    (h0 : fz = 0 → k (.int .i64 50) st) (h1 : ∀ s, fz ≠ 0 → Own s ((p, .cells [sv, wv, .int .i64 (dec1 fz)] 64 true) :: r) → k (.int .i64 0) s) :
    ACall (C base w0 G) 43 [.pointer (some ⟨p, 0, none⟩)] st k q := by
  refine burn_spec st p sv wv fz hO.head hb k q h0 (fun h => h1 _ (by omega) ?_) (fun h => h1 _ (by omega) ?_)
  · simp only [dec1, h, if_true]; exact hO.set rfl _ rfl
  · simp only [dec1, show ¬ 0 < fz by omega, if_false]; exact hO

set_option maxRecDepth 10000 in
theorem Write_spec (st : St) (r : Hp) (p sb n : Nat) (wv : Value) (fz : Int) (W : List Wt) (hw : Hp) (at_ : Int) (bv : Value) (l : List Int)
    (hO : Own st ((p, pc sb n wv fz) :: (hw ++ r))) (hW : WV wv W hw) (hb : Bs r bv l) (hfz : fz ≤ 9223372036854775807) (hWl : W.length ≤ 1000000) (k q : Value → St → Prop)
    (hbad : ¬ (0 ≤ at_ ∧ at_ < n ∧ l.length = 64) → k (.int .i64 2) st)
    (hpow : 0 ≤ at_ → at_ < n → l.length = 64 → fz = 0 → k (.int .i64 50) st)
    (hok : ∀ b wv' hw' st', 0 ≤ at_ → at_ < n → l.length = 64 → fz ≠ 0 → WV wv' (W ++ [(at_.toNat, l, b)]) hw' → Own st' ((p, pc sb n wv' (dec1 fz)) :: (hw' ++ ((b, .cells (bl l) 5 true) :: r))) → k (.int .i64 0) st') :
    ACall (C base w0 G) 18 [.pointer (some ⟨p, 0, none⟩), .int .i64 at_, bv] st k q := by
  refine ACall.of (cx := C base w0 G) mixed Try.func18 rfl (by kernel_rfl) (by simp [Try.ntmps18]) ?_
  simp only [Try.results18]
  have hp := hO.head
  obtain ⟨a, c, rfl, ha⟩ := hb.isSlice
  simp (config := { implicitDefEqProofs := false }) only [↓GP, GQ, ↓awp_seq, ↓awp_block, C_ex, Nat.reduceBEq, acap, afieldAddr, aload, astore, abin, anum, astr, aun, isAggD, cond_true, cond_false, ↓reduceIte, C_P, C_G, isTuple, Value.cells, setL, ares, aresL, ares1, reduceCtorEq, Nat.reduceEqDiff, eq_self, Nat.reduceAdd, if_true, if_false, one, Nat.reduceLeDiff, undef, gsl, aextract, aindexAddr, amake, implies_true, forall_const, alen, abuiltin, anil, isC, Int.reduceEq, Int.reduceLT, Int.reduceLE, Int.reduceAdd, Int.reduceToNat, Int.reduceNeg, Nat.reduceMul, Nat.reduceSub, abuild, afill, Int.reduceBNe, Int.reduceBEq]
  refine ACallF.enter Try.func42 rfl (by kernel_rfl) (there_spec st p _ n n wv (.int .i64 fz) at_ hp _ _ ?_)
  by_cases h : 0 ≤ at_ ∧ at_ < n
  · simp (config := { implicitDefEqProofs := false }) only [↓GP, GQ, ↓awp_seq, ↓awp_block, C_ex, Nat.reduceBEq, acap, afieldAddr, aload, astore, abin, anum, astr, aun, isAggD, cond_true, cond_false, ↓reduceIte, C_P, C_G, isTuple, Value.cells, setL, ares, aresL, ares1, reduceCtorEq, Nat.reduceEqDiff, eq_self, Nat.reduceAdd, if_true, if_false, one, Nat.reduceLeDiff, undef, gsl, aextract, aindexAddr, amake, implies_true, forall_const, alen, abuiltin, anil, isC, Int.reduceEq, Int.reduceLT, Int.reduceLE, Int.reduceAdd, Int.reduceToNat, Int.reduceNeg, Nat.reduceMul, Nat.reduceSub, abuild, afill, Int.reduceBNe, Int.reduceBEq, h, decide_true, Bool.not_true, abuiltin, alen, Try.underlying23]
    refine ⟨fun hn => hbad (by omega), fun hn => ACallF.enter Try.func43 rfl (by kernel_rfl) (burn_own st _ p _ wv fz hO hfz _ _ (fun hz => ?_) (fun s hz hs => ?_))⟩
    · simp (config := { implicitDefEqProofs := false }) only [↓GP, GQ, ↓awp_seq, ↓awp_block, C_ex, Nat.reduceBEq, acap, afieldAddr, aload, astore, abin, anum, astr, aun, isAggD, cond_true, cond_false, ↓reduceIte, C_P, C_G, isTuple, Value.cells, setL, ares, aresL, ares1, reduceCtorEq, Nat.reduceEqDiff, eq_self, Nat.reduceAdd, if_true, if_false, one, Nat.reduceLeDiff, undef, gsl, aextract, aindexAddr, amake, implies_true, forall_const, alen, abuiltin, anil, isC, Int.reduceEq, Int.reduceLT, Int.reduceLE, Int.reduceAdd, Int.reduceToNat, Int.reduceNeg, Nat.reduceMul, Nat.reduceSub, abuild, afill, Int.reduceBNe, Int.reduceBEq]
      exact hpow h.1 h.2 (by omega) hz
    · have hl : l ≠ [] := fun e => by subst e; simp at hn
      have hp := hs.head
      have hlen : l.length = 64 := by omega
      simp (config := { implicitDefEqProofs := false }) only [↓GP, GQ, ↓awp_seq, ↓awp_block, C_ex, Nat.reduceBEq, acap, afieldAddr, aload, astore, abin, anum, astr, aun, isAggD, cond_true, cond_false, ↓reduceIte, C_P, C_G, isTuple, Value.cells, setL, ares, aresL, ares1, reduceCtorEq, Nat.reduceEqDiff, eq_self, Nat.reduceAdd, if_true, if_false, one, Nat.reduceLeDiff, undef, gsl, aextract, aindexAddr, amake, implies_true, forall_const, alen, abuiltin, anil, isC, Int.reduceEq, Int.reduceLT, Int.reduceLE, Int.reduceAdd, Int.reduceToNat, Int.reduceNeg, Nat.reduceMul, Nat.reduceSub, abuild, afill, Int.reduceBNe, Int.reduceBEq]
      refine ADraw.of [(0, false, []), (1, false, []), (2, false, []), (3, false, []), (4, true, []), (5, false, []), (6, false, []), (7, false, [4]), (8, false, []), (9, false, [4]), (10, false, []), (11, false, []), (12, false, []), (13, false, [])] [4] [(4, 7), (4, 9)] (by kernel_rfl) ?_
      simp (config := { implicitDefEqProofs := false }) only [↓GP, GQ, ↓awp_seq, ↓awp_block, C_ex, Nat.reduceBEq, acap, afieldAddr, aload, astore, abin, anum, astr, aun, isAggD, cond_true, cond_false, ↓reduceIte, C_P, C_G, isTuple, Value.cells, setL, ares, aresL, ares1, reduceCtorEq, Nat.reduceEqDiff, eq_self, Nat.reduceAdd, if_true, if_false, one, Nat.reduceLeDiff, undef, gsl, aextract, aindexAddr, amake, implies_true, forall_const, alen, abuiltin, anil, isC, Int.reduceEq, Int.reduceLT, Int.reduceLE, Int.reduceAdd, Int.reduceToNat, Int.reduceNeg, Nat.reduceMul, Nat.reduceSub, abuild, afill, Int.reduceBNe, Int.reduceBEq, hp, asz62, afo64_1, Try.underlying62]
      refine ACallF.enter Try.func44 rfl (by kernel_rfl) (Clone_spec s _ _ l hs (hb.sub fun e he => by simp [he]) hl (by omega) _ _ fun b s2 hs2 => ?_)
      have hp2 := hs2.tail.head
      have hsrc : asrc (s2.new (.cells [.int .i64 at_, slo b] 76 true)) 2 (.slice (some ⟨s2.n, 0, none⟩) 1 1) = some (1, [.int .i64 at_, slo b]) := asrc_one (new_at _) rfl
      have e1 := abuildSlice_one (st := s2) (v := .agg #[.int .i64 at_, slo b]) Try.underlying62 asz76 azc76 rfl rfl rfl (by decide)
      have hlt := hs2.tail.lt (List.mem_cons_self ..)
      have hn3 : ¬ p = s2.n := by omega
      have hn4 : ¬ p = s2.n + 1 := by omega
      rcases hW with ⟨rfl, rfl, rfl⟩ | ⟨wb, pre, rfl, rfl⟩
      · simp (config := { implicitDefEqProofs := false }) only [↓GP, GQ, ↓awp_seq, ↓awp_block, C_ex, Nat.reduceBEq, acap, afieldAddr, aload, astore, abin, anum, astr, aun, isAggD, cond_true, cond_false, ↓reduceIte, C_P, C_G, isTuple, Value.cells, setL, ares, aresL, ares1, reduceCtorEq, Nat.reduceEqDiff, eq_self, Nat.reduceAdd, if_true, if_false, one, Nat.reduceLeDiff, undef, gsl, aextract, aindexAddr, amake, implies_true, forall_const, alen, abuiltin, anil, isC, Int.reduceEq, Int.reduceLT, Int.reduceLE, Int.reduceAdd, Int.reduceToNat, Int.reduceNeg, Nat.reduceMul, Nat.reduceSub, abuild, afill, Int.reduceBNe, Int.reduceBEq, hlen, hp2, asz62, afo64_1, Try.underlying62, Try.underlying76, azc76, apl76, e1,
          aappend_nil (t' := 62) (st := s2.new (.cells [.int .i64 at_, slo b] 76 true)) Try.underlying62 (by rw [Try.underlying62]; rfl) asz76 azc76 aby76 hsrc rfl (by decide) (by decide), hn3, hn4]
        refine hok b _ [(s2.n + 1, .cells [.int .i64 at_, slo b] 76 true)] _ h.1 h.2 hlen hz (.inr ⟨s2.n + 1, [], rfl, ?_⟩) ?_
        · simp [wc, Int.toNat_of_nonneg h.1]
        · exact (((hs2.new (.cells [.int .i64 at_, slo b] 76 true)).tail.new (.cells [.int .i64 at_, slo b] 76 true)).perm (perm_front [_, _] _ _)).set rfl _ rfl
      · have hwl := hs2.tail.tail.lt (List.mem_cons_self ..)
        have hw0 := hs2.tail.tail.head
        have hwn : ¬ wb = s2.n := by omega
        have hpw : ¬ p = wb := fun e => hs2.tail.ne rfl (List.mem_cons_self ..) e.symm
        simp (config := { implicitDefEqProofs := false }) only [↓GP, GQ, ↓awp_seq, ↓awp_block, C_ex, Nat.reduceBEq, acap, afieldAddr, aload, astore, abin, anum, astr, aun, isAggD, cond_true, cond_false, ↓reduceIte, C_P, C_G, isTuple, Value.cells, setL, ares, aresL, ares1, reduceCtorEq, Nat.reduceEqDiff, eq_self, Nat.reduceAdd, if_true, if_false, one, Nat.reduceLeDiff, undef, gsl, aextract, aindexAddr, amake, implies_true, forall_const, alen, abuiltin, anil, isC, Int.reduceEq, Int.reduceLT, Int.reduceLE, Int.reduceAdd, Int.reduceToNat, Int.reduceNeg, Nat.reduceMul, Nat.reduceSub, abuild, afill, Int.reduceBNe, Int.reduceBEq, hlen, hp2, asz62, afo64_1, Try.underlying62, Try.underlying76, azc76, apl76, e1,
          aappend_open (t' := 62) (st := s2.new (.cells [.int .i64 at_, slo b] 76 true)) (cap := W.length) Try.underlying62 (by rw [Try.underlying62]; rfl) asz76 azc76 aby76 hsrc rfl ((new_old _ hwl).trans hw0) wc_cut (by omega), hn3, hn4, hwn, hpw]
        refine hok b (.slice (some ⟨s2.n + 1, 0, some 0⟩) (W.length + 1) (W.length + 1)) [(s2.n + 1, .cells (wc W ++ [.int .i64 at_, slo b]) 76 true)] _ h.1 h.2 hlen hz (.inr ⟨s2.n + 1, [], ?_, ?_⟩) ?_
        · simp
        · simp [wc, Int.toNat_of_nonneg h.1]
        · exact (((((hs2.new (.cells [.int .i64 at_, slo b] 76 true)).tail.perm (perm_front [_, _] _ _)).kill rfl).new (.cells (wc W ++ [.int .i64 at_, slo b]) 76 true)).perm (perm_front [_, _] _ _)).set rfl _ rfl
  · simp (config := { implicitDefEqProofs := false }) only [↓GP, GQ, ↓awp_seq, ↓awp_block, C_ex, Nat.reduceBEq, acap, afieldAddr, aload, astore, abin, anum, astr, aun, isAggD, cond_true, cond_false, ↓reduceIte, C_P, C_G, isTuple, Value.cells, setL, ares, aresL, ares1, reduceCtorEq, Nat.reduceEqDiff, eq_self, Nat.reduceAdd, if_true, if_false, one, Nat.reduceLeDiff, undef, gsl, aextract, aindexAddr, amake, implies_true, forall_const, alen, abuiltin, anil, isC, Int.reduceEq, Int.reduceLT, Int.reduceLE, Int.reduceAdd, Int.reduceToNat, Int.reduceNeg, Nat.reduceMul, Nat.reduceSub, abuild, afill, Int.reduceBNe, Int.reduceBEq, h, decide_false, Bool.not_false]
    exact hbad fun hh => h ⟨hh.1, hh.2.1⟩
end Go.Proofs.Ytiooigkcliomlaa
/- Contracts of the program's functions over the abstract heap, and what follows from them (a part of the proof of this seat's laws). No conditions. -/
set_option linter.unusedVariables false
set_option linter.unusedSimpArgs false
namespace Go.Proofs.Ytiooigkcliomlaa
open Go Go.Abs
variable {base : Nat} {w0 : World} {G : Nat}

def secs : List Nat → List (List Int) → Hp := List.zipWith fun a s => (a, Ob.cells (bl s) 5 true)
/-- What is where, once writes have been done. -/
def app (S : List (List Int)) (W : List Wt) : List (List Int) := W.foldl (fun S w => S.set w.1 w.2.1) S
def fitW (S : List (List Int)) (W : List Wt) : Prop := (∀ s ∈ S, s.length = 64) ∧ ∀ w ∈ W, w.1 < S.length ∧ w.2.1.length = 64

theorem app_length (S : List (List Int)) (W : List Wt) : (app S W).length = S.length := by
  unfold app
  induction W generalizing S with
  | nil => rfl
  | cons w r ih => rw [List.foldl_cons, ih]; simp
theorem app_snoc (S : List (List Int)) (W : List Wt) (w : Wt) : app S (W ++ [w]) = (app S W).set w.1 w.2.1 := by simp [app]
theorem app_64 {S : List (List Int)} {W : List Wt} (h : fitW S W) : ∀ s ∈ app S W, s.length = 64 := by
  obtain ⟨h1, h2⟩ := h
  unfold app
  induction W generalizing S with
  | nil => exact h1
  | cons w r ih =>
    rw [List.foldl_cons]
    refine ih (fun s hs => ?_) fun w' hw' => by simpa using h2 w' (by simp [hw'])
    rcases List.mem_or_eq_of_mem_set hs with h | h
    · exact h1 s h
    · exact h ▸ (h2 w (by simp)).2
theorem wc_append (a b : List Wt) : wc (a ++ b) = wc a ++ wc b := by simp [wc]
theorem wc_at {pre : List Value} {W : List Wt} {i : Nat} {w : Wt} (h : W[i]? = some w) : cut (pre ++ wc W) (pre.length + i * 2) 2 = some [.int .i64 (w.1 : Nat), slo w.2.2] := by
  obtain ⟨hlt, he⟩ := List.getElem?_eq_some_iff.1 h
  have hl := wc_length W
  unfold cut
  rw [if_pos (by simp; omega), ← List.drop_drop, List.drop_left]
  congr 1
  clear hl h
  induction W generalizing i with
  | nil => simp at hlt
  | cons a r ih =>
    cases i with
    | zero => simp at he; subst he; simp [wc]
    | succ i =>
      have : wc (a :: r) = .int .i64 (a.1 : Nat) :: slo a.2.2 :: wc r := by simp [wc]
      rw [this, Nat.succ_mul, List.drop_succ_cons, List.drop_succ_cons]
      exact ih (by simpa using hlt) (by simpa using he)
theorem wbs_at {W : List Wt} {i : Nat} {w : Wt} (h : W[i]? = some w) : (w.2.2, Ob.cells (bl w.2.1) 5 true) ∈ wbs W := List.mem_map.2 ⟨w, List.mem_of_getElem? h, rfl⟩
theorem secs_at {xs : List Nat} {S : List (List Int)} {i a : Nat} {s : List Int} (ha : xs[i]? = some a) (hs : S[i]? = some s) : (secs xs S)[i]? = some (a, .cells (bl s) 5 true) := by
  simp [secs, List.getElem?_zipWith, ha, hs]
theorem secs_set {xs : List Nat} {S : List (List Int)} {i a : Nat} {s : List Int} (ha : xs[i]? = some a) : (secs xs S).set i (a, .cells (bl s) 5 true) = secs xs (S.set i s) := by
  unfold secs
  induction xs generalizing S i with
  | nil => simp at ha
  | cons x r ih =>
    cases S with
    | nil => simp
    | cons t u =>
      cases i with
      | zero => simp at ha; subst ha; rfl
      | succ i => simp only [List.zipWith_cons_cons, List.set_cons_succ]; rw [ih (by simpa using ha)]

set_option maxRecDepth 10000 in
theorem done_spec (st : St) (r : Hp) (p sb : Nat) (xs : List Nat) (S : List (List Int)) (wv : Value) (fz : Int) (W : List Wt) (hw : Hp) (m : Nat)
    (hO : Own st ((p, pc sb xs.length wv fz) :: (sb, .cells (xs.map sl) 23 true) :: (secs xs S ++ (hw ++ (wbs W ++ r)))))
    (hW : WV wv W hw) (ha : xs.length = S.length) (hS : fitW S W) (hm : m ≤ W.length) (hWl : W.length ≤ 1000000) (k q : Value → St → Prop)
    (hk : ∀ wv' hw' st', WV wv' (W.drop m) hw' → Own st' ((p, pc sb xs.length wv' fz) :: (sb, .cells (xs.map sl) 23 true) :: (secs xs (app S (W.take m)) ++ (hw' ++ (wbs W ++ r)))) → k (.tuple #[]) st') :
    ACall (C base w0 G) 39 [.pointer (some ⟨p, 0, none⟩), .int .i64 m] st k q := by
  refine ACall.of (cx := C base w0 G) mixed Try.func39 rfl (by kernel_rfl) (by simp [Try.ntmps39]) ?_
  simp only [Try.results39]
  have hp := hO.head
  rcases hW with ⟨rfl, rfl, rfl⟩ | ⟨wb, pre, rfl, rfl⟩
  · obtain rfl : m = 0 := by simpa using hm
    simp (config := { implicitDefEqProofs := false }) only [↓GP, GQ, ↓awp_seq, ↓awp_block, C_ex, Nat.reduceBEq, acap, afieldAddr, aload, astore, abin, anum, astr, aun, isAggD, cond_true, cond_false, ↓reduceIte, C_P, C_G, isTuple, Value.cells, setL, ares, aresL, ares1, reduceCtorEq, Nat.reduceEqDiff, eq_self, Nat.reduceAdd, if_true, if_false, one, Nat.reduceLeDiff, undef, gsl, aextract, aindexAddr, amake, implies_true, forall_const, alen, abuiltin, anil, isC, Int.reduceEq, Int.reduceLT, Int.reduceLE, Int.reduceAdd, Int.reduceToNat, Int.reduceNeg, Nat.reduceMul, Nat.reduceSub, abuild, afill, Int.reduceBNe, Int.reduceBEq, hp, asz62, afo64_1, Try.underlying62, pc, aslice, asz76, abounds, bnd, Int.natCast_zero, Int.toNat_zero, Option.isSome_none, Bool.false_eq_true]
    refine ⟨fun n ρ s => ρ 0 = .pointer (some ⟨p, 0, none⟩) ∧ ρ 1 = .int .i64 0 ∧ ρ 12 = .int .i64 0 ∧ ρ 13 = .int .i64 0 ∧ s = st, ⟨0, rfl, rfl, rfl, rfl, rfl⟩, ?_⟩
    rintro n ρ s ⟨h0, h1, h12, h13, rfl⟩
    simp (config := { implicitDefEqProofs := false }) only [↓GP, GQ, ↓awp_seq, ↓awp_block, C_ex, Nat.reduceBEq, acap, afieldAddr, aload, astore, abin, anum, astr, aun, isAggD, cond_true, cond_false, ↓reduceIte, C_P, C_G, isTuple, Value.cells, setL, ares, aresL, ares1, reduceCtorEq, Nat.reduceEqDiff, eq_self, Nat.reduceAdd, if_true, if_false, one, Nat.reduceLeDiff, undef, gsl, aextract, aindexAddr, amake, implies_true, forall_const, alen, abuiltin, anil, isC, Int.reduceEq, Int.reduceLT, Int.reduceLE, Int.reduceAdd, Int.reduceToNat, Int.reduceNeg, Nat.reduceMul, Nat.reduceSub, abuild, afill, Int.reduceBNe, Int.reduceBEq, h0, h1, h12, h13, hp, asz62, afo64_1, Try.underlying62, pc, aslice, asz76, abounds, bnd, Int.natCast_zero, Int.toNat_zero, Option.isSome_none, Bool.false_eq_true]
    exact hk _ [] _ (.inl ⟨rfl, rfl, rfl⟩) (hO.set rfl _ rfl)
  · have hwm : (wb, Ob.cells (pre ++ wc W) 76 true) ∈ ((p, pc sb xs.length (.slice (some ⟨wb, pre.length, some 0⟩) W.length W.length) fz) :: (sb, .cells (xs.map sl) 23 true) :: (secs xs S ++ ([(wb, Ob.cells (pre ++ wc W) 76 true)] ++ (wbs W ++ r)))) := by simp
    simp (config := { implicitDefEqProofs := false }) only [↓GP, GQ, ↓awp_seq, ↓awp_block, C_ex, Nat.reduceBEq, acap, afieldAddr, aload, astore, abin, anum, astr, aun, isAggD, cond_true, cond_false, ↓reduceIte, C_P, C_G, isTuple, Value.cells, setL, ares, aresL, ares1, reduceCtorEq, Nat.reduceEqDiff, eq_self, Nat.reduceAdd, if_true, if_false, one, Nat.reduceLeDiff, undef, gsl, aextract, aindexAddr, amake, implies_true, forall_const, alen, abuiltin, anil, isC, Int.reduceEq, Int.reduceLT, Int.reduceLE, Int.reduceAdd, Int.reduceToNat, Int.reduceNeg, Nat.reduceMul, Nat.reduceSub, abuild, afill, Int.reduceBNe, Int.reduceBEq, hp, asz62, afo64_1, Try.underlying62, pc, aslice_of (st := st) (sp := 0) Try.underlying62 asz76 (openOK_open (hO.get hwm) asz76) (abounds_hi hm)]
    refine ⟨fun n ρ s => ∃ i : Nat, n = m - i ∧ i ≤ m ∧ ρ 0 = .pointer (some ⟨p, 0, none⟩) ∧ ρ 1 = .int .i64 m ∧ ρ 11 = .slice (some ⟨wb, pre.length, some 0⟩) m W.length ∧ ρ 12 = .int .i64 m ∧ ρ 13 = .int .i64 i ∧
      Own s ((p, pc sb xs.length (.slice (some ⟨wb, pre.length, some 0⟩) W.length W.length) fz) :: (sb, .cells (xs.map sl) 23 true) :: (secs xs (app S (W.take i)) ++ ([(wb, Ob.cells (pre ++ wc W) 76 true)] ++ (wbs W ++ r)))),
      ⟨m, 0, rfl, Nat.zero_le _, rfl, rfl, rfl, rfl, rfl, by simpa [app] using hO⟩, ?_⟩
    rintro n ρ s ⟨i, rfl, hi, h0, h1, h11, h12, h13, hs⟩
    have hp := hs.head
    have hwm : (wb, Ob.cells (pre ++ wc W) 76 true) ∈ ((p, pc sb xs.length (.slice (some ⟨wb, pre.length, some 0⟩) W.length W.length) fz) :: (sb, .cells (xs.map sl) 23 true) :: (secs xs (app S (W.take i)) ++ ([(wb, Ob.cells (pre ++ wc W) 76 true)] ++ (wbs W ++ r)))) := by simp
    have hwb := hs.get hwm
    have hwf := hs.fresh hwm
    by_cases him : i < m
    · obtain ⟨w, hw⟩ : ∃ w, W[i]? = some w := ⟨W[i]'(by omega), by simp⟩
      have hcut := wc_at (pre := pre) hw
      simp (config := { implicitDefEqProofs := false }) only [↓GP, GQ, ↓awp_seq, ↓awp_block, C_ex, Nat.reduceBEq, acap, afieldAddr, aload, astore, abin, anum, astr, aun, isAggD, cond_true, cond_false, ↓reduceIte, C_P, C_G, isTuple, Value.cells, setL, ares, aresL, ares1, reduceCtorEq, Nat.reduceEqDiff, eq_self, Nat.reduceAdd, if_true, if_false, one, Nat.reduceLeDiff, undef, gsl, aextract, aindexAddr, amake, implies_true, forall_const, alen, abuiltin, anil, isC, Int.reduceEq, Int.reduceLT, Int.reduceLE, Int.reduceAdd, Int.reduceToNat, Int.reduceNeg, Nat.reduceMul, Nat.reduceSub, abuild, afill, Int.reduceBNe, Int.reduceBEq, h0, h1, h11, h12, h13, him, decide_true, hwb, asz76, azc76, Try.underlying62, Try.underlying76, hcut, aalloc, Int.ofNat_lt, hwf, Value.cells]
      refine ⟨by omega, ?_⟩
      have hs3 := (hs.new (.cells [.int .i64 0, .slice none 0 0] 76 true)).set rfl (.cells [.int .i64 w.1, slo w.2.2] 76 true) rfl
      have hwS := hS.2 w (List.mem_of_getElem? hw)
      obtain ⟨a, hxa⟩ : ∃ a, xs[w.1]? = some a := ⟨xs[w.1]'(by omega), by simp⟩
      obtain ⟨sv, hsv⟩ : ∃ sv, (app S (W.take i))[w.1]? = some sv := ⟨(app S (W.take i))[w.1]'(by rw [app_length]; omega), by simp⟩
      have hsl : sv.length = 64 := app_64 ⟨hS.1, fun w hw => hS.2 w (List.mem_of_mem_take hw)⟩ sv (List.mem_of_getElem? hsv)
      generalize hn3 : s.n = n3 at hs3 ⊢
      generalize (St.set (St.new s _) _ _) = s3 at hs3 ⊢
      have hs4 := hs3.perm (perm_swap [_, _, _] _ _)
      have hap := fun j o => Own.apart (a := [_, _, _]) (b := _ ++ _) hs3 (i := j) (o := o) (j := a) (o' := .cells (bl sv) 5 true)
      have e3 := hs3.head
      have e3p := hs3.tail.head
      have e3s := hs3.tail.tail.head
      have hat := secs_at hxa hsv
      have e3a := hs3.get (b := a) (o := .cells (bl sv) 5 true) (by have := List.mem_of_getElem? hat; simp [this])
      have e3b := hs3.get (b := w.2.2) (o := .cells (bl w.2.1) 5 true) (by have := wbs_at hw; simp [this])
      have ham := List.mem_append_left ([(wb, Ob.cells (pre ++ wc W) 76 true)] ++ (wbs W ++ r)) (List.mem_of_getElem? hat)
      have hpa : ¬ p = a := hap p _ (.tail _ (.head _)) ham rfl rfl
      have hna : ¬ n3 = a := hap n3 _ (.head _) ham rfl rfl
      have hsrc : asrc s3 1 (slo w.2.2) = some (64, bl w.2.1) := by
        have := cut_all (bl w.2.1)
        rw [bl_length, hwS.2] at this
        simp only [asrc, acut, e3b, Nat.mul_one, this]
      refine ADraw.of [(0, false, []), (1, false, []), (2, false, []), (3, true, []), (4, false, []), (5, true, []), (6, false, []), (7, false, []), (8, false, []), (9, false, []), (10, false, [3, 5])] [3, 5] [(3, 10), (5, 10)] (by kernel_rfl) ?_
      simp (config := { implicitDefEqProofs := false }) only [↓GP, GQ, ↓awp_seq, ↓awp_block, C_ex, Nat.reduceBEq, acap, afieldAddr, aload, astore, abin, anum, astr, aun, isAggD, cond_true, cond_false, ↓reduceIte, C_P, C_G, isTuple, Value.cells, setL, ares, aresL, ares1, reduceCtorEq, Nat.reduceEqDiff, eq_self, Nat.reduceAdd, if_true, if_false, one, Nat.reduceLeDiff, undef, gsl, aextract, aindexAddr, amake, implies_true, forall_const, alen, abuiltin, anil, isC, Int.reduceEq, Int.reduceLT, Int.reduceLE, Int.reduceAdd, Int.reduceToNat, Int.reduceNeg, Nat.reduceMul, Nat.reduceSub, abuild, afill, Int.reduceBNe, Int.reduceBEq, h0, h1, h11, h12, h13, e3, e3p, e3s, pc, asz22, afo64_0, asz23, asz3, afo76_0, afo76_1, Try.underlying22, Try.underlying3, Try.underlying23, hxa,
        acopy_of (st := s3) (t' := 23) (sp := none) (off := 0) (L := 64) (c := 64) (x := slo w.2.2) Try.underlying23 asz5 hsrc (bl_one _) e3a (by rw [bl_length]; omega), hpa, hna]
      have hfull : setL (bl sv) 0 (List.take (Nat.min 64 64) (bl w.2.1)) = bl w.2.1 := by
        rw [show Nat.min 64 64 = 64 from rfl, show (64 : Nat) = (bl w.2.1).length by rw [bl_length]; exact hwS.2.symm, List.take_length]
        exact setL_all _ _ (by rw [bl_length, bl_length, hsl, hwS.2])
      refine ⟨by omega, m - (i + 1), by omega, i + 1, rfl, by omega, by rw [w_i64 (by omega)]; rfl, ?_⟩
      have htk : W.take (i + 1) = W.take i ++ [w] := by rw [List.take_add_one, hw]; rfl
      rw [hfull, htk, app_snoc, ← secs_set hxa]
      exact ((hs4.setAt hat rfl (.cells (bl w.2.1) 5 true) rfl).perm (perm_swap _ [_, _, _] _)).tail
    · obtain rfl : i = m := by omega
      simp (config := { implicitDefEqProofs := false }) only [↓GP, GQ, ↓awp_seq, ↓awp_block, C_ex, Nat.reduceBEq, acap, afieldAddr, aload, astore, abin, anum, astr, aun, isAggD, cond_true, cond_false, ↓reduceIte, C_P, C_G, isTuple, Value.cells, setL, ares, aresL, ares1, reduceCtorEq, Nat.reduceEqDiff, eq_self, Nat.reduceAdd, if_true, if_false, one, Nat.reduceLeDiff, undef, gsl, aextract, aindexAddr, amake, implies_true, forall_const, alen, abuiltin, anil, isC, Int.reduceEq, Int.reduceLT, Int.reduceLE, Int.reduceAdd, Int.reduceToNat, Int.reduceNeg, Nat.reduceMul, Nat.reduceSub, abuild, afill, Int.reduceBNe, Int.reduceBEq, h0, h1, h11, h12, h13, him, decide_false, Int.ofNat_lt, hp, pc, asz62, afo64_1, Try.underlying62, aslice_of (st := s) (sp := 0) Try.underlying62 asz76 (openOK_open hwb asz76) (abounds_lo hm (Nat.le_refl _))]
      refine hk _ [(wb, .cells (pre ++ wc W) 76 true)] _ (.inr ⟨wb, pre ++ wc (W.take i), ?_, ?_⟩) (hs.set rfl _ rfl)
      · simp [wc_length, Nat.min_eq_left hm]
      · rw [List.append_assoc, ← wc_append, List.take_append_drop]
end Go.Proofs.Ytiooigkcliomlaa
/- Contracts of the program's functions over the abstract heap, and what follows from them (a part of the proof of this seat's laws). No conditions. -/
set_option linter.unusedVariables false
set_option linter.unusedSimpArgs false
namespace Go.Proofs.Ytiooigkcliomlaa
open Go Go.Abs
variable {base : Nat} {w0 : World} {G : Nat}

def dW (sb : Nat) (xs : List Nat) (S : List (List Int)) (wv : Value) (fz : Int) (W : List Wt) (hw : Hp) (p : Nat) : Hp :=
  (p, pc sb xs.length wv fz) :: (sb, .cells (xs.map sl) 23 true) :: (secs xs S ++ (hw ++ wbs W))
abbrev Lt := Nat × List Int
def forget (W : List Wt) : List Lt := W.map fun w => (w.1, w.2.1)
def appL (S : List (List Int)) (L : List Lt) : List (List Int) := L.foldl (fun S w => S.set w.1 w.2) S
theorem app_forget (S : List (List Int)) (W : List Wt) : app S W = appL S (forget W) := by simp [app, appL, forget, List.foldl_map]
/-- A disk. -/
def DK (p : Nat) (S : List (List Int)) (L : List Lt) (fz : Int) (h : Hp) : Prop :=
  ∃ sb xs wv hw W, h = dW sb xs S wv fz W hw p ∧ WV wv W hw ∧ xs.length = S.length ∧ fitW S W ∧ L = forget W

theorem dW_app (sb : Nat) (xs : List Nat) (S : List (List Int)) (wv : Value) (fz : Int) (W : List Wt) (hw : Hp) (p : Nat) (r : Hp) :
    dW sb xs S wv fz W hw p ++ r = (p, pc sb xs.length wv fz) :: (sb, .cells (xs.map sl) 23 true) :: (secs xs S ++ (hw ++ (wbs W ++ r))) := by
  simp [dW, List.append_assoc]
theorem WV.len {wv : Value} {W : List Wt} {hw : Hp} (h : WV wv W hw) : ∃ a, wv = .slice a W.length W.length := by
  rcases h with ⟨rfl, rfl, rfl⟩ | ⟨wb, pre, rfl, rfl⟩
  · exact ⟨none, rfl⟩
  · exact ⟨_, rfl⟩
theorem drop_own {st : St} {sb : Nat} {xs : List Nat} {S : List (List Int)} {wv : Value} {fz : Int} {W : List Wt} {hw : Hp} {p m : Nat} {r : Hp}
    (h : Own st ((p, pc sb xs.length wv fz) :: (sb, .cells (xs.map sl) 23 true) :: (secs xs S ++ (hw ++ (wbs W ++ r))))) : Own st (dW sb xs S wv fz (W.drop m) hw p ++ r) := by
  rw [dW_app]
  refine h.sub (((List.Sublist.append_left (List.Sublist.append_left (List.Sublist.append_right ?_ _) _) _).cons_cons _).cons_cons _)
  exact (List.drop_sublist m W).map _
theorem fitW.app {S : List (List Int)} {W : List Wt} (h : fitW S W) (m : Nat) : fitW (app S (W.take m)) (W.drop m) :=
  ⟨app_64 ⟨h.1, fun w hw => h.2 w (List.mem_of_mem_take hw)⟩, fun w hw => by rw [app_length]; exact h.2 w (List.mem_of_mem_drop hw)⟩

set_option maxRecDepth 10000 in
theorem Waiting_spec (st : St) (r h : Hp) (p : Nat) (S : List (List Int)) (L : List Lt) (fz : Int) (hD : DK p S L fz h) (hO : Own st (h ++ r)) (k q : Value → St → Prop)
    (hk : k (.int .i64 L.length) st) : ACall (C base w0 G) 23 [.pointer (some ⟨p, 0, none⟩)] st k q := by
  obtain ⟨sb, xs, wv, hw, W, rfl, hW, hx, hf, rfl⟩ := hD
  rw [dW_app] at hO
  have hp := hO.head
  obtain ⟨a, rfl⟩ := hW.len
  refine ACall.of (cx := C base w0 G) mixed Try.func23 rfl (by kernel_rfl) (by simp [Try.ntmps23]) ?_
  simp only [Try.results23]
  simp (config := { implicitDefEqProofs := false }) only [↓GP, GQ, ↓awp_seq, ↓awp_block, C_ex, Nat.reduceBEq, acap, afieldAddr, aload, astore, abin, anum, astr, aun, isAggD, cond_true, cond_false, ↓reduceIte, C_P, C_G, isTuple, Value.cells, setL, ares, aresL, ares1, reduceCtorEq, Nat.reduceEqDiff, eq_self, Nat.reduceAdd, if_true, if_false, one, Nat.reduceLeDiff, undef, gsl, aextract, aindexAddr, amake, implies_true, forall_const, alen, abuiltin, anil, isC, Int.reduceEq, Int.reduceLT, Int.reduceLE, Int.reduceAdd, Int.reduceToNat, Int.reduceNeg, Nat.reduceMul, Nat.reduceSub, abuild, afill, Int.reduceBNe, Int.reduceBEq, hp, pc, afo64_1, asz62, Try.underlying62]
  simpa [forget] using hk

set_option maxRecDepth 10000 in
theorem Size_spec (st : St) (r h : Hp) (p : Nat) (S : List (List Int)) (L : List Lt) (fz : Int) (hD : DK p S L fz h) (hO : Own st (h ++ r)) (k q : Value → St → Prop)
    (hk : k (.int .i64 S.length) st) : ACall (C base w0 G) 31 [.pointer (some ⟨p, 0, none⟩)] st k q := by
  obtain ⟨sb, xs, wv, hw, W, rfl, hW, hx, hf, rfl⟩ := hD
  rw [dW_app] at hO
  have hp := hO.head
  refine ACall.of (cx := C base w0 G) mixed Try.func31 rfl (by kernel_rfl) (by simp [Try.ntmps31]) ?_
  simp only [Try.results31]
  simp (config := { implicitDefEqProofs := false }) only [↓GP, GQ, ↓awp_seq, ↓awp_block, C_ex, Nat.reduceBEq, acap, afieldAddr, aload, astore, abin, anum, astr, aun, isAggD, cond_true, cond_false, ↓reduceIte, C_P, C_G, isTuple, Value.cells, setL, ares, aresL, ares1, reduceCtorEq, Nat.reduceEqDiff, eq_self, Nat.reduceAdd, if_true, if_false, one, Nat.reduceLeDiff, undef, gsl, aextract, aindexAddr, amake, implies_true, forall_const, alen, abuiltin, anil, isC, Int.reduceEq, Int.reduceLT, Int.reduceLE, Int.reduceAdd, Int.reduceToNat, Int.reduceNeg, Nat.reduceMul, Nat.reduceSub, abuild, afill, Int.reduceBNe, Int.reduceBEq, hp, pc, afo64_0, asz22, Try.underlying22]
  rw [hx]; exact hk

set_option maxRecDepth 10000 in
theorem Fuse_spec (st : St) (r h : Hp) (p : Nat) (S : List (List Int)) (L : List Lt) (fz c : Int) (hD : DK p S L fz h) (hO : Own st (h ++ r)) (k q : Value → St → Prop)
    (hk : ∀ h' st', DK p S L (if c < -1 then -1 else c) h' → Own st' (h' ++ r) → k (.tuple #[]) st') : ACall (C base w0 G) 12 [.pointer (some ⟨p, 0, none⟩), .int .i64 c] st k q := by
  obtain ⟨sb, xs, wv, hw, W, rfl, hW, hx, hf, rfl⟩ := hD
  rw [dW_app] at hO
  have hp := hO.head
  refine ACall.of (cx := C base w0 G) mixed Try.func12 rfl (by kernel_rfl) (by simp [Try.ntmps12]) ?_
  simp only [Try.results12]
  simp (config := { implicitDefEqProofs := false }) only [↓GP, GQ, ↓awp_seq, ↓awp_block, C_ex, Nat.reduceBEq, acap, afieldAddr, aload, astore, abin, anum, astr, aun, isAggD, cond_true, cond_false, ↓reduceIte, C_P, C_G, isTuple, Value.cells, setL, ares, aresL, ares1, reduceCtorEq, Nat.reduceEqDiff, eq_self, Nat.reduceAdd, if_true, if_false, one, Nat.reduceLeDiff, undef, gsl, aextract, aindexAddr, amake, implies_true, forall_const, alen, abuiltin, anil, isC, Int.reduceEq, Int.reduceLT, Int.reduceLE, Int.reduceAdd, Int.reduceToNat, Int.reduceNeg, Nat.reduceMul, Nat.reduceSub, abuild, afill, Int.reduceBNe, Int.reduceBEq, hp, pc, afo64_2, asz3, Try.underlying3, amm]
  refine hk _ _ ⟨sb, xs, wv, hw, W, rfl, hW, hx, hf, rfl⟩ ?_
  rw [dW_app]
  exact hO.set rfl (pc sb xs.length wv (if c < -1 then -1 else c)) rfl

set_option maxRecDepth 10000 in
theorem Sync_spec (st : St) (r h : Hp) (p : Nat) (S : List (List Int)) (L : List Lt) (fz : Int) (hD : DK p S L fz h) (hO : Own st (h ++ r)) (hfz : fz ≤ 9223372036854775807) (hl : L.length ≤ 1000000) (k q : Value → St → Prop)
    (h0 : fz = 0 → k (.int .i64 50) st)
    (hk : ∀ h' st', fz ≠ 0 → DK p (appL S L) [] (dec1 fz) h' → Own st' (h' ++ r) → k (.int .i64 0) st') : ACall (C base w0 G) 32 [.pointer (some ⟨p, 0, none⟩)] st k q := by
  obtain ⟨sb, xs, wv, hw, W, rfl, hW, hx, hf, rfl⟩ := hD
  rw [dW_app] at hO
  have hp := hO.head
  refine ACall.of (cx := C base w0 G) mixed Try.func32 rfl (by kernel_rfl) (by simp [Try.ntmps32]) ?_
  simp only [Try.results32]
  simp (config := { implicitDefEqProofs := false }) only [↓GP, GQ, ↓awp_seq, ↓awp_block, C_ex, Nat.reduceBEq, acap, afieldAddr, aload, astore, abin, anum, astr, aun, isAggD, cond_true, cond_false, ↓reduceIte, C_P, C_G, isTuple, Value.cells, setL, ares, aresL, ares1, reduceCtorEq, Nat.reduceEqDiff, eq_self, Nat.reduceAdd, if_true, if_false, one, Nat.reduceLeDiff, undef, gsl, aextract, aindexAddr, amake, implies_true, forall_const, alen, abuiltin, anil, isC, Int.reduceEq, Int.reduceLT, Int.reduceLE, Int.reduceAdd, Int.reduceToNat, Int.reduceNeg, Nat.reduceMul, Nat.reduceSub, abuild, afill, Int.reduceBNe, Int.reduceBEq]
  refine ACallF.enter Try.func43 rfl (by kernel_rfl) (burn_own st _ p _ wv fz hO hfz _ _ (fun hz => ?_) (fun s hz hs => ?_))
  · simp (config := { implicitDefEqProofs := false }) only [↓GP, GQ, ↓awp_seq, ↓awp_block, C_ex, Nat.reduceBEq, acap, afieldAddr, aload, astore, abin, anum, astr, aun, isAggD, cond_true, cond_false, ↓reduceIte, C_P, C_G, isTuple, Value.cells, setL, ares, aresL, ares1, reduceCtorEq, Nat.reduceEqDiff, eq_self, Nat.reduceAdd, if_true, if_false, one, Nat.reduceLeDiff, undef, gsl, aextract, aindexAddr, amake, implies_true, forall_const, alen, abuiltin, anil, isC, Int.reduceEq, Int.reduceLT, Int.reduceLE, Int.reduceAdd, Int.reduceToNat, Int.reduceNeg, Nat.reduceMul, Nat.reduceSub, abuild, afill, Int.reduceBNe, Int.reduceBEq]
    exact h0 hz
  · have hp := hs.head
    obtain ⟨a, rfl⟩ := hW.len
    simp (config := { implicitDefEqProofs := false }) only [↓GP, GQ, ↓awp_seq, ↓awp_block, C_ex, Nat.reduceBEq, acap, afieldAddr, aload, astore, abin, anum, astr, aun, isAggD, cond_true, cond_false, ↓reduceIte, C_P, C_G, isTuple, Value.cells, setL, ares, aresL, ares1, reduceCtorEq, Nat.reduceEqDiff, eq_self, Nat.reduceAdd, if_true, if_false, one, Nat.reduceLeDiff, undef, gsl, aextract, aindexAddr, amake, implies_true, forall_const, alen, abuiltin, anil, isC, Int.reduceEq, Int.reduceLT, Int.reduceLE, Int.reduceAdd, Int.reduceToNat, Int.reduceNeg, Nat.reduceMul, Nat.reduceSub, abuild, afill, Int.reduceBNe, Int.reduceBEq, hp, pc, afo64_1, asz62, Try.underlying62]
    refine ACallF.enter Try.func39 rfl (by kernel_rfl) (done_spec s r p sb xs S _ (dec1 fz) W hw W.length hs hW hx hf (Nat.le_refl _) (by simpa [forget] using hl) _ _ (fun wv' hw' st' hW' hO' => ?_))
    simp (config := { implicitDefEqProofs := false }) only [↓GP, GQ, ↓awp_seq, ↓awp_block, C_ex, Nat.reduceBEq, acap, afieldAddr, aload, astore, abin, anum, astr, aun, isAggD, cond_true, cond_false, ↓reduceIte, C_P, C_G, isTuple, Value.cells, setL, ares, aresL, ares1, reduceCtorEq, Nat.reduceEqDiff, eq_self, Nat.reduceAdd, if_true, if_false, one, Nat.reduceLeDiff, undef, gsl, aextract, aindexAddr, amake, implies_true, forall_const, alen, abuiltin, anil, isC, Int.reduceEq, Int.reduceLT, Int.reduceLE, Int.reduceAdd, Int.reduceToNat, Int.reduceNeg, Nat.reduceMul, Nat.reduceSub, abuild, afill, Int.reduceBNe, Int.reduceBEq]
    have h1 := drop_own (m := W.length) hO'
    have h2 := hf.app W.length
    rw [List.drop_length] at h1 hW' h2
    rw [List.take_length, app_forget] at h1 h2
    exact hk _ _ hz ⟨sb, xs, wv', hw', [], rfl, hW', by rw [hx, ← app_forget, app_length], h2, rfl⟩ h1
end Go.Proofs.Ytiooigkcliomlaa
/- Contracts of the program's functions over the abstract heap, and what follows from them (a part of the proof of this seat's laws). No conditions. -/
set_option linter.unusedVariables false
set_option linter.unusedSimpArgs false
namespace Go.Proofs.Ytiooigkcliomlaa
open Go Go.Abs
variable {base : Nat} {w0 : World} {G : Nat}

def kp (keep : Int) (n : Nat) : Nat := (max 0 (min keep n)).toNat
/-- What a crash leaves. -/
def crashS (S : List (List Int)) (L : List Lt) (keep part : Int) : List (List Int) :=
  match L.drop (kp keep L.length) with
  | [] => appL S (L.take (kp keep L.length))
  | w :: _ => (appL S (L.take (kp keep L.length))).set w.1 (w.2.take (kp part 64) ++ ((appL S (L.take (kp keep L.length))).getD w.1 []).drop (kp part 64))

theorem amm_keep (keep : Int) (n : Nat) : amm false (.int .i64 keep) [.int .i64 (n : Nat)] = some (.int .i64 (min keep n)) := by
  simp only [amm, Bool.false_eq_true, if_false, Option.some.injEq, Value.int.injEq, true_and]
  split <;> omega
theorem amm_max0 (x : Int) : amm true (.int .i64 0) [.int .i64 x] = some (.int .i64 (max 0 x)) := by
  simp only [amm, if_true, Option.some.injEq, Value.int.injEq, true_and]
  split <;> omega
theorem kp_int (keep : Int) (n : Nat) : max 0 (min keep n) = (kp keep n : Int) := by unfold kp; omega
theorem kp_le (keep : Int) (n : Nat) : kp keep n ≤ n := by unfold kp; omega

theorem crashS_eq (S : List (List Int)) (W : List Wt) (keep part : Int) : crashS S (forget W) keep part = match W.drop (kp keep W.length) with
    | [] => app S (W.take (kp keep W.length))
    | w :: _ => (app S (W.take (kp keep W.length))).set w.1 (w.2.1.take (kp part 64) ++ ((app S (W.take (kp keep W.length))).getD w.1 []).drop (kp part 64)) := by
  unfold crashS
  have h1 : (forget W).length = W.length := by simp [forget]
  have h2 : ∀ m, (forget W).drop m = forget (W.drop m) := fun m => by simp [forget]
  have h3 : ∀ m, (forget W).take m = forget (W.take m) := fun m => by simp [forget]
  rw [h1, h2, h3, ← app_forget]
  cases W.drop (kp keep W.length) <;> rfl
theorem setL_part (l sv : List Int) (c : Nat) (h : l.length = 64) (h' : sv.length = 64) (hc : c ≤ 64) : setL (bl sv) 0 ((bl l).take c) = bl (l.take c ++ sv.drop c) := by
  rw [setL_take_drop _ _ _ (by simp [bl]; omega)]
  simp [bl, Nat.min_eq_left (h ▸ hc)]

set_option maxRecDepth 10000 in
theorem Crash_spec (st : St) (r h : Hp) (p : Nat) (S : List (List Int)) (L : List Lt) (fz keep part : Int) (hD : DK p S L fz h) (hO : Own st (h ++ r)) (hl : L.length ≤ 1000000) (k q : Value → St → Prop)
    (hk : ∀ h' st', DK p (crashS S L keep part) [] (-1) h' → Own st' (h' ++ r) → k (.tuple #[]) st') : ACall (C base w0 G) 13 [.pointer (some ⟨p, 0, none⟩), .int .i64 keep, .int .i64 part] st k q := by
  obtain ⟨sb, xs, wv, hw, W, rfl, hW, hx, hf, rfl⟩ := hD
  rw [dW_app] at hO
  have hp := hO.head
  have hfl : (forget W).length = W.length := by simp [forget]
  refine ACall.of (cx := C base w0 G) mixed Try.func13 rfl (by kernel_rfl) (by simp [Try.ntmps13]) ?_
  simp only [Try.results13]
  obtain ⟨a, rfl⟩ := hW.len
  simp (config := { implicitDefEqProofs := false }) only [↓GP, GQ, ↓awp_seq, ↓awp_block, C_ex, Nat.reduceBEq, acap, afieldAddr, aload, astore, abin, anum, astr, aun, isAggD, cond_true, cond_false, ↓reduceIte, C_P, C_G, isTuple, Value.cells, setL, ares, aresL, ares1, reduceCtorEq, Nat.reduceEqDiff, eq_self, Nat.reduceAdd, if_true, if_false, one, Nat.reduceLeDiff, undef, gsl, aextract, aindexAddr, amake, implies_true, forall_const, alen, abuiltin, anil, isC, Int.reduceEq, Int.reduceLT, Int.reduceLE, Int.reduceAdd, Int.reduceToNat, Int.reduceNeg, Nat.reduceMul, Nat.reduceSub, abuild, afill, Int.reduceBNe, Int.reduceBEq, hp, pc, afo64_1, asz62, Try.underlying62, amm_keep, amm_max0, kp_int]
  refine ACallF.enter Try.func39 rfl (by kernel_rfl) (done_spec st r p sb xs S _ fz W hw (kp keep W.length) hO hW hx hf (kp_le _ _) (by rw [hfl] at hl; exact hl) _ _ (fun wv' hw' st' hW' hO' => ?_))
  have h1 := drop_own (m := kp keep W.length) hO'
  have h2 := hf.app (kp keep W.length)
  rw [crashS_eq] at hk
  have hx1 : xs.length = (app S (W.take (kp keep W.length))).length := by rw [app_length, hx]
  generalize W.drop (kp keep W.length) = W2 at *
  generalize app S (W.take (kp keep W.length)) = S1 at *
  rw [dW_app] at h1
  have hp := h1.head
  cases W2 with
  | nil =>
    obtain ⟨a', rfl⟩ := hW'.len
    simp (config := { implicitDefEqProofs := false }) only [↓GP, GQ, ↓awp_seq, ↓awp_block, C_ex, Nat.reduceBEq, acap, afieldAddr, aload, astore, abin, anum, astr, aun, isAggD, cond_true, cond_false, ↓reduceIte, C_P, C_G, isTuple, Value.cells, setL, ares, aresL, ares1, reduceCtorEq, Nat.reduceEqDiff, eq_self, Nat.reduceAdd, if_true, if_false, one, Nat.reduceLeDiff, undef, gsl, aextract, aindexAddr, amake, implies_true, forall_const, alen, abuiltin, anil, isC, Int.reduceEq, Int.reduceLT, Int.reduceLE, Int.reduceAdd, Int.reduceToNat, Int.reduceNeg, Nat.reduceMul, Nat.reduceSub, abuild, afill, Int.reduceBNe, Int.reduceBEq, Nat.lt_irrefl, hp, pc, afo64_1, afo64_2, asz62, asz3, Try.underlying62, Int.natCast_zero, Int.lt_irrefl, List.length_nil, gt_iff_lt]
    refine hk (dW sb xs S1 (.slice none 0 0) (-1) [] [] p) _ ⟨sb, xs, _, [], [], rfl, .inl ⟨rfl, rfl, rfl⟩, hx1, h2, rfl⟩ ?_
    rw [dW_app]
    rcases hW' with ⟨_, _, rfl⟩ | ⟨wb, pre, he, rfl⟩
    · exact (h1.set rfl _ rfl).set rfl (pc sb xs.length (.slice none 0 0) (-1)) rfl
    · refine ((h1.set rfl _ rfl).set rfl (pc sb xs.length (.slice none 0 0) (-1)) rfl).sub ?_
      simp
  | cons w W3 =>
    rcases hW' with ⟨_, hh, _⟩ | ⟨wb, pre, rfl, rfl⟩
    · cases hh
    have hwb := h1.get (b := wb) (o := .cells (pre ++ wc (w :: W3)) 76 true) (by simp)
    have hwf := h1.fresh (b := wb) (o := .cells (pre ++ wc (w :: W3)) 76 true) (by simp)
    have hcut := wc_at (pre := pre) (W := w :: W3) (i := 0) rfl
    rw [Nat.zero_mul, Nat.add_zero] at hcut
    simp (config := { implicitDefEqProofs := false }) only [↓GP, GQ, ↓awp_seq, ↓awp_block, C_ex, Nat.reduceBEq, acap, afieldAddr, aload, astore, abin, anum, astr, aun, isAggD, cond_true, cond_false, ↓reduceIte, C_P, C_G, isTuple, Value.cells, setL, ares, aresL, ares1, reduceCtorEq, Nat.reduceEqDiff, eq_self, Nat.reduceAdd, if_true, if_false, one, Nat.reduceLeDiff, undef, gsl, aextract, aindexAddr, amake, implies_true, forall_const, alen, abuiltin, anil, isC, Int.reduceEq, Int.reduceLT, Int.reduceLE, Int.reduceAdd, Int.reduceToNat, Int.reduceNeg, Nat.reduceMul, Nat.reduceSub, abuild, afill, Int.reduceBNe, Int.reduceBEq, Nat.lt_irrefl, hp, pc, afo64_1, afo64_2, asz62, asz3, Int.natCast_zero, Int.lt_irrefl, List.length_cons, Try.underlying62, asz76, azc76, Try.underlying76, hwb, hwf, hcut, aalloc, Value.cells, gt_iff_lt]
    refine ⟨fun _ => ⟨by omega, ?_⟩, fun h => absurd (by omega) h⟩
    have hs3 := (h1.new (.cells [.int .i64 0, .slice none 0 0] 76 true)).set rfl (.cells [.int .i64 w.1, slo w.2.2] 76 true) rfl
    have hwS := h2.2 w (by simp)
    obtain ⟨a, hxa⟩ : ∃ a, xs[w.1]? = some a := ⟨xs[w.1]'(by omega), by simp⟩
    obtain ⟨sv, hsv⟩ : ∃ sv, S1[w.1]? = some sv := ⟨S1[w.1]'(by omega), by simp⟩
    have hsl : sv.length = 64 := h2.1 sv (List.mem_of_getElem? hsv)
    generalize hn3 : st'.n = n3 at hs3 ⊢
    generalize (St.set (St.new st' _) _ _) = s3 at hs3 ⊢
    have hs4 := hs3.perm (perm_swap [_, _, _] _ _)
    have hap := fun j o => Own.apart (a := [_, _, _]) (b := _ ++ _) hs3 (i := j) (o := o) (j := a) (o' := .cells (bl sv) 5 true)
    have e3 := hs3.head
    have e3p := hs3.tail.head
    have e3s := hs3.tail.tail.head
    have hat := secs_at hxa hsv
    have e3a := hs3.get (b := a) (o := .cells (bl sv) 5 true) (by have := List.mem_of_getElem? hat; simp [this])
    have e3b := hs3.get (b := w.2.2) (o := .cells (bl w.2.1) 5 true) (by have := wbs_at (W := w :: W3) (i := 0) rfl; simp [this])
    have ham := List.mem_append_left ([(wb, Ob.cells (pre ++ wc (w :: W3)) 76 true)] ++ (wbs (w :: W3) ++ r)) (List.mem_of_getElem? hat)
    have hpa : ¬ p = a := hap p _ (.tail _ (.head _)) ham rfl rfl
    have hna : ¬ n3 = a := hap n3 _ (.head _) ham rfl rfl
    have hq : kp part 64 ≤ 64 := kp_le part 64
    have hcutb : cut (bl w.2.1) 0 (kp part 64) = some ((bl w.2.1).take (kp part 64)) := by
      simp only [cut]
      rw [if_pos (by rw [bl_length]; omega)]; rfl
    have hsrc : asrc s3 1 (.slice (some ⟨w.2.2, 0, some 0⟩) (kp part 64) 64) = some (kp part 64, (bl w.2.1).take (kp part 64)) := by
      simp only [asrc, acut, e3b, Nat.mul_one, hcutb]
    have hone : ((bl w.2.1).take (kp part 64)).all one = true := by
      rw [show (bl w.2.1).take (kp part 64) = bl (w.2.1.take (kp part 64)) by simp [bl]]; exact bl_one _
    refine ADraw.of [(0, false, []), (1, false, []), (2, false, []), (3, true, []), (4, false, []), (5, true, []), (6, false, []), (7, false, []), (8, false, []), (9, true, []), (10, false, []), (11, true, []), (12, true, []), (13, false, []), (14, false, [3, 5, 9, 11, 12])] [3, 5, 9, 11, 12] [(3, 14), (5, 14), (9, 14), (11, 14), (12, 14)] (by kernel_rfl) ?_
    have hk64 : max 0 (min part (64 : Int)) = (kp part 64 : Int) := kp_int part 64
    have hm64 : amm false (.int .i64 part) [.int .i64 64] = some (.int .i64 (min part 64)) := amm_keep part 64
    simp (config := { implicitDefEqProofs := false }) only [↓GP, GQ, ↓awp_seq, ↓awp_block, C_ex, Nat.reduceBEq, acap, afieldAddr, aload, astore, abin, anum, astr, aun, isAggD, cond_true, cond_false, ↓reduceIte, C_P, C_G, isTuple, Value.cells, setL, ares, aresL, ares1, reduceCtorEq, Nat.reduceEqDiff, eq_self, Nat.reduceAdd, if_true, if_false, one, Nat.reduceLeDiff, undef, gsl, aextract, aindexAddr, amake, implies_true, forall_const, alen, abuiltin, anil, isC, Int.reduceEq, Int.reduceLT, Int.reduceLE, Int.reduceAdd, Int.reduceToNat, Int.reduceNeg, Nat.reduceMul, Nat.reduceSub, abuild, afill, Int.reduceBNe, Int.reduceBEq, e3, e3p, e3s, pc, asz22, afo64_0, afo64_1, afo64_2, asz62, asz23, asz3, afo76_0, afo76_1, Try.underlying22, Try.underlying3, Try.underlying23, hxa, hm64, amm_max0, hk64,
      aslice_of (st := s3) (sp := 0) (B := w.2.2) (off := 0) (len := 64) (cap := 64) Try.underlying23 asz5 (openOK_open e3b asz5) (abounds_hi hq), Nat.sub_zero, Nat.zero_mul,
      acopy_of (st := s3) (t' := 23) (sp := none) (off := 0) (L := 64) (c := 64) (x := .slice (some ⟨w.2.2, 0, some 0⟩) (kp part 64) 64) Try.underlying23 asz5 hsrc hone e3a (by rw [bl_length]; omega), hpa, hna]
    have hfin : setL (bl sv) 0 (List.take (Nat.min (kp part 64) 64) (List.take (kp part 64) (bl w.2.1))) = bl (w.2.1.take (kp part 64) ++ sv.drop (kp part 64)) := by
      rw [show Nat.min (kp part 64) 64 = kp part 64 from Nat.min_eq_left hq, List.take_take, Nat.min_self]
      exact setL_part _ _ _ hwS.2 hsl hq
    refine ⟨by omega, ?_⟩
    rw [hfin]
    have hgd : S1.getD w.1 [] = sv := by rw [List.getD_eq_getElem?_getD, hsv]; rfl
    dsimp only at hk
    rw [hgd] at hk
    refine hk (dW sb xs (S1.set w.1 (w.2.1.take (kp part 64) ++ sv.drop (kp part 64))) (.slice none 0 0) (-1) [] [] p) _ ⟨sb, xs, _, [], [], rfl, .inl ⟨rfl, rfl, rfl⟩, by rw [List.length_set]; exact hx1, ⟨fun t ht => ?_, fun t ht => by simp at ht⟩, rfl⟩ ?_
    · rcases List.mem_or_eq_of_mem_set ht with h | h
      · exact h2.1 t h
      · rw [h]; simp [hwS.2, hsl]; omega
    · rw [dW_app, ← secs_set hxa]
      refine (((((hs4.setAt hat rfl (.cells (bl (w.2.1.take (kp part 64) ++ sv.drop (kp part 64))) 5 true) rfl).perm (perm_swap _ [_, _, _] _)).tail).set rfl _ rfl).set rfl (pc sb xs.length (.slice none 0 0) (-1)) rfl).sub ?_
      refine ((List.Sublist.append_left ?_ _).cons_cons _).cons_cons _
      exact ((List.sublist_append_right _ _).cons _)
end Go.Proofs.Ytiooigkcliomlaa
/- Contracts of the program's functions over the abstract heap, and what follows from them (a part of the proof of this seat's laws). No conditions. -/
set_option linter.unusedVariables false
set_option linter.unusedSimpArgs false
namespace Go.Proofs.Ytiooigkcliomlaa
open Go Go.Abs
variable {base : Nat} {w0 : World} {G : Nat}

def readL (o : List Int) (L : List Lt) (a : Nat) : List Int := L.foldl (fun o w => if w.1 = a then w.2 else o) o
theorem readL_64 {o : List Int} {L : List Lt} {a : Nat} (h : o.length = 64) (hL : ∀ w ∈ L, w.2.length = 64) : (readL o L a).length = 64 := by
  unfold readL
  induction L generalizing o with
  | nil => exact h
  | cons w r ih =>
    rw [List.foldl_cons]
    refine ih ?_ fun w hw => hL w (by simp [hw])
    split
    · exact hL w (by simp)
    · exact h

set_option maxRecDepth 10000 in
theorem Read_spec (st : St) (r h : Hp) (p : Nat) (S : List (List Int)) (L : List Lt) (fz at_ : Int) (hD : DK p S L fz h) (hO : Own st (h ++ r)) (hl : L.length ≤ 1000000) (k q : Value → St → Prop)
    (h0 : ¬ (0 ≤ at_ ∧ at_ < S.length) → k (.tuple #[.slice none 0 0, .int .i64 2]) st)
    (hk : ∀ b st', 0 ≤ at_ → at_ < S.length → (readL (S.getD at_.toNat []) L at_.toNat).length = 64 → Own st' ((b, .cells (bl (readL (S.getD at_.toNat []) L at_.toNat)) 5 true) :: (h ++ r)) → k (.tuple #[.slice (some ⟨b, 0, some 0⟩) 64 64, .int .i64 0]) st') :
    ACall (C base w0 G) 33 [.pointer (some ⟨p, 0, none⟩), .int .i64 at_] st k q := by
  obtain ⟨sb, xs, wv, hw, W, rfl, hW, hx, hf, rfl⟩ := hD
  rw [dW_app] at hO hk
  have hp := hO.head
  have hfl : (forget W).length = W.length := by simp [forget]
  refine ACall.of (cx := C base w0 G) mixed Try.func33 rfl (by kernel_rfl) (by simp [Try.ntmps33]) ?_
  simp only [Try.results33]
  simp (config := { implicitDefEqProofs := false }) only [↓GP, GQ, ↓awp_seq, ↓awp_block, C_ex, Nat.reduceBEq, acap, afieldAddr, aload, astore, abin, anum, astr, aun, isAggD, cond_true, cond_false, ↓reduceIte, C_P, C_G, isTuple, Value.cells, setL, ares, aresL, ares1, reduceCtorEq, Nat.reduceEqDiff, eq_self, Nat.reduceAdd, if_true, if_false, one, Nat.reduceLeDiff, undef, gsl, aextract, aindexAddr, amake, implies_true, forall_const, alen, abuiltin, anil, isC, Int.reduceEq, Int.reduceLT, Int.reduceLE, Int.reduceAdd, Int.reduceToNat, Int.reduceNeg, Nat.reduceMul, Nat.reduceSub, abuild, afill, Int.reduceBNe, Int.reduceBEq]
  refine ACallF.enter Try.func42 rfl (by kernel_rfl) (there_spec st p _ xs.length xs.length wv (.int .i64 fz) at_ hp _ _ ?_)
  by_cases h : 0 ≤ at_ ∧ at_ < xs.length
  · obtain ⟨n, rfl⟩ : ∃ n : Nat, at_ = n := ⟨at_.toNat, by omega⟩
    obtain ⟨a, hxa⟩ : ∃ a, xs[n]? = some a := ⟨xs[n]'(by omega), by simp⟩
    obtain ⟨sv, hsv⟩ : ∃ sv, S[n]? = some sv := ⟨S[n]'(by omega), by simp⟩
    have hgd : S.getD n [] = sv := by rw [List.getD_eq_getElem?_getD, hsv]; rfl
    rw [Int.toNat_natCast, hgd] at hk
    have hsl : sv.length = 64 := hf.1 sv (List.mem_of_getElem? hsv)
    have e3s := hO.tail.head
    obtain ⟨wa, rfl⟩ := hW.len
    simp (config := { implicitDefEqProofs := false }) only [↓GP, GQ, ↓awp_seq, ↓awp_block, C_ex, Nat.reduceBEq, acap, afieldAddr, aload, astore, abin, anum, astr, aun, isAggD, cond_true, cond_false, ↓reduceIte, C_P, C_G, isTuple, Value.cells, setL, ares, aresL, ares1, reduceCtorEq, Nat.reduceEqDiff, eq_self, Nat.reduceAdd, if_true, if_false, one, Nat.reduceLeDiff, undef, gsl, aextract, aindexAddr, amake, implies_true, forall_const, alen, abuiltin, anil, isC, Int.reduceEq, Int.reduceLT, Int.reduceLE, Int.reduceAdd, Int.reduceToNat, Int.reduceNeg, Nat.reduceMul, Nat.reduceSub, abuild, afill, Int.reduceBNe, Int.reduceBEq, h, decide_true, hp, pc, afo64_0, afo64_1, asz22, asz23, asz62, Try.underlying22, Try.underlying23, Try.underlying62, e3s, hxa]
    have hat := secs_at hxa hsv
    have h64 : ∀ m, (readL sv (forget (W.take m)) n).length = 64 := fun m => readL_64 hsl fun w hw => by
      obtain ⟨w', h1, rfl⟩ := List.mem_map.1 hw
      exact (hf.2 w' (List.mem_of_mem_take h1)).2
    refine ⟨fun m ρ s => ∃ (i b : Nat) (sp : Option Nat), m = W.length - i ∧ i ≤ W.length ∧ ρ 1 = .int .i64 n ∧ ρ 23 = .slice wa W.length W.length ∧ ρ 24 = .int .i64 W.length ∧ ρ 25 = .int .i64 i ∧ ρ 6 = .slice (some ⟨b, 0, sp⟩) 64 64 ∧
      (b, Ob.cells (bl (readL sv (forget (W.take i)) n)) 5 true) ∈ ((p, pc sb xs.length (.slice wa W.length W.length) fz) :: (sb, Ob.cells (xs.map sl) 23 true) :: (secs xs S ++ (hw ++ (wbs W ++ r)))) ∧
      Own s ((p, pc sb xs.length (.slice wa W.length W.length) fz) :: (sb, .cells (xs.map sl) 23 true) :: (secs xs S ++ (hw ++ (wbs W ++ r)))), ⟨W.length, 0, a, none, rfl, Nat.zero_le _, rfl, rfl, rfl, rfl, rfl, ?_, hO⟩, ?_⟩
    · have := List.mem_of_getElem? hat
      simp [forget, readL, this]
    rintro m ρ s ⟨i, b, sp, rfl, hi, h1, h23, h24, h25, h6, hm, hs⟩
    have hp := hs.head
    by_cases him : i < W.length
    · obtain ⟨w, hwi⟩ : ∃ w, W[i]? = some w := ⟨W[i]'(by omega), by simp⟩
      rcases hW with ⟨_, rfl, _⟩ | ⟨wb, pre, he, rfl⟩
      · simp at him
      injection he with he1 he2 he3
      subst he1
      have hcut := wc_at (pre := pre) hwi
      have hwm := hs.get (b := wb) (o := .cells (pre ++ wc W) 76 true) (by simp)
      have hwf := hs.fresh (b := wb) (o := .cells (pre ++ wc W) 76 true) (by simp)
      simp (config := { implicitDefEqProofs := false }) only [↓GP, GQ, ↓awp_seq, ↓awp_block, C_ex, Nat.reduceBEq, acap, afieldAddr, aload, astore, abin, anum, astr, aun, isAggD, cond_true, cond_false, ↓reduceIte, C_P, C_G, isTuple, Value.cells, setL, ares, aresL, ares1, reduceCtorEq, Nat.reduceEqDiff, eq_self, Nat.reduceAdd, if_true, if_false, one, Nat.reduceLeDiff, undef, gsl, aextract, aindexAddr, amake, implies_true, forall_const, alen, abuiltin, anil, isC, Int.reduceEq, Int.reduceLT, Int.reduceLE, Int.reduceAdd, Int.reduceToNat, Int.reduceNeg, Nat.reduceMul, Nat.reduceSub, abuild, afill, Int.reduceBNe, Int.reduceBEq, h1, h23, h24, h25, h6, him, decide_true, hwm, hwf, asz76, azc76, asz3, asz23, afo76_0, afo76_1, Try.underlying3, Try.underlying23, Try.underlying62, Try.underlying76, hcut, aalloc, Int.ofNat_lt, Value.cells]
      have htk : readL sv (forget (W.take (i + 1))) n = if w.1 = n then w.2.1 else readL sv (forget (W.take i)) n := by
        rw [List.take_add_one, hwi]; simp [forget, readL]
      have hs2 := ((hs.new (.cells [.int .i64 0, .slice none 0 0] 76 true)).set rfl (.cells [.int .i64 w.1, slo w.2.2] 76 true) rfl).tail
      refine ⟨by omega, fun e => ⟨W.length - (i + 1), by omega, i + 1, w.2.2, some 0, rfl, by omega, by rw [w_i64 (by omega)]; rfl, rfl, ?_, hs2⟩, fun e => ⟨W.length - (i + 1), by omega, i + 1, b, sp, rfl, by omega, by rw [w_i64 (by omega)]; rfl, rfl, ?_, hs2⟩⟩
      · rw [htk, if_pos (by omega)]
        have := wbs_at hwi
        simp [this]
      · rw [htk, if_neg (by omega)]
        exact hm
    · obtain rfl : i = W.length := by omega
      have h64 := h64 W.length
      rw [List.take_length] at hm h64
      simp (config := { implicitDefEqProofs := false }) only [↓GP, GQ, ↓awp_seq, ↓awp_block, C_ex, Nat.reduceBEq, acap, afieldAddr, aload, astore, abin, anum, astr, aun, isAggD, cond_true, cond_false, ↓reduceIte, C_P, C_G, isTuple, Value.cells, setL, ares, aresL, ares1, reduceCtorEq, Nat.reduceEqDiff, eq_self, Nat.reduceAdd, if_true, if_false, one, Nat.reduceLeDiff, undef, gsl, aextract, aindexAddr, amake, implies_true, forall_const, alen, abuiltin, anil, isC, Int.reduceEq, Int.reduceLT, Int.reduceLE, Int.reduceAdd, Int.reduceToNat, Int.reduceNeg, Nat.reduceMul, Nat.reduceSub, abuild, afill, Int.reduceBNe, Int.reduceBEq, h1, h23, h24, h25, h6, him, decide_false, Int.ofNat_lt]
      have hb := Bs.whole (c := 64) (sp := sp) hm
      rw [h64] at hb
      refine ACallF.enter Try.func44 rfl (by kernel_rfl) (Clone_spec s _ _ _ hs hb (fun e => by rw [e] at h64; cases h64) (by rw [h64]; omega) _ _ fun b2 s2 hs2 => ?_)
      simp (config := { implicitDefEqProofs := false }) only [↓GP, GQ, ↓awp_seq, ↓awp_block, C_ex, Nat.reduceBEq, acap, afieldAddr, aload, astore, abin, anum, astr, aun, isAggD, cond_true, cond_false, ↓reduceIte, C_P, C_G, isTuple, Value.cells, setL, ares, aresL, ares1, reduceCtorEq, Nat.reduceEqDiff, eq_self, Nat.reduceAdd, if_true, if_false, one, Nat.reduceLeDiff, undef, gsl, aextract, aindexAddr, amake, implies_true, forall_const, alen, abuiltin, anil, isC, Int.reduceEq, Int.reduceLT, Int.reduceLE, Int.reduceAdd, Int.reduceToNat, Int.reduceNeg, Nat.reduceMul, Nat.reduceSub, abuild, afill, Int.reduceBNe, Int.reduceBEq]
      rw [h64]
      exact hk b2 s2 (by omega) (by omega) h64 hs2
  · simp (config := { implicitDefEqProofs := false }) only [↓GP, GQ, ↓awp_seq, ↓awp_block, C_ex, Nat.reduceBEq, acap, afieldAddr, aload, astore, abin, anum, astr, aun, isAggD, cond_true, cond_false, ↓reduceIte, C_P, C_G, isTuple, Value.cells, setL, ares, aresL, ares1, reduceCtorEq, Nat.reduceEqDiff, eq_self, Nat.reduceAdd, if_true, if_false, one, Nat.reduceLeDiff, undef, gsl, aextract, aindexAddr, amake, implies_true, forall_const, alen, abuiltin, anil, isC, Int.reduceEq, Int.reduceLT, Int.reduceLE, Int.reduceAdd, Int.reduceToNat, Int.reduceNeg, Nat.reduceMul, Nat.reduceSub, abuild, afill, Int.reduceBNe, Int.reduceBEq, h, decide_false]
    exact h0 (by rw [← hx]; exact h)
end Go.Proofs.Ytiooigkcliomlaa
/- Contracts of the program's functions over the abstract heap, and what follows from them (a part of the proof of this seat's laws). No conditions. -/
set_option linter.unusedVariables false
set_option linter.unusedSimpArgs false
namespace Go.Proofs.Ytiooigkcliomlaa
open Go Go.Abs
variable {base : Nat} {w0 : World} {G : Nat}

def SV (sv : Value) (xs : List Nat) (hs : Hp) : Prop := (sv = .slice none 0 0 ∧ xs = [] ∧ hs = []) ∨ ∃ sb, sv = .slice (some ⟨sb, 0, some 0⟩) xs.length xs.length ∧ hs = [(sb, .cells (xs.map sl) 23 true)]
def zero64 : List Int := List.replicate 64 0
theorem bl_zero64 : zeros [.int .u8 0] 64 = bl zero64 := by simp [zeros, bl, zero64]
theorem secs_snoc (xs : List Nat) (S : List (List Int)) (a : Nat) (s : List Int) (h : xs.length = S.length) : secs (xs ++ [a]) (S ++ [s]) = secs xs S ++ [(a, .cells (bl s) 5 true)] := by
  simp [secs, List.zipWith_append, h]
theorem sl_cut (xs : List Nat) : cut (xs.map sl) 0 (xs.length * 1) = some (xs.map sl) := by
  have := cut_all (xs.map sl)
  simpa using this

set_option maxRecDepth 10000 in
theorem New_spec (st : St) (r : Hp) (n : Int) (hO : Own st r) (k q : Value → St → Prop)
    (h0 : ¬ (1 ≤ n ∧ n ≤ 4096) → k (.tuple #[.pointer none, .int .i64 2]) st)
    (hk : ∀ p h st', 1 ≤ n → n ≤ 4096 → DK p (List.replicate n.toNat zero64) [] (-1) h → Own st' (h ++ r) → k (.tuple #[.pointer (some ⟨p, 0, none⟩), .int .i64 0]) st') :
    ACall (C base w0 G) 9 [.int .i64 n] st k q := by
  refine ACall.of (cx := C base w0 G) mixed Try.func9 rfl (by kernel_rfl) (by simp [Try.ntmps9]) ?_
  simp only [Try.results9]
  by_cases h1 : n < 1
  · simp (config := { implicitDefEqProofs := false }) only [↓GP, GQ, ↓awp_seq, ↓awp_block, C_ex, Nat.reduceBEq, acap, afieldAddr, aload, astore, abin, anum, astr, aun, isAggD, cond_true, cond_false, ↓reduceIte, C_P, C_G, isTuple, Value.cells, setL, ares, aresL, ares1, reduceCtorEq, Nat.reduceEqDiff, eq_self, Nat.reduceAdd, if_true, if_false, one, Nat.reduceLeDiff, undef, gsl, aextract, aindexAddr, amake, implies_true, forall_const, alen, abuiltin, anil, isC, Int.reduceEq, Int.reduceLT, Int.reduceLE, Int.reduceAdd, Int.reduceToNat, Int.reduceNeg, Nat.reduceMul, Nat.reduceSub, abuild, afill, Int.reduceBNe, Int.reduceBEq, h1, decide_true, Try.underlying3]
    exact h0 (by omega)
  by_cases h2 : n > 4096
  · simp (config := { implicitDefEqProofs := false }) only [↓GP, GQ, ↓awp_seq, ↓awp_block, C_ex, Nat.reduceBEq, acap, afieldAddr, aload, astore, abin, anum, astr, aun, isAggD, cond_true, cond_false, ↓reduceIte, C_P, C_G, isTuple, Value.cells, setL, ares, aresL, ares1, reduceCtorEq, Nat.reduceEqDiff, eq_self, Nat.reduceAdd, if_true, if_false, one, Nat.reduceLeDiff, undef, gsl, aextract, aindexAddr, amake, implies_true, forall_const, alen, abuiltin, anil, isC, Int.reduceEq, Int.reduceLT, Int.reduceLE, Int.reduceAdd, Int.reduceToNat, Int.reduceNeg, Nat.reduceMul, Nat.reduceSub, abuild, afill, Int.reduceBNe, Int.reduceBEq, h1, h2, decide_true, decide_false, Try.underlying3]
    exact h0 (by omega)
  obtain ⟨m, rfl⟩ : ∃ m : Nat, n = m := ⟨n.toNat, by omega⟩
  simp (config := { implicitDefEqProofs := false }) only [↓GP, GQ, ↓awp_seq, ↓awp_block, C_ex, Nat.reduceBEq, acap, afieldAddr, aload, astore, abin, anum, astr, aun, isAggD, cond_true, cond_false, ↓reduceIte, C_P, C_G, isTuple, Value.cells, setL, ares, aresL, ares1, reduceCtorEq, Nat.reduceEqDiff, eq_self, Nat.reduceAdd, if_true, if_false, one, Nat.reduceLeDiff, undef, gsl, aextract, aindexAddr, amake, implies_true, forall_const, alen, abuiltin, anil, isC, Int.reduceEq, Int.reduceLT, Int.reduceLE, Int.reduceAdd, Int.reduceToNat, Int.reduceNeg, Nat.reduceMul, Nat.reduceSub, abuild, afill, Int.reduceBNe, Int.reduceBEq, h1, h2, decide_true, decide_false, Try.underlying3, Try.underlying64, azc64, apl64, abox, Value.cells]
  refine ⟨fun c ρ s => ∃ (i p : Nat) (xs : List Nat) (sv : Value) (hs : Hp), c = m - i ∧ i ≤ m ∧ xs.length = i ∧ ρ 4 = .pointer (some ⟨p, 0, none⟩) ∧ ρ 13 = .int .i64 m ∧ ρ 14 = .int .i64 i ∧ SV sv xs hs ∧
    Own s ((p, .cells [sv, .slice none 0 0, .int .i64 (-1)] 64 true) :: (hs ++ (secs xs (List.replicate i zero64) ++ r))), ⟨m, 0, st.n, [], .slice none 0 0, [], rfl, Nat.zero_le _, rfl, rfl, rfl, rfl, .inl ⟨rfl, rfl, rfl⟩, hO.new _⟩, ?_⟩
  rintro c ρ s ⟨i, p, xs, sv, hs, rfl, hi, hx, h4, h13, h14, hsv, hO'⟩
  have hp := hO'.head
  have hlt := hO'.lt (List.mem_cons_self ..)
  by_cases him : i < m
  · simp (config := { implicitDefEqProofs := false }) only [↓GP, GQ, ↓awp_seq, ↓awp_block, C_ex, Nat.reduceBEq, acap, afieldAddr, aload, astore, abin, anum, astr, aun, isAggD, cond_true, cond_false, ↓reduceIte, C_P, C_G, isTuple, Value.cells, setL, ares, aresL, ares1, reduceCtorEq, Nat.reduceEqDiff, eq_self, Nat.reduceAdd, if_true, if_false, one, Nat.reduceLeDiff, undef, gsl, aextract, aindexAddr, amake, implies_true, forall_const, alen, abuiltin, anil, isC, Int.reduceEq, Int.reduceLT, Int.reduceLE, Int.reduceAdd, Int.reduceToNat, Int.reduceNeg, Nat.reduceMul, Nat.reduceSub, abuild, afill, Int.reduceBNe, Int.reduceBEq, h4, h13, h14, him, decide_true, Int.ofNat_lt]
    refine ADraw.of [(0, false, []), (1, false, []), (2, false, []), (3, false, []), (4, true, []), (5, false, [4]), (6, false, [4]), (7, false, []), (8, false, []), (9, false, []), (10, false, [])] [4] [(4, 5), (4, 6)] (by kernel_rfl) ?_
    have hp1 : ¬ p = s.n := by omega
    have hp2 : ¬ p = s.n + 1 := by omega
    have hp3 : ¬ p = s.n + 2 := by omega
    have e1 := abuildSlice_one (st := s.new (.cells (zeros [.int .u8 0] 64) 5 true)) (v := sl s.n) Try.underlying22 asz23 azc23 rfl rfl rfl (by decide)
    have hsrc : asrc ((s.new (.cells (zeros [.int .u8 0] 64) 5 true)).new (.cells [sl s.n] 23 true)) 1 (.slice (some ⟨s.n + 1, 0, none⟩) 1 1) = some (1, [sl s.n]) := asrc_one (new_at _) rfl
    rcases hsv with ⟨rfl, rfl, rfl⟩ | ⟨sb, rfl, rfl⟩
    · simp (config := { implicitDefEqProofs := false }) only [↓GP, GQ, ↓awp_seq, ↓awp_block, C_ex, Nat.reduceBEq, acap, afieldAddr, aload, astore, abin, anum, astr, aun, isAggD, cond_true, cond_false, ↓reduceIte, C_P, C_G, isTuple, Value.cells, setL, ares, aresL, ares1, reduceCtorEq, Nat.reduceEqDiff, eq_self, Nat.reduceAdd, if_true, if_false, one, Nat.reduceLeDiff, undef, gsl, aextract, aindexAddr, amake, implies_true, forall_const, alen, abuiltin, anil, isC, Int.reduceEq, Int.reduceLT, Int.reduceLE, Int.reduceAdd, Int.reduceToNat, Int.reduceNeg, Nat.reduceMul, Nat.reduceSub, abuild, afill, Int.reduceBNe, Int.reduceBEq, h4, h13, h14, hp, hp1, hp2, hp3, afo64_0, asz22, asz23, azc23, aby23, asz5, azc5, aby5, Try.underlying22, Try.underlying23, e1,
        aappend_nil (t' := 22) (st := (s.new (.cells (zeros [.int .u8 0] 64) 5 true)).new (.cells [sl s.n] 23 true)) Try.underlying22 (by rw [Try.underlying22]; rfl) asz23 azc23 aby23 hsrc rfl (by decide) (by decide)]
      refine ⟨by decide, m - (i + 1), by omega, i + 1, p, [] ++ [s.n], .slice (some ⟨s.n + 2, 0, some 0⟩) 1 1, [(s.n + 2, .cells [sl s.n] 23 true)], rfl, by omega, by simp at hx; simp [← hx], rfl, by rw [w_i64 (by omega)]; rfl, .inr ⟨s.n + 2, rfl, rfl⟩, ?_⟩
      rw [List.replicate_succ', secs_snoc _ _ _ _ (by simpa using hx), List.append_assoc, bl_zero64]
      exact (((((((hO'.new (.cells (bl zero64) 5 true)).new (.cells [sl s.n] 23 true)).tail).new (.cells [sl s.n] 23 true)).perm (perm_front [_, _] _ _)).set rfl _ rfl).perm (((perm_front (secs _ _) _ r).symm.cons _).cons _))
    · have hq := hO'.tail.head
      have hql := hO'.tail.lt (List.mem_cons_self ..)
      have hq1 : ¬ sb = s.n := by omega
      have hq2 : ¬ sb = s.n + 1 := by omega
      have hpq : ¬ p = sb := fun e => hO'.ne rfl (List.mem_cons_self ..) e.symm
      simp (config := { implicitDefEqProofs := false }) only [↓GP, GQ, ↓awp_seq, ↓awp_block, C_ex, Nat.reduceBEq, acap, afieldAddr, aload, astore, abin, anum, astr, aun, isAggD, cond_true, cond_false, ↓reduceIte, C_P, C_G, isTuple, Value.cells, setL, ares, aresL, ares1, reduceCtorEq, Nat.reduceEqDiff, eq_self, Nat.reduceAdd, if_true, if_false, one, Nat.reduceLeDiff, undef, gsl, aextract, aindexAddr, amake, implies_true, forall_const, alen, abuiltin, anil, isC, Int.reduceEq, Int.reduceLT, Int.reduceLE, Int.reduceAdd, Int.reduceToNat, Int.reduceNeg, Nat.reduceMul, Nat.reduceSub, abuild, afill, Int.reduceBNe, Int.reduceBEq, h4, h13, h14, hp, hp1, hp2, hp3, hpq, hq1, hq2, afo64_0, asz22, asz23, azc23, aby23, asz5, azc5, aby5, Try.underlying22, Try.underlying23, e1,
        aappend_open (t' := 22) (st := (s.new (.cells (zeros [.int .u8 0] 64) 5 true)).new (.cells [sl s.n] 23 true)) (B := sb) (off := 0) (len := xs.length) (cap := xs.length) (cs := xs.map sl) Try.underlying22 (by rw [Try.underlying22]; rfl) asz23 azc23 aby23 hsrc rfl
          ((new_old _ (Nat.lt_succ_of_lt hql)).trans ((new_old _ hql).trans hq)) (sl_cut xs) (by omega)]
      refine ⟨by decide, m - (i + 1), by omega, i + 1, p, xs ++ [s.n], .slice (some ⟨s.n + 2, 0, some 0⟩) (xs.length + 1) (xs.length + 1), [(s.n + 2, .cells ((xs ++ [s.n]).map sl) 23 true)], rfl, by omega, by simp [hx], rfl, by rw [w_i64 (by omega)]; rfl, .inr ⟨s.n + 2, by simp, rfl⟩, ?_⟩
      rw [List.replicate_succ', secs_snoc _ _ _ _ (by simpa using hx), List.append_assoc, bl_zero64, List.map_append]
      exact (((((((((hO'.new (.cells (bl zero64) 5 true)).new (.cells [sl s.n] 23 true)).tail).perm (perm_front [_, _] _ _)).kill rfl).new (.cells (xs.map sl ++ [sl s.n]) 23 true)).perm (perm_front [_, _] _ _)).set rfl _ rfl).perm (((perm_front (secs _ _) _ r).symm.cons _).cons _))
  · obtain rfl : i = m := by omega
    simp (config := { implicitDefEqProofs := false }) only [↓GP, GQ, ↓awp_seq, ↓awp_block, C_ex, Nat.reduceBEq, acap, afieldAddr, aload, astore, abin, anum, astr, aun, isAggD, cond_true, cond_false, ↓reduceIte, C_P, C_G, isTuple, Value.cells, setL, ares, aresL, ares1, reduceCtorEq, Nat.reduceEqDiff, eq_self, Nat.reduceAdd, if_true, if_false, one, Nat.reduceLeDiff, undef, gsl, aextract, aindexAddr, amake, implies_true, forall_const, alen, abuiltin, anil, isC, Int.reduceEq, Int.reduceLT, Int.reduceLE, Int.reduceAdd, Int.reduceToNat, Int.reduceNeg, Nat.reduceMul, Nat.reduceSub, abuild, afill, Int.reduceBNe, Int.reduceBEq, h4, h13, h14, him, decide_false, Int.ofNat_lt]
    rcases hsv with ⟨rfl, rfl, rfl⟩ | ⟨sb, rfl, rfl⟩
    · simp at hx; omega
    refine hk p (dW sb xs (List.replicate i zero64) (.slice none 0 0) (-1) [] [] p) s (by omega) (by omega) ⟨sb, xs, _, [], [], ?_, .inl ⟨rfl, rfl, rfl⟩, ?_, ⟨fun t ht => ?_, fun t ht => by simp at ht⟩, rfl⟩ ?_
    · rw [Int.toNat_natCast]
    · simpa using hx
    · rw [Int.toNat_natCast] at ht
      rw [List.eq_of_mem_replicate ht]; rfl
    · rw [dW_app]
      exact hO'
end Go.Proofs.Ytiooigkcliomlaa
/- Contracts of the program's functions over the abstract heap, and what follows from them (a part of the proof of this seat's laws). No conditions. -/
set_option linter.unusedVariables false
set_option linter.unusedSimpArgs false
namespace Go.Proofs.Ytiooigkcliomlaa
open Go Go.Abs
variable {base : Nat} {w0 : World} {G : Nat}

theorem u8s_bl : ∀ l : List Int, u8s (bl l) = some l
  | [] => rfl
  | a :: l => by
    show u8s (.int .u8 a :: bl l) = _
    simp [u8s, u8s_bl l]
theorem aconv_str {st : St} {h : Hp} (hO : Own st h) {v : Value} {l : List Int} (hb : Bs h v l) : aconv Try.prog st 23 9 v = some (.string (strOf l), st) := by
  have h1 := hb.src hO
  obtain ⟨a, c, rfl, _⟩ := hb.isSlice
  simp [aconv, Try.underlying23, Try.underlying9, Try.underlying5, h1, u8s_bl]

theorem WriteD_spec (st : St) (r h : Hp) (p : Nat) (S : List (List Int)) (L : List Lt) (fz at_ : Int) (bv : Value) (l : List Int) (hD : DK p S L fz h) (hO : Own st (h ++ r)) (hb : Bs r bv l)
    (hfz : fz ≤ 9223372036854775807) (hl : L.length ≤ 1000000) (k q : Value → St → Prop)
    (hbad : ¬ (0 ≤ at_ ∧ at_ < S.length ∧ l.length = 64) → k (.int .i64 2) st)
    (hpow : 0 ≤ at_ → at_ < S.length → l.length = 64 → fz = 0 → k (.int .i64 50) st)
    (hok : ∀ h' st', 0 ≤ at_ → at_ < S.length → l.length = 64 → fz ≠ 0 → DK p S (L ++ [(at_.toNat, l)]) (dec1 fz) h' → Own st' (h' ++ r) → k (.int .i64 0) st') :
    ACall (C base w0 G) 18 [.pointer (some ⟨p, 0, none⟩), .int .i64 at_, bv] st k q := by
  obtain ⟨sb, xs, wv, hw, W, rfl, hW, hx, hf, rfl⟩ := hD
  rw [dW_app] at hO
  have hfl : (forget W).length = W.length := by simp [forget]
  have hO1 : Own st ((p, pc sb xs.length wv fz) :: (hw ++ ((sb, .cells (xs.map sl) 23 true) :: (secs xs S ++ (wbs W ++ r))))) := hO.perm (by
    simpa using perm_of [[(p, pc sb xs.length wv fz)], [(sb, .cells (xs.map sl) 23 true)], secs xs S, hw, wbs W, r] [0, 1, 2, 3, 4, 5] [0, 3, 1, 2, 4, 5] rfl)
  refine Write_spec st _ p sb xs.length wv fz W hw at_ bv l hO1 hW (hb.sub fun e he => by simp [he]) hfz (by rw [← hfl]; exact hl) k q (fun hh => hbad (by rw [← hx]; exact hh)) (fun a b c d => hpow a (by rw [← hx]; exact b) c d) (fun b wv' hw' st' a1 a2 a3 a4 hW' hO' => ?_)
  refine hok (dW sb xs S wv' (dec1 fz) (W ++ [(at_.toNat, l, b)]) hw' p) st' a1 (by rw [← hx]; exact a2) a3 a4 ⟨sb, xs, wv', hw', W ++ [(at_.toNat, l, b)], rfl, hW', hx, ⟨hf.1, fun w hw => ?_⟩, by simp [forget]⟩ ?_
  · rcases List.mem_append.1 hw with h | h
    · exact hf.2 w h
    · simp at h; subst h; exact ⟨by simp only; omega, a3⟩
  · rw [dW_app]
    refine hO'.perm ?_
    have e : wbs (W ++ [(at_.toNat, l, b)]) = wbs W ++ [(b, .cells (bl l) 5 true)] := by simp [wbs]
    rw [e]
    simpa using perm_of [[(p, pc sb xs.length wv' (dec1 fz))], hw', [(b, .cells (bl l) 5 true)], [(sb, .cells (xs.map sl) 23 true)], secs xs S, wbs W, r] [0, 1, 2, 3, 4, 5, 6] [0, 3, 4, 1, 5, 2, 6] rfl

theorem bl_rep (x : Int) : bl (List.replicate 64 x) = List.replicate 64 (.int .u8 x) := by simp [bl]

end Go.Proofs.Ytiooigkcliomlaa
