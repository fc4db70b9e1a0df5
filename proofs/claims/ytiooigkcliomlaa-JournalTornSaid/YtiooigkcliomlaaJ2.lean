/- Contracts of the program's functions over the abstract heap, and what follows from them (a part of the proof of this seat's laws). No conditions. -/
import Derived.Test.YtiooigkcliomlaaJ1
set_option linter.unusedVariables false
set_option linter.unusedSimpArgs false
namespace Go.Proofs.Ytiooigkcliomlaa
open Go Go.Abs
variable {base : Nat} {w0 : World} {G : Nat}

abbrev sl (b : Nat) : Value := .slice (some ⟨b, 0, none⟩) 64 64
abbrev slo (b : Nat) : Value := .slice (some ⟨b, 0, some 0⟩) 64 64
/-- A waiting write: its sector, its letters, their block. -/
abbrev Wt := Nat × List Int × Nat
def wc (W : List Wt) : List Value := (W.map fun x => [Value.int .i64 (x.1 : Nat), slo x.2.2]).flatten
def wbs (W : List Wt) : Hp := W.map fun x => (x.2.2, .cells (bl x.2.1) 5 true)
def pc (sb n : Nat) (wv : Value) (fz : Int) : Ob := .cells [.slice (some ⟨sb, 0, some 0⟩) n n, wv, .int .i64 fz] 64 true
def WV (wv : Value) (W : List Wt) (hw : Hp) : Prop := (wv = .slice none 0 0 ∧ W = [] ∧ hw = []) ∨
  ∃ wb pre, wv = .slice (some ⟨wb, pre.length, some 0⟩) W.length W.length ∧ hw = [(wb, .cells (pre ++ wc W) 76 true)]
def dec1 (fz : Int) : Int := if 0 < fz then fz - 1 else fz

theorem wc_length (W : List Wt) : (wc W).length = W.length * 2 := by
  unfold wc
  induction W with
  | nil => rfl
  | cons a r ih => simp [List.flatten_cons] at ih ⊢; omega
theorem wc_cut {pre : List Value} {W : List Wt} : cut (pre ++ wc W) pre.length (W.length * 2) = some (wc W) := by
  unfold cut
  rw [if_pos (by simp [wc_length]), List.drop_left, ← wc_length, List.take_length]

theorem burn_own (st : St) (r : Hp) (p : Nat) (sv wv : Value) (fz : Int) (hO : Own st ((p, .cells [sv, wv, .int .i64 fz] 64 true) :: r)) (hb : fz ≤ 9223372036854775807) (k q : Value → St → Prop)
    (h0 : fz = 0 → k (.int .i64 50) st) (h1 : ∀ s, fz ≠ 0 → Own s ((p, .cells [sv, wv, .int .i64 (dec1 fz)] 64 true) :: r) → k (.int .i64 0) s) :
    ACall (C base w0 G) 43 [.pointer (some ⟨p, 0, none⟩)] st k q := by
  refine burn_spec st p sv wv fz hO.head hb k q h0 (fun h => h1 _ (by omega) ?_) (fun h => h1 _ (by omega) ?_)
  · simp only [dec1, h, if_true]; exact hO.set rfl _ rfl
  · simp only [dec1, show ¬ 0 < fz by omega, if_false]; exact hO

set_option maxRecDepth 10000 in
theorem Write_spec (st : St) (r : Hp) (p sb n : Nat) (wv : Value) (fz : Int) (W : List Wt) (hw : Hp) (at_ : Int) (bv : Value) (l : List Int)
    (hO : Own st ((p, pc sb n wv fz) :: (hw ++ r))) (hW : WV wv W hw) (hb : Bs r bv l) (hfz : fz ≤ 9223372036854775807) (hWl : W.length ≤ 1000000) (k q : Value → St → Prop)
    (hbad : ¬ (0 ≤ at_ ∧ at_ < n ∧ l.length = 64) → k (.int .i64 2) st)
    (hpow : 0 ≤ at_ → at_ < n → l.length = 64 → fz = 0 → k (.int .i64 50) st)
    (hok : ∀ b wv' hw' st', 0 ≤ at_ → at_ < n → l.length = 64 → fz ≠ 0 → WV wv' (W ++ [(at_.toNat, l, b)]) hw' → Own st' ((p, pc sb n wv' (dec1 fz)) :: (hw' ++ ((b, .cells (bl l) 5 true) :: r))) → k (.int .i64 0) st') :
    ACall (C base w0 G) 18 [.pointer (some ⟨p, 0, none⟩), .int .i64 at_, bv] st k q := by
  refine ACall.of (cx := C base w0 G) mixed Try.func18 rfl (by kernel_rfl) (by simp [Try.ntmps18]) ?_
  simp only [Try.results18]
  have hp := hO.head
  obtain ⟨a, c, rfl, ha⟩ := hb.isSlice
  simp (config := { implicitDefEqProofs := false }) only [↓GP, GQ, ↓awp_seq, ↓awp_block, C_ex, Nat.reduceBEq, acap, afieldAddr, aload, astore, abin, anum, astr, aun, isAggD, cond_true, cond_false, ↓reduceIte, C_P, C_G, isTuple, Value.cells, setL, ares, aresL, ares1, reduceCtorEq, Nat.reduceEqDiff, eq_self, Nat.reduceAdd, if_true, if_false, one, Nat.reduceLeDiff, undef, gsl, aextract, aindexAddr, amake, implies_true, forall_const, alen, abuiltin, anil, isC, Int.reduceEq, Int.reduceLT, Int.reduceLE, Int.reduceAdd, Int.reduceToNat, Int.reduceNeg, Nat.reduceMul, Nat.reduceSub, abuild, afill, Int.reduceBNe, Int.reduceBEq]
  refine ACallF.enter Try.func42 rfl (by kernel_rfl) (there_spec st p _ n n wv (.int .i64 fz) at_ hp _ _ ?_)
  by_cases h : 0 ≤ at_ ∧ at_ < n
  · simp (config := { implicitDefEqProofs := false }) only [↓GP, GQ, ↓awp_seq, ↓awp_block, C_ex, Nat.reduceBEq, acap, afieldAddr, aload, astore, abin, anum, astr, aun, isAggD, cond_true, cond_false, ↓reduceIte, C_P, C_G, isTuple, Value.cells, setL, ares, aresL, ares1, reduceCtorEq, Nat.reduceEqDiff, eq_self, Nat.reduceAdd, if_true, if_false, one, Nat.reduceLeDiff, undef, gsl, aextract, aindexAddr, amake, implies_true, forall_const, alen, abuiltin, anil, isC, Int.reduceEq, Int.reduceLT, Int.reduceLE, Int.reduceAdd, Int.reduceToNat, Int.reduceNeg, Nat.reduceMul, Nat.reduceSub, abuild, afill, Int.reduceBNe, Int.reduceBEq, h, decide_true, Bool.not_true, abuiltin, alen, Try.underlying23]
    refine ⟨fun hn => hbad (by omega), fun hn => ACallF.enter Try.func43 rfl (by kernel_rfl) (burn_own st _ p _ wv fz hO hfz _ _ (fun hz => ?_) (fun s hz hs => ?_))⟩
    · simp (config := { implicitDefEqProofs := false }) only [↓GP, GQ, ↓awp_seq, ↓awp_block, C_ex, Nat.reduceBEq, acap, afieldAddr, aload, astore, abin, anum, astr, aun, isAggD, cond_true, cond_false, ↓reduceIte, C_P, C_G, isTuple, Value.cells, setL, ares, aresL, ares1, reduceCtorEq, Nat.reduceEqDiff, eq_self, Nat.reduceAdd, if_true, if_false, one, Nat.reduceLeDiff, undef, gsl, aextract, aindexAddr, amake, implies_true, forall_const, alen, abuiltin, anil, isC, Int.reduceEq, Int.reduceLT, Int.reduceLE, Int.reduceAdd, Int.reduceToNat, Int.reduceNeg, Nat.reduceMul, Nat.reduceSub, abuild, afill, Int.reduceBNe, Int.reduceBEq]
      exact hpow h.1 h.2 (by omega) hz
    · have hl : l ≠ [] := fun e => by subst e; simp at hn
      have hp := hs.head
      have hlen : l.length = 64 := by omega
      simp (config := { implicitDefEqProofs := false }) only [↓GP, GQ, ↓awp_seq, ↓awp_block, C_ex, Nat.reduceBEq, acap, afieldAddr, aload, astore, abin, anum, astr, aun, isAggD, cond_true, cond_false, ↓reduceIte, C_P, C_G, isTuple, Value.cells, setL, ares, aresL, ares1, reduceCtorEq, Nat.reduceEqDiff, eq_self, Nat.reduceAdd, if_true, if_false, one, Nat.reduceLeDiff, undef, gsl, aextract, aindexAddr, amake, implies_true, forall_const, alen, abuiltin, anil, isC, Int.reduceEq, Int.reduceLT, Int.reduceLE, Int.reduceAdd, Int.reduceToNat, Int.reduceNeg, Nat.reduceMul, Nat.reduceSub, abuild, afill, Int.reduceBNe, Int.reduceBEq]
      refine ADraw.of [(0, false, []), (1, false, []), (2, false, []), (3, false, []), (4, true, []), (5, false, []), (6, false, []), (7, false, [4]), (8, false, []), (9, false, [4]), (10, false, []), (11, false, []), (12, false, []), (13, false, [])] [4] [(4, 7), (4, 9)] (by kernel_rfl) ?_
      simp (config := { implicitDefEqProofs := false }) only [↓GP, GQ, ↓awp_seq, ↓awp_block, C_ex, Nat.reduceBEq, acap, afieldAddr, aload, astore, abin, anum, astr, aun, isAggD, cond_true, cond_false, ↓reduceIte, C_P, C_G, isTuple, Value.cells, setL, ares, aresL, ares1, reduceCtorEq, Nat.reduceEqDiff, eq_self, Nat.reduceAdd, if_true, if_false, one, Nat.reduceLeDiff, undef, gsl, aextract, aindexAddr, amake, implies_true, forall_const, alen, abuiltin, anil, isC, Int.reduceEq, Int.reduceLT, Int.reduceLE, Int.reduceAdd, Int.reduceToNat, Int.reduceNeg, Nat.reduceMul, Nat.reduceSub, abuild, afill, Int.reduceBNe, Int.reduceBEq, hp, asz62, afo64_1, Try.underlying62]
      refine ACallF.enter Try.func44 rfl (by kernel_rfl) (Clone_spec s _ _ l hs (hb.sub fun e he => by simp [he]) hl (by omega) _ _ fun b s2 hs2 => ?_)
      have hp2 := hs2.tail.head
      have hsrc : asrc (s2.new (.cells [.int .i64 at_, slo b] 76 true)) 2 (.slice (some ⟨s2.n, 0, none⟩) 1 1) = some (1, [.int .i64 at_, slo b]) := asrc_one (new_at _) rfl
      have e1 := abuildSlice_one (st := s2) (v := .agg #[.int .i64 at_, slo b]) Try.underlying62 asz76 azc76 rfl rfl rfl (by decide)
      have hlt := hs2.tail.lt (List.mem_cons_self ..)
      have hn3 : ¬ p = s2.n := by omega
      have hn4 : ¬ p = s2.n + 1 := by omega
      rcases hW with ⟨rfl, rfl, rfl⟩ | ⟨wb, pre, rfl, rfl⟩
      · simp (config := { implicitDefEqProofs := false }) only [↓GP, GQ, ↓awp_seq, ↓awp_block, C_ex, Nat.reduceBEq, acap, afieldAddr, aload, astore, abin, anum, astr, aun, isAggD, cond_true, cond_false, ↓reduceIte, C_P, C_G, isTuple, Value.cells, setL, ares, aresL, ares1, reduceCtorEq, Nat.reduceEqDiff, eq_self, Nat.reduceAdd, if_true, if_false, one, Nat.reduceLeDiff, undef, gsl, aextract, aindexAddr, amake, implies_true, forall_const, alen, abuiltin, anil, isC, Int.reduceEq, Int.reduceLT, Int.reduceLE, Int.reduceAdd, Int.reduceToNat, Int.reduceNeg, Nat.reduceMul, Nat.reduceSub, abuild, afill, Int.reduceBNe, Int.reduceBEq, hlen, hp2, asz62, afo64_1, Try.underlying62, Try.underlying76, azc76, apl76, e1,
          aappend_nil (t' := 62) (st := s2.new (.cells [.int .i64 at_, slo b] 76 true)) Try.underlying62 (by rw [Try.underlying62]; rfl) asz76 azc76 aby76 hsrc rfl (by decide) (by decide), hn3, hn4]
        refine hok b _ [(s2.n + 1, .cells [.int .i64 at_, slo b] 76 true)] _ h.1 h.2 hlen hz (.inr ⟨s2.n + 1, [], rfl, ?_⟩) ?_
        · simp [wc, Int.toNat_of_nonneg h.1]
        · exact (((hs2.new (.cells [.int .i64 at_, slo b] 76 true)).tail.new (.cells [.int .i64 at_, slo b] 76 true)).perm (perm_front [_, _] _ _)).set rfl _ rfl
      · have hwl := hs2.tail.tail.lt (List.mem_cons_self ..)
        have hw0 := hs2.tail.tail.head
        have hwn : ¬ wb = s2.n := by omega
        have hpw : ¬ p = wb := fun e => hs2.tail.ne rfl (List.mem_cons_self ..) e.symm
        simp (config := { implicitDefEqProofs := false }) only [↓GP, GQ, ↓awp_seq, ↓awp_block, C_ex, Nat.reduceBEq, acap, afieldAddr, aload, astore, abin, anum, astr, aun, isAggD, cond_true, cond_false, ↓reduceIte, C_P, C_G, isTuple, Value.cells, setL, ares, aresL, ares1, reduceCtorEq, Nat.reduceEqDiff, eq_self, Nat.reduceAdd, if_true, if_false, one, Nat.reduceLeDiff, undef, gsl, aextract, aindexAddr, amake, implies_true, forall_const, alen, abuiltin, anil, isC, Int.reduceEq, Int.reduceLT, Int.reduceLE, Int.reduceAdd, Int.reduceToNat, Int.reduceNeg, Nat.reduceMul, Nat.reduceSub, abuild, afill, Int.reduceBNe, Int.reduceBEq, hlen, hp2, asz62, afo64_1, Try.underlying62, Try.underlying76, azc76, apl76, e1,
          aappend_open (t' := 62) (st := s2.new (.cells [.int .i64 at_, slo b] 76 true)) (cap := W.length) Try.underlying62 (by rw [Try.underlying62]; rfl) asz76 azc76 aby76 hsrc rfl ((new_old _ hwl).trans hw0) wc_cut (by omega), hn3, hn4, hwn, hpw]
        refine hok b (.slice (some ⟨s2.n + 1, 0, some 0⟩) (W.length + 1) (W.length + 1)) [(s2.n + 1, .cells (wc W ++ [.int .i64 at_, slo b]) 76 true)] _ h.1 h.2 hlen hz (.inr ⟨s2.n + 1, [], ?_, ?_⟩) ?_
        · simp
        · simp [wc, Int.toNat_of_nonneg h.1]
        · exact (((((hs2.new (.cells [.int .i64 at_, slo b] 76 true)).tail.perm (perm_front [_, _] _ _)).kill rfl).new (.cells (wc W ++ [.int .i64 at_, slo b]) 76 true)).perm (perm_front [_, _] _ _)).set rfl _ rfl
  · simp (config := { implicitDefEqProofs := false }) only [↓GP, GQ, ↓awp_seq, ↓awp_block, C_ex, Nat.reduceBEq, acap, afieldAddr, aload, astore, abin, anum, astr, aun, isAggD, cond_true, cond_false, ↓reduceIte, C_P, C_G, isTuple, Value.cells, setL, ares, aresL, ares1, reduceCtorEq, Nat.reduceEqDiff, eq_self, Nat.reduceAdd, if_true, if_false, one, Nat.reduceLeDiff, undef, gsl, aextract, aindexAddr, amake, implies_true, forall_const, alen, abuiltin, anil, isC, Int.reduceEq, Int.reduceLT, Int.reduceLE, Int.reduceAdd, Int.reduceToNat, Int.reduceNeg, Nat.reduceMul, Nat.reduceSub, abuild, afill, Int.reduceBNe, Int.reduceBEq, h, decide_false, Bool.not_false]
    exact hbad fun hh => h ⟨hh.1, hh.2.1⟩
end Go.Proofs.Ytiooigkcliomlaa
