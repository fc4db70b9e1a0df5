/- A strings.Builder of the call's own. No conditions. -/
import Derived.Test.YthohmdkibkompaaDoorAbsT
import Derived.Test.YthohmdkibkompaaDoorAbsS
import Derived.Test.YthohmdkibkompaaDoorAbsQ
set_option linter.unusedVariables false
set_option linter.unusedSimpArgs false
namespace Go.Proofs.YthohmdkibkompaaDoor
open Go Go.Abs Go.RowKit
variable {base : Nat} {w0 : World} {G : Nat}

def okP (b : Nat) (p : Value) : Prop := p = .pointer none ∨ p = .pointer (some ⟨b, 0, none⟩)
theorem toUP {st : St} {b : Nat} {p v : Value} (hc : st.H b = some (.cells [p, v] 82 true)) : aconv Tryd.prog st 80 116 (.pointer (some ⟨b, 0, none⟩)) = some (.pointer (some ⟨b, 0, none⟩), st) := by
  simp [aconv, Tryd.underlying80, Tryd.underlying116, hc, asz82]
theorem ofUP {st : St} {b : Nat} {p v : Value} (hc : st.H b = some (.cells [p, v] 82 true)) : aconv Tryd.prog st 116 80 (.pointer (some ⟨b, 0, none⟩)) = some (.pointer (some ⟨b, 0, none⟩), st) := by
  simp [aconv, Tryd.underlying80, Tryd.underlying116, hc, asz82]
set_option maxRecDepth 10000 in
theorem copyCheck_spec (st : St) (r : Hp) (b : Nat) (p v : Value) (hp : okP b p) (hO : Own st ((b, .cells [p, v] 82 true) :: r)) (k q : Value → St → Prop)
    (hk : ∀ st', Own st' ((b, .cells [.pointer (some ⟨b, 0, none⟩), v] 82 true) :: r) → k (.tuple #[]) st') :
    ACall (C base w0 G) 51 [.pointer (some ⟨b, 0, none⟩)] st k q := by
  refine ACall.of (cx := C base w0 G) mixed Tryd.func51 rfl (by kernel_rfl) (by simp [Tryd.ntmps51]) ?_
  simp only [Tryd.results51]
  have hc := hO.head
  rcases hp with rfl | rfl
  · simp (config := { implicitDefEqProofs := false }) only [↓GP, ↓GM, GQ, abuiltinX, ↓awp_seq, ↓awp_block, C_ex, Nat.reduceBEq, acap, afieldAddr, aload, astore, abin, anum, astr, aun, isAggD, cond_true, cond_false, ↓reduceIte, C_P, C_G, isTuple, Value.cells, setL, ares, aresL, ares1, reduceCtorEq, Nat.reduceEqDiff, eq_self, Nat.reduceAdd, if_true, if_false, Go.Abs.one, Nat.reduceLeDiff, undef, gsl, aextract, aindexAddr, amake, implies_true, forall_const, alen, abuiltin, anil, isC, Int.reduceEq, Int.reduceLT, Int.reduceLE, Int.reduceAdd, Int.reduceToNat, Int.reduceNeg, Nat.reduceMul, Nat.reduceSub, abuild, afill, Int.reduceBNe, Int.reduceBEq, hc, afo82_0, asz80, Tryd.underlying80, toUP hc]
    refine ACallF.same Tryd.func64 (by kernel_rfl) rfl (by kernel_rfl) (by kernel_rfl) ?_
    simp (config := { implicitDefEqProofs := false }) only [↓GP, ↓GM, GQ, abuiltinX, ↓awp_seq, ↓awp_block, C_ex, Nat.reduceBEq, acap, afieldAddr, aload, astore, abin, anum, astr, aun, isAggD, cond_true, cond_false, ↓reduceIte, C_P, C_G, isTuple, Value.cells, setL, ares, aresL, ares1, reduceCtorEq, Nat.reduceEqDiff, eq_self, Nat.reduceAdd, if_true, if_false, Go.Abs.one, Nat.reduceLeDiff, undef, gsl, aextract, aindexAddr, amake, implies_true, forall_const, alen, abuiltin, anil, isC, Int.reduceEq, Int.reduceLT, Int.reduceLE, Int.reduceAdd, Int.reduceToNat, Int.reduceNeg, Nat.reduceMul, Nat.reduceSub, abuild, afill, Int.reduceBNe, Int.reduceBEq, hc, afo82_0, asz80, Tryd.underlying80, ofUP hc, asz82]
    exact hk _ (hO.set rfl (.cells [.pointer (some ⟨b, 0, none⟩), v] 82 true) rfl)
  · simp (config := { implicitDefEqProofs := false }) only [↓GP, ↓GM, GQ, abuiltinX, ↓awp_seq, ↓awp_block, C_ex, Nat.reduceBEq, acap, afieldAddr, aload, astore, abin, anum, astr, aun, isAggD, cond_true, cond_false, ↓reduceIte, C_P, C_G, isTuple, Value.cells, setL, ares, aresL, ares1, reduceCtorEq, Nat.reduceEqDiff, eq_self, Nat.reduceAdd, if_true, if_false, Go.Abs.one, Nat.reduceLeDiff, undef, gsl, aextract, aindexAddr, amake, implies_true, forall_const, alen, abuiltin, anil, isC, Int.reduceEq, Int.reduceLT, Int.reduceLE, Int.reduceAdd, Int.reduceToNat, Int.reduceNeg, Nat.reduceMul, Nat.reduceSub, abuild, afill, Int.reduceBNe, Int.reduceBEq, hc, afo82_0, asz80, Tryd.underlying80, asz82]
    exact hk _ hO
def Bld (b : Nat) (l : List Nat) (h : Hp) : Prop := ∃ p v hg, h = (b, Ob.cells [p, v] 82 true) :: hg ∧ GV v (nl l) l.length 1 5 hg ∧ (l = [] → v = .slice none 0 0) ∧ okP b p ∧ ∀ d ∈ l, d < 256
theorem Bld.new (b : Nat) : Bld b [] [(b, .cells [.pointer none, .slice none 0 0] 82 true)] := ⟨_, _, [], rfl, GV.nil, fun _ => rfl, .inl rfl, fun d hd => by simp at hd⟩
set_option maxRecDepth 10000 in
theorem WriteByte_spec (st : St) (r h : Hp) (b c : Nat) (l : List Nat) (hb : Bld b l h) (hc : c < 256) (hl : l.length ≤ 100000000) (hO : Own st (h ++ r)) (k q : Value → St → Prop)
    (hk : ∀ h' st', Bld b (l ++ [c]) h' → Own st' (h' ++ r) → k .nilIface st') :
    ACall (C base w0 G) 37 [.pointer (some ⟨b, 0, none⟩), .int .u8 c] st k q := by
  obtain ⟨p, v, hg, rfl, hG, hv0, hp, hd⟩ := hb
  refine ACall.of (cx := C base w0 G) mixed Tryd.func37 rfl (by kernel_rfl) (by simp [Tryd.ntmps37]) ?_
  simp only [Tryd.results37]
  simp (config := { implicitDefEqProofs := false }) only [↓GP, ↓GM, GQ, abuiltinX, ↓awp_seq, ↓awp_block, C_ex, Nat.reduceBEq, acap, afieldAddr, aload, astore, abin, anum, astr, aun, isAggD, cond_true, cond_false, ↓reduceIte, C_P, C_G, isTuple, Value.cells, setL, ares, aresL, ares1, reduceCtorEq, Nat.reduceEqDiff, eq_self, Nat.reduceAdd, if_true, if_false, Go.Abs.one, Nat.reduceLeDiff, undef, gsl, aextract, aindexAddr, amake, implies_true, forall_const, alen, abuiltin, anil, isC, Int.reduceEq, Int.reduceLT, Int.reduceLE, Int.reduceAdd, Int.reduceToNat, Int.reduceNeg, Nat.reduceMul, Nat.reduceSub, abuild, afill, Int.reduceBNe, Int.reduceBEq]
  refine ACallF.enter Tryd.func51 rfl (by kernel_rfl) (copyCheck_spec st _ b p v hp hO _ _ fun s1 hO1 => ?_)
  have hc1 := hO1.head
  simp (config := { implicitDefEqProofs := false }) only [↓GP, ↓GM, GQ, abuiltinX, ↓awp_seq, ↓awp_block, C_ex, Nat.reduceBEq, acap, afieldAddr, aload, astore, abin, anum, astr, aun, isAggD, cond_true, cond_false, ↓reduceIte, C_P, C_G, isTuple, Value.cells, setL, ares, aresL, ares1, reduceCtorEq, Nat.reduceEqDiff, eq_self, Nat.reduceAdd, if_true, if_false, Go.Abs.one, Nat.reduceLeDiff, undef, gsl, aextract, aindexAddr, amake, implies_true, forall_const, alen, abuiltin, anil, isC, Int.reduceEq, Int.reduceLT, Int.reduceLE, Int.reduceAdd, Int.reduceToNat, Int.reduceNeg, Nat.reduceMul, Nat.reduceSub, abuild, afill, Int.reduceBNe, Int.reduceBEq, hc1, afo82_1, asz38, Tryd.underlying38, abuildSlice_one (st := s1) (v := .int .u8 c) Tryd.underlying38 asz5 azc5 rfl rfl rfl (by decide)]
  have hO2 : Own s1 (hg ++ ((b, Ob.cells [.pointer (some ⟨b, 0, none⟩), v] 82 true) :: r)) := hO1.perm (perm_front hg _ r).symm
  refine GV.append1 Tryd.underlying38 (by rw [Tryd.underlying38]; rfl) asz5 azc5 (c := [.int .u8 c]) aby5 hG hO2 rfl rfl (by omega) fun v' h' s' hG' hs' => ?_
  have hO3 := hs'.perm (perm_front h' _ r)
  have hc3 := hO3.head
  obtain ⟨a', rfl⟩ := hG'.isSlice
  simp (config := { implicitDefEqProofs := false }) only [↓GP, ↓GM, GQ, abuiltinX, ↓awp_seq, ↓awp_block, C_ex, Nat.reduceBEq, acap, afieldAddr, aload, astore, abin, anum, astr, aun, isAggD, cond_true, cond_false, ↓reduceIte, C_P, C_G, isTuple, Value.cells, setL, ares, aresL, ares1, reduceCtorEq, Nat.reduceEqDiff, eq_self, Nat.reduceAdd, if_true, if_false, Go.Abs.one, Nat.reduceLeDiff, undef, gsl, aextract, aindexAddr, amake, implies_true, forall_const, alen, abuiltin, anil, isC, Int.reduceEq, Int.reduceLT, Int.reduceLE, Int.reduceAdd, Int.reduceToNat, Int.reduceNeg, Nat.reduceMul, Nat.reduceSub, abuild, afill, Int.reduceBNe, Int.reduceBEq, hc3, afo82_1, asz38, asz82, Tryd.underlying38, List.all_cons, List.all_nil, Bool.and_true, List.toList_toArray, List.size_toArray, List.length_cons, List.length_nil, and_self, true_and]
  refine hk _ _ ⟨_, _, h', rfl, ?_, fun e => absurd e (by simp), .inr rfl, ?_⟩ (hO3.set rfl (.cells [.pointer (some ⟨b, 0, none⟩), .slice a' (l.length + 1) (l.length + 1)] 82 true) rfl)
  · rw [nl_append, List.length_append]; exact hG'
  · intro d hd'
    rcases List.mem_append.1 hd' with h | h
    · exact hd d h
    · rw [List.mem_singleton.1 h]; exact hc
theorem asliceData_some {b o n c : Nat} {sp : Option Nat} : asliceData (.slice (some ⟨b, o, sp⟩) (n + 1) c) = some (.pointer (some ⟨b, o, none⟩)) := rfl
theorem asliceData_nil : asliceData (.slice none 0 0) = some (.pointer none) := rfl
theorem aunsafeStr_nil {P : Program} {st : St} {tys : Array TypeId} : aunsafeStr P st tys (.pointer none) (.int .i64 0) = some (.string ⟨#[]⟩, st) := rfl
theorem aunsafeStr_nl {P : Program} {st : St} {pt it e : TypeId} {b n : Nat} {D : List Value} {l : List Nat} (hB : st.H b = some (.cells D e true)) (hp : P.underlying pt = some (.pointer e)) (hc : P.cellsOf e = 1) (hn : n + 1 ≤ 9223372036854775807) (hcut : cut D 0 (n + 1) = some (nl l)) :
    aunsafeStr P st #[pt, it] (.pointer (some ⟨b, 0, none⟩)) (.int .i64 ((n + 1 : Nat) : Int)) = some (.string (str l), st.set b none) := by
  show (match st.H b, (#[pt, it] : Array TypeId)[0]? with
    | some (.cells cs ty true), some pt => match P.underlying pt with
      | some (.pointer e) => if P.cellsOf ty = 1 ∧ e = ty ∧ n + 1 ≤ 9223372036854775807 then match cut cs 0 (n + 1) with
          | some Cs => (u8s Cs).map fun ns => (Value.string (strOf ns), st.set b none)
          | none => none
        else none
      | _ => none
    | _, _ => none) = _
  rw [hB]
  simp only [List.getElem?_toArray, List.getElem?_cons_zero, hp, hc, hn, hcut, true_and, if_true]
  rw [show u8s (nl l) = some (l.map fun n : Nat => (n : Int)) from u8s_bl _, ← strOf_nat]
  rfl
set_option maxRecDepth 10000 in
theorem String_spec (st : St) (r h : Hp) (b : Nat) (l : List Nat) (hb : Bld b l h) (hl : l.length ≤ 100000000) (hO : Own st (h ++ r)) (k q : Value → St → Prop)
    (hk : ∀ st', Own st' r → k (.string (str l)) st') :
    ACall (C base w0 G) 38 [.pointer (some ⟨b, 0, none⟩)] st k q := by
  obtain ⟨p, v, hg, rfl, hG, hv0, hp, hd⟩ := hb
  refine ACall.of (cx := C base w0 G) mixed Tryd.func38 rfl (by kernel_rfl) (by simp [Tryd.ntmps38]) ?_
  simp only [Tryd.results38]
  have hc := hO.head
  simp (config := { implicitDefEqProofs := false }) only [↓GP, ↓GM, GQ, abuiltinX, ↓awp_seq, ↓awp_block, C_ex, Nat.reduceBEq, acap, afieldAddr, aload, astore, abin, anum, astr, aun, isAggD, cond_true, cond_false, ↓reduceIte, C_P, C_G, isTuple, Value.cells, setL, ares, aresL, ares1, reduceCtorEq, Nat.reduceEqDiff, eq_self, Nat.reduceAdd, if_true, if_false, Go.Abs.one, Nat.reduceLeDiff, undef, gsl, aextract, aindexAddr, amake, implies_true, forall_const, alen, abuiltin, anil, isC, Int.reduceEq, Int.reduceLT, Int.reduceLE, Int.reduceAdd, Int.reduceToNat, Int.reduceNeg, Nat.reduceMul, Nat.reduceSub, abuild, afill, Int.reduceBNe, Int.reduceBEq]
  cases l with
  | nil =>
    obtain rfl := hv0 rfl
    refine ADraw.of [(0, false, []), (1, false, []), (2, false, []), (3, false, []), (5, false, []), (6, false, []), (7, false, []), (8, true, []), (9, true, []), (4, false, [8, 9]), (10, false, []), (11, false, [])] [8, 9] [(8, 4), (9, 4)] (by kernel_rfl) ?_
    simp (config := { implicitDefEqProofs := false }) only [↓GP, ↓GM, GQ, abuiltinX, ↓awp_seq, ↓awp_block, C_ex, Nat.reduceBEq, acap, afieldAddr, aload, astore, abin, anum, astr, aun, isAggD, cond_true, cond_false, ↓reduceIte, C_P, C_G, isTuple, Value.cells, setL, ares, aresL, ares1, reduceCtorEq, Nat.reduceEqDiff, eq_self, Nat.reduceAdd, if_true, if_false, Go.Abs.one, Nat.reduceLeDiff, undef, gsl, aextract, aindexAddr, amake, implies_true, forall_const, alen, abuiltin, anil, isC, Int.reduceEq, Int.reduceLT, Int.reduceLE, Int.reduceAdd, Int.reduceToNat, Int.reduceNeg, Nat.reduceMul, Nat.reduceSub, abuild, afill, Int.reduceBNe, Int.reduceBEq, hc, afo82_1, asz38, Tryd.underlying38, asliceData_nil, aunsafeStr_nil]
    exact hk st hO.right
  | cons d0 l0 =>
    rcases hG with ⟨rfl, h2, h3, rfl⟩ | ⟨B, rfl, rfl, h3⟩
    · simp at h2
    have hcb := hO.get (b := B) (o := .cells (nl (d0 :: l0)) 5 true) (by simp)
    have hcut := cut_all (nl (d0 :: l0))
    rw [nl_length, List.length_cons] at hcut
    have hlen : (d0 :: l0).length = l0.length + 1 := rfl
    refine ADraw.of [(0, false, []), (1, false, []), (2, false, []), (3, false, []), (5, false, []), (6, false, []), (7, false, []), (8, true, []), (9, true, []), (4, false, [8, 9]), (10, false, []), (11, false, [])] [8, 9] [(8, 4), (9, 4)] (by kernel_rfl) ?_
    simp (config := { implicitDefEqProofs := false }) only [↓GP, ↓GM, GQ, abuiltinX, ↓awp_seq, ↓awp_block, C_ex, Nat.reduceBEq, acap, afieldAddr, aload, astore, abin, anum, astr, aun, isAggD, cond_true, cond_false, ↓reduceIte, C_P, C_G, isTuple, Value.cells, setL, ares, aresL, ares1, reduceCtorEq, Nat.reduceEqDiff, eq_self, Nat.reduceAdd, if_true, if_false, Go.Abs.one, Nat.reduceLeDiff, undef, gsl, aextract, aindexAddr, amake, implies_true, forall_const, alen, abuiltin, anil, isC, Int.reduceEq, Int.reduceLT, Int.reduceLE, Int.reduceAdd, Int.reduceToNat, Int.reduceNeg, Nat.reduceMul, Nat.reduceSub, abuild, afill, Int.reduceBNe, Int.reduceBEq, hc, hcb, hlen, afo82_1, asz38, Tryd.underlying38, asliceData_some, aunsafeStr_nl hcb Tryd.underlying99 cof5 (show l0.length + 1 ≤ 9223372036854775807 by rw [List.length_cons] at hl; omega) hcut]
    exact hk _ ((hO.perm (List.Perm.swap _ _ _)).kill rfl).tail
end Go.Proofs.YthohmdkibkompaaDoor
