/- The document's example. No conditions. -/
import Derived.Test.YthohmdkibkompaaDoorLoginH
set_option linter.unusedVariables false
set_option linter.unusedSimpArgs false
namespace Go.Proofs.YthohmdkibkompaaDoor
open Go Go.Abs Go.RowKit
variable {base : Nat} {w0 : World} {G : Nat}

def U0 : Rul := ⟨2, 50, 100, 3⟩
def ann : List Nat := [97, 110, 110]
def kk : List Nat := [107]
theorem ann_bt : Bt ann := by unfold Bt ann; decide
def d0 : DS := ⟨0, [], []⟩
def dI : Nat → DS
  | 0 => d0
  | 1 => ⟨0, [(ann, (1, 0))], []⟩
  | _ => ⟨0, [(ann, (2, 60))], []⟩
theorem kconv {st : St} {b : Nat} {cs : List Value} {o : Nat} {sp : Option Nat} (hb : st.H b = some (.cells cs 5 true)) : aconv Tryd.prog st 38 38 (.slice (some ⟨b, o, sp⟩) 1 1) = some (.slice (some ⟨b, o, sp⟩) 1 1, st) := by
  simp [aconv, Tryd.underlying38, Tryd.underlying5, hb, isU8]
theorem build1k {st : St} {x : Int} : abuildSlice Tryd.prog st 38 1 [(0, .int .u8 x)] = some (.slice (some ⟨st.n, 0, none⟩) 1 1, st.new (.cells [.int .u8 x] 5 true)) :=
  abuildSlice_one Tryd.underlying38 asz5 azc5 rfl rfl rfl (by decide)
theorem nb_k {r : Hp} {b : Nat} : Nb ((b, .cells [.int .u8 107] 5 true) :: r) (.slice (some ⟨b, 0, none⟩) 1 1) kk := nb_exact (l := kk) (ty := 5) (own := true) (List.mem_cons_self ..) (by unfold kk; decide)
theorem eq00 : ((str []).toList == (⟨#[]⟩ : ByteArray).toList) = true := by rw [show (⟨#[]⟩ : ByteArray) = str [] from rfl]; simp
theorem hexN_bt {l : List Nat} (h : Bt l) : ∀ i, Bt (hexN l i)
  | 0 => Bt.nil
  | i + 1 => (hexN_bt h i).app (by
    have := h.get i
    intro d hd
    simp only [List.mem_cons, List.not_mem_nil, or_false] at hd
    rcases hd with rfl | rfl
    · exact hexd_lt (by omega)
    · exact hexd_lt (by omega))
theorem tagN_bt {l key : List Nat} {n : Nat} (h : Bt l) : Bt (tagN l n key) :=
  ((h.app (dec_lt n)).app (Bt.one (by decide))).app ((hexN_bt (digest_lt _) _).take _)
theorem try1 : ∀ i, i < 2 → tryF U0 kk (dI i).c (dI i).F (dI i).L ann false 10 = ([mkC 2 ann [] (i + 1) (if i = 1 then 60 else 0)], [], 70)
  | 0, _ => rfl
  | 1, _ => rfl
theorem app1 : ∀ i, i < 2 → apL (dI i) [mkC 2 ann [] (i + 1) (if i = 1 then 60 else 0)] = dI (i + 1)
  | 0, _ => rfl
  | 1, _ => rfl
set_option maxHeartbeats 1000000 in
set_option maxRecDepth 10000 in
theorem Lawake_spec (st : St) (r : Hp) (ok : Bool) {kt : TypeId} (hT : TabOk w0) (hK : (0, .cells (wl ks0) kt ok) ∈ r) (hO : Own st r) (k q : Value → St → Prop) (hk : ∀ st', Own st' r → k (.bool true) st') : ACall (C base w0 4) 7 [] st k q := by
  refine ACall.of (cx := C base w0 4) mixed Tryd.func7 rfl (by kernel_rfl) (by simp [Tryd.ntmps7]) ?_
  simp only [Tryd.results7]
  have hO1 := hO.new (.cells [.int .u8 107] 5 true)
  simp (config := { implicitDefEqProofs := false }) only [↓GP, ↓GM, GQ, abuiltinX, ↓awp_seq, ↓awp_block, C_ex, Nat.reduceBEq, acap, afieldAddr, aload, astore, abin, anum, astr, aun, isAggD, cond_true, cond_false, ↓reduceIte, C_P, C_G, isTuple, Value.cells, setL, ares, aresL, ares1, reduceCtorEq, Nat.reduceEqDiff, eq_self, Nat.reduceAdd, if_true, if_false, Go.Abs.one, Nat.reduceLeDiff, undef, gsl, aextract, aindexAddr, amake, implies_true, forall_const, alen, abuiltin, anil, isC, Int.reduceEq, Int.reduceLT, Int.reduceLE, Int.reduceAdd, Int.reduceToNat, Int.reduceNeg, Nat.reduceMul, Nat.reduceSub, abuild, afill, Int.reduceBNe, Int.reduceBEq, azc23, apl23, Tryd.underlying23, List.length_cons, List.length_nil, List.set_cons_zero, List.set_cons_succ, List.getElem?_cons_zero, List.getElem?_cons_succ, Option.map_some, build1k, kconv hO1.head]
  refine ACallF.enter Tryd.func9 rfl (by kernel_rfl) (LNew_spec _ _ U0 kk _ rfl nb_k (by decide) hO1 _ _ fun D h s1 hD hO2 => ?_)
  simp (config := { implicitDefEqProofs := false }) only [↓GP, ↓GM, GQ, abuiltinX, ↓awp_seq, ↓awp_block, C_ex, Nat.reduceBEq, acap, afieldAddr, aload, astore, abin, anum, astr, aun, isAggD, cond_true, cond_false, ↓reduceIte, C_P, C_G, isTuple, Value.cells, setL, ares, aresL, ares1, reduceCtorEq, Nat.reduceEqDiff, eq_self, Nat.reduceAdd, if_true, if_false, Go.Abs.one, Nat.reduceLeDiff, undef, gsl, aextract, aindexAddr, amake, implies_true, forall_const, alen, abuiltin, anil, isC, Int.reduceEq, Int.reduceLT, Int.reduceLE, Int.reduceAdd, Int.reduceToNat, Int.reduceNeg, Nat.reduceMul, Nat.reduceSub, abuild, afill, Int.reduceBNe, Int.reduceBEq, Tryd.underlying27, Option.isNone]
  have hr : ∀ h' : Hp, ∀ s' : St, Own s' (h' ++ ((st.n, Ob.cells [.int .u8 107] 5 true) :: r)) → Own s' (h' ++ r) := fun h' s' hs => hs.sub (List.Sublist.append_left (List.sublist_cons_self _ r) h')
  have hO3 := hr _ _ hO2
  refine ⟨fun m ρ s => ∃ (i : Nat) (h : Hp), m = 2 - i ∧ i ≤ 2 ∧ ρ 1 = .pointer (some ⟨D, 0, none⟩) ∧ ρ 3 = .int .i64 i ∧ DskS D U0 kk (dI i) h ∧ Own s (h ++ r), ⟨2, 0, h, rfl, by decide, rfl, rfl, hD, hO3⟩, ?_⟩
  rintro _ ρ s ⟨i, h, rfl, hi, h1, h3, hD, hs⟩
  have eann : (⟨#[97, 110, 110]⟩ : ByteArray) = str ann := rfl
  by_cases hi2 : i < 2
  · have h2 : ((i : Int) < 2) = True := by simp; omega
    simp (config := { implicitDefEqProofs := false }) only [↓GP, ↓GM, GQ, abuiltinX, ↓awp_seq, ↓awp_block, C_ex, Nat.reduceBEq, acap, afieldAddr, aload, astore, abin, anum, astr, aun, isAggD, cond_true, cond_false, ↓reduceIte, C_P, C_G, isTuple, Value.cells, setL, ares, aresL, ares1, reduceCtorEq, Nat.reduceEqDiff, eq_self, Nat.reduceAdd, if_true, if_false, Go.Abs.one, Nat.reduceLeDiff, undef, gsl, aextract, aindexAddr, amake, implies_true, forall_const, alen, abuiltin, anil, isC, Int.reduceEq, Int.reduceLT, Int.reduceLE, Int.reduceAdd, Int.reduceToNat, Int.reduceNeg, Nat.reduceMul, Nat.reduceSub, abuild, afill, Int.reduceBNe, Int.reduceBEq, h1, h3, h2, decide_true, eann]
    have hok : (dI i).ok := by
      match i, hi2 with
      | 0, _ => exact ⟨fun x hx => by simp [dI, d0] at hx, by decide, by decide⟩
      | 1, _ => exact ⟨fun x hx => by simp [dI] at hx; subst hx; decide, by decide, by decide⟩
    have hLi : (dI i).L = [] := by
      match i, hi2 with
      | 0, _ => rfl
      | 1, _ => rfl
    refine ACallF.enter Tryd.func10 rfl (by kernel_rfl) (LTry_spec s r h D U0 kk (dI i).c 10 (dI i).F (dI i).L ann false ok hT rfl ann_bt (by rw [hLi]; decide) hok.1 hok.2.2 hok.2.1 (by decide) hD hK hs _ _ fun v g s2 hv hs2 => ?_)
    rw [try1 i hi2] at hv ⊢
    simp (config := { implicitDefEqProofs := false }) only [↓GP, ↓GM, GQ, abuiltinX, ↓awp_seq, ↓awp_block, C_ex, Nat.reduceBEq, acap, afieldAddr, aload, astore, abin, anum, astr, aun, isAggD, cond_true, cond_false, ↓reduceIte, C_P, C_G, isTuple, Value.cells, setL, ares, aresL, ares1, reduceCtorEq, Nat.reduceEqDiff, eq_self, Nat.reduceAdd, if_true, if_false, Go.Abs.one, Nat.reduceLeDiff, undef, gsl, aextract, aindexAddr, amake, implies_true, forall_const, alen, abuiltin, anil, isC, Int.reduceEq, Int.reduceLT, Int.reduceLE, Int.reduceAdd, Int.reduceToNat, Int.reduceNeg, Nat.reduceMul, Nat.reduceSub, abuild, afill, Int.reduceBNe, Int.reduceBEq, h1, eq00, Bool.not_true]
    have hs3 := hs2.perm (perm_swap g h r)
    refine ACallF.enter Tryd.func11 rfl (by kernel_rfl) (LApply_spec s2 (g ++ r) h D U0 kk (dI i) v _ hok (fun x hx => ?_) (by rw [hLi]; show 0 + 1 ≤ 100000; decide) hD (hv.sub fun e he => List.mem_append_left _ he) hs3 _ _ fun h' s4 hD' hs4 => ?_)
    · rw [List.mem_singleton.1 hx]
      exact ⟨ann_bt, Bt.nil, by show (-9223372036854775808 : Int) ≤ (i : Int) + 1; omega, by show (i : Int) + 1 ≤ 1152921504606846976; omega, by show (-9223372036854775808 : Int) ≤ (if i = 1 then 60 else 0); split <;> decide, by show (if i = 1 then (60 : Int) else 0) ≤ _; split <;> decide⟩
    · rw [app1 i hi2] at hD'
      have w1 : IntKind.i64.wrap ((i : Int) + 1) = ((i + 1 : Nat) : Int) := by rw [w_i64 (by omega)]; rfl
      have hm1 : myN [mkC 2 ann [] ((i : Int) + 1) (if i = 1 then 60 else 0)] = 1 := rfl
      rw [hm1]
      simp (config := { implicitDefEqProofs := false }) only [↓GP, ↓GM, GQ, abuiltinX, ↓awp_seq, ↓awp_block, C_ex, Nat.reduceBEq, acap, afieldAddr, aload, astore, abin, anum, astr, aun, isAggD, cond_true, cond_false, ↓reduceIte, C_P, C_G, isTuple, Value.cells, setL, ares, aresL, ares1, reduceCtorEq, Nat.reduceEqDiff, eq_self, Nat.reduceAdd, if_true, if_false, Go.Abs.one, Nat.reduceLeDiff, undef, gsl, aextract, aindexAddr, amake, implies_true, forall_const, alen, abuiltin, anil, isC, Int.reduceEq, Int.reduceLT, Int.reduceLE, Int.reduceAdd, Int.reduceToNat, Int.reduceNeg, Nat.reduceMul, Nat.reduceSub, abuild, afill, Int.reduceBNe, Int.reduceBEq, h1, h3, w1]
      exact ⟨2 - (i + 1), by omega, i + 1, h', rfl, by omega, rfl, hD', hs4.sub (List.Sublist.append_left (List.sublist_append_right g r) h')⟩
  · obtain rfl : i = 2 := by omega
    simp (config := { implicitDefEqProofs := false }) only [↓GP, ↓GM, GQ, abuiltinX, ↓awp_seq, ↓awp_block, C_ex, Nat.reduceBEq, acap, afieldAddr, aload, astore, abin, anum, astr, aun, isAggD, cond_true, cond_false, ↓reduceIte, C_P, C_G, isTuple, Value.cells, setL, ares, aresL, ares1, reduceCtorEq, Nat.reduceEqDiff, eq_self, Nat.reduceAdd, if_true, if_false, Go.Abs.one, Nat.reduceLeDiff, undef, gsl, aextract, aindexAddr, amake, implies_true, forall_const, alen, abuiltin, anil, isC, Int.reduceEq, Int.reduceLT, Int.reduceLE, Int.reduceAdd, Int.reduceToNat, Int.reduceNeg, Nat.reduceMul, Nat.reduceSub, abuild, afill, Int.reduceBNe, Int.reduceBEq, h1, h3, show ¬ ((2 : Nat) : Int) < 2 by decide, decide_false, eann]
    have hok : (dI 2).ok := ⟨fun x hx => by simp [dI] at hx; subst hx; decide, by decide, by decide⟩
    refine ACallF.enter Tryd.func10 rfl (by kernel_rfl) (LTry_spec s r h D U0 kk (dI 2).c 59 (dI 2).F (dI 2).L ann true ok hT rfl ann_bt (by decide) hok.1 hok.2.2 hok.2.1 (by decide) hD hK hs _ _ fun v g s2 hv hs2 => ?_)
    rw [show tryF U0 kk (dI 2).c (dI 2).F (dI 2).L ann true 59 = ([], [], 71) from rfl]
    simp (config := { implicitDefEqProofs := false }) only [↓GP, ↓GM, GQ, abuiltinX, ↓awp_seq, ↓awp_block, C_ex, Nat.reduceBEq, acap, afieldAddr, aload, astore, abin, anum, astr, aun, isAggD, cond_true, cond_false, ↓reduceIte, C_P, C_G, isTuple, Value.cells, setL, ares, aresL, ares1, reduceCtorEq, Nat.reduceEqDiff, eq_self, Nat.reduceAdd, if_true, if_false, Go.Abs.one, Nat.reduceLeDiff, undef, gsl, aextract, aindexAddr, amake, implies_true, forall_const, alen, abuiltin, anil, isC, Int.reduceEq, Int.reduceLT, Int.reduceLE, Int.reduceAdd, Int.reduceToNat, Int.reduceNeg, Nat.reduceMul, Nat.reduceSub, abuild, afill, Int.reduceBNe, Int.reduceBEq, h1]
    have hs3 : Own s2 (h ++ r) := hs2.right
    refine ACallF.enter Tryd.func10 rfl (by kernel_rfl) (LTry_spec s2 r h D U0 kk (dI 2).c 60 (dI 2).F (dI 2).L ann true ok hT rfl ann_bt (by decide) hok.1 hok.2.2 hok.2.1 (by decide) hD hK hs3 _ _ fun v2 g2 s4 hv2 hs4 => ?_)
    rw [show tryF U0 kk (dI 2).c (dI 2).F (dI 2).L ann true 60 = (okC (2, 60) 0 kk ann 60, tagS 0 kk, 0) from rfl] at hv2 ⊢
    have htb : Bt (tagS 0 kk) := tagN_bt (by unfold Bt; decide)
    simp (config := { implicitDefEqProofs := false }) only [↓GP, ↓GM, GQ, abuiltinX, ↓awp_seq, ↓awp_block, C_ex, Nat.reduceBEq, acap, afieldAddr, aload, astore, abin, anum, astr, aun, isAggD, cond_true, cond_false, ↓reduceIte, C_P, C_G, isTuple, Value.cells, setL, ares, aresL, ares1, reduceCtorEq, Nat.reduceEqDiff, eq_self, Nat.reduceAdd, if_true, if_false, Go.Abs.one, Nat.reduceLeDiff, undef, gsl, aextract, aindexAddr, amake, implies_true, forall_const, alen, abuiltin, anil, isC, Int.reduceEq, Int.reduceLT, Int.reduceLE, Int.reduceAdd, Int.reduceToNat, Int.reduceNeg, Nat.reduceMul, Nat.reduceSub, abuild, afill, Int.reduceBNe, Int.reduceBEq, h1]
    have hs5 := hs4.perm (perm_swap g2 h r)
    refine ACallF.enter Tryd.func11 rfl (by kernel_rfl) (LApply_spec s4 (g2 ++ r) h D U0 kk (dI 2) v2 _ hok (fun x hx => ?_) (by decide) hD (hv2.sub fun e he => List.mem_append_left _ he) hs5 _ _ fun h' s6 hD' hs6 => ?_)
    · rw [show okC (2, 60) 0 kk ann 60 = [mkC 2 ann [] 0 0, mkC 1 [] [] 1 0, mkC 3 (tagS 0 kk) ann 60 0] from rfl] at hx
      simp only [List.mem_cons, List.not_mem_nil, or_false] at hx
      rcases hx with rfl | rfl | rfl
      · exact ⟨ann_bt, Bt.nil, by decide, by decide, by decide, by decide⟩
      · exact ⟨Bt.nil, Bt.nil, by decide, by decide, by decide, by decide⟩
      · exact ⟨htb, ann_bt, by decide, by decide, by decide, by decide⟩
    · rw [show apL (dI 2) (okC (2, 60) 0 kk ann 60) = ⟨1, [], [⟨tagS 0 kk, ann, 60⟩]⟩ from rfl] at hD'
      simp (config := { implicitDefEqProofs := false }) only [↓GP, ↓GM, GQ, abuiltinX, ↓awp_seq, ↓awp_block, C_ex, Nat.reduceBEq, acap, afieldAddr, aload, astore, abin, anum, astr, aun, isAggD, cond_true, cond_false, ↓reduceIte, C_P, C_G, isTuple, Value.cells, setL, ares, aresL, ares1, reduceCtorEq, Nat.reduceEqDiff, eq_self, Nat.reduceAdd, if_true, if_false, Go.Abs.one, Nat.reduceLeDiff, undef, gsl, aextract, aindexAddr, amake, implies_true, forall_const, alen, abuiltin, anil, isC, Int.reduceEq, Int.reduceLT, Int.reduceLE, Int.reduceAdd, Int.reduceToNat, Int.reduceNeg, Nat.reduceMul, Nat.reduceSub, abuild, afill, Int.reduceBNe, Int.reduceBEq, h1]
      have hs7 : Own s6 (h' ++ r) := hs6.sub (List.Sublist.append_left (List.sublist_append_right g2 r) h')
      refine ACallF.enter Tryd.func12 rfl (by kernel_rfl) (LWho_spec s6 r h' D U0 kk 1 60 [] [⟨tagS 0 kk, ann, 60⟩] (tagS 0 kk) rfl htb (by decide) hD' hs7 _ _ fun s8 hs8 => ?_)
      have hwho : whoF U0 [⟨tagS 0 kk, ann, 60⟩] (tagS 0 kk) 60 = (ann, 60, true) := by
        have : isId (tagS 0 kk) ⟨tagS 0 kk, ann, 60⟩ = true := by simp [isId]
        simp only [whoF, fnd, this, cond_true, List.getElem?_cons_zero]
        rfl
      have eqaa : ((str ann).toList == (str ann).toList) = true := by simp
      rw [hwho]
      simp (config := { implicitDefEqProofs := false }) only [↓GP, ↓GM, GQ, abuiltinX, ↓awp_seq, ↓awp_block, C_ex, Nat.reduceBEq, acap, afieldAddr, aload, astore, abin, anum, astr, aun, isAggD, cond_true, cond_false, ↓reduceIte, C_P, C_G, isTuple, Value.cells, setL, ares, aresL, ares1, reduceCtorEq, Nat.reduceEqDiff, eq_self, Nat.reduceAdd, if_true, if_false, Go.Abs.one, Nat.reduceLeDiff, undef, gsl, aextract, aindexAddr, amake, implies_true, forall_const, alen, abuiltin, anil, isC, Int.reduceEq, Int.reduceLT, Int.reduceLE, Int.reduceAdd, Int.reduceToNat, Int.reduceNeg, Nat.reduceMul, Nat.reduceSub, abuild, afill, Int.reduceBNe, Int.reduceBEq, whoV, eann, eqaa]
      exact hk _ hs8.right
end Go.Proofs.YthohmdkibkompaaDoor
