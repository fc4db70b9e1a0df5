/- The desk: changes are made. No conditions. -/
import Derived.Test.YthohmdkibkompaaDoorLoginF
set_option linter.unusedVariables false
set_option linter.unusedSimpArgs false
namespace Go.Proofs.YthohmdkibkompaaDoor
open Go Go.Abs Go.RowKit
variable {base : Nat} {w0 : World} {G : Nat}

set_option maxRecDepth 10000 in
theorem Lshut_spec (st : St) (r h : Hp) (D : Nat) (U : Rul) (key : List Nat) (c : Int) (F : Fails) (L : List Ses) (id : List Nat) (hid : Bt id) (hn : L.length ≤ 100000) (hD : Dsk D U key c F L h) (hO : Own st (h ++ r)) (k q : Value → St → Prop)
    (hk : ∀ h' st', Dsk D U key c F (L.filter fun s => !isId id s) h' → Own st' (h' ++ r) → k (.tuple #[]) st') :
    ACall (C base w0 G) 23 [.pointer (some ⟨D, 0, none⟩), .string (str id)] st k q := by
  obtain ⟨sv, m, es, clk, l, hg, hs, rfl, hFM, hS, hLo, hsv⟩ := hD
  refine ACall.of (cx := C base w0 G) mixed Tryd.func23 rfl (by kernel_rfl) (by simp [Tryd.ntmps23]) ?_
  simp only [Tryd.results23]
  have hO1 := hO.new (.cells [.string (str id)] 9 true)
  have hcd := hO.head
  have hne := hO.freshH
  unfold dcells at hcd
  obtain ⟨a, cp, hls, _⟩ := hS.isSlice
  simp (config := { implicitDefEqProofs := false }) only [↓GP, ↓GM, GQ, abuiltinX, ↓awp_seq, ↓awp_block, C_ex, Nat.reduceBEq, acap, afieldAddr, aload, astore, abin, anum, astr, aun, isAggD, cond_true, cond_false, ↓reduceIte, C_P, C_G, isTuple, Value.cells, setL, ares, aresL, ares1, reduceCtorEq, Nat.reduceEqDiff, eq_self, Nat.reduceAdd, if_true, if_false, Go.Abs.one, Nat.reduceLeDiff, undef, gsl, aextract, aindexAddr, amake, implies_true, forall_const, alen, abuiltin, anil, isC, Int.reduceEq, Int.reduceLT, Int.reduceLE, Int.reduceAdd, Int.reduceToNat, Int.reduceNeg, Nat.reduceMul, Nat.reduceSub, abuild, afill, Int.reduceBNe, Int.reduceBEq, abox, asz9, hcd, hne, afo56_4, asz54, Tryd.underlying54, List.map_toArray, List.map_cons, List.map_nil]
  have hO2 : Own (st.new (.cells [.string (str id)] 9 true)) (hg ++ ((st.n, Ob.cells [.string (str id)] 9 true) :: (D, .cells (dcells U sv c m l) 56 true) :: (m, .map es clk) :: (hs ++ r))) :=
    hO1.perm (by simpa using perm_of [[(st.n, Ob.cells [.string (str id)] 9 true)], [(D, Ob.cells (dcells U sv c m l) 56 true)], [(m, .map es clk)], hg, hs, r] [0, 1, 2, 3, 4, 5] [3, 0, 1, 2, 4, 5] rfl)
  refine ACallF.enter Tryd.func32 rfl (by kernel_rfl) (SDelete_spec _ _ hg l L 33 _ (isId id) (shut1_pred _ st.n id true hid (List.mem_cons_self ..)) hS hLo hn hO2 _ _ fun l' hg' s1 hS' hO3 => ?_)
  obtain ⟨a', cp', hls', _⟩ := hS'.isSlice
  have hO4 : Own s1 ((D, .cells (dcells U sv c m l) 56 true) :: (m, .map es clk) :: (hg' ++ hs) ++ r) :=
    (hO3.perm (by simpa using perm_of [hg', [(st.n, Ob.cells [.string (str id)] 9 true)], [(D, Ob.cells (dcells U sv c m l) 56 true)], [(m, .map es clk)], hs, r] [0, 1, 2, 3, 4, 5] [1, 2, 3, 0, 4, 5] rfl)).tail
  have hcd := hO4.head
  unfold dcells at hcd
  rw [hls'] at hS' ⊢
  simp (config := { implicitDefEqProofs := false }) only [↓GP, ↓GM, GQ, abuiltinX, ↓awp_seq, ↓awp_block, C_ex, Nat.reduceBEq, acap, afieldAddr, aload, astore, abin, anum, astr, aun, isAggD, cond_true, cond_false, ↓reduceIte, C_P, C_G, isTuple, Value.cells, setL, ares, aresL, ares1, reduceCtorEq, Nat.reduceEqDiff, eq_self, Nat.reduceAdd, if_true, if_false, Go.Abs.one, Nat.reduceLeDiff, undef, gsl, aextract, aindexAddr, amake, implies_true, forall_const, alen, abuiltin, anil, isC, Int.reduceEq, Int.reduceLT, Int.reduceLE, Int.reduceAdd, Int.reduceToNat, Int.reduceNeg, Nat.reduceMul, Nat.reduceSub, abuild, afill, Int.reduceBNe, Int.reduceBEq, hcd, afo56_4, asz54, Tryd.underlying54, List.length_cons, List.length_nil, List.size_toArray, List.toList_toArray, List.all_cons, List.all_nil, Bool.and_true]
  exact hk _ _ ⟨sv, m, es, clk, _, hg', hs, rfl, hFM, hS', fun s hs => hLo s (List.mem_filter.1 hs).1, hsv⟩ (hO4.set rfl (.cells (dcells U sv c m (.slice a' (L.filter fun s => !isId id s).length cp')) 56 true) rfl)
theorem SB.x {l : Value} {L : List Ses} {hg : Hp} (h : SB l L hg) : GVx l (sesL L) L.length 3 64 hg := by
  rcases h with ⟨rfl, rfl, rfl⟩ | ⟨B, c, T, rfl, hc, rfl⟩
  · exact GVx.nil
  · refine .inr (.inr ⟨B, c, _, rfl, rfl, ?_⟩)
    have := sesL_length L
    unfold cut
    rw [if_pos (by rw [List.length_append]; omega), List.drop_zero, ← this, List.take_left]
theorem SB.of {l : Value} {L : List Ses} {hg : Hp} (h : GV l (sesL L) L.length 3 64 hg) : SB l L hg := by
  rcases h with ⟨rfl, h2, h3, rfl⟩ | ⟨B, rfl, rfl, h3⟩
  · exact .inl ⟨rfl, List.eq_nil_of_length_eq_zero h2, rfl⟩
  · exact .inr ⟨B, _, [], rfl, Nat.le_refl _, by rw [List.append_nil]⟩
/-- What a desk knows. -/
structure DS where
  c : Int
  F : Fails
  L : List Ses
def DS.ok (d : DS) : Prop := Fails.ok d.F ∧ -9223372036854775808 ≤ d.c ∧ d.c ≤ 1152921504606846976
def Chg.ok (x : Chg) : Prop := Bt x.a ∧ Bt x.b ∧ -9223372036854775808 ≤ x.n ∧ x.n ≤ 1152921504606846976 ∧ -9223372036854775808 ≤ x.m ∧ x.m ≤ 9223372036854775807
def apF (d : DS) (x : Chg) : DS :=
  if x.k = 1 then { d with c := x.n }
  else if x.k = 2 then { d with F := if x.n = 0 then mdel x.a (mput x.a (x.n, x.m) d.F) else mput x.a (x.n, x.m) d.F }
  else if x.k = 3 then { d with L := (d.L.filter fun s => !isId x.a s) ++ [⟨x.a, x.b, x.n⟩] }
  else if x.k = 4 then { d with L := d.L.filter fun s => !isId x.a s }
  else d
def isMy (x : Chg) : Bool := decide (1 ≤ x.k) && decide (x.k ≤ 4)
def DskS (D : Nat) (U : Rul) (key : List Nat) (d : DS) (h : Hp) : Prop := Dsk D U key d.c d.F d.L h
theorem mput_ok {F : Fails} (h : Fails.ok F) {a : List Nat} {v : Int × Int} (hv : -9223372036854775808 ≤ v.1 ∧ v.1 ≤ 1152921504606846976 ∧ -9223372036854775808 ≤ v.2 ∧ v.2 ≤ 9223372036854775807) : Fails.ok (mput a v F) := by
  induction F with
  | nil => intro x hx; simp [mput] at hx; subst hx; exact hv
  | cons y F ih =>
    obtain ⟨b, u⟩ := y
    intro x hx
    unfold mput at hx
    split at hx
    · rcases List.mem_cons.1 hx with rfl | hx
      · exact hv
      · exact h x (List.mem_cons_of_mem _ hx)
    · rcases List.mem_cons.1 hx with rfl | hx
      · exact h _ (List.mem_cons_self ..)
      · exact ih (fun z hz => h z (List.mem_cons_of_mem _ hz)) x hx
theorem mdel_mem {α : Type} {a : List Nat} {F : List (List Nat × α)} : ∀ x ∈ mdel a F, x ∈ F := by
  induction F with
  | nil => intro x hx; simp [mdel] at hx
  | cons y F ih =>
    obtain ⟨b, u⟩ := y
    intro x hx
    unfold mdel at hx
    split at hx
    · exact List.mem_cons_of_mem _ hx
    · rcases List.mem_cons.1 hx with rfl | hx
      · exact List.mem_cons_self ..
      · exact List.mem_cons_of_mem _ (ih x hx)
theorem apF_ok {d : DS} {x : Chg} (hd : d.ok) (hx : x.ok) : (apF d x).ok := by
  obtain ⟨h1, h2, h3⟩ := hd
  obtain ⟨a, b, e, f, g, i⟩ := hx
  unfold apF
  split
  · exact ⟨h1, e, f⟩
  split
  · refine ⟨?_, h2, h3⟩
    have hp : Fails.ok (mput x.a (x.n, x.m) d.F) := mput_ok h1 ⟨e, f, g, i⟩
    show Fails.ok (if x.n = 0 then _ else _)
    split
    · exact fun y hy => hp y (mdel_mem y hy)
    · exact hp
  split
  · exact ⟨h1, h2, h3⟩
  split <;> exact ⟨h1, h2, h3⟩
theorem apF_len {d : DS} {x : Chg} : (apF d x).L.length ≤ d.L.length + 1 := by
  unfold apF
  have h1 := List.length_filter_le (fun s => !isId x.a s) d.L
  split
  · simp
  split
  · simp
  split
  · simp; exact h1
  split
  · show (d.L.filter _).length ≤ _; omega
  · simp
def apL (d : DS) (cs : List Chg) : DS := cs.foldl apF d
def myN (cs : List Chg) : Nat := (cs.filter isMy).length
set_option maxHeartbeats 1000000 in
set_option maxRecDepth 10000 in
theorem LApply_spec (st : St) (r h : Hp) (D : Nat) (U : Rul) (key : List Nat) (d : DS) (v : Value) (cs : List Chg) (hd : d.ok) (hcs : ∀ x ∈ cs, x.ok) (hn : d.L.length + cs.length ≤ 100000) (hD : DskS D U key d h) (hv : CL' r v cs) (hO : Own st (h ++ r)) (k q : Value → St → Prop)
    (hk : ∀ h' st', DskS D U key (apL d cs) h' → Own st' (h' ++ r) → k (.int .i64 (myN cs : Nat)) st') :
    ACall (C base w0 G) 11 [.pointer (some ⟨D, 0, none⟩), v] st k q := by
  obtain ⟨a, cp, hls, _⟩ := hv.isSlice
  rw [List.length_map] at hls
  refine ACall.of (cx := C base w0 G) mixed Tryd.func11 rfl (by kernel_rfl) (by simp [Tryd.ntmps11]) ?_
  simp only [Tryd.results11]
  simp (config := { implicitDefEqProofs := false }) only [↓GP, ↓GM, GQ, abuiltinX, ↓awp_seq, ↓awp_block, C_ex, Nat.reduceBEq, acap, afieldAddr, aload, astore, abin, anum, astr, aun, isAggD, cond_true, cond_false, ↓reduceIte, C_P, C_G, isTuple, Value.cells, setL, ares, aresL, ares1, reduceCtorEq, Nat.reduceEqDiff, eq_self, Nat.reduceAdd, if_true, if_false, Go.Abs.one, Nat.reduceLeDiff, undef, gsl, aextract, aindexAddr, amake, implies_true, forall_const, alen, abuiltin, anil, isC, Int.reduceEq, Int.reduceLT, Int.reduceLE, Int.reduceAdd, Int.reduceToNat, Int.reduceNeg, Nat.reduceMul, Nat.reduceSub, abuild, afill, Int.reduceBNe, Int.reduceBEq, hls, Tryd.underlying31]
  refine ⟨fun m ρ s => ∃ (i : Nat) (h' : Hp), m = cs.length - i ∧ i ≤ cs.length ∧ ρ 0 = .pointer (some ⟨D, 0, none⟩) ∧ ρ 5 = .int .i64 (myN (cs.take i) : Nat) ∧ ρ 8 = v ∧ ρ 9 = .int .i64 cs.length ∧ ρ 10 = .int .i64 i ∧ DskS D U key (apL d (cs.take i)) h' ∧ (apL d (cs.take i)).ok ∧ (apL d (cs.take i)).L.length ≤ d.L.length + i ∧ Own s (h' ++ r),
    ⟨_, 0, h, rfl, Nat.zero_le _, rfl, rfl, hls.symm, rfl, rfl, hD, hd, Nat.le_refl _, hO⟩, ?_⟩
  rintro _ ρ s ⟨i, h', rfl, hi, h0, h5, h8, h9, h10, hDi, hok, hlen, hs⟩
  by_cases him : i < cs.length
  · obtain ⟨x, o, sp, c', ccs, ty, own, hvx, hmem, hcut⟩ := hv.mem (i := i) (l := (cs[i]).cells) (by simp [him])
    rw [List.length_map] at hvx
    have hcx := hs.get (List.mem_append_right h' hmem)
    have hxi : cs[i]? = some cs[i] := List.getElem?_eq_getElem him
    have hxok := hcs cs[i] (List.getElem_mem him)
    have htk : apL d (cs.take (i + 1)) = apF (apL d (cs.take i)) cs[i] := by rw [apL, List.take_add_one, hxi, List.foldl_append]; rfl
    have hmy : myN (cs.take (i + 1)) = myN (cs.take i) + (bif isMy cs[i] then 1 else 0) := filter_take_succ hxi
    have hmle : myN (cs.take i) ≤ i := by
      have := List.length_filter_le isMy (cs.take i)
      rw [List.length_take] at this
      unfold myN
      omega
    generalize cs[i] = X at *
    generalize apL d (cs.take i) = e at *
    generalize myN (cs.take i) = M at *
    have hset7 : setL [Value.int .i64 0, .string ⟨#[]⟩, .string ⟨#[]⟩, .string ⟨#[]⟩, .string ⟨#[]⟩, .int .i64 0, .int .i64 0] 0 X.cells = X.cells := rfl
    have hs2 := (hs.new (.cells [.int .i64 0, .string ⟨#[]⟩, .string ⟨#[]⟩, .string ⟨#[]⟩, .string ⟨#[]⟩, .int .i64 0, .int .i64 0] 36 true)).set rfl (.cells X.cells 36 true) rfl
    have w1 : IntKind.i64.wrap ((M : Int) + 1) = ((M + 1 : Nat) : Int) := by rw [w_i64 (by omega)]; rfl
    have w2 : IntKind.i64.wrap ((i : Int) + 1) = ((i + 1 : Nat) : Int) := by rw [w_i64 (by omega)]; rfl
    simp (config := { implicitDefEqProofs := false }) only [↓GP, ↓GM, GQ, abuiltinX, ↓awp_seq, ↓awp_block, C_ex, Nat.reduceBEq, acap, afieldAddr, aload, astore, abin, anum, astr, aun, isAggD, cond_true, cond_false, ↓reduceIte, C_P, C_G, isTuple, Value.cells, setL, ares, aresL, ares1, reduceCtorEq, Nat.reduceEqDiff, eq_self, Nat.reduceAdd, if_true, if_false, Go.Abs.one, Nat.reduceLeDiff, undef, gsl, aextract, aindexAddr, amake, implies_true, forall_const, alen, abuiltin, anil, isC, Int.reduceEq, Int.reduceLT, Int.reduceLE, Int.reduceAdd, Int.reduceToNat, Int.reduceNeg, Nat.reduceMul, Nat.reduceSub, abuild, afill, Int.reduceBNe, Int.reduceBEq, h0, h5, h8, h9, h10, hvx, him, Int.ofNat_lt, decide_true, hcx, hcut, asz36, azc36, aalloc, Tryd.underlying31, Tryd.underlying36, Option.map_some, hset7, w1]
    refine ⟨by omega, ⟨rfl, rfl⟩, ?_⟩
    generalize (s.new (.cells [.int .i64 0, .string ⟨#[]⟩, .string ⟨#[]⟩, .string ⟨#[]⟩, .string ⟨#[]⟩, .int .i64 0, .int .i64 0] 36 true)).set s.n (some (.cells X.cells 36 true)) = s2 at hs2 ⊢
    generalize s.n = E at *
    have hcE := hs2.head
    unfold Chg.cells at hcE
    have hapl := apF_len (d := e) (x := X)
    have hapo := apF_ok hok hxok
    obtain ⟨c, F, L⟩ := e
    by_cases k1 : X.k = 1
    · have ek : (X.k == 1) = true := by rw [k1]; rfl
      have em : isMy X = true := by rw [isMy, k1]; rfl
      have ea : apF ⟨c, F, L⟩ X = ⟨X.n, F, L⟩ := by rw [apF, if_pos k1]
      rw [ea] at hapl hapo htk
      rw [em, cond_true] at hmy
      obtain ⟨sv, m, es, clk, l, hg, hss, rfl, hFM, hS, hLo, hsv⟩ := hDi
      have hcd := hs2.tail.head
      have hne := hs2.ne rfl (b' := D) (o' := .cells (dcells U sv c m l) 56 true) (by simp)
      have hs3 := (hs2.perm (List.Perm.swap _ _ _)).set rfl (.cells (dcells U sv X.n m l) 56 true) rfl
      have hs4 := (hs3.perm (List.Perm.swap _ _ _)).tail
      unfold dcells at hcd
      simp (config := { implicitDefEqProofs := false }) only [↓GP, ↓GM, GQ, abuiltinX, ↓awp_seq, ↓awp_block, C_ex, Nat.reduceBEq, acap, afieldAddr, aload, astore, abin, anum, astr, aun, isAggD, cond_true, cond_false, ↓reduceIte, C_P, C_G, isTuple, Value.cells, setL, ares, aresL, ares1, reduceCtorEq, Nat.reduceEqDiff, eq_self, Nat.reduceAdd, if_true, if_false, Go.Abs.one, Nat.reduceLeDiff, undef, gsl, aextract, aindexAddr, amake, implies_true, forall_const, alen, abuiltin, anil, isC, Int.reduceEq, Int.reduceLT, Int.reduceLE, Int.reduceAdd, Int.reduceToNat, Int.reduceNeg, Nat.reduceMul, Nat.reduceSub, abuild, afill, Int.reduceBNe, Int.reduceBEq, h0, h8, h9, h10, hcE, hcd, ek, hvx, afo36_0, afo36_5, afo56_2, asz3, Tryd.underlying3, w2]
      exact ⟨cs.length - (i + 1), by omega, i + 1, (D, .cells (dcells U sv X.n m l) 56 true) :: (m, .map es clk) :: (hg ++ hss), rfl, by omega, by rw [hmy], rfl, by rw [htk]; exact ⟨sv, m, es, clk, l, hg, hss, rfl, hFM, hS, hLo, hsv⟩, by rw [htk]; exact hapo, by rw [htk]; exact Nat.le_trans hapl (Nat.succ_le_succ hlen), hs4⟩
    by_cases k2 : X.k = 2
    · have em : isMy X = true := by rw [isMy, k2]; rfl
      rw [em, cond_true] at hmy
      have e1 : (X.k == 1) = false := by rw [k2]; rfl
      have e2 : (X.k == 2) = true := by rw [k2]; rfl
      have e3 : (X.k == 3) = false := by rw [k2]; rfl
      have e4 : (X.k == 4) = false := by rw [k2]; rfl
      obtain ⟨sv, m, es, clk, l, hg, hss, rfl, hFM, hS, hLo, hsv⟩ := hDi
      have hcd := hs2.tail.head
      unfold dcells at hcd
      have hs3 := hs2.perm (show List.Perm _ ((m, Ob.map es clk) :: (E, .cells X.cells 36 true) :: (D, .cells (dcells U sv c m l) 56 true) :: (hg ++ hss ++ r)) from by simpa using perm_of [[(E, Ob.cells X.cells 36 true)], [(D, .cells (dcells U sv c m l) 56 true)], [(m, Ob.map es clk)], hg, hss, r] [0, 1, 2, 3, 4, 5] [2, 0, 1, 3, 4, 5] rfl)
      obtain ⟨es', clk', hmu, hFM'⟩ := amapUpdate_str (P := Tryd.prog) (t := 53) (st := s2) (k := X.a) (X.n, X.m) akM hs3.head hFM hxok.1
      unfold failV at hmu
      have hnE : ¬ E = m := hs3.ne rfl (b' := E) (o' := .cells X.cells 36 true) (by simp)
      have hnD : ¬ D = m := hs3.ne rfl (b' := D) (o' := .cells (dcells U sv c m l) 56 true) (by simp)
      have hs5 := hs3.set rfl (.map es' clk') rfl
      simp (config := { implicitDefEqProofs := false }) only [↓GP, ↓GM, GQ, abuiltinX, ↓awp_seq, ↓awp_block, C_ex, Nat.reduceBEq, acap, afieldAddr, aload, astore, abin, anum, astr, aun, isAggD, cond_true, cond_false, ↓reduceIte, C_P, C_G, isTuple, Value.cells, setL, ares, aresL, ares1, reduceCtorEq, Nat.reduceEqDiff, eq_self, Nat.reduceAdd, if_true, if_false, Go.Abs.one, Nat.reduceLeDiff, undef, gsl, aextract, aindexAddr, amake, implies_true, forall_const, alen, abuiltin, anil, isC, Int.reduceEq, Int.reduceLT, Int.reduceLE, Int.reduceAdd, Int.reduceToNat, Int.reduceNeg, Nat.reduceMul, Nat.reduceSub, abuild, afill, Int.reduceBNe, Int.reduceBEq, h0, h8, h9, h10, hcE, hcd, e1, e2, hvx, afo36_0, asz3, Tryd.underlying3]
      refine ADraw.of [(0, false, []), (1, false, []), (2, false, []), (3, false, []), (4, false, []), (5, false, []), (6, false, []), (7, false, []), (8, false, []), (9, false, []), (10, false, []), (11, false, [])] [] [] (by kernel_rfl) ?_
      simp (config := { implicitDefEqProofs := false }) only [↓GP, ↓GM, GQ, abuiltinX, ↓awp_seq, ↓awp_block, C_ex, Nat.reduceBEq, acap, afieldAddr, aload, astore, abin, anum, astr, aun, isAggD, cond_true, cond_false, ↓reduceIte, C_P, C_G, isTuple, Value.cells, setL, ares, aresL, ares1, reduceCtorEq, Nat.reduceEqDiff, eq_self, Nat.reduceAdd, if_true, if_false, Go.Abs.one, Nat.reduceLeDiff, undef, gsl, aextract, aindexAddr, amake, implies_true, forall_const, alen, abuiltin, anil, isC, Int.reduceEq, Int.reduceLT, Int.reduceLE, Int.reduceAdd, Int.reduceToNat, Int.reduceNeg, Nat.reduceMul, Nat.reduceSub, abuild, afill, Int.reduceBNe, Int.reduceBEq, h0, h8, h9, h10, hcE, hcd, hvx, hmu, hnE, hnD, afo36_1, afo36_5, afo36_6, afo56_3, asz3, asz9, asz53, Tryd.underlying3, Tryd.underlying9, Tryd.underlying53, azc58, apl58, Tryd.underlying58, List.length_cons, List.length_nil, List.set_cons_zero, List.set_cons_succ, List.getElem?_cons_zero, List.getElem?_cons_succ, Option.map_some]
      refine ⟨fun n0 => ?_, fun n0 => ?_⟩
      · obtain ⟨es2, clk2, hdl, hFM2⟩ := adelete_str (P := Tryd.prog) (t := 53) (st := s2.set m (some (.map es' clk'))) (k := X.a) akM hs5.head hFM' hxok.1
        have ea : apF ⟨c, F, L⟩ X = ⟨c, mdel X.a (mput X.a (X.n, X.m) F), L⟩ := by rw [apF, if_neg k1, if_pos k2, if_pos n0]
        rw [ea] at hapl hapo htk
        have hs6 := hs5.set rfl (.map es2 clk2) rfl
        have hs4 := hs6.perm (show List.Perm _ ((E, .cells X.cells 36 true) :: ((D, .cells (dcells U sv c m l) 56 true) :: (m, Ob.map es2 clk2) :: (hg ++ hss) ++ r)) from by simpa using perm_of [[(E, Ob.cells X.cells 36 true)], [(D, .cells (dcells U sv c m l) 56 true)], [(m, Ob.map es2 clk2)], hg, hss, r] [2, 0, 1, 3, 4, 5] [0, 1, 2, 3, 4, 5] rfl)
        refine ADraw.of [(0, false, []), (1, false, []), (2, false, []), (3, false, []), (4, false, []), (5, false, []), (6, false, [])] [] [] (by kernel_rfl) ?_
        simp (config := { implicitDefEqProofs := false }) only [↓GP, ↓GM, GQ, abuiltinX, ↓awp_seq, ↓awp_block, C_ex, Nat.reduceBEq, acap, afieldAddr, aload, astore, abin, anum, astr, aun, isAggD, cond_true, cond_false, ↓reduceIte, C_P, C_G, isTuple, Value.cells, setL, ares, aresL, ares1, reduceCtorEq, Nat.reduceEqDiff, eq_self, Nat.reduceAdd, if_true, if_false, Go.Abs.one, Nat.reduceLeDiff, undef, gsl, aextract, aindexAddr, amake, implies_true, forall_const, alen, abuiltin, anil, isC, Int.reduceEq, Int.reduceLT, Int.reduceLE, Int.reduceAdd, Int.reduceToNat, Int.reduceNeg, Nat.reduceMul, Nat.reduceSub, abuild, afill, Int.reduceBNe, Int.reduceBEq, h0, h8, h9, h10, hcE, hcd, hvx, hdl, hnE, hnD, w2, afo36_1, afo56_3, asz9, asz53, Tryd.underlying9, Tryd.underlying53, Option.map_some]
        exact ⟨cs.length - (i + 1), by omega, i + 1, (D, .cells (dcells U sv c m l) 56 true) :: (m, .map es2 clk2) :: (hg ++ hss), rfl, by omega, by rw [hmy], rfl, by rw [htk]; exact ⟨sv, m, es2, clk2, l, hg, hss, rfl, hFM2, hS, hLo, hsv⟩, by rw [htk]; exact hapo, by rw [htk]; exact Nat.le_trans hapl (Nat.succ_le_succ hlen), hs4.tail⟩
      · have ea : apF ⟨c, F, L⟩ X = ⟨c, mput X.a (X.n, X.m) F, L⟩ := by rw [apF, if_neg k1, if_pos k2, if_neg n0]
        rw [ea] at hapl hapo htk
        have hs4 := hs5.perm (show List.Perm _ ((E, .cells X.cells 36 true) :: ((D, .cells (dcells U sv c m l) 56 true) :: (m, Ob.map es' clk') :: (hg ++ hss) ++ r)) from by simpa using perm_of [[(E, Ob.cells X.cells 36 true)], [(D, .cells (dcells U sv c m l) 56 true)], [(m, Ob.map es' clk')], hg, hss, r] [2, 0, 1, 3, 4, 5] [0, 1, 2, 3, 4, 5] rfl)
        simp (config := { implicitDefEqProofs := false }) only [↓GP, ↓GM, GQ, abuiltinX, ↓awp_seq, ↓awp_block, C_ex, Nat.reduceBEq, acap, afieldAddr, aload, astore, abin, anum, astr, aun, isAggD, cond_true, cond_false, ↓reduceIte, C_P, C_G, isTuple, Value.cells, setL, ares, aresL, ares1, reduceCtorEq, Nat.reduceEqDiff, eq_self, Nat.reduceAdd, if_true, if_false, Go.Abs.one, Nat.reduceLeDiff, undef, gsl, aextract, aindexAddr, amake, implies_true, forall_const, alen, abuiltin, anil, isC, Int.reduceEq, Int.reduceLT, Int.reduceLE, Int.reduceAdd, Int.reduceToNat, Int.reduceNeg, Nat.reduceMul, Nat.reduceSub, abuild, afill, Int.reduceBNe, Int.reduceBEq, h0, h8, h9, h10, hvx, w2]
        exact ⟨cs.length - (i + 1), by omega, i + 1, (D, .cells (dcells U sv c m l) 56 true) :: (m, .map es' clk') :: (hg ++ hss), rfl, by omega, by rw [hmy], rfl, by rw [htk]; exact ⟨sv, m, es', clk', l, hg, hss, rfl, hFM', hS, hLo, hsv⟩, by rw [htk]; exact hapo, by rw [htk]; exact Nat.le_trans hapl (Nat.succ_le_succ hlen), hs4.tail⟩
    by_cases k3 : X.k = 3
    · have em : isMy X = true := by rw [isMy, k3]; rfl
      rw [em, cond_true] at hmy
      have e1 : (X.k == 1) = false := by rw [k3]; rfl
      have e2 : (X.k == 2) = false := by rw [k3]; rfl
      have e3 : (X.k == 3) = true := by rw [k3]; rfl
      have e4 : (X.k == 4) = false := by rw [k3]; rfl
      have ea : apF ⟨c, F, L⟩ X = ⟨c, F, (L.filter fun s => !isId X.a s) ++ [⟨X.a, X.b, X.n⟩]⟩ := by rw [apF, if_neg k1, if_neg k2, if_pos k3]
      rw [ea] at hapl hapo htk
      have hs3 := hs2.perm (perm_front h' (E, Ob.cells X.cells 36 true) r).symm
      simp (config := { implicitDefEqProofs := false }) only [↓GP, ↓GM, GQ, abuiltinX, ↓awp_seq, ↓awp_block, C_ex, Nat.reduceBEq, acap, afieldAddr, aload, astore, abin, anum, astr, aun, isAggD, cond_true, cond_false, ↓reduceIte, C_P, C_G, isTuple, Value.cells, setL, ares, aresL, ares1, reduceCtorEq, Nat.reduceEqDiff, eq_self, Nat.reduceAdd, if_true, if_false, Go.Abs.one, Nat.reduceLeDiff, undef, gsl, aextract, aindexAddr, amake, implies_true, forall_const, alen, abuiltin, anil, isC, Int.reduceEq, Int.reduceLT, Int.reduceLE, Int.reduceAdd, Int.reduceToNat, Int.reduceNeg, Nat.reduceMul, Nat.reduceSub, abuild, afill, Int.reduceBNe, Int.reduceBEq, h0, h8, h9, h10, hcE, e1, e2, e3, e4, hvx, afo36_0, afo36_1, asz3, asz9, Tryd.underlying3, Tryd.underlying9]
      refine ACallF.enter Tryd.func23 rfl (by kernel_rfl) (Lshut_spec s2 _ h' D U key c F L X.a hxok.1 (by simp only at hlen; omega) hDi hs3 _ _ fun h2 s3 hD2 hO3 => ?_)
      obtain ⟨sv, m, es, clk, l, hg, hss, rfl, hFM, hS, hLo, hsv⟩ := hD2
      generalize (L.filter fun s => !isId X.a s) = L2 at *
      have hcd := hO3.head
      unfold dcells at hcd
      have hcE := hO3.get (b := E) (o := .cells X.cells 36 true) (by simp)
      unfold Chg.cells at hcE
      have hL2 : L2.length ≤ 100000 := by
        have : (L2 ++ [(⟨X.a, X.b, X.n⟩ : Ses)]).length ≤ L.length + 1 := hapl
        rw [List.length_append] at this
        have h2 : L.length ≤ d.L.length + i := hlen
        simp at this
        omega
      have hne : ¬ D = s3.n := hO3.freshH
      have hnE : ¬ E = s3.n := hO3.fresh (o := .cells X.cells 36 true) (by simp)
      have hO4 : Own s3 (hg ++ ((D, Ob.cells (dcells U sv c m l) 56 true) :: (m, .map es clk) :: (hss ++ ((E, .cells X.cells 36 true) :: r)))) :=
        hO3.perm (by simpa using perm_of [[(D, Ob.cells (dcells U sv c m l) 56 true)], [(m, .map es clk)], hg, hss, [(E, .cells X.cells 36 true)], r] [0, 1, 2, 3, 4, 5] [2, 0, 1, 3, 4, 5] rfl)
      obtain ⟨a0, c0, hls, _⟩ := hS.isSlice
      simp (config := { implicitDefEqProofs := false }) only [↓GP, ↓GM, GQ, abuiltinX, ↓awp_seq, ↓awp_block, C_ex, Nat.reduceBEq, acap, afieldAddr, aload, astore, abin, anum, astr, aun, isAggD, cond_true, cond_false, ↓reduceIte, C_P, C_G, isTuple, Value.cells, setL, ares, aresL, ares1, reduceCtorEq, Nat.reduceEqDiff, eq_self, Nat.reduceAdd, if_true, if_false, Go.Abs.one, Nat.reduceLeDiff, undef, gsl, aextract, aindexAddr, amake, implies_true, forall_const, alen, abuiltin, anil, isC, Int.reduceEq, Int.reduceLT, Int.reduceLE, Int.reduceAdd, Int.reduceToNat, Int.reduceNeg, Nat.reduceMul, Nat.reduceSub, abuild, afill, Int.reduceBNe, Int.reduceBEq, h0, h8, h9, h10, hvx]
      refine ADraw.of [(0, false, []), (1, false, []), (2, false, []), (3, false, []), (4, true, []), (5, false, []), (6, false, []), (7, false, []), (8, false, []), (9, false, []), (10, false, []), (11, false, []), (12, false, [4]), (13, false, []), (14, false, []), (15, false, []), (16, false, [])] [4] [(4, 12)] (by kernel_rfl) ?_
      simp (config := { implicitDefEqProofs := false }) only [↓GP, ↓GM, GQ, abuiltinX, ↓awp_seq, ↓awp_block, C_ex, Nat.reduceBEq, acap, afieldAddr, aload, astore, abin, anum, astr, aun, isAggD, cond_true, cond_false, ↓reduceIte, C_P, C_G, isTuple, Value.cells, setL, ares, aresL, ares1, reduceCtorEq, Nat.reduceEqDiff, eq_self, Nat.reduceAdd, if_true, if_false, Go.Abs.one, Nat.reduceLeDiff, undef, gsl, aextract, aindexAddr, amake, implies_true, forall_const, alen, abuiltin, anil, isC, Int.reduceEq, Int.reduceLT, Int.reduceLE, Int.reduceAdd, Int.reduceToNat, Int.reduceNeg, Nat.reduceMul, Nat.reduceSub, abuild, afill, Int.reduceBNe, Int.reduceBEq, h0, h8, h9, h10, hvx, hcE, hcd, hne, hnE, afo36_1, afo36_2, afo36_5, afo56_4, asz3, asz9, asz54, Tryd.underlying3, Tryd.underlying9, Tryd.underlying54, azc64, apl64, Tryd.underlying64, List.length_cons, List.length_nil, List.set_cons_zero, List.set_cons_succ, List.getElem?_cons_zero, List.getElem?_cons_succ, Option.map_some, abuildSlice_one (st := s3) (v := .agg #[.string (str X.a), .string (str X.b), .int .i64 X.n]) Tryd.underlying54 asz64 azc64 rfl rfl rfl (by decide)]
      refine GVx.append1 Tryd.underlying54 (by rw [Tryd.underlying54]; rfl) asz64 azc64 (c := [.string (str X.a), .string (str X.b), .int .i64 X.n]) aby64 hS.x hO4 rfl rfl (by omega) fun l' hg' s4 hG' hO5 => ?_
      have hSB : SB l' (L2 ++ [⟨X.a, X.b, X.n⟩]) hg' := SB.of (by rw [sesL_append, List.length_append]; exact hG')
      have hO6 : Own s4 ((D, Ob.cells (dcells U sv c m l) 56 true) :: ((m, .map es clk) :: (hg' ++ hss) ++ ((E, .cells X.cells 36 true) :: r))) :=
        hO5.perm (by simpa using perm_of [[(D, Ob.cells (dcells U sv c m l) 56 true)], [(m, .map es clk)], hg', hss, [(E, .cells X.cells 36 true)], r] [2, 0, 1, 3, 4, 5] [0, 1, 2, 3, 4, 5] rfl)
      obtain ⟨a1, rfl⟩ := hG'.isSlice
      have hcd := hO6.head
      unfold dcells at hcd
      have hO7 := hO6.set rfl (.cells (dcells U sv c m (.slice a1 (L2.length + 1) (L2.length + 1))) 56 true) rfl
      have hs4 : Own _ (((D, Ob.cells (dcells U sv c m (.slice a1 (L2.length + 1) (L2.length + 1))) 56 true) :: (m, .map es clk) :: (hg' ++ hss)) ++ r) :=
        (hO7.perm (show List.Perm _ ((E, Ob.cells X.cells 36 true) :: (((D, Ob.cells (dcells U sv c m (.slice a1 (L2.length + 1) (L2.length + 1))) 56 true) :: (m, .map es clk) :: (hg' ++ hss)) ++ r)) from by
          simpa using perm_of [[(D, Ob.cells (dcells U sv c m (.slice a1 (L2.length + 1) (L2.length + 1))) 56 true)], [(m, .map es clk)], hg', hss, [(E, .cells X.cells 36 true)], r] [0, 1, 2, 3, 4, 5] [4, 0, 1, 2, 3, 5] rfl)).tail
      simp (config := { implicitDefEqProofs := false }) only [↓GP, ↓GM, GQ, abuiltinX, ↓awp_seq, ↓awp_block, C_ex, Nat.reduceBEq, acap, afieldAddr, aload, astore, abin, anum, astr, aun, isAggD, cond_true, cond_false, ↓reduceIte, C_P, C_G, isTuple, Value.cells, setL, ares, aresL, ares1, reduceCtorEq, Nat.reduceEqDiff, eq_self, Nat.reduceAdd, if_true, if_false, Go.Abs.one, Nat.reduceLeDiff, undef, gsl, aextract, aindexAddr, amake, implies_true, forall_const, alen, abuiltin, anil, isC, Int.reduceEq, Int.reduceLT, Int.reduceLE, Int.reduceAdd, Int.reduceToNat, Int.reduceNeg, Nat.reduceMul, Nat.reduceSub, abuild, afill, Int.reduceBNe, Int.reduceBEq, h0, h8, h9, h10, hvx, hcd, w2, afo56_4, asz54, Tryd.underlying54, List.length_cons, List.length_nil, List.size_toArray, List.toList_toArray, List.all_cons, List.all_nil, Bool.and_true]
      exact ⟨cs.length - (i + 1), by omega, i + 1, (D, Ob.cells (dcells U sv c m (.slice a1 (L2.length + 1) (L2.length + 1))) 56 true) :: (m, .map es clk) :: (hg' ++ hss), rfl, by omega, by rw [hmy], rfl, by rw [htk]; exact ⟨sv, m, es, clk, _, hg', hss, rfl, hFM, hSB, fun S hS' => by
        rcases List.mem_append.1 hS' with h | h
        · exact hLo S h
        · rw [List.mem_singleton.1 h]; exact ⟨hxok.1, hxok.2.1, hxok.2.2.1, hxok.2.2.2.1⟩, hsv⟩, by rw [htk]; exact hapo, by rw [htk]; exact Nat.le_trans hapl (Nat.succ_le_succ hlen), hs4⟩
    by_cases k4 : X.k = 4
    · have em : isMy X = true := by rw [isMy, k4]; rfl
      rw [em, cond_true] at hmy
      have e1 : (X.k == 1) = false := by rw [k4]; rfl
      have e2 : (X.k == 2) = false := by rw [k4]; rfl
      have e3 : (X.k == 3) = false := by rw [k4]; rfl
      have e4 : (X.k == 4) = true := by rw [k4]; rfl
      have ea : apF ⟨c, F, L⟩ X = ⟨c, F, L.filter fun s => !isId X.a s⟩ := by rw [apF, if_neg k1, if_neg k2, if_neg k3, if_pos k4]
      rw [ea] at hapl hapo htk
      have hs3 := hs2.perm (perm_front h' (E, Ob.cells X.cells 36 true) r).symm
      simp (config := { implicitDefEqProofs := false }) only [↓GP, ↓GM, GQ, abuiltinX, ↓awp_seq, ↓awp_block, C_ex, Nat.reduceBEq, acap, afieldAddr, aload, astore, abin, anum, astr, aun, isAggD, cond_true, cond_false, ↓reduceIte, C_P, C_G, isTuple, Value.cells, setL, ares, aresL, ares1, reduceCtorEq, Nat.reduceEqDiff, eq_self, Nat.reduceAdd, if_true, if_false, Go.Abs.one, Nat.reduceLeDiff, undef, gsl, aextract, aindexAddr, amake, implies_true, forall_const, alen, abuiltin, anil, isC, Int.reduceEq, Int.reduceLT, Int.reduceLE, Int.reduceAdd, Int.reduceToNat, Int.reduceNeg, Nat.reduceMul, Nat.reduceSub, abuild, afill, Int.reduceBNe, Int.reduceBEq, h0, h8, h9, h10, hcE, e1, e2, e3, e4, hvx, afo36_0, afo36_1, asz3, asz9, Tryd.underlying3, Tryd.underlying9]
      refine ACallF.enter Tryd.func23 rfl (by kernel_rfl) (Lshut_spec s2 _ h' D U key c F L X.a hxok.1 (by simp only at hlen; omega) hDi hs3 _ _ fun h2 s3 hD2 hO3 => ?_)
      have hs4 := (hO3.perm (perm_front h2 (E, Ob.cells X.cells 36 true) r)).tail
      simp (config := { implicitDefEqProofs := false }) only [↓GP, ↓GM, GQ, abuiltinX, ↓awp_seq, ↓awp_block, C_ex, Nat.reduceBEq, acap, afieldAddr, aload, astore, abin, anum, astr, aun, isAggD, cond_true, cond_false, ↓reduceIte, C_P, C_G, isTuple, Value.cells, setL, ares, aresL, ares1, reduceCtorEq, Nat.reduceEqDiff, eq_self, Nat.reduceAdd, if_true, if_false, Go.Abs.one, Nat.reduceLeDiff, undef, gsl, aextract, aindexAddr, amake, implies_true, forall_const, alen, abuiltin, anil, isC, Int.reduceEq, Int.reduceLT, Int.reduceLE, Int.reduceAdd, Int.reduceToNat, Int.reduceNeg, Nat.reduceMul, Nat.reduceSub, abuild, afill, Int.reduceBNe, Int.reduceBEq, h0, h8, h9, h10, hvx, w2]
      exact ⟨cs.length - (i + 1), by omega, i + 1, h2, rfl, by omega, by rw [hmy], rfl, by rw [htk]; exact hD2, by rw [htk]; exact hapo, by rw [htk]; exact Nat.le_trans hapl (Nat.succ_le_succ hlen), hs4⟩
    have e1 : (X.k == 1) = false := by rw [beq_eq_false_iff_ne]; exact k1
    have e2 : (X.k == 2) = false := by rw [beq_eq_false_iff_ne]; exact k2
    have e3 : (X.k == 3) = false := by rw [beq_eq_false_iff_ne]; exact k3
    have e4 : (X.k == 4) = false := by rw [beq_eq_false_iff_ne]; exact k4
    have em : isMy X = false := by simp [isMy]; omega
    have ea : apF ⟨c, F, L⟩ X = ⟨c, F, L⟩ := by rw [apF, if_neg k1, if_neg k2, if_neg k3, if_neg k4]
    have w3 : IntKind.i64.wrap (((M + 1 : Nat) : Int) - 1) = (M : Int) := by rw [w_i64 (by omega)]; omega
    rw [ea] at htk
    rw [em, cond_false, Nat.add_zero] at hmy
    simp (config := { implicitDefEqProofs := false }) only [↓GP, ↓GM, GQ, abuiltinX, ↓awp_seq, ↓awp_block, C_ex, Nat.reduceBEq, acap, afieldAddr, aload, astore, abin, anum, astr, aun, isAggD, cond_true, cond_false, ↓reduceIte, C_P, C_G, isTuple, Value.cells, setL, ares, aresL, ares1, reduceCtorEq, Nat.reduceEqDiff, eq_self, Nat.reduceAdd, if_true, if_false, Go.Abs.one, Nat.reduceLeDiff, undef, gsl, aextract, aindexAddr, amake, implies_true, forall_const, alen, abuiltin, anil, isC, Int.reduceEq, Int.reduceLT, Int.reduceLE, Int.reduceAdd, Int.reduceToNat, Int.reduceNeg, Nat.reduceMul, Nat.reduceSub, abuild, afill, Int.reduceBNe, Int.reduceBEq, h0, h8, h9, h10, hcE, e1, e2, e3, e4, hvx, afo36_0, asz3, Tryd.underlying3, w2, w3]
    exact ⟨cs.length - (i + 1), by omega, i + 1, h', rfl, by omega, by rw [hmy]; rfl, rfl, by rw [htk]; exact hDi, by rw [htk]; exact hok, by rw [htk]; exact Nat.le_succ_of_le hlen, hs2.tail⟩
  · obtain rfl : i = cs.length := by omega
    rw [List.take_length] at *
    simp (config := { implicitDefEqProofs := false }) only [↓GP, ↓GM, GQ, abuiltinX, ↓awp_seq, ↓awp_block, C_ex, Nat.reduceBEq, acap, afieldAddr, aload, astore, abin, anum, astr, aun, isAggD, cond_true, cond_false, ↓reduceIte, C_P, C_G, isTuple, Value.cells, setL, ares, aresL, ares1, reduceCtorEq, Nat.reduceEqDiff, eq_self, Nat.reduceAdd, if_true, if_false, Go.Abs.one, Nat.reduceLeDiff, undef, gsl, aextract, aindexAddr, amake, implies_true, forall_const, alen, abuiltin, anil, isC, Int.reduceEq, Int.reduceLT, Int.reduceLE, Int.reduceAdd, Int.reduceToNat, Int.reduceNeg, Nat.reduceMul, Nat.reduceSub, abuild, afill, Int.reduceBNe, Int.reduceBEq, h0, h5, h8, h9, h10, Int.ofNat_lt, Nat.lt_irrefl, decide_false]
    exact hk h' s hDi hs
end Go.Proofs.YthohmdkibkompaaDoor
