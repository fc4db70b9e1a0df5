/- The walk of LoginFull. No conditions. -/
import Derived.Test.YthohmdkibkompaaDoorLoginJ
set_option linter.unusedVariables false
set_option linter.unusedSimpArgs false
namespace Go.Proofs.YthohmdkibkompaaDoor
open Go Go.Abs Go.RowKit
variable {base : Nat} {w0 : World} {G : Nat}

/-- Tags of unlike numbers are unlike. -/
theorem digits_inj : ∀ (a b X Y : List Nat), (∀ d ∈ a, 48 ≤ d) → (∀ d ∈ b, 48 ≤ d) → a ++ 45 :: X = b ++ 45 :: Y → a = b
  | [], [], _, _, _, _, _ => rfl
  | [], y :: b, X, Y, _, hb, h => by
    simp only [List.nil_append, List.cons_append, List.cons.injEq] at h
    have := hb y (by simp)
    omega
  | x :: a, [], X, Y, ha, _, h => by
    simp only [List.nil_append, List.cons_append, List.cons.injEq] at h
    have := ha x (by simp)
    omega
  | x :: a, y :: b, X, Y, ha, hb, h => by
    simp only [List.cons_append, List.cons.injEq] at h
    obtain ⟨rfl, h⟩ := h
    rw [digits_inj a b X Y (fun d hd => ha d (by simp [hd])) (fun d hd => hb d (by simp [hd])) h]
theorem tagN_inj {l key : List Nat} {a b : Nat} (h : tagN l a key = tagN l b key) : a = b := by
  unfold tagN at h
  simp only [List.append_assoc] at h
  have h1 := List.append_cancel_left h
  exact dec_inj _ _ (digits_inj _ _ _ _ (fun d hd => (dec_digit a d hd).1) (fun d hd => (dec_digit b d hd).1) h1)
theorem tagN_ne {l key : List Nat} {a : Nat} : tagN l a key ≠ [] := by
  unfold tagN
  simp
def tgs (j : Nat) : List Nat := tagS (j : Int) kk
theorem tgs_inj {a b : Nat} (h : tgs a = tgs b) : a = b := by
  have := tagN_inj h
  omega
theorem tgs_bt (j : Nat) : Bt (tgs j) := tagS_bt _ _
def sesT (ts : List Int) : List Ses := (List.range ts.length).map fun j => ⟨tgs j, ann, ts.getD j 0⟩
def idsT (n : Nat) : List Value := (List.range n).map fun j => .string (str (tgs j))
theorem sesT_length (ts : List Int) : (sesT ts).length = ts.length := by simp [sesT]
theorem idsT_length (n : Nat) : (idsT n).length = n := by simp [idsT]
theorem idsT_succ (n : Nat) : idsT (n + 1) = idsT n ++ [.string (str (tgs n))] := by simp [idsT, List.range_succ]
theorem sesT_snoc (ts : List Int) (t : Int) : sesT (ts ++ [t]) = sesT ts ++ [⟨tgs ts.length, ann, t⟩] := by
  unfold sesT
  rw [List.length_append, List.length_singleton, List.range_succ, List.map_append]
  congr 1
  · apply List.map_congr_left
    intro j hj
    have := List.mem_range.1 hj
    simp [List.getElem?_append_left this]
  · simp
theorem sesT_get {ts : List Int} {j : Nat} (h : j < ts.length) : (sesT ts)[j]? = some ⟨tgs j, ann, ts.getD j 0⟩ := by
  simp [sesT, h]
theorem sesT_fnd {ts : List Int} {j : Nat} (h : j < ts.length) : fnd (isId (tgs j)) (sesT ts) = j := by
  refine fnd_spec _ _ _ (by rw [sesT_length]; omega) (fun a ha => ?_) (fun hl => ?_)
  · obtain ⟨i, hi, rfl⟩ := List.mem_iff_getElem.1 ha
    rw [List.length_take] at hi
    rw [List.getElem_take]
    have e := List.getElem_eq_iff (h := by rw [sesT_length]; omega) |>.2 (sesT_get (ts := ts) (j := i) (by omega))
    rw [e]
    exact decide_eq_false fun h => by have := tgs_inj h; omega
  · have e := List.getElem_eq_iff (h := hl) |>.2 (sesT_get h)
    rw [e]
    exact decide_eq_true rfl
theorem sesT_who {U : Rul} {ts : List Int} {j : Nat} {now : Int} (h : j < ts.length) (hm : mok now = true) : whoF U (sesT ts) (tgs j) now = bif lv U.life now ⟨tgs j, ann, ts.getD j 0⟩ then (ann, ts.getD j 0, true) else ([], 0, false) := by
  unfold whoF
  rw [sesT_fnd h, sesT_get h, hm]
  show (bif true && lv U.life now ⟨tgs j, ann, ts.getD j 0⟩ then _ else _) = _
  rw [Bool.true_and]
theorem sesT_new (ts : List Int) : (sesT ts).filter (fun s => !isId (tgs ts.length) s) = sesT ts := by
  refine List.filter_eq_self.2 fun s hs => ?_
  obtain ⟨j, hj, rfl⟩ := List.mem_map.1 hs
  have := List.mem_range.1 hj
  rw [isId, decide_eq_false (fun h => by have := tgs_inj h; omega)]
  rfl
def dT (ts : List Int) : DS := ⟨ts.length, [], sesT ts⟩
def liveT (U : Rul) (ts : List Int) (now : Int) : Nat := ((sesT ts).filter (lv U.life now)).length
theorem tryT {U : Rul} {ts : List Int} {now : Int} (h0 : 0 ≤ now) (h1 : now ≤ 1099511627776) :
    tryF U kk (dT ts).c (dT ts).F (dT ts).L ann true now = if (liveT U ts now : Int) < U.most then ([mkC 1 [] [] (ts.length + 1) 0, mkC 3 (tgs ts.length) ann now 0], tgs ts.length, 0) else ([], [], 51) := by
  have hm : mok now = true := by simp [mok]; omega
  unfold tryF
  rw [if_neg (by rw [hm]; decide), if_neg (by show ¬ (0 : Int) > now; omega), if_neg (by decide)]
  by_cases h : (liveT U ts now : Int) < U.most
  · rw [if_neg (by rw [show roomF U (dT ts).L now = true from decide_eq_true h]; decide), if_pos h]
    rfl
  · rw [if_pos (show roomF U (dT ts).L now = false from decide_eq_false h), if_neg h]
theorem apT (ts : List Int) (now : Int) : apL (dT ts) [mkC 1 [] [] (ts.length + 1) 0, mkC 3 (tgs ts.length) ann now 0] = dT (ts ++ [now]) := by
  show (⟨(ts.length : Int) + 1, [], (sesT ts).filter (fun s => !isId (tgs ts.length) s) ++ [⟨tgs ts.length, ann, now⟩]⟩ : DS) = _
  rw [sesT_new, dT, sesT_snoc, List.length_append]
  rfl
theorem liveT_mono {U : Rul} {ts : List Int} {a b : Int} (hab : a ≤ b) (ht : ∀ t ∈ ts, t ≤ a) : liveT U ts b ≤ liveT U ts a := by
  unfold liveT
  rw [← List.countP_eq_length_filter, ← List.countP_eq_length_filter]
  refine List.countP_mono_left fun s hs h => ?_
  obtain ⟨j, hj, rfl⟩ := List.mem_map.1 hs
  have hj := List.mem_range.1 hj
  simp only [lv, Bool.and_eq_true, decide_eq_true_eq] at h ⊢
  have := ht (ts.getD j 0) (by simp [hj])
  omega
theorem liveT_snoc {U : Rul} {ts : List Int} {now : Int} (hU : 1 ≤ U.life) : liveT U (ts ++ [now]) now = liveT U ts now + 1 := by
  unfold liveT
  have : lv U.life now ⟨tgs ts.length, ann, now⟩ = true := by
    simp only [lv, Bool.and_eq_true, decide_eq_true_eq]
    omega
  rw [sesT_snoc, List.filter_append, List.length_append]
  simp [this]
theorem rem100 (t m : Int) (hm : 1 ≤ m) (hm2 : m ≤ 1000000000) : ∃ x : Int, ((IntKind.i64.wrap (t.tmod m + m)).tmod m) = x ∧ 0 ≤ x ∧ x < m := by
  have h1 := Int.tmod_lt_of_pos t (b := m) (by omega)
  have h2 : -m < t.tmod m := by
    by_cases h : t < 0
    · have h3 := Int.tmod_lt_of_pos (-t) (b := m) (by omega)
      rw [Int.neg_tmod] at h3
      omega
    · have := Int.tmod_nonneg m (show 0 ≤ t by omega); omega
  refine ⟨_, rfl, ?_, ?_⟩
  · rw [w_i64 (by omega)]; exact Int.tmod_nonneg _ (by omega)
  · exact Int.tmod_lt_of_pos _ (by omega)
theorem nb_nil {r : Hp} : Nb r (.slice none 0 0) [] := ⟨.inl ⟨rfl, .inl rfl⟩, fun d hd => by cases hd⟩
/-- A slice of numbers. -/
def Iz (r : Hp) (v : Value) (l : List Int) : Prop := Rws r v 1 (l.map fun z => [.int .i64 z])
theorem GVx.at {v : Value} {cs : List Value} {n : Nat} {e : TypeId} {hg : Hp} (hG : GVx v cs n 1 e hg) {i : Nat} {x : Value} (hi : i < n) (hx : cs[i]? = some x) :
    ∃ b c D, v = .slice (some ⟨b, 0, some 0⟩) n c ∧ (b, Ob.cells D e true) ∈ hg ∧ D[i]? = some x := by
  rcases hG with ⟨rfl, h2, h3, rfl⟩ | ⟨b, rfl, h2, h3, rfl⟩ | ⟨b, c, D, rfl, rfl, hc⟩
  · omega
  · omega
  · refine ⟨b, c, D, rfl, List.mem_cons_self .., ?_⟩
    obtain ⟨h1, h2, h3⟩ := cut_spec hc
    rw [h2, List.drop_zero, Nat.mul_one, List.getElem?_take_of_lt hi] at hx
    exact hx
set_option maxHeartbeats 2000000 in
set_option maxRecDepth 10000 in
theorem LoginFull_spec (st : St) (r : Hp) (U : Rul) (tv : Value) (times : List Int) (n : Int) (ok : Bool) {kt : TypeId} (hl1 : -9223372036854775808 ≤ n) (hl2 : n ≤ 9223372036854775807) (ht : Iz r tv times) (hT : TabOk w0) (hK : (0, .cells (wl ks0) kt ok) ∈ r) (hO : Own st r) (k q : Value → St → Prop) (hk : ∀ st', k (.bool true) st') :
    ACall (C base w0 4) 4 [.agg U.cells.toArray, tv, .int .i64 n] st k q := by
  obtain ⟨ta, tc, htv, _⟩ := ht.isSlice
  rw [List.length_map] at htv
  refine ACall.of (cx := C base w0 4) mixed Tryd.func4 rfl (by kernel_rfl) (by simp [Tryd.ntmps4]) ?_
  simp only [Tryd.results4]
  have hO1 := hO.new (.cells U.cells 23 true)
  have hK1 : (0, Ob.cells (wl ks0) kt ok) ∈ (st.n, Ob.cells U.cells 23 true) :: r := List.mem_cons_of_mem _ hK
  simp (config := { implicitDefEqProofs := false }) only [↓GP, ↓GM, GQ, abuiltinX, ↓awp_seq, ↓awp_block, C_ex, Nat.reduceBEq, acap, afieldAddr, aload, astore, abin, anum, astr, aun, isAggD, cond_true, cond_false, ↓reduceIte, C_P, C_G, isTuple, Value.cells, setL, ares, aresL, ares1, reduceCtorEq, Nat.reduceEqDiff, eq_self, Nat.reduceAdd, if_true, if_false, Go.Abs.one, Nat.reduceLeDiff, undef, gsl, aextract, aindexAddr, amake, implies_true, forall_const, alen, abuiltin, anil, isC, Int.reduceEq, Int.reduceLT, Int.reduceLE, Int.reduceAdd, Int.reduceToNat, Int.reduceNeg, Nat.reduceMul, Nat.reduceSub, abuild, afill, Int.reduceBNe, Int.reduceBEq, abox, Rul.cells]
  generalize st.n = T at *
  refine ACallF.enter Tryd.func7 rfl (by kernel_rfl) (Lawake_spec _ _ ok hT hK1 hO1 _ _ fun s1 hs1 => ?_)
  have hcT : s1.H T = some (.cells [.int .i64 U.tries, .int .i64 U.lock, .int .i64 U.life, .int .i64 U.most] 23 true) := hs1.head
  simp (config := { implicitDefEqProofs := false }) only [↓GP, ↓GM, GQ, abuiltinX, ↓awp_seq, ↓awp_block, C_ex, Nat.reduceBEq, acap, afieldAddr, aload, astore, abin, anum, astr, aun, isAggD, cond_true, cond_false, ↓reduceIte, C_P, C_G, isTuple, Value.cells, setL, ares, aresL, ares1, reduceCtorEq, Nat.reduceEqDiff, eq_self, Nat.reduceAdd, if_true, if_false, Go.Abs.one, Nat.reduceLeDiff, undef, gsl, aextract, aindexAddr, amake, implies_true, forall_const, alen, abuiltin, anil, isC, Int.reduceEq, Int.reduceLT, Int.reduceLE, Int.reduceAdd, Int.reduceToNat, Int.reduceNeg, Nat.reduceMul, Nat.reduceSub, abuild, afill, Int.reduceBNe, Int.reduceBEq, Bool.not_true, hcT, asz23, Tryd.underlying23, cut4, Option.map_some]
  refine ACallF.enter Tryd.func8 rfl (by kernel_rfl) (RRight_spec s1 _ U hs1 _ _ fun s2 hs2 => ?_)
  have done : ∀ (s : St) (k' q' : Value → St → Prop), Own s ((T, Ob.cells U.cells 23 true) :: r) → (∀ s', k' (.bool true) s') → ACallF (C base w0 4) 7 [] s k' q' := fun s k' q' hs hk' =>
    ACallF.enter Tryd.func7 rfl (by kernel_rfl) (Lawake_spec s _ ok hT hK1 hs _ _ fun s' _ => hk' s')
  cases hU : U.ok with
  | false =>
    simp (config := { implicitDefEqProofs := false }) only [↓GP, ↓GM, GQ, abuiltinX, ↓awp_seq, ↓awp_block, C_ex, Nat.reduceBEq, acap, afieldAddr, aload, astore, abin, anum, astr, aun, isAggD, cond_true, cond_false, ↓reduceIte, C_P, C_G, isTuple, Value.cells, setL, ares, aresL, ares1, reduceCtorEq, Nat.reduceEqDiff, eq_self, Nat.reduceAdd, if_true, if_false, Go.Abs.one, Nat.reduceLeDiff, undef, gsl, aextract, aindexAddr, amake, implies_true, forall_const, alen, abuiltin, anil, isC, Int.reduceEq, Int.reduceLT, Int.reduceLE, Int.reduceAdd, Int.reduceToNat, Int.reduceNeg, Nat.reduceMul, Nat.reduceSub, abuild, afill, Int.reduceBNe, Int.reduceBEq, Bool.not_false]
    refine done s2 _ _ hs2 fun s' => ?_
    simp (config := { implicitDefEqProofs := false }) only [↓GP, ↓GM, GQ, abuiltinX, ↓awp_seq, ↓awp_block, C_ex, Nat.reduceBEq, acap, afieldAddr, aload, astore, abin, anum, astr, aun, isAggD, cond_true, cond_false, ↓reduceIte, C_P, C_G, isTuple, Value.cells, setL, ares, aresL, ares1, reduceCtorEq, Nat.reduceEqDiff, eq_self, Nat.reduceAdd, if_true, if_false, Go.Abs.one, Nat.reduceLeDiff, undef, gsl, aextract, aindexAddr, amake, implies_true, forall_const, alen, abuiltin, anil, isC, Int.reduceEq, Int.reduceLT, Int.reduceLE, Int.reduceAdd, Int.reduceToNat, Int.reduceNeg, Nat.reduceMul, Nat.reduceSub, abuild, afill, Int.reduceBNe, Int.reduceBEq]
    exact hk s'
  | true =>
  by_cases hn0 : times.length > 60
  · simp (config := { implicitDefEqProofs := false }) only [↓GP, ↓GM, GQ, abuiltinX, ↓awp_seq, ↓awp_block, C_ex, Nat.reduceBEq, acap, afieldAddr, aload, astore, abin, anum, astr, aun, isAggD, cond_true, cond_false, ↓reduceIte, C_P, C_G, isTuple, Value.cells, setL, ares, aresL, ares1, reduceCtorEq, Nat.reduceEqDiff, eq_self, Nat.reduceAdd, if_true, if_false, Go.Abs.one, Nat.reduceLeDiff, undef, gsl, aextract, aindexAddr, amake, implies_true, forall_const, alen, abuiltin, anil, isC, Int.reduceEq, Int.reduceLT, Int.reduceLE, Int.reduceAdd, Int.reduceToNat, Int.reduceNeg, Nat.reduceMul, Nat.reduceSub, abuild, afill, Int.reduceBNe, Int.reduceBEq, Bool.not_true, htv, Tryd.underlying24, show ((times.length : Int) > 60) = True by simp; omega, decide_true]
    refine done s2 _ _ hs2 fun s' => ?_
    simp (config := { implicitDefEqProofs := false }) only [↓GP, ↓GM, GQ, abuiltinX, ↓awp_seq, ↓awp_block, C_ex, Nat.reduceBEq, acap, afieldAddr, aload, astore, abin, anum, astr, aun, isAggD, cond_true, cond_false, ↓reduceIte, C_P, C_G, isTuple, Value.cells, setL, ares, aresL, ares1, reduceCtorEq, Nat.reduceEqDiff, eq_self, Nat.reduceAdd, if_true, if_false, Go.Abs.one, Nat.reduceLeDiff, undef, gsl, aextract, aindexAddr, amake, implies_true, forall_const, alen, abuiltin, anil, isC, Int.reduceEq, Int.reduceLT, Int.reduceLE, Int.reduceAdd, Int.reduceToNat, Int.reduceNeg, Nat.reduceMul, Nat.reduceSub, abuild, afill, Int.reduceBNe, Int.reduceBEq]
    exact hk s'
  have hU' := of_decide_eq_true hU
  have hcT : s2.H T = some (.cells [.int .i64 U.tries, .int .i64 U.lock, .int .i64 U.life, .int .i64 U.most] 23 true) := hs2.head
  have hs3 := hs2.new (.cells [.int .u8 107] 5 true)
  simp (config := { implicitDefEqProofs := false }) only [↓GP, ↓GM, GQ, abuiltinX, ↓awp_seq, ↓awp_block, C_ex, Nat.reduceBEq, acap, afieldAddr, aload, astore, abin, anum, astr, aun, isAggD, cond_true, cond_false, ↓reduceIte, C_P, C_G, isTuple, Value.cells, setL, ares, aresL, ares1, reduceCtorEq, Nat.reduceEqDiff, eq_self, Nat.reduceAdd, if_true, if_false, Go.Abs.one, Nat.reduceLeDiff, undef, gsl, aextract, aindexAddr, amake, implies_true, forall_const, alen, abuiltin, anil, isC, Int.reduceEq, Int.reduceLT, Int.reduceLE, Int.reduceAdd, Int.reduceToNat, Int.reduceNeg, Nat.reduceMul, Nat.reduceSub, abuild, afill, Int.reduceBNe, Int.reduceBEq, Bool.not_true, htv, Tryd.underlying24, show ((times.length : Int) > 60) = False by simp; omega, decide_false, hcT, asz23, Tryd.underlying23, cut4, Option.map_some, build1k, kconv hs3.head]
  refine ACallF.enter Tryd.func9 rfl (by kernel_rfl) (LNew_spec _ _ U kk _ hU nb_k (by decide) hs3 _ _ fun D h s4 hD hs4 => ?_)
  have eann : (⟨#[97, 110, 110]⟩ : ByteArray) = str ann := rfl
  simp (config := { implicitDefEqProofs := false }) only [↓GP, ↓GM, GQ, abuiltinX, ↓awp_seq, ↓awp_block, C_ex, Nat.reduceBEq, acap, afieldAddr, aload, astore, abin, anum, astr, aun, isAggD, cond_true, cond_false, ↓reduceIte, C_P, C_G, isTuple, Value.cells, setL, ares, aresL, ares1, reduceCtorEq, Nat.reduceEqDiff, eq_self, Nat.reduceAdd, if_true, if_false, Go.Abs.one, Nat.reduceLeDiff, undef, gsl, aextract, aindexAddr, amake, implies_true, forall_const, alen, abuiltin, anil, isC, Int.reduceEq, Int.reduceLT, Int.reduceLE, Int.reduceAdd, Int.reduceToNat, Int.reduceNeg, Nat.reduceMul, Nat.reduceSub, abuild, afill, Int.reduceBNe, Int.reduceBEq, Tryd.underlying27, Option.isNone, eann]
  generalize hR : (s2.n, Ob.cells [Value.int .u8 107] 5 true) :: (T, Ob.cells U.cells 23 true) :: r = R at *
  have hKR : (0, Ob.cells (wl ks0) kt ok) ∈ R := by rw [← hR]; simp [hK]
  have hTR : (T, Ob.cells U.cells 23 true) ∈ R := by rw [← hR]; simp
  have htR : Iz R tv times := ht.sub fun e he => by rw [← hR]; simp [he]
  have hts0 : liveT U [] 0 = 0 := rfl
  refine ⟨fun m ρ s => ∃ (i : Nat) (ts : List Int) (now : Int) (w : Value) (g h : Hp), m = times.length - i ∧ i ≤ times.length ∧ ts.length ≤ i ∧ 0 ≤ now ∧ now ≤ 100 * (i : Int) ∧ (∀ t ∈ ts, 0 ≤ t ∧ t ≤ now) ∧ (liveT U ts now : Int) ≤ U.most ∧
    ρ 1 = tv ∧ ρ 2 = .int .i64 n ∧ ρ 3 = .pointer (some ⟨T, 0, none⟩) ∧ ρ 7 = .pointer (some ⟨D, 0, none⟩) ∧ ρ 9 = .int .i64 now ∧ ρ 10 = w ∧ ρ 11 = .int .i64 i ∧ GVx w (idsT ts.length) ts.length 1 9 g ∧ DskS D U kk (dT ts) h ∧ Own s (g ++ (h ++ R)),
    ⟨_, 0, [], 0, _, [], h, rfl, Nat.zero_le _, Nat.le_refl _, Int.le_refl _, by decide, (fun t ht => by cases ht), (by rw [hts0]; show (0 : Int) ≤ U.most; omega), (by first | rfl | exact htv.symm), rfl, rfl, rfl, rfl, rfl, rfl, GVx.nil, hD, hs4⟩, ?_⟩
  rintro _ ρ s ⟨i, ts, now, w, g, h, rfl, hi, hti, hn0, hn1, hts, hlv, h1, h2, h3, h7, h9, h10, h11, hG, hD, hs⟩
  have hs' : Own s (h ++ (g ++ R)) := hs.perm (by simpa using perm_of [g, h, R] [0, 1, 2] [1, 0, 2] rfl)
  have hKg : (0, Ob.cells (wl ks0) kt ok) ∈ g ++ R := List.mem_append_right _ hKR
  by_cases him : i < times.length
  · obtain ⟨x, o, sp, c', cs, ty, own, hvx, hmem, hcut⟩ := htR.mem (i := i) (l := [.int .i64 times[i]]) (by simp [him])
    have g0 := cut_get hcut (j := 0) (by decide)
    simp only [List.getElem?_cons_zero, Nat.add_zero, Nat.mul_one] at g0
    rw [List.length_map] at hvx
    have hcx := hs.get (List.mem_append_right g (List.mem_append_right h hmem))
    obtain ⟨dt, hdt, hdt0, hdt1⟩ := rem100 times[i] 100 (by decide) (by decide)
    have wn : IntKind.i64.wrap (now + dt) = now + dt := w_i64 (by omega)
    generalize times[i] = ti at *
    simp (config := { implicitDefEqProofs := false }) only [↓GP, ↓GM, GQ, abuiltinX, ↓awp_seq, ↓awp_block, C_ex, Nat.reduceBEq, acap, afieldAddr, aload, astore, abin, anum, astr, aun, isAggD, cond_true, cond_false, ↓reduceIte, C_P, C_G, isTuple, Value.cells, setL, ares, aresL, ares1, reduceCtorEq, Nat.reduceEqDiff, eq_self, Nat.reduceAdd, if_true, if_false, Go.Abs.one, Nat.reduceLeDiff, undef, gsl, aextract, aindexAddr, amake, implies_true, forall_const, alen, abuiltin, anil, isC, Int.reduceEq, Int.reduceLT, Int.reduceLE, Int.reduceAdd, Int.reduceToNat, Int.reduceNeg, Nat.reduceMul, Nat.reduceSub, abuild, afill, Int.reduceBNe, Int.reduceBEq, h1, h3, h7, h9, h10, h11, hvx, him, Int.ofNat_lt, decide_true, hcx, g0, asz3, Tryd.underlying3, Tryd.underlying24, hdt, wn, eann]
    have hlen : (dT ts).L.length = ts.length := sesT_length ts
    have htl : ts.length ≤ 60 := by omega
    refine ⟨by omega, ?_⟩
    refine ACallF.enter Tryd.func10 rfl (by kernel_rfl) (LTry_spec s (g ++ R) h D U kk (dT ts).c (now + dt) (dT ts).F (dT ts).L ann true ok hT hU ann_bt (by rw [hlen]; omega) (fun x hx => by cases hx) (by show (ts.length : Int) ≤ 1152921504606846976; omega) (by show -9223372036854775808 ≤ (ts.length : Int); omega) (by decide) hD hKg hs' _ _ fun v g2 s2 hv hs2 => ?_)
    have hlm := liveT_mono (U := U) (ts := ts) (a := now) (b := now + dt) (by omega) (fun t ht => (hts t ht).2)
    obtain ⟨cs, id, e, hX, hidb, hid, hcase⟩ : ∃ cs id e, tryF U kk (dT ts).c (dT ts).F (dT ts).L ann true (now + dt) = (cs, id, e) ∧ Bt id ∧ (∀ j, j < ts.length → tgs j ≠ id) ∧
        (((liveT U ts (now + dt) : Int) < U.most ∧ cs = [mkC 1 [] [] (ts.length + 1) 0, mkC 3 (tgs ts.length) ann (now + dt) 0] ∧ id = tgs ts.length ∧ e = 0) ∨ ((liveT U ts (now + dt) : Int) = U.most ∧ cs = [] ∧ e = 51)) := by
      rw [tryT (by omega) (by omega)]
      split
      · exact ⟨_, _, _, rfl, tgs_bt _, fun j hj h => by have := tgs_inj h; omega, .inl ⟨by assumption, rfl, rfl, rfl⟩⟩
      · exact ⟨_, _, _, rfl, Bt.nil, fun j hj h => tagN_ne h, .inr ⟨by omega, rfl, rfl⟩⟩
    rw [hX] at hv ⊢
    have hs3 : Own s2 (h ++ (g2 ++ (g ++ R))) := hs2.perm (perm_swap g2 h (g ++ R))
    simp (config := { implicitDefEqProofs := false }) only [↓GP, ↓GM, GQ, abuiltinX, ↓awp_seq, ↓awp_block, C_ex, Nat.reduceBEq, acap, afieldAddr, aload, astore, abin, anum, astr, aun, isAggD, cond_true, cond_false, ↓reduceIte, C_P, C_G, isTuple, Value.cells, setL, ares, aresL, ares1, reduceCtorEq, Nat.reduceEqDiff, eq_self, Nat.reduceAdd, if_true, if_false, Go.Abs.one, Nat.reduceLeDiff, undef, gsl, aextract, aindexAddr, amake, implies_true, forall_const, alen, abuiltin, anil, isC, Int.reduceEq, Int.reduceLT, Int.reduceLE, Int.reduceAdd, Int.reduceToNat, Int.reduceNeg, Nat.reduceMul, Nat.reduceSub, abuild, afill, Int.reduceBNe, Int.reduceBEq, h1, h2, h3, h7, h9, h10, h11]
    have hm : mok (now + dt) = true := by simp [mok]; omega
    generalize hnow : now + dt = now' at *
    refine ⟨fun m ρ s => ∃ j : Nat, m = ts.length - j ∧ j ≤ ts.length ∧ ρ 1 = tv ∧ ρ 2 = .int .i64 n ∧ ρ 3 = .pointer (some ⟨T, 0, none⟩) ∧ ρ 7 = .pointer (some ⟨D, 0, none⟩) ∧ ρ 9 = .int .i64 now' ∧ ρ 10 = w ∧ ρ 11 = .int .i64 i ∧
      ρ 12 = v ∧ ρ 13 = .string (str id) ∧ ρ 14 = .int .i64 e ∧ ρ 15 = .int .i64 (((sesT ts).take j).filter (lv U.life now')).length ∧ ρ 16 = .int .i64 j ∧ Own s (h ++ (g2 ++ (g ++ R))),
      ⟨_, 0, rfl, Nat.zero_le _, h1, h2, h3, h7, rfl, h10, h11, rfl, rfl, rfl, rfl, rfl, hs3⟩, ?_⟩
    rintro _ ρ s ⟨j, rfl, hj, h1, h2, h3, h7, h9, h10, h11, h12, h13, h14, h15, h16, hs⟩
    obtain ⟨wa, wc, hws⟩ := hG.isSlice
    by_cases hjm : j < ts.length
    · have hid' : (idsT ts.length)[j]? = some (.string (str (tgs j))) := by simp [idsT, hjm]
      obtain ⟨b, c, M, hwb, hbm, hMj⟩ := GVx.at hG hjm hid'
      have hbm' : (b, Ob.cells M 9 true) ∈ h ++ (g2 ++ (g ++ R)) := by simp [hbm]
      have hcb := hs.get hbm'
      have hft := filter_take_succ (p := lv U.life now') (sesT_get hjm)
      have hwho := sesT_who (U := U) hjm hm
      have hle := List.length_filter_le (lv U.life now') ((sesT ts).take j)
      rw [List.length_take] at hle
      simp (config := { implicitDefEqProofs := false }) only [↓GP, ↓GM, GQ, abuiltinX, ↓awp_seq, ↓awp_block, C_ex, Nat.reduceBEq, acap, afieldAddr, aload, astore, abin, anum, astr, aun, isAggD, cond_true, cond_false, ↓reduceIte, C_P, C_G, isTuple, Value.cells, setL, ares, aresL, ares1, reduceCtorEq, Nat.reduceEqDiff, eq_self, Nat.reduceAdd, if_true, if_false, Go.Abs.one, Nat.reduceLeDiff, undef, gsl, aextract, aindexAddr, amake, implies_true, forall_const, alen, abuiltin, anil, isC, Int.reduceEq, Int.reduceLT, Int.reduceLE, Int.reduceAdd, Int.reduceToNat, Int.reduceNeg, Nat.reduceMul, Nat.reduceSub, abuild, afill, Int.reduceBNe, Int.reduceBEq, h1, h2, h3, h7, h9, h10, h11, h12, h13, h14, h15, h16, hwb, hjm, Int.ofNat_lt, decide_true, hcb, hMj, asz9, Tryd.underlying9, Tryd.underlying39]
      refine ⟨by omega, ?_⟩
      refine ACallF.enter Tryd.func12 rfl (by kernel_rfl) (LWho_spec s (g2 ++ (g ++ R)) h D U kk (dT ts).c now' (dT ts).F (dT ts).L (tgs j) hU (tgs_bt j) (by rw [hlen]; omega) hD hs _ _ fun s4 hs4 => ?_)
      have hcb := hs4.get hbm'
      have hne : ((str (tgs j)).toList == (str id).toList) = false := by rw [str_beq (tgs_bt j) hidb]; exact decide_eq_false (hid j hjm)
      have w1 : IntKind.i64.wrap ((j : Int) + 1) = ((j + 1 : Nat) : Int) := by rw [w_i64 (by omega)]; rfl
      have w2 : IntKind.i64.wrap (((((sesT ts).take j).filter (lv U.life now')).length : Int) + 1) = (((((sesT ts).take j).filter (lv U.life now')).length + 1 : Nat) : Int) := by rw [w_i64 (by omega)]; rfl
      cases hl : lv U.life now' ⟨tgs j, ann, ts.getD j 0⟩ <;> rw [hl] at hft hwho <;> simp only [cond_true, cond_false] at hwho <;> rw [show whoF U (dT ts).L (tgs j) now' = _ from hwho] <;>
      simp (config := { implicitDefEqProofs := false }) only [↓GP, ↓GM, GQ, abuiltinX, ↓awp_seq, ↓awp_block, C_ex, Nat.reduceBEq, acap, afieldAddr, aload, astore, abin, anum, astr, aun, isAggD, cond_true, cond_false, ↓reduceIte, C_P, C_G, isTuple, Value.cells, setL, ares, aresL, ares1, reduceCtorEq, Nat.reduceEqDiff, eq_self, Nat.reduceAdd, if_true, if_false, Go.Abs.one, Nat.reduceLeDiff, undef, gsl, aextract, aindexAddr, amake, implies_true, forall_const, alen, abuiltin, anil, isC, Int.reduceEq, Int.reduceLT, Int.reduceLE, Int.reduceAdd, Int.reduceToNat, Int.reduceNeg, Nat.reduceMul, Nat.reduceSub, abuild, afill, Int.reduceBNe, Int.reduceBEq, whoV, h1, h2, h3, h7, h9, h10, h11, h12, h13, h14, h15, h16, hwb, hjm, Int.ofNat_lt, decide_true, hcb, hMj, asz9, Tryd.underlying9, Tryd.underlying39, hne, w1, w2]
      · exact ⟨by omega, ts.length - (j + 1), by omega, j + 1, rfl, by omega, by rw [hft]; rfl, rfl, hs4⟩
      · exact ⟨by omega, ts.length - (j + 1), by omega, j + 1, rfl, by omega, by rw [hft]; rfl, rfl, hs4⟩
    · obtain rfl : j = ts.length := by omega
      have h15 : ρ 15 = .int .i64 (liveT U ts now' : Nat) := by
        rw [h15, show (sesT ts).take ts.length = sesT ts by rw [← sesT_length]; exact List.take_length]
        rfl
      have hcT : s.H T = some (.cells [.int .i64 U.tries, .int .i64 U.lock, .int .i64 U.life, .int .i64 U.most] 23 true) := hs.get (List.mem_append_right h (List.mem_append_right g2 (List.mem_append_right g hTR)))
      have tf : (true == false) = false := rfl
      have ft : (false == true) = false := rfl
      have tt : (true == true) = true := rfl
      have ff : (false == false) = true := rfl
      have e51 : ((51 : Int) == 51) = true := rfl
      have e0 : ((0 : Int) == 51) = false := rfl
      have e00 : ((0 : Int) == 0) = true := rfl
      have e510 : ((51 : Int) == 0) = false := rfl
      have w1 : IntKind.i64.wrap ((i : Int) + 1) = ((i + 1 : Nat) : Int) := by rw [w_i64 (by omega)]; rfl
      generalize hlT : liveT U ts now' = lN at *
      have hdok : (dT ts).ok := ⟨fun x hx => (by cases hx), by show -9223372036854775808 ≤ (ts.length : Int); omega, by show (ts.length : Int) ≤ 1152921504606846976; omega⟩
      rcases hcase with ⟨hlt, rfl, rfl, rfl⟩ | ⟨heq, rfl, rfl⟩
      · simp (config := { implicitDefEqProofs := false }) only [↓GP, ↓GM, GQ, abuiltinX, ↓awp_seq, ↓awp_block, C_ex, Nat.reduceBEq, acap, afieldAddr, aload, astore, abin, anum, astr, aun, isAggD, cond_true, cond_false, ↓reduceIte, C_P, C_G, isTuple, Value.cells, setL, ares, aresL, ares1, reduceCtorEq, Nat.reduceEqDiff, eq_self, Nat.reduceAdd, if_true, if_false, Go.Abs.one, Nat.reduceLeDiff, undef, gsl, aextract, aindexAddr, amake, implies_true, forall_const, alen, abuiltin, anil, isC, Int.reduceEq, Int.reduceLT, Int.reduceLE, Int.reduceAdd, Int.reduceToNat, Int.reduceNeg, Nat.reduceMul, Nat.reduceSub, abuild, afill, Int.reduceBNe, Int.reduceBEq, h1, h2, h3, h7, h9, h10, h11, h12, h13, h14, h15, h16, hws, Int.ofNat_lt, Nat.lt_irrefl, decide_false, Tryd.underlying39, hcT, afo23_3, asz3, Tryd.underlying3, Tryd.underlying4, tf, ft, tt, ff, e51, e0, e00, e510, show ¬ ((lN : Int) > U.most) by omega, show ((lN : Int) == U.most) = false by simp; omega]
        refine ACallF.enter Tryd.func11 rfl (by kernel_rfl) (LApply_spec s (g2 ++ (g ++ R)) h D U kk (dT ts) v _ hdok (fun x hx => ?_) (by rw [hlen]; show ts.length + 2 ≤ 100000; omega) hD (hv.sub fun e he => List.mem_append_left _ he) hs _ _ fun h' s6 hD' hs6 => ?_)
        · simp only [List.mem_cons, List.not_mem_nil, or_false] at hx
          rcases hx with rfl | rfl
          · exact ⟨Bt.nil, Bt.nil, by show (-9223372036854775808 : Int) ≤ (ts.length : Int) + 1; omega, by show (ts.length : Int) + 1 ≤ 1152921504606846976; omega, by show (-9223372036854775808 : Int) ≤ 0; decide, by show (0 : Int) ≤ 9223372036854775807; decide⟩
          · exact ⟨tgs_bt _, ann_bt, by show (-9223372036854775808 : Int) ≤ now'; omega, by show now' ≤ 1152921504606846976; omega, by show (-9223372036854775808 : Int) ≤ 0; decide, by show (0 : Int) ≤ 9223372036854775807; decide⟩
        rw [apT] at hD'
        have hs7 : Own s6 (g ++ (h' ++ R)) := (hs6.perm (by simpa using perm_of [h', g2, g, R] [0, 1, 2, 3] [1, 2, 0, 3] rfl)).right
        simp (config := { implicitDefEqProofs := false }) only [↓GP, ↓GM, GQ, abuiltinX, ↓awp_seq, ↓awp_block, C_ex, Nat.reduceBEq, acap, afieldAddr, aload, astore, abin, anum, astr, aun, isAggD, cond_true, cond_false, ↓reduceIte, C_P, C_G, isTuple, Value.cells, setL, ares, aresL, ares1, reduceCtorEq, Nat.reduceEqDiff, eq_self, Nat.reduceAdd, if_true, if_false, Go.Abs.one, Nat.reduceLeDiff, undef, gsl, aextract, aindexAddr, amake, implies_true, forall_const, alen, abuiltin, anil, isC, Int.reduceEq, Int.reduceLT, Int.reduceLE, Int.reduceAdd, Int.reduceToNat, Int.reduceNeg, Nat.reduceMul, Nat.reduceSub, abuild, afill, Int.reduceBNe, Int.reduceBEq, h1, h2, h3, h7, h9, h10, h11, h12, h13, h14, h15, h16, hws, e00, abuildSlice_one (st := s6) (v := .string (str (tgs ts.length))) Tryd.underlying39 asz9 azc9 rfl rfl rfl (by decide)]
        refine GVx.append1 Tryd.underlying39 (by rw [Tryd.underlying39]; rfl) asz9 azc9 (c := [.string (str (tgs ts.length))]) aby9 (hws ▸ hG) hs7 rfl rfl (by omega) fun w' g' s8 hG' hs8 => ?_
        simp (config := { implicitDefEqProofs := false }) only [↓GP, ↓GM, GQ, abuiltinX, ↓awp_seq, ↓awp_block, C_ex, Nat.reduceBEq, acap, afieldAddr, aload, astore, abin, anum, astr, aun, isAggD, cond_true, cond_false, ↓reduceIte, C_P, C_G, isTuple, Value.cells, setL, ares, aresL, ares1, reduceCtorEq, Nat.reduceEqDiff, eq_self, Nat.reduceAdd, if_true, if_false, Go.Abs.one, Nat.reduceLeDiff, undef, gsl, aextract, aindexAddr, amake, implies_true, forall_const, alen, abuiltin, anil, isC, Int.reduceEq, Int.reduceLT, Int.reduceLE, Int.reduceAdd, Int.reduceToNat, Int.reduceNeg, Nat.reduceMul, Nat.reduceSub, abuild, afill, Int.reduceBNe, Int.reduceBEq, h1, h2, h3, h7, h9, h10, h11, h12, h13, h14, h15, h16, w1]
        have htl' : (ts ++ [now']).length = ts.length + 1 := by simp
        refine ⟨times.length - (i + 1), by omega, i + 1, ts ++ [now'], now', w', g', h', rfl, by omega, by omega, by omega, by omega, fun t ht => ?_, ?_, ?_⟩
        · rcases List.mem_append.1 ht with ht | ht
          · have := hts t ht; omega
          · rw [List.mem_singleton.1 ht]; omega
        · rw [liveT_snoc (by omega), hlT]; omega
        · rw [htl', idsT_succ]
          exact ⟨rfl, rfl, rfl, hG'.x, hD', hs8⟩
      · simp (config := { implicitDefEqProofs := false }) only [↓GP, ↓GM, GQ, abuiltinX, ↓awp_seq, ↓awp_block, C_ex, Nat.reduceBEq, acap, afieldAddr, aload, astore, abin, anum, astr, aun, isAggD, cond_true, cond_false, ↓reduceIte, C_P, C_G, isTuple, Value.cells, setL, ares, aresL, ares1, reduceCtorEq, Nat.reduceEqDiff, eq_self, Nat.reduceAdd, if_true, if_false, Go.Abs.one, Nat.reduceLeDiff, undef, gsl, aextract, aindexAddr, amake, implies_true, forall_const, alen, abuiltin, anil, isC, Int.reduceEq, Int.reduceLT, Int.reduceLE, Int.reduceAdd, Int.reduceToNat, Int.reduceNeg, Nat.reduceMul, Nat.reduceSub, abuild, afill, Int.reduceBNe, Int.reduceBEq, h1, h2, h3, h7, h9, h10, h11, h12, h13, h14, h15, h16, hws, Int.ofNat_lt, Nat.lt_irrefl, decide_false, Tryd.underlying39, hcT, afo23_3, asz3, Tryd.underlying3, Tryd.underlying4, tf, ft, tt, ff, e51, e0, e00, e510, show ¬ ((lN : Int) > U.most) by omega, show ((lN : Int) == U.most) = true by simp; omega]
        refine ACallF.enter Tryd.func11 rfl (by kernel_rfl) (LApply_spec s (g2 ++ (g ++ R)) h D U kk (dT ts) v _ hdok (fun x hx => by cases hx) (by rw [hlen]; show ts.length + 0 ≤ 100000; omega) hD (hv.sub fun e he => List.mem_append_left _ he) hs _ _ fun h' s6 hD' hs6 => ?_)
        rw [show apL (dT ts) [] = dT ts from rfl] at hD'
        have hs7 : Own s6 (g ++ (h' ++ R)) := (hs6.perm (by simpa using perm_of [h', g2, g, R] [0, 1, 2, 3] [1, 2, 0, 3] rfl)).right
        simp (config := { implicitDefEqProofs := false }) only [↓GP, ↓GM, GQ, abuiltinX, ↓awp_seq, ↓awp_block, C_ex, Nat.reduceBEq, acap, afieldAddr, aload, astore, abin, anum, astr, aun, isAggD, cond_true, cond_false, ↓reduceIte, C_P, C_G, isTuple, Value.cells, setL, ares, aresL, ares1, reduceCtorEq, Nat.reduceEqDiff, eq_self, Nat.reduceAdd, if_true, if_false, Go.Abs.one, Nat.reduceLeDiff, undef, gsl, aextract, aindexAddr, amake, implies_true, forall_const, alen, abuiltin, anil, isC, Int.reduceEq, Int.reduceLT, Int.reduceLE, Int.reduceAdd, Int.reduceToNat, Int.reduceNeg, Nat.reduceMul, Nat.reduceSub, abuild, afill, Int.reduceBNe, Int.reduceBEq, h1, h2, h3, h7, h9, h10, h11, h12, h13, h14, h15, h16, e510, w1]
        refine ⟨times.length - (i + 1), by omega, i + 1, ts, now', w, g, h', rfl, by omega, by omega, by omega, by omega, fun t ht => ?_, ?_, ?_⟩
        · have := hts t ht; omega
        · omega
        · exact ⟨rfl, rfl, rfl, hG, hD', hs7⟩
  · obtain rfl : i = times.length := by omega
    simp (config := { implicitDefEqProofs := false }) only [↓GP, ↓GM, GQ, abuiltinX, ↓awp_seq, ↓awp_block, C_ex, Nat.reduceBEq, acap, afieldAddr, aload, astore, abin, anum, astr, aun, isAggD, cond_true, cond_false, ↓reduceIte, C_P, C_G, isTuple, Value.cells, setL, ares, aresL, ares1, reduceCtorEq, Nat.reduceEqDiff, eq_self, Nat.reduceAdd, if_true, if_false, Go.Abs.one, Nat.reduceLeDiff, undef, gsl, aextract, aindexAddr, amake, implies_true, forall_const, alen, abuiltin, anil, isC, Int.reduceEq, Int.reduceLT, Int.reduceLE, Int.reduceAdd, Int.reduceToNat, Int.reduceNeg, Nat.reduceMul, Nat.reduceSub, abuild, afill, Int.reduceBNe, Int.reduceBEq, h1, h2, h3, h7, h9, h10, h11, htv, Int.ofNat_lt, Nat.lt_irrefl, decide_false, Tryd.underlying24]
    obtain ⟨kv, hkv, hk0, hk1⟩ := rem100 n 100000 (by decide) (by decide)
    have es : (⟨#[115]⟩ : ByteArray) = str [115] := rfl
    have hb115 : Bt [115] := by unfold Bt; decide
    have wk : IntKind.i64.wrap (kv + 1) = kv + 1 := w_i64 (by omega)
    have wm : IntKind.i64.wrap (-kv) = -kv := w_i64 (by omega)
    rw [hkv, es]
    refine ACallF.enter Tryd.func13 rfl (by kernel_rfl) (Tag_spec s _ [115] [] kv _ ok hT hb115 (by decide) (by omega) nb_nil (by decide) (List.mem_append_right g (List.mem_append_right h hKR)) hs _ _ fun s2 hs2 => ?_)
    simp (config := { implicitDefEqProofs := false }) only [↓GP, ↓GM, GQ, abuiltinX, ↓awp_seq, ↓awp_block, C_ex, Nat.reduceBEq, acap, afieldAddr, aload, astore, abin, anum, aun, isAggD, cond_true, cond_false, ↓reduceIte, C_P, C_G, isTuple, Value.cells, setL, ares, aresL, ares1, reduceCtorEq, Nat.reduceEqDiff, eq_self, Nat.reduceAdd, if_true, if_false, Go.Abs.one, Nat.reduceLeDiff, undef, gsl, aextract, aindexAddr, amake, implies_true, forall_const, alen, abuiltin, anil, isC, Int.reduceEq, Int.reduceLT, Int.reduceLE, Int.reduceAdd, Int.reduceToNat, Int.reduceNeg, Nat.reduceMul, Nat.reduceSub, abuild, afill, Int.reduceBNe, Int.reduceBEq, wk, es]
    refine ACallF.enter Tryd.func13 rfl (by kernel_rfl) (Tag_spec s2 _ [115] [] (kv + 1) _ ok hT hb115 (by decide) (by omega) nb_nil (by decide) (List.mem_append_right g (List.mem_append_right h hKR)) hs2 _ _ fun s3 hs3 => ?_)
    have hne : ¬ tagN [115] kv.toNat [] = tagN [115] (kv + 1).toNat [] := fun h => by have := tagN_inj h; omega
    simp (config := { implicitDefEqProofs := false }) only [↓GP, ↓GM, GQ, abuiltinX, ↓awp_seq, ↓awp_block, C_ex, Nat.reduceBEq, acap, afieldAddr, aload, astore, abin, anum, aun, isAggD, cond_true, cond_false, ↓reduceIte, C_P, C_G, isTuple, Value.cells, setL, ares, aresL, ares1, reduceCtorEq, Nat.reduceEqDiff, eq_self, Nat.reduceAdd, if_true, if_false, Go.Abs.one, Nat.reduceLeDiff, undef, gsl, aextract, aindexAddr, amake, implies_true, forall_const, alen, abuiltin, anil, isC, Int.reduceEq, Int.reduceLT, Int.reduceLE, Int.reduceAdd, Int.reduceToNat, Int.reduceNeg, Nat.reduceMul, Nat.reduceSub, abuild, afill, Int.reduceBNe, Int.reduceBEq, wm, es, astr_neq (tagN_bt (key := []) (n := kv.toNat) hb115) (tagN_bt (key := []) (n := (kv + 1).toNat) hb115), hne, decide_false, Bool.not_false]
    have wm : IntKind.i64.wrap (0 - kv) = 0 - kv := w_i64 (by omega)
    rw [wm]
    refine ACallF.enter Tryd.func13 rfl (by kernel_rfl) (Tag_spec s3 _ [115] [] (0 - kv) _ ok hT hb115 (by decide) (by omega) nb_nil (by decide) (List.mem_append_right g (List.mem_append_right h hKR)) hs3 _ _ fun s4 hs4 => ?_)
    simp (config := { implicitDefEqProofs := false }) only [↓GP, ↓GM, GQ, abuiltinX, ↓awp_seq, ↓awp_block, C_ex, Nat.reduceBEq, acap, afieldAddr, aload, astore, abin, anum, aun, isAggD, cond_true, cond_false, ↓reduceIte, C_P, C_G, isTuple, Value.cells, setL, ares, aresL, ares1, reduceCtorEq, Nat.reduceEqDiff, eq_self, Nat.reduceAdd, if_true, if_false, Go.Abs.one, Nat.reduceLeDiff, undef, gsl, aextract, aindexAddr, amake, implies_true, forall_const, alen, abuiltin, anil, isC, Int.reduceEq, Int.reduceLT, Int.reduceLE, Int.reduceAdd, Int.reduceToNat, Int.reduceNeg, Nat.reduceMul, Nat.reduceSub, abuild, afill, Int.reduceBNe, Int.reduceBEq, es]
    refine ACallF.enter Tryd.func13 rfl (by kernel_rfl) (Tag_spec s4 _ [115] [] 0 _ ok hT hb115 (by decide) (by omega) nb_nil (by decide) (List.mem_append_right g (List.mem_append_right h hKR)) hs4 _ _ fun s5 hs5 => ?_)
    rw [show (0 - kv).toNat = 0 by omega, show (0 : Int).toNat = 0 from rfl]
    simp (config := { implicitDefEqProofs := false }) only [↓GP, ↓GM, GQ, abuiltinX, ↓awp_seq, ↓awp_block, C_ex, Nat.reduceBEq, acap, afieldAddr, aload, astore, abin, anum, aun, isAggD, cond_true, cond_false, ↓reduceIte, C_P, C_G, isTuple, Value.cells, setL, ares, aresL, ares1, reduceCtorEq, Nat.reduceEqDiff, eq_self, Nat.reduceAdd, if_true, if_false, Go.Abs.one, Nat.reduceLeDiff, undef, gsl, aextract, aindexAddr, amake, implies_true, forall_const, alen, abuiltin, anil, isC, Int.reduceEq, Int.reduceLT, Int.reduceLE, Int.reduceAdd, Int.reduceToNat, Int.reduceNeg, Nat.reduceMul, Nat.reduceSub, abuild, afill, Int.reduceBNe, Int.reduceBEq, astr_eql (tagN_bt (key := []) (n := 0) hb115) (tagN_bt (key := []) (n := 0) hb115), decide_true]
    exact hk _
end Go.Proofs.YthohmdkibkompaaDoor
