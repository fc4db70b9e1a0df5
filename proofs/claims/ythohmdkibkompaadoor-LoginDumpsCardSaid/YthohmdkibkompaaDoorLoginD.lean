/- The desk: sessions that are looked for, and taken out. No conditions. -/
import Derived.Test.YthohmdkibkompaaDoorLoginC
set_option linter.unusedVariables false
set_option linter.unusedSimpArgs false
namespace Go.Proofs.YthohmdkibkompaaDoor
open Go Go.Abs Go.RowKit
variable {base : Nat} {w0 : World} {G : Nat}

theorem acallV_cap {cx : Cx} {n : Nat} {x cap : Value} {st : St} {k q : Value → St → Prop} : acallV cx (.func (.func n) #[] #[cap]) [x] st k q = ACallF cx n [x, cap] st k q := rfl
/-- A function of sessions, as it is handed on: its number, what it has caught. -/
def Pred (cx : Cx) (n : Nat) (cap : Value) (r : Hp) (p : Ses → Bool) : Prop :=
  ∀ (S : Ses) (st : St) (X : Hp) (k q : Value → St → Prop), S.ok → (∀ e ∈ r, e ∈ X) → Own st X → (∀ st', Own st' X → k (.bool (p S)) st') → ACallF cx n [.agg S.cells.toArray, cap] st k q
theorem Pred.sub {cx : Cx} {n : Nat} {cap : Value} {r r' : Hp} {p : Ses → Bool} (h : Pred cx n cap r p) (hs : ∀ e ∈ r, e ∈ r') : Pred cx n cap r' p :=
  fun S st X k q h1 h2 h3 h4 => h S st X k q h1 (fun e he => h2 e (hs e he)) h3 h4
/-- Where the first of these stands; how many there are: none. -/
def fnd {α : Type} (p : α → Bool) : List α → Nat
  | [] => 0
  | a :: l => bif p a then 0 else fnd p l + 1
theorem fnd_le {α : Type} (p : α → Bool) : ∀ l : List α, fnd p l ≤ l.length
  | [] => Nat.le_refl _
  | a :: l => by
    unfold fnd
    have := fnd_le p l
    cases p a <;> simp; omega
theorem fnd_spec {α : Type} (p : α → Bool) : ∀ (l : List α) (i : Nat), i ≤ l.length → (∀ a ∈ l.take i, p a = false) → (∀ h : i < l.length, p l[i] = true) → fnd p l = i
  | [], i, hi, _, _ => by simp at hi; simp [fnd, hi]
  | a :: l, 0, _, _, h => by have := h (by simp); simp at this; simp [fnd, this]
  | a :: l, i + 1, hi, h1, h2 => by
    have ha : p a = false := h1 a (by simp)
    have := fnd_spec p l i (by simpa using hi) (fun b hb => h1 b (by simp [hb])) (fun h => h2 (by simp; omega))
    simp [fnd, ha, this]
theorem fnd_take {α : Type} (p : α → Bool) : ∀ l : List α, ∀ a ∈ l.take (fnd p l), p a = false
  | [], a, h => by simp at h
  | b :: l, a, h => by
    cases hb : p b with
    | true => simp [fnd, hb] at h
    | false =>
      simp only [fnd, hb, cond_false, List.take_succ_cons, List.mem_cons] at h
      rcases h with rfl | h
      · exact hb
      · exact fnd_take p l a h
theorem fnd_at {α : Type} (p : α → Bool) : ∀ (l : List α) (h : fnd p l < l.length), p l[fnd p l] = true
  | [], h => by simp at h
  | b :: l, h => by
    cases hb : p b with
    | true => simp [fnd, hb]
    | false =>
      have h' : fnd p l < l.length := by simp [fnd, hb] at h; exact h
      have := fnd_at p l h'
      simpa [fnd, hb] using this
def idxV (p : Ses → Bool) (L : List Ses) : Int := if fnd p L < L.length then (fnd p L : Int) else -1
set_option maxRecDepth 10000 in
theorem SIndex_spec (st : St) (r : Hp) (l : Value) (L : List Ses) (n : Nat) (cap : Value) (p : Ses → Bool) (hP : Pred (C base w0 G) n cap r p) (hL : SL r l L) (hn : L.length ≤ 100000) (hO : Own st r) (k q : Value → St → Prop)
    (hk : ∀ st', Own st' r → k (.int .i64 (idxV p L)) st') : ACall (C base w0 G) 34 [l, .func (.func n) #[] #[cap]] st k q := by
  obtain ⟨a, cp, hls, _⟩ := hL.1.isSlice
  rw [List.length_map] at hls
  refine ACall.of (cx := C base w0 G) mixed Tryd.func34 rfl (by kernel_rfl) (by simp [Tryd.ntmps34]) ?_
  simp only [Tryd.results34]
  simp (config := { implicitDefEqProofs := false }) only [↓GP, ↓GM, GQ, abuiltinX, ↓awp_seq, ↓awp_block, C_ex, Nat.reduceBEq, acap, afieldAddr, aload, astore, abin, anum, astr, aun, isAggD, cond_true, cond_false, ↓reduceIte, C_P, C_G, isTuple, Value.cells, setL, ares, aresL, ares1, reduceCtorEq, Nat.reduceEqDiff, eq_self, Nat.reduceAdd, if_true, if_false, Go.Abs.one, Nat.reduceLeDiff, undef, gsl, aextract, aindexAddr, amake, implies_true, forall_const, alen, abuiltin, anil, isC, Int.reduceEq, Int.reduceLT, Int.reduceLE, Int.reduceAdd, Int.reduceToNat, Int.reduceNeg, Nat.reduceMul, Nat.reduceSub, abuild, afill, Int.reduceBNe, Int.reduceBEq, hls, Tryd.underlying54]
  refine ⟨fun m ρ s => ∃ i : Nat, m = L.length - i ∧ i ≤ L.length ∧ ρ 0 = l ∧ ρ 1 = .func (.func n) #[] #[cap] ∧ ρ 7 = .int .i64 L.length ∧ ρ 8 = .int .i64 i ∧ (∀ a ∈ L.take i, p a = false) ∧ Own s r, ⟨_, 0, rfl, Nat.zero_le _, hls.symm, rfl, rfl, rfl, fun a h => by simp at h, hO⟩, ?_⟩
  rintro _ ρ s ⟨i, rfl, hi, h0, h1, h7, h8, hno, hs⟩
  by_cases him : i < L.length
  · obtain ⟨x, o, sp, c', cs, ty, own, hvx, hmem, hcut⟩ := hL.1.mem (i := i) (l := (L[i]).cells) (by simp [him])
    rw [List.length_map] at hvx
    have hcx := hs.get hmem
    have hok := hL.2 L[i] (List.getElem_mem him)
    simp (config := { implicitDefEqProofs := false }) only [↓GP, ↓GM, GQ, abuiltinX, ↓awp_seq, ↓awp_block, C_ex, Nat.reduceBEq, acap, afieldAddr, aload, astore, abin, anum, astr, aun, isAggD, cond_true, cond_false, ↓reduceIte, C_P, C_G, isTuple, Value.cells, setL, ares, aresL, ares1, reduceCtorEq, Nat.reduceEqDiff, eq_self, Nat.reduceAdd, if_true, if_false, Go.Abs.one, Nat.reduceLeDiff, undef, gsl, aextract, aindexAddr, amake, implies_true, forall_const, alen, abuiltin, anil, isC, Int.reduceEq, Int.reduceLT, Int.reduceLE, Int.reduceAdd, Int.reduceToNat, Int.reduceNeg, Nat.reduceMul, Nat.reduceSub, abuild, afill, Int.reduceBNe, Int.reduceBEq, h0, h1, h7, h8, hvx, him, Int.ofNat_lt, decide_true, hcx, hcut, asz64, Tryd.underlying54, Tryd.underlying64, Option.map_some]
    refine ⟨by omega, ?_⟩
    rw [acallV_cap]
    refine hP L[i] s r _ _ hok (fun e he => he) hs fun s1 hs1 => ?_
    have w1 : IntKind.i64.wrap ((i : Int) + 1) = ((i + 1 : Nat) : Int) := by rw [w_i64 (by omega)]; rfl
    cases hp : p L[i] with
    | true =>
      have hf : fnd p L = i := fnd_spec p L i (by omega) hno (fun _ => hp)
      have hV : idxV p L = i := by rw [idxV, hf, if_pos him]
      rw [hV] at hk
      simp (config := { implicitDefEqProofs := false }) only [↓GP, ↓GM, GQ, abuiltinX, ↓awp_seq, ↓awp_block, C_ex, Nat.reduceBEq, acap, afieldAddr, aload, astore, abin, anum, astr, aun, isAggD, cond_true, cond_false, ↓reduceIte, C_P, C_G, isTuple, Value.cells, setL, ares, aresL, ares1, reduceCtorEq, Nat.reduceEqDiff, eq_self, Nat.reduceAdd, if_true, if_false, Go.Abs.one, Nat.reduceLeDiff, undef, gsl, aextract, aindexAddr, amake, implies_true, forall_const, alen, abuiltin, anil, isC, Int.reduceEq, Int.reduceLT, Int.reduceLE, Int.reduceAdd, Int.reduceToNat, Int.reduceNeg, Nat.reduceMul, Nat.reduceSub, abuild, afill, Int.reduceBNe, Int.reduceBEq, h0, h1, h7, h8]
      exact hk _ hs1
    | false =>
      simp (config := { implicitDefEqProofs := false }) only [↓GP, ↓GM, GQ, abuiltinX, ↓awp_seq, ↓awp_block, C_ex, Nat.reduceBEq, acap, afieldAddr, aload, astore, abin, anum, astr, aun, isAggD, cond_true, cond_false, ↓reduceIte, C_P, C_G, isTuple, Value.cells, setL, ares, aresL, ares1, reduceCtorEq, Nat.reduceEqDiff, eq_self, Nat.reduceAdd, if_true, if_false, Go.Abs.one, Nat.reduceLeDiff, undef, gsl, aextract, aindexAddr, amake, implies_true, forall_const, alen, abuiltin, anil, isC, Int.reduceEq, Int.reduceLT, Int.reduceLE, Int.reduceAdd, Int.reduceToNat, Int.reduceNeg, Nat.reduceMul, Nat.reduceSub, abuild, afill, Int.reduceBNe, Int.reduceBEq, h0, h1, h7, h8, w1]
      refine ⟨L.length - (i + 1), by omega, i + 1, rfl, by omega, rfl, fun a ha => ?_, hs1⟩
      rw [List.take_add_one, List.getElem?_eq_getElem him] at ha
      rcases List.mem_append.1 ha with ha | ha
      · exact hno a ha
      · simp at ha; rw [ha]; exact hp
  · obtain rfl : i = L.length := by omega
    have hf : fnd p L = L.length := fnd_spec p L _ (Nat.le_refl _) hno (fun h => absurd h (by omega))
    have hV : idxV p L = -1 := by rw [idxV, hf, if_neg (by omega)]
    simp (config := { implicitDefEqProofs := false }) only [↓GP, ↓GM, GQ, abuiltinX, ↓awp_seq, ↓awp_block, C_ex, Nat.reduceBEq, acap, afieldAddr, aload, astore, abin, anum, astr, aun, isAggD, cond_true, cond_false, ↓reduceIte, C_P, C_G, isTuple, Value.cells, setL, ares, aresL, ares1, reduceCtorEq, Nat.reduceEqDiff, eq_self, Nat.reduceAdd, if_true, if_false, Go.Abs.one, Nat.reduceLeDiff, undef, gsl, aextract, aindexAddr, amake, implies_true, forall_const, alen, abuiltin, anil, isC, Int.reduceEq, Int.reduceLT, Int.reduceLE, Int.reduceAdd, Int.reduceToNat, Int.reduceNeg, Nat.reduceMul, Nat.reduceSub, abuild, afill, Int.reduceBNe, Int.reduceBEq, h0, h1, h7, h8, Int.ofNat_lt, Nat.lt_irrefl, decide_false]
    rw [hV] at hk
    exact hk _ hs
def isId (id : List Nat) (s : Ses) : Bool := decide (s.id = id)
set_option maxRecDepth 10000 in
theorem find1_pred (r : Hp) (b : Nat) (id : List Nat) (own : Bool) {ty : TypeId} (hid : Bt id) (hb : (b, Ob.cells [.string (str id)] ty own) ∈ r) : Pred (C base w0 G) 35 (.pointer (some ⟨b, 0, none⟩)) r (isId id) := by
  intro S st X k q hS hX hO hk
  refine ACallF.enter Tryd.func35 rfl (by kernel_rfl) ?_
  refine ACall.of (cx := C base w0 G) mixed Tryd.func35 rfl (by kernel_rfl) (by simp [Tryd.ntmps35]) ?_
  simp only [Tryd.results35]
  have hcb := hO.get (hX _ hb)
  have hne := hO.fresh (hX _ hb)
  have hO1 := hO.new (.cells S.cells 64 true)
  have e := str_beq hS.1 hid
  simp (config := { implicitDefEqProofs := false }) only [↓GP, ↓GM, GQ, abuiltinX, ↓awp_seq, ↓awp_block, C_ex, Nat.reduceBEq, acap, afieldAddr, aload, astore, abin, anum, astr, aun, isAggD, cond_true, cond_false, ↓reduceIte, C_P, C_G, isTuple, Value.cells, setL, ares, aresL, ares1, reduceCtorEq, Nat.reduceEqDiff, eq_self, Nat.reduceAdd, if_true, if_false, Go.Abs.one, Nat.reduceLeDiff, undef, gsl, aextract, aindexAddr, amake, implies_true, forall_const, alen, abuiltin, anil, isC, Int.reduceEq, Int.reduceLT, Int.reduceLE, Int.reduceAdd, Int.reduceToNat, Int.reduceNeg, Nat.reduceMul, Nat.reduceSub, abuild, afill, Int.reduceBNe, Int.reduceBEq, abox, Ses.cells, asz64, asz9, hcb, hne, afo64_0, Tryd.underlying9, e]
  exact hk _ hO1.tail
set_option maxRecDepth 10000 in
theorem shut1_pred (r : Hp) (b : Nat) (id : List Nat) (own : Bool) {ty : TypeId} (hid : Bt id) (hb : (b, Ob.cells [.string (str id)] ty own) ∈ r) : Pred (C base w0 G) 33 (.pointer (some ⟨b, 0, none⟩)) r (isId id) := by
  intro S st X k q hS hX hO hk
  refine ACallF.enter Tryd.func33 rfl (by kernel_rfl) ?_
  refine ACall.of (cx := C base w0 G) mixed Tryd.func33 rfl (by kernel_rfl) (by simp [Tryd.ntmps33]) ?_
  simp only [Tryd.results33]
  have hcb := hO.get (hX _ hb)
  have hne := hO.fresh (hX _ hb)
  have hO1 := hO.new (.cells S.cells 64 true)
  have e := str_beq hS.1 hid
  simp (config := { implicitDefEqProofs := false }) only [↓GP, ↓GM, GQ, abuiltinX, ↓awp_seq, ↓awp_block, C_ex, Nat.reduceBEq, acap, afieldAddr, aload, astore, abin, anum, astr, aun, isAggD, cond_true, cond_false, ↓reduceIte, C_P, C_G, isTuple, Value.cells, setL, ares, aresL, ares1, reduceCtorEq, Nat.reduceEqDiff, eq_self, Nat.reduceAdd, if_true, if_false, Go.Abs.one, Nat.reduceLeDiff, undef, gsl, aextract, aindexAddr, amake, implies_true, forall_const, alen, abuiltin, anil, isC, Int.reduceEq, Int.reduceLT, Int.reduceLE, Int.reduceAdd, Int.reduceToNat, Int.reduceNeg, Nat.reduceMul, Nat.reduceSub, abuild, afill, Int.reduceBNe, Int.reduceBEq, abox, Ses.cells, asz64, asz9, hcb, hne, afo64_0, Tryd.underlying9, e]
  exact hk _ hO1.tail
set_option maxRecDepth 10000 in
theorem Lfind_spec (st : St) (r : Hp) (D m : Nat) (R : Rul) (sv l : Value) (c : Int) (L : List Ses) (id : List Nat) (hid : Bt id) (hL : SL r l L) (hn : L.length ≤ 100000) (hm : (D, Ob.cells (dcells R sv c m l) 56 true) ∈ r) (hO : Own st r) (k q : Value → St → Prop)
    (hk : ∀ st', Own st' r → k (.int .i64 (idxV (isId id) L)) st') : ACall (C base w0 G) 24 [.pointer (some ⟨D, 0, none⟩), .string (str id)] st k q := by
  refine ACall.of (cx := C base w0 G) mixed Tryd.func24 rfl (by kernel_rfl) (by simp [Tryd.ntmps24]) ?_
  simp only [Tryd.results24]
  have hO1 := hO.new (.cells [.string (str id)] 9 true)
  have hcd := hO.get hm
  have hne := hO.fresh hm
  unfold dcells at hcd
  simp (config := { implicitDefEqProofs := false }) only [↓GP, ↓GM, GQ, abuiltinX, ↓awp_seq, ↓awp_block, C_ex, Nat.reduceBEq, acap, afieldAddr, aload, astore, abin, anum, astr, aun, isAggD, cond_true, cond_false, ↓reduceIte, C_P, C_G, isTuple, Value.cells, setL, ares, aresL, ares1, reduceCtorEq, Nat.reduceEqDiff, eq_self, Nat.reduceAdd, if_true, if_false, Go.Abs.one, Nat.reduceLeDiff, undef, gsl, aextract, aindexAddr, amake, implies_true, forall_const, alen, abuiltin, anil, isC, Int.reduceEq, Int.reduceLT, Int.reduceLE, Int.reduceAdd, Int.reduceToNat, Int.reduceNeg, Nat.reduceMul, Nat.reduceSub, abuild, afill, Int.reduceBNe, Int.reduceBEq, abox, asz9, hcd, hne, afo56_4, asz54, Tryd.underlying54, List.map_toArray, List.map_cons, List.map_nil]
  refine ACallF.enter Tryd.func34 rfl (by kernel_rfl) (SIndex_spec _ _ l L 35 _ (isId id) (find1_pred _ st.n id true hid (List.mem_cons_self ..)) ⟨hL.1.sub fun e he => List.mem_cons_of_mem _ he, hL.2⟩ hn hO1 _ _ fun s1 hs1 => ?_)
  simp (config := { implicitDefEqProofs := false }) only [↓GP, ↓GM, GQ, abuiltinX, ↓awp_seq, ↓awp_block, C_ex, Nat.reduceBEq, acap, afieldAddr, aload, astore, abin, anum, astr, aun, isAggD, cond_true, cond_false, ↓reduceIte, C_P, C_G, isTuple, Value.cells, setL, ares, aresL, ares1, reduceCtorEq, Nat.reduceEqDiff, eq_self, Nat.reduceAdd, if_true, if_false, Go.Abs.one, Nat.reduceLeDiff, undef, gsl, aextract, aindexAddr, amake, implies_true, forall_const, alen, abuiltin, anil, isC, Int.reduceEq, Int.reduceLT, Int.reduceLE, Int.reduceAdd, Int.reduceToNat, Int.reduceNeg, Nat.reduceMul, Nat.reduceSub, abuild, afill, Int.reduceBNe, Int.reduceBEq]
  exact hk _ hs1.tail
theorem sesL_set (M : List Ses) (T : List Value) (i : Nat) (s : Ses) (h : i < M.length) : setL (sesL M ++ T) (i * 3) s.cells = sesL (M.set i s) ++ T := by
  have h1 : (sesL (M.take i)).length = i * 3 := by rw [sesL_length, List.length_take, Nat.min_eq_left (by omega)]
  have e0 : sesL M = sesL (M.take i) ++ (M[i].cells ++ sesL (M.drop (i + 1))) := by
    conv => lhs; rw [show M = M.take i ++ (M[i] :: M.drop (i + 1)) by rw [← List.drop_eq_getElem_cons h, List.take_append_drop]]
    rw [sesL_append]; rfl
  have e : sesL M ++ T = sesL (M.take i) ++ (M[i].cells ++ (sesL (M.drop (i + 1)) ++ T)) := by rw [e0, List.append_assoc, List.append_assoc]
  rw [setL_take_drop _ _ _ (by rw [List.length_append, sesL_length]; simp [Ses.cells]; omega), e]
  have e2 : sesL (M.set i s) = sesL (M.take i) ++ (s.cells ++ sesL (M.drop (i + 1))) := by
    rw [List.set_eq_take_append_cons_drop, if_pos h, sesL_append]; rfl
  rw [e2, ← h1, List.take_left, show (sesL (M.take i)).length + s.cells.length = (sesL (M.take i) ++ M[i].cells).length by rw [List.length_append]; rfl, ← List.append_assoc (sesL (M.take i)) M[i].cells, List.drop_left]
  simp
theorem sesL_take (M : List Ses) (i : Nat) (h : i ≤ M.length) : (sesL M).take (i * 3) = sesL (M.take i) := by
  have h1 : (sesL (M.take i)).length = i * 3 := by rw [sesL_length, List.length_take, Nat.min_eq_left h]
  conv => lhs; rw [show M = M.take i ++ M.drop i by rw [List.take_append_drop]]
  rw [sesL_append, ← h1, List.take_left]
/-- The sessions in a slice that may have room. -/
def SB (lv : Value) (L : List Ses) (hg : Hp) : Prop := (lv = .slice none 0 0 ∧ L = [] ∧ hg = []) ∨ ∃ B c T, lv = .slice (some ⟨B, 0, some 0⟩) L.length c ∧ L.length ≤ c ∧ hg = [(B, .cells (sesL L ++ T) 64 true)]
theorem SB.sl {lv : Value} {L : List Ses} {hg r : Hp} (h : SB lv L hg) (hs : ∀ s ∈ L, s.ok) : SL (hg ++ r) lv L := by
  refine ⟨?_, hs⟩
  rcases h with ⟨rfl, rfl, rfl⟩ | ⟨B, c, T, rfl, hc, rfl⟩
  · exact .inl ⟨rfl, .inl rfl⟩
  · refine .inr ⟨B, 0, some 0, c, sesL L ++ T, 64, true, by rw [List.length_map], by simp, fun i x hi => ?_⟩
    rw [List.getElem?_map] at hi
    cases hLi : L[i]? with
    | none => rw [hLi] at hi; cases hi
    | some s =>
      rw [hLi] at hi
      injection hi with hi
      subst hi
      have hil := (List.getElem?_eq_some_iff.1 hLi).1
      have h1 := sesL_cut hLi
      unfold cut at h1 ⊢
      rw [if_pos (by rw [sesL_length]; omega)] at h1
      rw [if_pos (by rw [List.length_append, sesL_length]; omega), ← h1]
      rw [Nat.zero_add, List.drop_append_of_le_length (by rw [sesL_length]; omega), List.take_append_of_le_length (by rw [List.length_drop, sesL_length]; omega)]
theorem SB.isSlice {lv : Value} {L : List Ses} {hg : Hp} (h : SB lv L hg) : ∃ a c, lv = .slice a L.length c ∧ L.length ≤ c := by
  rcases h with ⟨rfl, rfl, rfl⟩ | ⟨B, c, T, rfl, hc, rfl⟩
  · exact ⟨_, _, rfl, Nat.le_refl _⟩
  · exact ⟨_, _, rfl, hc⟩
theorem filter_take1 {α : Type} {p : α → Bool} {L : List α} {i : Nat} {s : α} (h : L[i]? = some s) : (L.take (i + 1)).filter p = (L.take i).filter p ++ (bif p s then [s] else []) := by
  rw [List.take_add_one, h, List.filter_append]
  cases hp : p s <;> simp [hp]
set_option maxRecDepth 10000 in
theorem SDelete_spec (st : St) (r hg : Hp) (l : Value) (L : List Ses) (n : Nat) (cap : Value) (p : Ses → Bool) (hP : Pred (C base w0 G) n cap r p) (hL : SB l L hg) (hok : ∀ s ∈ L, s.ok) (hn : L.length ≤ 100000) (hO : Own st (hg ++ r)) (k q : Value → St → Prop)
    (hk : ∀ l' hg' st', SB l' (L.filter (fun s => !p s)) hg' → Own st' (hg' ++ r) → k l' st') : ACall (C base w0 G) 32 [l, .func (.func n) #[] #[cap]] st k q := by
  refine ACall.of (cx := C base w0 G) mixed Tryd.func32 rfl (by kernel_rfl) (by simp [Tryd.ntmps32]) ?_
  simp only [Tryd.results32]
  simp (config := { implicitDefEqProofs := false }) only [↓GP, ↓GM, GQ, abuiltinX, ↓awp_seq, ↓awp_block, C_ex, Nat.reduceBEq, acap, afieldAddr, aload, astore, abin, anum, astr, aun, isAggD, cond_true, cond_false, ↓reduceIte, C_P, C_G, isTuple, Value.cells, setL, ares, aresL, ares1, reduceCtorEq, Nat.reduceEqDiff, eq_self, Nat.reduceAdd, if_true, if_false, Go.Abs.one, Nat.reduceLeDiff, undef, gsl, aextract, aindexAddr, amake, implies_true, forall_const, alen, abuiltin, anil, isC, Int.reduceEq, Int.reduceLT, Int.reduceLE, Int.reduceAdd, Int.reduceToNat, Int.reduceNeg, Nat.reduceMul, Nat.reduceSub, abuild, afill, Int.reduceBNe, Int.reduceBEq]
  refine ACallF.enter Tryd.func34 rfl (by kernel_rfl) (SIndex_spec _ _ l L n cap p (hP.sub fun e he => List.mem_append_right _ he) (hL.sl hok) hn hO _ _ fun s1 hO1 => ?_)
  have hfl := fnd_le p L
  by_cases hf : fnd p L < L.length
  · have hV : idxV p L = (fnd p L : Int) := by rw [idxV, if_pos hf]
    rw [hV]
    rcases hL with ⟨rfl, rfl, rfl⟩ | ⟨B, c, T, rfl, hc, rfl⟩
    · simp at hf
    have e1 : (((fnd p L : Nat) : Int) == -1) = false := by rw [Bool.eq_false_iff]; simp
    have w1 : IntKind.i64.wrap (((fnd p L : Nat) : Int) + 1) = ((fnd p L + 1 : Nat) : Int) := by rw [w_i64 (by omega)]; rfl
    have hat := fnd_at p L hf
    have htk := fnd_take p L
    have hft := filter_take1 (p := fun s => !p s) (List.getElem?_eq_getElem hf)
    rw [hat, (List.filter_eq_self (l := L.take (fnd p L)) (p := fun s => !p s)).2 (fun a ha => by rw [htk a ha]; rfl)] at hft
    simp (config := { implicitDefEqProofs := false }) only [↓GP, ↓GM, GQ, abuiltinX, ↓awp_seq, ↓awp_block, C_ex, Nat.reduceBEq, acap, afieldAddr, aload, astore, abin, anum, astr, aun, isAggD, cond_true, cond_false, ↓reduceIte, C_P, C_G, isTuple, Value.cells, setL, ares, aresL, ares1, reduceCtorEq, Nat.reduceEqDiff, eq_self, Nat.reduceAdd, if_true, if_false, Go.Abs.one, Nat.reduceLeDiff, undef, gsl, aextract, aindexAddr, amake, implies_true, forall_const, alen, abuiltin, anil, isC, Int.reduceEq, Int.reduceLT, Int.reduceLE, Int.reduceAdd, Int.reduceToNat, Int.reduceNeg, Nat.reduceMul, Nat.reduceSub, abuild, afill, Int.reduceBNe, Int.reduceBEq, e1, w1]
    generalize fnd p L = f at *
    refine ⟨fun m ρ s => ∃ (i j : Nat) (M : List Ses), m = L.length - j ∧ j ≤ L.length ∧ i < j ∧ M.length = L.length ∧ M.take i = (L.take j).filter (fun s => !p s) ∧ M.drop j = L.drop j ∧ ρ 0 = .slice (some ⟨B, 0, some 0⟩) L.length c ∧ ρ 1 = .func (.func n) #[] #[cap] ∧ ρ 5 = .int .i64 i ∧ ρ 6 = .int .i64 j ∧ Own s ((B, .cells (sesL M ++ T) 64 true) :: r),
      ⟨_, f, f + 1, L, rfl, hf, by omega, rfl, by rw [hft]; simp, rfl, rfl, rfl, rfl, rfl, hO1⟩, ?_⟩
    rintro _ ρ s ⟨i, j, M, rfl, hj, hij, hM, htake, hdrop, h0, h1, h5, h6, hs⟩
    have hcb := hs.head
    by_cases hjl : j < L.length
    · have hMj : M[j]? = some L[j] := by
        have h1 := congrArg (fun l => l[0]?) hdrop
        simp only [List.getElem?_drop, Nat.add_zero] at h1
        rw [h1, List.getElem?_eq_getElem hjl]
      have hokj := hok L[j] (List.getElem_mem hjl)
      have hft := filter_take1 (p := fun s => !p s) (List.getElem?_eq_getElem hjl)
      have hdr : (L.drop (j + 1)) = (L.drop j).drop 1 := by rw [List.drop_drop]
      generalize L[j] = S at *
      have hcut : cut (sesL M ++ T) (j * 3) 3 = some S.cells := by
        have h1 := sesL_cut hMj
        unfold cut at h1 ⊢
        rw [if_pos (by rw [sesL_length]; omega)] at h1
        rw [if_pos (by rw [List.length_append, sesL_length]; omega), ← h1, List.drop_append_of_le_length (by rw [sesL_length]; omega), List.take_append_of_le_length (by rw [List.length_drop, sesL_length]; omega)]
      have hset : setL [Value.string ⟨#[]⟩, .string ⟨#[]⟩, .int .i64 0] 0 S.cells = S.cells := rfl
      have hcutS : cut S.cells 0 3 = some S.cells := rfl
      have hs2 := (hs.new (.cells [.string ⟨#[]⟩, .string ⟨#[]⟩, .int .i64 0] 64 true)).set rfl (.cells S.cells 64 true) rfl
      have hneB := hs.freshH
      simp (config := { implicitDefEqProofs := false }) only [↓GP, ↓GM, GQ, abuiltinX, ↓awp_seq, ↓awp_block, C_ex, Nat.reduceBEq, acap, afieldAddr, aload, astore, abin, anum, astr, aun, isAggD, cond_true, cond_false, ↓reduceIte, C_P, C_G, isTuple, Value.cells, setL, ares, aresL, ares1, reduceCtorEq, Nat.reduceEqDiff, eq_self, Nat.reduceAdd, if_true, if_false, Go.Abs.one, Nat.reduceLeDiff, undef, gsl, aextract, aindexAddr, amake, implies_true, forall_const, alen, abuiltin, anil, isC, Int.reduceEq, Int.reduceLT, Int.reduceLE, Int.reduceAdd, Int.reduceToNat, Int.reduceNeg, Nat.reduceMul, Nat.reduceSub, abuild, afill, Int.reduceBNe, Int.reduceBEq, h0, h1, h5, h6, hjl, Int.ofNat_lt, decide_true, hcb, hcut, asz64, azc64, aalloc, Tryd.underlying54, Tryd.underlying64, Option.map_some, hset, hcutS]
      refine ⟨by omega, ⟨rfl, rfl⟩, ?_⟩
      rw [acallV_cap]
      refine hP S _ _ _ _ hokj (fun e he => List.mem_cons_of_mem _ (List.mem_cons_of_mem _ he)) hs2 fun s3 hs3 => ?_
      have w2 : IntKind.i64.wrap ((j : Int) + 1) = ((j + 1 : Nat) : Int) := by rw [w_i64 (by omega)]; rfl
      have w3 : IntKind.i64.wrap ((i : Int) + 1) = ((i + 1 : Nat) : Int) := by rw [w_i64 (by omega)]; rfl
      cases hp : p S with
      | true =>
        simp (config := { implicitDefEqProofs := false }) only [↓GP, ↓GM, GQ, abuiltinX, ↓awp_seq, ↓awp_block, C_ex, Nat.reduceBEq, acap, afieldAddr, aload, astore, abin, anum, astr, aun, isAggD, cond_true, cond_false, ↓reduceIte, C_P, C_G, isTuple, Value.cells, setL, ares, aresL, ares1, reduceCtorEq, Nat.reduceEqDiff, eq_self, Nat.reduceAdd, if_true, if_false, Go.Abs.one, Nat.reduceLeDiff, undef, gsl, aextract, aindexAddr, amake, implies_true, forall_const, alen, abuiltin, anil, isC, Int.reduceEq, Int.reduceLT, Int.reduceLE, Int.reduceAdd, Int.reduceToNat, Int.reduceNeg, Nat.reduceMul, Nat.reduceSub, abuild, afill, Int.reduceBNe, Int.reduceBEq, h0, h1, h5, h6, Bool.not_true, w2]
        refine ⟨L.length - (j + 1), by omega, i, j + 1, M, rfl, by omega, by omega, hM, ?_, ?_, rfl, rfl, hs3.tail⟩
        · rw [htake, hft, hp]; simp
        · rw [hdr, ← hdrop, List.drop_drop]
      | false =>
        have hs4 := hs3.tail
        have hcs := hs3.head
        have hcb3 := hs4.head
        have hli : i < M.length := by omega
        have hsetM := sesL_set M T i S hli
        simp (config := { implicitDefEqProofs := false }) only [↓GP, ↓GM, GQ, abuiltinX, ↓awp_seq, ↓awp_block, C_ex, Nat.reduceBEq, acap, afieldAddr, aload, astore, abin, anum, astr, aun, isAggD, cond_true, cond_false, ↓reduceIte, C_P, C_G, isTuple, Value.cells, setL, ares, aresL, ares1, reduceCtorEq, Nat.reduceEqDiff, eq_self, Nat.reduceAdd, if_true, if_false, Go.Abs.one, Nat.reduceLeDiff, undef, gsl, aextract, aindexAddr, amake, implies_true, forall_const, alen, abuiltin, anil, isC, Int.reduceEq, Int.reduceLT, Int.reduceLE, Int.reduceAdd, Int.reduceToNat, Int.reduceNeg, Nat.reduceMul, Nat.reduceSub, abuild, afill, Int.reduceBNe, Int.reduceBEq, h0, h1, h5, h6, Bool.not_false, w2, w3, hcs, hcb3, hcutS, asz64, Tryd.underlying54, Tryd.underlying64, Option.map_some]
        refine ⟨by omega, ⟨rfl, by rw [List.length_append, sesL_length]; omega, rfl⟩, L.length - (j + 1), by omega, i + 1, j + 1, M.set i S, rfl, by omega, by omega, by rw [List.length_set]; exact hM, ?_, ?_, rfl, rfl, ?_⟩
        · rw [hft, hp, List.take_add_one, List.getElem?_set_self hli, List.take_set_of_le (Nat.le_refl _), htake]; rfl
        · rw [List.drop_set_of_lt (by omega), hdr, ← hdrop, List.drop_drop]
        · rw [hsetM]
          exact hs4.set rfl (.cells (sesL (M.set i S) ++ T) 64 true) rfl
    · obtain rfl : j = L.length := by omega
      have hil : i < L.length := by omega
      rw [List.take_length] at htake
      have hfl2 : (L.filter (fun s => !p s)).length = i := by rw [← htake, List.length_take]; omega
      obtain ⟨k0, hk0⟩ : ∃ k0, L.length - i = k0 + 1 := ⟨L.length - i - 1, by omega⟩
      have hsl1 : aslice Tryd.prog s 54 (.slice (some ⟨B, 0, some 0⟩) L.length c) (some (.int .i64 i)) none none = some (.slice (some ⟨B, i * 3, some 0⟩) (k0 + 1) (c - i)) :=
        (aslice_of (sp := 0) (lo := some (.int .i64 (i : Nat))) (hi := none) Tryd.underlying54 asz64 (openOK_open hcb asz64) (abounds_lo (by omega) hc)).trans (by rw [hk0, Nat.zero_add])
      have hcl : aclear Tryd.prog s 54 (.slice (some ⟨B, i * 3, some 0⟩) (k0 + 1) (c - i)) = some (s.set B (some (.cells (setL (sesL M ++ T) (i * 3) (zeros [.string ⟨#[]⟩, .string ⟨#[]⟩, .int .i64 0] (k0 + 1))) 64 true))) := by
        simp only [aclear, Tryd.underlying54, azc64, hcb]
        rw [if_pos ⟨rfl, by rw [List.length_append, sesL_length]; simp only [List.length_cons, List.length_nil]; omega⟩]
      have hs2 := hs.set rfl (.cells (setL (sesL M ++ T) (i * 3) (zeros [.string ⟨#[]⟩, .string ⟨#[]⟩, .int .i64 0] (k0 + 1))) 64 true) rfl
      have hsl2 : aslice Tryd.prog (s.set B (some (.cells (setL (sesL M ++ T) (i * 3) (zeros [.string ⟨#[]⟩, .string ⟨#[]⟩, .int .i64 0] (k0 + 1))) 64 true))) 54 (.slice (some ⟨B, 0, some 0⟩) L.length c) none (some (.int .i64 i)) none = some (.slice (some ⟨B, 0, some 0⟩) i c) :=
        (aslice_of (sp := 0) (lo := none) (hi := some (.int .i64 (i : Nat))) Tryd.underlying54 asz64 (openOK_open hs2.head asz64) (abounds_hi (by omega))).trans (by simp)
      simp (config := { implicitDefEqProofs := false }) only [↓GP, ↓GM, GQ, abuiltinX, ↓awp_seq, ↓awp_block, C_ex, Nat.reduceBEq, acap, afieldAddr, aload, astore, abin, anum, astr, aun, isAggD, cond_true, cond_false, ↓reduceIte, C_P, C_G, isTuple, Value.cells, setL, ares, aresL, ares1, reduceCtorEq, Nat.reduceEqDiff, eq_self, Nat.reduceAdd, if_true, if_false, Go.Abs.one, Nat.reduceLeDiff, undef, gsl, aextract, aindexAddr, amake, implies_true, forall_const, alen, abuiltin, anil, isC, Int.reduceEq, Int.reduceLT, Int.reduceLE, Int.reduceAdd, Int.reduceToNat, Int.reduceNeg, Nat.reduceMul, Nat.reduceSub, abuild, afill, Int.reduceBNe, Int.reduceBEq, h0, h1, h5, h6, Int.ofNat_lt, Nat.lt_irrefl, decide_false, Tryd.underlying54, hsl1, hcl, hsl2, Option.map_some]
      refine hk _ [(B, .cells (setL (sesL M ++ T) (i * 3) (zeros [.string ⟨#[]⟩, .string ⟨#[]⟩, .int .i64 0] (k0 + 1))) 64 true)] _ (.inr ⟨B, c, zeros [.string ⟨#[]⟩, .string ⟨#[]⟩, .int .i64 0] (k0 + 1) ++ (sesL M ++ T).drop (i * 3 + (zeros [Value.string ⟨#[]⟩, .string ⟨#[]⟩, .int .i64 0] (k0 + 1)).length), by rw [hfl2], by rw [hfl2]; omega, ?_⟩) hs2
      rw [setL_take_drop _ _ _ (by rw [List.length_append, sesL_length, zeros_length]; simp only [List.length_cons, List.length_nil]; omega), List.take_append_of_le_length (by rw [sesL_length]; omega), sesL_take _ _ (by omega), htake, List.append_assoc]
  · have hV : idxV p L = -1 := by rw [idxV, if_neg hf]
    rw [hV]
    have hall : ∀ a ∈ L, p a = false := fun a ha => by
      have := fnd_take p L a
      rw [show fnd p L = L.length by omega, List.take_length] at this
      exact this ha
    simp (config := { implicitDefEqProofs := false }) only [↓GP, ↓GM, GQ, abuiltinX, ↓awp_seq, ↓awp_block, C_ex, Nat.reduceBEq, acap, afieldAddr, aload, astore, abin, anum, astr, aun, isAggD, cond_true, cond_false, ↓reduceIte, C_P, C_G, isTuple, Value.cells, setL, ares, aresL, ares1, reduceCtorEq, Nat.reduceEqDiff, eq_self, Nat.reduceAdd, if_true, if_false, Go.Abs.one, Nat.reduceLeDiff, undef, gsl, aextract, aindexAddr, amake, implies_true, forall_const, alen, abuiltin, anil, isC, Int.reduceEq, Int.reduceLT, Int.reduceLE, Int.reduceAdd, Int.reduceToNat, Int.reduceNeg, Nat.reduceMul, Nat.reduceSub, abuild, afill, Int.reduceBNe, Int.reduceBEq]
    refine hk l hg s1 ?_ hO1
    rw [List.filter_eq_self.2 (fun a ha => by rw [hall a ha]; rfl)]
    exact hL
end Go.Proofs.YthohmdkibkompaaDoor
