/- The reader of XML: its smallest functions. No conditions. -/
import Derived.Test.YtigjbehgfjjlkaaGreatDoorStrG
import Derived.Lib.ReplaceLaws
set_option linter.unusedVariables false
set_option linter.unusedSimpArgs false
namespace Go.Proofs.YtigjbehgfjjlkaaGreatDoor
open Go Go.Abs Go.RowKit Go.Xml
variable {base : Nat} {w0 : World} {G : Nat}
def rdC (s : Tx) (nv kv : Value) (d : Bool) : List Value := [.string (tx s), nv, kv, .bool d]
def fV (e : Int) : Value := .iface 71 (.int .i64 e)
set_option maxRecDepth 10000 in
theorem dX (st : St) (e : Int) (k q : Value → St → Prop) (hq : q (fV e) st) : ay (C base w0 G) 76 [.int .i64 e] st k q := by
  refine ay.of (cx := C base w0 G) mixed Tryz.func76 rfl (by kernel_rfl) (by simp [Tryz.ntmps76]) ?_
  simp only [Tryz.results76]
  simp -implicitDefEqProofs only [go_sem, ↓aj, ↓ah, astr, ak, Nat.reduceBEq, ↓reduceIte, reduceCtorEq, Nat.reduceEqDiff, Nat.reduceAdd, Nat.reduceLeDiff, Int.reduceEq, Int.reduceLT, Int.reduceLE, Int.reduceAdd, Int.reduceToNat, Int.reduceNeg, Nat.reduceMul, Nat.reduceSub, Int.reduceBNe, Int.reduceBEq]
  exact hq
set_option maxRecDepth 10000 in
theorem aC (st : St) (b : Bool) (k q : Value → St → Prop) (hk : b = true → k (.tuple #[]) st) (hq : b = false → q (fV 10) st) : ay (C base w0 G) 61 [.bool b] st k q := by
  refine ay.of (cx := C base w0 G) mixed Tryz.func61 rfl (by kernel_rfl) (by simp [Tryz.ntmps61]) ?_
  simp only [Tryz.results61]
  cases b with
  | true =>
    simp -implicitDefEqProofs only [go_sem, ↓aj, ↓ah, astr, ak, Nat.reduceBEq, ↓reduceIte, reduceCtorEq, Nat.reduceEqDiff, Nat.reduceAdd, Nat.reduceLeDiff, Int.reduceEq, Int.reduceLT, Int.reduceLE, Int.reduceAdd, Int.reduceToNat, Int.reduceNeg, Nat.reduceMul, Nat.reduceSub, Int.reduceBNe, Int.reduceBEq, Bool.not_true]
    exact hk rfl
  | false =>
    simp -implicitDefEqProofs only [go_sem, ↓aj, ↓ah, astr, ak, Nat.reduceBEq, ↓reduceIte, reduceCtorEq, Nat.reduceEqDiff, Nat.reduceAdd, Nat.reduceLeDiff, Int.reduceEq, Int.reduceLT, Int.reduceLE, Int.reduceAdd, Int.reduceToNat, Int.reduceNeg, Nat.reduceMul, Nat.reduceSub, Int.reduceBNe, Int.reduceBEq, Bool.not_false]
    refine au.enter Tryz.func76 rfl (by kernel_rfl) (dX st 10 _ _ ?_)
    exact hq rfl
set_option maxRecDepth 10000 in
theorem fF (st : St) (r : Hp) (b : Nat) (s t : Tx) (nv kv : Value) (d : Bool) (hO : Own st ((b, .cells (rdC s nv kv d) 76 true) :: r)) (k q : Value → St → Prop)
    (hk : ∀ st', Own st' ((b, .cells (rdC (hasF t s).2 nv kv d) 76 true) :: r) → k (.bool (hasF t s).1) st') : ay (C base w0 G) 58 [.pointer (some ⟨b, 0, none⟩), .string (tx t)] st k q := by
  refine ay.of (cx := C base w0 G) mixed Tryz.func58 rfl (by kernel_rfl) (by simp [Tryz.ntmps58]) ?_
  simp only [Tryz.results58]
  have hc := hO.head
  unfold rdC at hc
  simp -implicitDefEqProofs only [go_sem, ↓aj, ↓ah, astr, ak, Nat.reduceBEq, ↓reduceIte, reduceCtorEq, Nat.reduceEqDiff, Nat.reduceAdd, Nat.reduceLeDiff, Int.reduceEq, Int.reduceLT, Int.reduceLE, Int.reduceAdd, Int.reduceToNat, Int.reduceNeg, Nat.reduceMul, Nat.reduceSub, Int.reduceBNe, Int.reduceBEq, hc, aK, asz9, Tryz.underlying9]
  refine gY s t _ _ ?_
  simp -implicitDefEqProofs only [go_sem, ↓aj, ↓ah, astr, ak, Nat.reduceBEq, ↓reduceIte, reduceCtorEq, Nat.reduceEqDiff, Nat.reduceAdd, Nat.reduceLeDiff, Int.reduceEq, Int.reduceLT, Int.reduceLE, Int.reduceAdd, Int.reduceToNat, Int.reduceNeg, Nat.reduceMul, Nat.reduceSub, Int.reduceBNe, Int.reduceBEq, hc, aK, asz9, Tryz.underlying9, List.length_cons, List.length_nil]
  have hs := hO.set rfl (.cells (rdC (if t.isPrefixOf s then s.drop t.length else s) nv kv d) 76 true) rfl
  have e1 : (hasF t s).1 = t.isPrefixOf s := by unfold hasF; cases h : t.isPrefixOf s <;> simp
  have e2 : (hasF t s).2 = if t.isPrefixOf s then s.drop t.length else s := by unfold hasF; cases h : t.isPrefixOf s <;> simp
  rw [e1, e2] at hk
  exact hk _ hs
set_option maxRecDepth 10000 in
theorem gy (st : St) (r : Hp) (b : Nat) (s : Tx) (nv kv : Value) (d : Bool) (hO : Own st ((b, .cells (rdC s nv kv d) 76 true) :: r)) (k q : Value → St → Prop)
    (hk : ∀ st', Own st' ((b, .cells (rdC (aD s).2 nv kv d) 76 true) :: r) → k (.bool (aD s).1) st') : ay (C base w0 G) 74 [.pointer (some ⟨b, 0, none⟩)] st k q := by
  refine ay.of (cx := C base w0 G) mixed Tryz.func74 rfl (by kernel_rfl) (by simp [Tryz.ntmps74]) ?_
  simp only [Tryz.results74]
  have hc := hO.head
  unfold rdC at hc
  have eb : (⟨#[32, 9, 10]⟩ : ByteArray) = tx blanks := rfl
  simp -implicitDefEqProofs only [go_sem, ↓aj, ↓ah, astr, ak, Nat.reduceBEq, ↓reduceIte, reduceCtorEq, Nat.reduceEqDiff, Nat.reduceAdd, Nat.reduceLeDiff, Int.reduceEq, Int.reduceLT, Int.reduceLE, Int.reduceAdd, Int.reduceToNat, Int.reduceNeg, Nat.reduceMul, Nat.reduceSub, Int.reduceBNe, Int.reduceBEq, hc, aK, asz9, Tryz.underlying9, eb]
  refine wh s _ _ ?_
  simp -implicitDefEqProofs only [go_sem, ↓aj, ↓ah, astr, ak, Nat.reduceBEq, ↓reduceIte, reduceCtorEq, Nat.reduceEqDiff, Nat.reduceAdd, Nat.reduceLeDiff, Int.reduceEq, Int.reduceLT, Int.reduceLE, Int.reduceAdd, Int.reduceToNat, Int.reduceNeg, Nat.reduceMul, Nat.reduceSub, Int.reduceBNe, Int.reduceBEq, hc, aK, asz9, Tryz.underlying9, aO, Int.ofNat_lt, List.length_cons, List.length_nil]
  have hs := hO.set rfl (.cells (rdC (Lib.trimLeftS s blanks) nv kv d) 76 true) rfl
  exact hk _ hs
set_option maxRecDepth 10000 in
theorem rO (st : St) (r : Hp) (b : Nat) (s t : Tx) (nv kv : Value) (d : Bool) (hM : eG w0) (hl : s.length < 4294967281) (hO : Own st ((b, .cells (rdC s nv kv d) 76 true) :: r)) (k q : Value → St → Prop)
    (hk : ∀ v s' st', aZ t s = .ok (v, s') → Own st' ((b, .cells (rdC s' nv kv d) 76 true) :: r) → k (.string (tx v)) st')
    (hq : ∀ e st', aZ t s = .error e → Own st' r → q (fV e) st') : ay (C base w0 3) 77 [.pointer (some ⟨b, 0, none⟩), .string (tx t)] st k q := by
  refine ay.of (cx := C base w0 3) mixed Tryz.func77 rfl (by kernel_rfl) (by simp [Tryz.ntmps77]) ?_
  simp only [Tryz.results77]
  have hc := hO.head
  unfold rdC at hc
  simp -implicitDefEqProofs only [go_sem, ↓aj, ↓ah, astr, ak, Nat.reduceBEq, ↓reduceIte, reduceCtorEq, Nat.reduceEqDiff, Nat.reduceAdd, Nat.reduceLeDiff, Int.reduceEq, Int.reduceLT, Int.reduceLE, Int.reduceAdd, Int.reduceToNat, Int.reduceNeg, Nat.reduceMul, Nat.reduceSub, Int.reduceBNe, Int.reduceBEq, hc, aK, asz9, Tryz.underlying9]
  refine pI s t hM hl _ _ ?_
  simp -implicitDefEqProofs only [go_sem, ↓aj, ↓ah, astr, ak, Nat.reduceBEq, ↓reduceIte, reduceCtorEq, Nat.reduceEqDiff, Nat.reduceAdd, Nat.reduceLeDiff, Int.reduceEq, Int.reduceLT, Int.reduceLE, Int.reduceAdd, Int.reduceToNat, Int.reduceNeg, Nat.reduceMul, Nat.reduceSub, Int.reduceBNe, Int.reduceBEq, cutV]
  refine au.enter Tryz.func61 rfl (by kernel_rfl) (aC st _ _ _ (fun h => ?_) (fun h => ?_))
  · simp -implicitDefEqProofs only [go_sem, ↓aj, ↓ah, astr, ak, Nat.reduceBEq, ↓reduceIte, reduceCtorEq, Nat.reduceEqDiff, Nat.reduceAdd, Nat.reduceLeDiff, Int.reduceEq, Int.reduceLT, Int.reduceLE, Int.reduceAdd, Int.reduceToNat, Int.reduceNeg, Nat.reduceMul, Nat.reduceSub, Int.reduceBNe, Int.reduceBEq, hc, aK, asz9, Tryz.underlying9, List.length_cons, List.length_nil]
    have hs := hO.set rfl (.cells (rdC (Lib.cut s t).2.1 nv kv d) 76 true) rfl
    exact hk _ _ _ (by unfold aZ; rw [if_pos h]) hs
  · exact hq 10 _ (by unfold aZ; rw [if_neg (by rw [h]; decide)]) hO.tail
set_option maxRecDepth 10000 in
theorem pK (st : St) (r : Hp) (b n c : Nat) (s : Tx) (nv : Value) (a : Option Addr) (d : Bool) (hO : Own st ((b, .cells (rdC s nv (.slice a n c) d) 76 true) :: r)) (k q : Value → St → Prop)
    (hk : k (.bool (decide (0 < n))) st) : ay (C base w0 G) 57 [.pointer (some ⟨b, 0, none⟩)] st k q := by
  refine ay.of (cx := C base w0 G) mixed Tryz.func57 rfl (by kernel_rfl) (by simp [Tryz.ntmps57]) ?_
  simp only [Tryz.results57]
  have hc := hO.head
  unfold rdC at hc
  have e : decide ((n : Int) > 0) = decide (0 < n) := decide_eq_decide.2 (by omega)
  simp -implicitDefEqProofs only [go_sem, ↓aj, ↓ah, astr, ak, Nat.reduceBEq, ↓reduceIte, reduceCtorEq, Nat.reduceEqDiff, Nat.reduceAdd, Nat.reduceLeDiff, Int.reduceEq, Int.reduceLT, Int.reduceLE, Int.reduceAdd, Int.reduceToNat, Int.reduceNeg, Nat.reduceMul, Nat.reduceSub, Int.reduceBNe, Int.reduceBEq, hc, dD, je, Tryz.underlying74, e]
  exact hk
theorem nK (l : Tx) (c : UInt8) : decide (Lib.indexByte l c < 0) = !l.contains c := by
  induction l with
  | nil => rfl
  | cons b l ih =>
    have hge := Lib.indexByte_ge l c
    unfold Lib.indexByte
    rw [List.contains_cons]
    by_cases h : b = c
    · subst h; simp
    · have h' : (b == c) = false := by simpa using h
      have h'' : (c == b) = false := by simpa using fun e : c = b => h e.symm
      rw [h', h'', Bool.false_or]
      rw [← ih]
      simp only [Bool.false_eq_true, if_false]
      by_cases h2 : Lib.indexByte l c = -1
      · simp [h2]
      · have : ¬ Lib.indexByte l c < 0 := by omega
        have h3 : (Lib.indexByte l c == -1) = false := by simpa using h2
        rw [h3]
        simp only [Bool.false_eq_true, if_false]
        exact decide_eq_decide.2 (by omega)
theorem pO {p : UInt8 → Bool} : ∀ (l : Tx) (i : Nat), i ≤ (l.takeWhile p).length → (i < (l.takeWhile p).length ↔ i < l.length ∧ p (l.getD i 0) = true)
  | [], i, h => by simp
  | c :: l, i, h => by
    cases hc : p c with
    | false =>
      rw [List.takeWhile_cons_of_neg (by simp [hc])] at h ⊢
      simp at h
      subst h
      simp [hc]
    | true =>
      rw [List.takeWhile_cons_of_pos hc] at h ⊢
      cases i with
      | zero => simp [hc]
      | succ i =>
        have := pO l i (by simpa using h)
        simpa using this
set_option maxRecDepth 10000 in
theorem nW (st : St) (s sg : Tx) (hs : s.length ≤ 4611686018427387904) (k q : Value → St → Prop) (hk : k (.int .i64 (upTo s sg : Nat)) st) : ay (C base w0 G) 83 [.string (tx s), .string (tx sg)] st k q := by
  refine ay.of (cx := C base w0 G) mixed Tryz.func83 rfl (by kernel_rfl) (by simp [Tryz.ntmps83]) ?_
  simp only [Tryz.results83]
  simp -implicitDefEqProofs only [go_sem, ↓aj, ↓ah, astr, ak, Nat.reduceBEq, ↓reduceIte, reduceCtorEq, Nat.reduceEqDiff, Nat.reduceAdd, Nat.reduceLeDiff, Int.reduceEq, Int.reduceLT, Int.reduceLE, Int.reduceAdd, Int.reduceToNat, Int.reduceNeg, Nat.reduceMul, Nat.reduceSub, Int.reduceBNe, Int.reduceBEq]
  have hle : upTo s sg ≤ s.length := (List.takeWhile_sublist _).length_le
  refine ⟨fun m ρ s' => ∃ i : Nat, m = s.length - i ∧ i ≤ upTo s sg ∧ ρ 0 = .string (tx s) ∧ ρ 1 = .string (tx sg) ∧ ρ 5 = .int .i64 i ∧ s' = st, ⟨_, 0, rfl, Nat.zero_le _, rfl, rfl, rfl, rfl⟩, ?_⟩
  rintro _ ρ _ ⟨i, rfl, hi, h0, h1, h5, rfl⟩
  have hat := pO s i hi
  have w1 : IntKind.i64.wrap ((i : Int) + 1) = ((i + 1 : Nat) : Int) := by rw [cO (by omega)]; rfl
  by_cases him : i < s.length
  · simp -implicitDefEqProofs only [go_sem, ↓aj, ↓ah, astr, ak, Nat.reduceBEq, ↓reduceIte, reduceCtorEq, Nat.reduceEqDiff, Nat.reduceAdd, Nat.reduceLeDiff, Int.reduceEq, Int.reduceLT, Int.reduceLE, Int.reduceAdd, Int.reduceToNat, Int.reduceNeg, Nat.reduceMul, Nat.reduceSub, Int.reduceBNe, Int.reduceBEq, h0, h1, h5, aO, him, Int.ofNat_lt, decide_true, Tryz.underlying9, mV Tryz.underlying9 him]
    refine gX sg _ _ _ ?_
    have hn := nK sg (s.getD i 0)
    cases hc : sg.contains (s.getD i 0) with
    | true =>
      rw [hc, Bool.not_true] at hn
      simp -implicitDefEqProofs only [go_sem, ↓aj, ↓ah, astr, ak, Nat.reduceBEq, ↓reduceIte, reduceCtorEq, Nat.reduceEqDiff, Nat.reduceAdd, Nat.reduceLeDiff, Int.reduceEq, Int.reduceLT, Int.reduceLE, Int.reduceAdd, Int.reduceToNat, Int.reduceNeg, Nat.reduceMul, Nat.reduceSub, Int.reduceBNe, Int.reduceBEq, h0, h1, h5, hn]
      have hi2 : ¬ i < upTo s sg := fun h => by have := (hat.1 h).2; rw [hc] at this; cases this
      obtain rfl : i = upTo s sg := by omega
      exact hk
    | false =>
      rw [hc, Bool.not_false] at hn
      simp -implicitDefEqProofs only [go_sem, ↓aj, ↓ah, astr, ak, Nat.reduceBEq, ↓reduceIte, reduceCtorEq, Nat.reduceEqDiff, Nat.reduceAdd, Nat.reduceLeDiff, Int.reduceEq, Int.reduceLT, Int.reduceLE, Int.reduceAdd, Int.reduceToNat, Int.reduceNeg, Nat.reduceMul, Nat.reduceSub, Int.reduceBNe, Int.reduceBEq, h0, h1, h5, hn, w1]
      have hi2 : i < upTo s sg := hat.2 ⟨him, by rw [hc]; rfl⟩
      exact ⟨s.length - (i + 1), by omega, i + 1, rfl, by omega, rfl⟩
  · have hi2 : ¬ i < upTo s sg := fun h => him (hat.1 h).1
    obtain rfl : i = upTo s sg := by omega
    simp -implicitDefEqProofs only [go_sem, ↓aj, ↓ah, astr, ak, Nat.reduceBEq, ↓reduceIte, reduceCtorEq, Nat.reduceEqDiff, Nat.reduceAdd, Nat.reduceLeDiff, Int.reduceEq, Int.reduceLT, Int.reduceLE, Int.reduceAdd, Int.reduceToNat, Int.reduceNeg, Nat.reduceMul, Nat.reduceSub, Int.reduceBNe, Int.reduceBEq, h0, h1, h5, aO, him, Int.ofNat_lt, decide_false, Tryz.underlying9]
    exact hk
end Go.Proofs.YtigjbehgfjjlkaaGreatDoor
set_option linter.unusedVariables false
set_option linter.unusedSimpArgs false
namespace Go.Proofs.YtigjbehgfjjlkaaGreatDoor
open Go Go.Abs Go.RowKit Go.Xml
variable {base : Nat} {w0 : World} {G : Nat}
set_option maxRecDepth 10000 in
theorem pQ (st : St) (r : Hp) (b : Nat) (s : Tx) (nv kv : Value) (d : Bool) (hO : Own st ((b, .cells (rdC s nv kv d) 76 true) :: r)) (k q : Value → St → Prop)
    (hk : ∀ s' st', eqF s = .ok s' → Own st' ((b, .cells (rdC s' nv kv d) 76 true) :: r) → k (.tuple #[]) st')
    (hq : ∀ e st', eqF s = .error e → Own st' r → q (fV e) st') : ay (C base w0 G) 98 [.pointer (some ⟨b, 0, none⟩)] st k q := by
  refine ay.of (cx := C base w0 G) mixed Tryz.func98 rfl (by kernel_rfl) (by simp [Tryz.ntmps98]) ?_
  simp only [Tryz.results98]
  simp -implicitDefEqProofs only [go_sem, ↓aj, ↓ah, astr, ak, Nat.reduceBEq, ↓reduceIte, reduceCtorEq, Nat.reduceEqDiff, Nat.reduceAdd, Nat.reduceLeDiff, Int.reduceEq, Int.reduceLT, Int.reduceLE, Int.reduceAdd, Int.reduceToNat, Int.reduceNeg, Nat.reduceMul, Nat.reduceSub, Int.reduceBNe, Int.reduceBEq]
  refine au.enter Tryz.func74 rfl (by kernel_rfl) (gy st r b s nv kv d hO _ _ fun s1 hs1 => ?_)
  have e61 : (⟨#[61]⟩ : ByteArray) = tx [61] := rfl
  simp -implicitDefEqProofs only [go_sem, ↓aj, ↓ah, astr, ak, Nat.reduceBEq, ↓reduceIte, reduceCtorEq, Nat.reduceEqDiff, Nat.reduceAdd, Nat.reduceLeDiff, Int.reduceEq, Int.reduceLT, Int.reduceLE, Int.reduceAdd, Int.reduceToNat, Int.reduceNeg, Nat.reduceMul, Nat.reduceSub, Int.reduceBNe, Int.reduceBEq, e61]
  refine au.enter Tryz.func58 rfl (by kernel_rfl) (fF s1 r b _ [61] nv kv d hs1 _ _ fun s2 hs2 => ?_)
  simp -implicitDefEqProofs only [go_sem, ↓aj, ↓ah, astr, ak, Nat.reduceBEq, ↓reduceIte, reduceCtorEq, Nat.reduceEqDiff, Nat.reduceAdd, Nat.reduceLeDiff, Int.reduceEq, Int.reduceLT, Int.reduceLE, Int.reduceAdd, Int.reduceToNat, Int.reduceNeg, Nat.reduceMul, Nat.reduceSub, Int.reduceBNe, Int.reduceBEq]
  refine au.enter Tryz.func61 rfl (by kernel_rfl) (aC s2 _ _ _ (fun h => ?_) (fun h => ?_))
  · simp -implicitDefEqProofs only [go_sem, ↓aj, ↓ah, astr, ak, Nat.reduceBEq, ↓reduceIte, reduceCtorEq, Nat.reduceEqDiff, Nat.reduceAdd, Nat.reduceLeDiff, Int.reduceEq, Int.reduceLT, Int.reduceLE, Int.reduceAdd, Int.reduceToNat, Int.reduceNeg, Nat.reduceMul, Nat.reduceSub, Int.reduceBNe, Int.reduceBEq]
    refine au.enter Tryz.func74 rfl (by kernel_rfl) (gy s2 r b _ nv kv d hs2 _ _ fun s3 hs3 => ?_)
    simp -implicitDefEqProofs only [go_sem, ↓aj, ↓ah, astr, ak, Nat.reduceBEq, ↓reduceIte, reduceCtorEq, Nat.reduceEqDiff, Nat.reduceAdd, Nat.reduceLeDiff, Int.reduceEq, Int.reduceLT, Int.reduceLE, Int.reduceAdd, Int.reduceToNat, Int.reduceNeg, Nat.reduceMul, Nat.reduceSub, Int.reduceBNe, Int.reduceBEq]
    exact hk _ _ (by unfold eqF; rw [if_pos h]) hs3
  · exact hq 10 _ (by unfold eqF; rw [if_neg (by rw [h]; decide)]) hs2.tail
def dU (f : UInt8 → UInt8) (l : Tx) (i : Nat) : Tx := (l.take i).map f ++ l.drop i
theorem lg (f : UInt8 → UInt8) (l : Tx) (i : Nat) : (dU f l i).length = l.length := by
  simp [dU]; omega
theorem wS {f : UInt8 → UInt8} {l : Tx} {i : Nat} (h : i < l.length) : (dU f l i)[i]? = some (l.getD i 0) := by
  unfold dU
  rw [List.getElem?_append_right (by simp; omega)]
  simp [h, List.length_take, Nat.min_eq_left (Nat.le_of_lt h), List.getD_eq_getElem?_getD]
theorem um {f : UInt8 → UInt8} {l : Tx} {i : Nat} (h : i < l.length) : (nl (nb8 (dU f l i)))[i]? = some (.int .u8 ((l.getD i 0).toNat : Nat)) := by
  simp [nl, bl, nb8, wS h]
theorem uo {f : UInt8 → UInt8} {l : Tx} {i : Nat} (h : i < l.length) : dU f l (i + 1) = (dU f l i).set i (f (l.getD i 0)) := by
  apply List.ext_getElem?
  intro j
  rw [List.getElem?_set]
  unfold dU
  by_cases hj : j < i
  · rw [if_neg (by omega), List.getElem?_append_left (by simp; omega), List.getElem?_append_left (by simp; omega)]
    simp [List.getElem?_take, hj, Nat.lt_succ_of_lt hj]
  · by_cases hji : i = j
    · subst hji
      rw [if_pos rfl, if_pos (by simp; omega), List.getElem?_append_left (by simp; omega)]
      simp [List.getElem?_take, h, List.getD_eq_getElem?_getD]
    · rw [if_neg hji, List.getElem?_append_right (by simp; omega), List.getElem?_append_right (by simp; omega)]
      simp only [List.length_map, List.length_take, List.getElem?_drop]
      congr 1
      omega
theorem wT {f : UInt8 → UInt8} {l : Tx} {i : Nat} (h : i < l.length) : (nl (nb8 (dU f l i))).set i (.int .u8 ((f (l.getD i 0)).toNat : Nat)) = nl (nb8 (dU f l (i + 1))) := by
  rw [uo h]
  simp [nl, bl, nb8, List.map_set]
theorem uq (f : UInt8 → UInt8) (l : Tx) : dU f l 0 = l := by simp [dU]
theorem wU (f : UInt8 → UInt8) (l : Tx) : dU f l l.length = l.map f := by simp [dU]
theorem uw {f : UInt8 → UInt8} {l : Tx} {i : Nat} (h : i < l.length) (hf : f (l.getD i 0) = l.getD i 0) : dU f l (i + 1) = dU f l i := by
  rw [uo h, hf]
  apply List.ext_getElem?
  intro j
  rw [List.getElem?_set]
  split
  · rename_i e
    subst e
    rw [wS h, if_pos (by rw [lg]; exact h)]
  · rfl
set_option maxRecDepth 10000 in
theorem jQ (st : St) (r : Hp) (s : Tx) (hl : s.length ≤ 140737488355328) (hO : Own st r) (k q : Value → St → Prop) (hk : ∀ st', Own st' r → k (.string (tx (lower s))) st') : ay (C base w0 G) 101 [.string (tx s)] st k q := by
  refine ay.of (cx := C base w0 G) mixed Tryz.func101 rfl (by kernel_rfl) (by simp [Tryz.ntmps101]) ?_
  simp only [Tryz.results101]
  simp -implicitDefEqProofs only [go_sem, ↓aj, ↓ah, astr, ak, Nat.reduceBEq, ↓reduceIte, reduceCtorEq, Nat.reduceEqDiff, Nat.reduceAdd, Nat.reduceLeDiff, Int.reduceEq, Int.reduceLT, Int.reduceLE, Int.reduceAdd, Int.reduceToNat, Int.reduceNeg, Nat.reduceMul, Nat.reduceSub, Int.reduceBNe, Int.reduceBEq, jy Tryz.underlying9 Tryz.underlying31 Tryz.underlying5 asz5, Tryz.underlying31]
  have hO1 := hO.new (.cells (nl (nb8 s)) 5 true)
  generalize hb : st.n = b at *
  refine ⟨fun m ρ s' => ∃ i : Nat, m = s.length - i ∧ i ≤ s.length ∧ ρ 3 = .slice (some ⟨b, 0, some 0⟩) s.length s.length ∧ ρ 8 = .slice (some ⟨b, 0, some 0⟩) s.length s.length ∧ ρ 9 = .int .i64 s.length ∧ ρ 10 = .int .i64 i ∧ Own s' ((b, .cells (nl (nb8 (dU lowB s i))) 5 true) :: r),
    ⟨_, 0, rfl, Nat.zero_le _, rfl, rfl, rfl, rfl, by rw [uq]; exact hO1⟩, ?_⟩
  rintro _ ρ s' ⟨i, rfl, hi, h3, h8, h9, h10, hs⟩
  have w1 : IntKind.i64.wrap ((i : Int) + 1) = ((i + 1 : Nat) : Int) := by rw [cO (by omega)]; rfl
  have hcb := hs.head
  by_cases him : i < s.length
  · have hat := um (f := lowB) him
    have hst := wT (f := lowB) him
    have hsk := uw (f := lowB) him
    generalize hc : s.getD i 0 = c at *
    simp -implicitDefEqProofs only [go_sem, ↓aj, ↓ah, astr, ak, Nat.reduceBEq, ↓reduceIte, reduceCtorEq, Nat.reduceEqDiff, Nat.reduceAdd, Nat.reduceLeDiff, Int.reduceEq, Int.reduceLT, Int.reduceLE, Int.reduceAdd, Int.reduceToNat, Int.reduceNeg, Nat.reduceMul, Nat.reduceSub, Int.reduceBNe, Int.reduceBEq, h3, h8, h9, h10, him, Int.ofNat_lt, decide_true, hcb, hat, asz5, Tryz.underlying5, Tryz.underlying31]
    refine ⟨by omega, ?_⟩
    have hno : (c.toNat < 65 ∨ 90 < c.toNat) → lowB c = c := fun h => by
      unfold lowB
      rw [if_neg (by rw [UInt8.le_iff_toNat_le, UInt8.le_iff_toNat_le]; show ¬ (65 ≤ c.toNat ∧ c.toNat ≤ 90); omega)]
    by_cases c1 : (c.toNat : Int) ≥ 65
    case neg =>
      have e := hsk (hno (by omega))
      simp -implicitDefEqProofs only [go_sem, ↓aj, ↓ah, astr, ak, Nat.reduceBEq, ↓reduceIte, reduceCtorEq, Nat.reduceEqDiff, Nat.reduceAdd, Nat.reduceLeDiff, Int.reduceEq, Int.reduceLT, Int.reduceLE, Int.reduceAdd, Int.reduceToNat, Int.reduceNeg, Nat.reduceMul, Nat.reduceSub, Int.reduceBNe, Int.reduceBEq, h3, h8, h9, h10, hcb, asz5, Tryz.underlying5, Tryz.underlying31, w1, c1, decide_false]
      exact ⟨s.length - (i + 1), by omega, i + 1, rfl, by omega, rfl, by rw [e]; exact hs⟩
    by_cases c2 : (c.toNat : Int) ≤ 90
    case neg =>
      have e := hsk (hno (by omega))
      simp -implicitDefEqProofs only [go_sem, ↓aj, ↓ah, astr, ak, Nat.reduceBEq, ↓reduceIte, reduceCtorEq, Nat.reduceEqDiff, Nat.reduceAdd, Nat.reduceLeDiff, Int.reduceEq, Int.reduceLT, Int.reduceLE, Int.reduceAdd, Int.reduceToNat, Int.reduceNeg, Nat.reduceMul, Nat.reduceSub, Int.reduceBNe, Int.reduceBEq, h3, h8, h9, h10, hcb, asz5, Tryz.underlying5, Tryz.underlying31, w1, c1, c2, decide_true, decide_false]
      exact ⟨s.length - (i + 1), by omega, i + 1, rfl, by omega, rfl, by rw [e]; exact hs⟩
    have hlow : (lowB c).toNat = c.toNat + 32 := by
      unfold lowB
      rw [if_pos (by rw [UInt8.le_iff_toNat_le, UInt8.le_iff_toNat_le]; show 65 ≤ c.toNat ∧ c.toNat ≤ 90; omega), UInt8.toNat_add]
      show (c.toNat + 32) % 256 = _
      omega
    have w2 : IntKind.u8.wrap ((c.toNat : Int) + 97) = (c.toNat : Int) + 97 := by simp [IntKind.wrap, IntKind.signed, IntKind.bits]; omega
    have w3 : IntKind.u8.wrap ((c.toNat : Int) + 97 - 65) = ((lowB c).toNat : Nat) := by rw [hlow]; simp [IntKind.wrap, IntKind.signed, IntKind.bits]; omega
    simp -implicitDefEqProofs only [go_sem, ↓aj, ↓ah, astr, ak, Nat.reduceBEq, ↓reduceIte, reduceCtorEq, Nat.reduceEqDiff, Nat.reduceAdd, Nat.reduceLeDiff, Int.reduceEq, Int.reduceLT, Int.reduceLE, Int.reduceAdd, Int.reduceToNat, Int.reduceNeg, Nat.reduceMul, Nat.reduceSub, Int.reduceBNe, Int.reduceBEq, h3, h8, h9, h10, hcb, asz5, Tryz.underlying5, Tryz.underlying31, w1, c1, c2, decide_true, decide_false, w2, w3, him, Int.ofNat_lt]
    have hlen : (nl (nb8 (dU lowB s i))).length = s.length := by simp [nl, bl, nb8, lg]
    refine ⟨by omega, by omega, s.length - (i + 1), by omega, i + 1, rfl, by omega, rfl, ?_⟩
    rw [hst]
    exact hs.set rfl (.cells (nl (nb8 (dU lowB s (i + 1)))) 5 true) rfl
  · obtain rfl : i = s.length := by omega
    rw [wU] at hs hcb
    simp -implicitDefEqProofs only [go_sem, ↓aj, ↓ah, astr, ak, Nat.reduceBEq, ↓reduceIte, reduceCtorEq, Nat.reduceEqDiff, Nat.reduceAdd, Nat.reduceLeDiff, Int.reduceEq, Int.reduceLT, Int.reduceLE, Int.reduceAdd, Int.reduceToNat, Int.reduceNeg, Nat.reduceMul, Nat.reduceSub, Int.reduceBNe, Int.reduceBEq, h3, h8, h9, h10, Int.ofNat_lt, Nat.lt_irrefl, decide_false, Tryz.underlying31]
    have hsl : (s.map lowB).length = s.length := List.length_map _
    have hcv : dL Tryz.prog s' 31 9 (.slice (some ⟨b, 0, some 0⟩) s.length s.length) = some (.string (tx (lower s)), s') :=
      nV Tryz.underlying31 Tryz.underlying5 Tryz.underlying9 (by
        have hlen : (nl (nb8 (s.map lowB))).length = s.length := by simp [nl, bl, nb8]
        show asrc s' 1 _ = some ((s.map lowB).length, nl (nb8 (s.map lowB)))
        rw [hsl]
        simp [asrc, acut, hcb, cut, hlen]
        rw [← hlen, List.take_length]) ⟨_, _, _, rfl⟩
    simp -implicitDefEqProofs only [go_sem, ↓aj, ↓ah, astr, ak, Nat.reduceBEq, ↓reduceIte, reduceCtorEq, Nat.reduceEqDiff, Nat.reduceAdd, Nat.reduceLeDiff, Int.reduceEq, Int.reduceLT, Int.reduceLE, Int.reduceAdd, Int.reduceToNat, Int.reduceNeg, Nat.reduceMul, Nat.reduceSub, Int.reduceBNe, Int.reduceBEq, hcv]
    exact hk _ hs.tail
end Go.Proofs.YtigjbehgfjjlkaaGreatDoor
set_option linter.unusedVariables false
set_option linter.unusedSimpArgs false
namespace Go.Proofs.YtigjbehgfjjlkaaGreatDoor
open Go Go.Abs Go.RowKit Go.Xml
variable {base : Nat} {w0 : World} {G : Nat}
def isBl (c : UInt8) : Bool := decide (c.toNat = 32 ∨ c.toNat = 9 ∨ c.toNat = 10 ∨ c.toNat = 13)
theorem Ay (c : UInt8) : gF c = if isBl c then 32 else c := by
  have e : ∀ n : UInt8, (c = n ↔ c.toNat = n.toNat) := fun n => ⟨fun h => by rw [h], fun h => UInt8.toNat_inj.1 h⟩
  unfold gF isBl
  by_cases h : c.toNat = 32 ∨ c.toNat = 9 ∨ c.toNat = 10 ∨ c.toNat = 13
  · rw [if_pos ((or_congr (e 32) (or_congr (e 9) (or_congr (e 10) (e 13)))).2 h), decide_eq_true h, if_pos rfl]
  · rw [if_neg (fun h' => h ((or_congr (e 32) (or_congr (e 9) (or_congr (e 10) (e 13)))).1 h')), decide_eq_false h, if_neg (by decide)]
set_option maxRecDepth 10000 in
theorem Az (st : St) (c : UInt8) (k q : Value → St → Prop) (hk : k (.bool (isBl c)) st) : ay (C base w0 G) 164 [.int .u8 (c.toNat : Nat)] st k q := by
  refine ay.of (cx := C base w0 G) mixed Tryz.func164 rfl (by kernel_rfl) (by simp [Tryz.ntmps164]) ?_
  simp only [Tryz.results164]
  by_cases c0 : c.toNat = 32
  · have e : isBl c = true := by simp [isBl, c0]
    rw [e] at hk
    simp -implicitDefEqProofs only [go_sem, ↓aj, ↓ah, astr, ak, Nat.reduceBEq, ↓reduceIte, reduceCtorEq, Nat.reduceEqDiff, Nat.reduceAdd, Nat.reduceLeDiff, Int.reduceEq, Int.reduceLT, Int.reduceLE, Int.reduceAdd, Int.reduceToNat, Int.reduceNeg, Nat.reduceMul, Nat.reduceSub, Int.reduceBNe, Int.reduceBEq, show ((c.toNat : Int) == 32) = true by simp; omega]
    exact hk
  by_cases c1 : c.toNat = 9
  · have e : isBl c = true := by simp [isBl, c1]
    rw [e] at hk
    simp -implicitDefEqProofs only [go_sem, ↓aj, ↓ah, astr, ak, Nat.reduceBEq, ↓reduceIte, reduceCtorEq, Nat.reduceEqDiff, Nat.reduceAdd, Nat.reduceLeDiff, Int.reduceEq, Int.reduceLT, Int.reduceLE, Int.reduceAdd, Int.reduceToNat, Int.reduceNeg, Nat.reduceMul, Nat.reduceSub, Int.reduceBNe, Int.reduceBEq, show ((c.toNat : Int) == 32) = false by simp; omega, show ((c.toNat : Int) == 9) = true by simp; omega]
    exact hk
  by_cases c2 : c.toNat = 10
  · have e : isBl c = true := by simp [isBl, c2]
    rw [e] at hk
    simp -implicitDefEqProofs only [go_sem, ↓aj, ↓ah, astr, ak, Nat.reduceBEq, ↓reduceIte, reduceCtorEq, Nat.reduceEqDiff, Nat.reduceAdd, Nat.reduceLeDiff, Int.reduceEq, Int.reduceLT, Int.reduceLE, Int.reduceAdd, Int.reduceToNat, Int.reduceNeg, Nat.reduceMul, Nat.reduceSub, Int.reduceBNe, Int.reduceBEq, show ((c.toNat : Int) == 32) = false by simp; omega, show ((c.toNat : Int) == 9) = false by simp; omega, show ((c.toNat : Int) == 10) = true by simp; omega]
    exact hk
  have e : isBl c = ((c.toNat : Int) == 13) := by
    simp only [isBl, c0, c1, c2, false_or]
    by_cases c3 : c.toNat = 13 <;> simp [c3] <;> omega
  rw [e] at hk
  simp -implicitDefEqProofs only [go_sem, ↓aj, ↓ah, astr, ak, Nat.reduceBEq, ↓reduceIte, reduceCtorEq, Nat.reduceEqDiff, Nat.reduceAdd, Nat.reduceLeDiff, Int.reduceEq, Int.reduceLT, Int.reduceLE, Int.reduceAdd, Int.reduceToNat, Int.reduceNeg, Nat.reduceMul, Nat.reduceSub, Int.reduceBNe, Int.reduceBEq, show ((c.toNat : Int) == 32) = false by simp; omega, show ((c.toNat : Int) == 9) = false by simp; omega, show ((c.toNat : Int) == 10) = false by simp; omega]
  exact hk
set_option maxRecDepth 10000 in
theorem CY (st : St) (r : Hp) (s : Tx) (hl : s.length ≤ 140737488355328) (hO : Own st r) (k q : Value → St → Prop) (hk : ∀ st', Own st' r → k (.string (tx (iQ s))) st') : ay (C base w0 G) 145 [.string (tx s)] st k q := by
  refine ay.of (cx := C base w0 G) mixed Tryz.func145 rfl (by kernel_rfl) (by simp [Tryz.ntmps145]) ?_
  simp only [Tryz.results145]
  simp -implicitDefEqProofs only [go_sem, ↓aj, ↓ah, astr, ak, Nat.reduceBEq, ↓reduceIte, reduceCtorEq, Nat.reduceEqDiff, Nat.reduceAdd, Nat.reduceLeDiff, Int.reduceEq, Int.reduceLT, Int.reduceLE, Int.reduceAdd, Int.reduceToNat, Int.reduceNeg, Nat.reduceMul, Nat.reduceSub, Int.reduceBNe, Int.reduceBEq, jy Tryz.underlying9 Tryz.underlying31 Tryz.underlying5 asz5, Tryz.underlying31]
  have hO1 := hO.new (.cells (nl (nb8 s)) 5 true)
  generalize hb : st.n = b at *
  refine ⟨fun m ρ s' => ∃ i : Nat, m = s.length - i ∧ i ≤ s.length ∧ ρ 3 = .slice (some ⟨b, 0, some 0⟩) s.length s.length ∧ ρ 8 = .int .i64 s.length ∧ ρ 9 = .int .i64 i ∧ Own s' ((b, .cells (nl (nb8 (dU gF s i))) 5 true) :: r),
    ⟨_, 0, rfl, Nat.zero_le _, rfl, rfl, rfl, by rw [uq]; exact hO1⟩, ?_⟩
  rintro _ ρ s' ⟨i, rfl, hi, h3, h8, h9, hs⟩
  have w1 : IntKind.i64.wrap ((i : Int) + 1) = ((i + 1 : Nat) : Int) := by rw [cO (by omega)]; rfl
  have hcb := hs.head
  by_cases him : i < s.length
  · have hat := um (f := gF) him
    have hst := wT (f := gF) him
    have hsk := uw (f := gF) him
    have hlen : (nl (nb8 (dU gF s i))).length = s.length := by simp [nl, bl, nb8, lg]
    generalize hc : s.getD i 0 = c at *
    simp -implicitDefEqProofs only [go_sem, ↓aj, ↓ah, astr, ak, Nat.reduceBEq, ↓reduceIte, reduceCtorEq, Nat.reduceEqDiff, Nat.reduceAdd, Nat.reduceLeDiff, Int.reduceEq, Int.reduceLT, Int.reduceLE, Int.reduceAdd, Int.reduceToNat, Int.reduceNeg, Nat.reduceMul, Nat.reduceSub, Int.reduceBNe, Int.reduceBEq, h3, h8, h9, him, Int.ofNat_lt, decide_true, hcb, hat, asz5, Tryz.underlying5, Tryz.underlying31]
    refine ⟨by omega, ?_⟩
    refine au.enter Tryz.func164 rfl (by kernel_rfl) (Az s' c _ _ ?_)
    cases hbl : isBl c with
    | false =>
      have e := hsk (by rw [Ay, hbl]; rfl)
      simp -implicitDefEqProofs only [go_sem, ↓aj, ↓ah, astr, ak, Nat.reduceBEq, ↓reduceIte, reduceCtorEq, Nat.reduceEqDiff, Nat.reduceAdd, Nat.reduceLeDiff, Int.reduceEq, Int.reduceLT, Int.reduceLE, Int.reduceAdd, Int.reduceToNat, Int.reduceNeg, Nat.reduceMul, Nat.reduceSub, Int.reduceBNe, Int.reduceBEq, h3, h8, h9, w1]
      exact ⟨s.length - (i + 1), by omega, i + 1, rfl, by omega, rfl, by rw [e]; exact hs⟩
    | true =>
      have hf : (gF c).toNat = 32 := by rw [Ay, hbl]; rfl
      rw [hf] at hst
      have hst' : (nl (nb8 (dU gF s i))).set i (.int .u8 32) = nl (nb8 (dU gF s (i + 1))) := hst
      simp -implicitDefEqProofs only [go_sem, ↓aj, ↓ah, astr, ak, Nat.reduceBEq, ↓reduceIte, reduceCtorEq, Nat.reduceEqDiff, Nat.reduceAdd, Nat.reduceLeDiff, Int.reduceEq, Int.reduceLT, Int.reduceLE, Int.reduceAdd, Int.reduceToNat, Int.reduceNeg, Nat.reduceMul, Nat.reduceSub, Int.reduceBNe, Int.reduceBEq, h3, h8, h9, him, Int.ofNat_lt, decide_true, hcb, asz5, Tryz.underlying5, Tryz.underlying31, w1]
      refine ⟨by omega, by omega, s.length - (i + 1), by omega, i + 1, rfl, by omega, rfl, ?_⟩
      rw [hst']
      exact hs.set rfl (.cells (nl (nb8 (dU gF s (i + 1)))) 5 true) rfl
  · obtain rfl : i = s.length := by omega
    rw [wU] at hs hcb
    simp -implicitDefEqProofs only [go_sem, ↓aj, ↓ah, astr, ak, Nat.reduceBEq, ↓reduceIte, reduceCtorEq, Nat.reduceEqDiff, Nat.reduceAdd, Nat.reduceLeDiff, Int.reduceEq, Int.reduceLT, Int.reduceLE, Int.reduceAdd, Int.reduceToNat, Int.reduceNeg, Nat.reduceMul, Nat.reduceSub, Int.reduceBNe, Int.reduceBEq, h3, h8, h9, Int.ofNat_lt, Nat.lt_irrefl, decide_false, Tryz.underlying31]
    have hsl : (s.map gF).length = s.length := List.length_map _
    have hcv : dL Tryz.prog s' 31 9 (.slice (some ⟨b, 0, some 0⟩) s.length s.length) = some (.string (tx (iQ s)), s') :=
      nV Tryz.underlying31 Tryz.underlying5 Tryz.underlying9 (by
        have hlen : (nl (nb8 (s.map gF))).length = s.length := by simp [nl, bl, nb8]
        show asrc s' 1 _ = some ((s.map gF).length, nl (nb8 (s.map gF)))
        rw [hsl]
        simp [asrc, acut, hcb, cut, hlen]
        rw [← hlen, List.take_length]) ⟨_, _, _, rfl⟩
    simp -implicitDefEqProofs only [go_sem, ↓aj, ↓ah, astr, ak, Nat.reduceBEq, ↓reduceIte, reduceCtorEq, Nat.reduceEqDiff, Nat.reduceAdd, Nat.reduceLeDiff, Int.reduceEq, Int.reduceLT, Int.reduceLE, Int.reduceAdd, Int.reduceToNat, Int.reduceNeg, Nat.reduceMul, Nat.reduceSub, Int.reduceBNe, Int.reduceBEq, hcv]
    exact hk _ hs.tail
end Go.Proofs.YtigjbehgfjjlkaaGreatDoor
set_option linter.unusedVariables false
set_option linter.unusedSimpArgs false
namespace Go.Proofs.YtigjbehgfjjlkaaGreatDoor
open Go Go.Abs Go.RowKit Go.Xml
variable {base : Nat} {w0 : World} {G : Nat}
def uy : Tx := [48, 49, 50, 51, 52, 53, 54, 55, 56, 57, 97, 98, 99, 100, 101, 102]
theorem JH (b : Nat) (hb : b ≤ 16) (c : UInt8) : -1 ≤ digB b c ∧ digB b c < 16 := by
  have h : ∀ (l : Tx) (c : UInt8), -1 ≤ Lib.indexByte l c ∧ (Lib.indexByte l c < l.length ∨ Lib.indexByte l c = -1) := by
    intro l c
    induction l with
    | nil => exact ⟨Int.le_refl _, .inr rfl⟩
    | cons x l ih =>
      unfold Lib.indexByte
      split
      · simp
      · split
        · simp
        · rename_i h1 h2
          have h3 : Lib.indexByte l c ≠ -1 := by simpa using h2
          simp only [List.length_cons]
          omega
  have := h (uy.take b) c
  have hl : (uy.take b).length ≤ 16 := by rw [List.length_take]; exact Nat.min_le_right _ _
  have e : digB b c = Lib.indexByte (uy.take b) c := rfl
  rw [e]
  omega
theorem FQ (b : Nat) (n : Int) (l : Tx) (i : Nat) (h : i < l.length) : numR b n (l.drop i) = if digB b (l.getD i 0) < 0 then -1 else numR b (n * b + digB b (l.getD i 0)) (l.drop (i + 1)) := by
  rw [List.drop_eq_getElem_cons h]
  show (if digB b l[i] < 0 then -1 else _) = _
  rw [show l.getD i 0 = l[i] by simp [List.getD_eq_getElem?_getD, h]]
set_option maxRecDepth 10000 in
theorem yS (st : St) (r : Hp) (s : Tx) (bs : Nat) (hbs : bs = 10 ∨ bs = 16) (hl : s.length ≤ 140737488355328) (hO : Own st r) (k q : Value → St → Prop) (hk : ∀ st', Own st' r → k (.int .i64 (number s bs)) st') : ay (C base w0 G) 82 [.string (tx s), .int .i64 (bs : Nat)] st k q := by
  refine ay.of (cx := C base w0 G) mixed Tryz.func82 rfl (by kernel_rfl) (by simp [Tryz.ntmps82]) ?_
  simp only [Tryz.results82]
  by_cases h0 : s.length < 1
  · have e : number s bs = -1 := by unfold number; rw [if_pos (.inl h0)]
    rw [e] at hk
    simp -implicitDefEqProofs only [go_sem, ↓aj, ↓ah, astr, ak, Nat.reduceBEq, ↓reduceIte, reduceCtorEq, Nat.reduceEqDiff, Nat.reduceAdd, Nat.reduceLeDiff, Int.reduceEq, Int.reduceLT, Int.reduceLE, Int.reduceAdd, Int.reduceToNat, Int.reduceNeg, Nat.reduceMul, Nat.reduceSub, Int.reduceBNe, Int.reduceBEq, aO, Tryz.underlying9, show ((s.length : Int) < 1) = True by simp; omega, decide_true]
    exact hk _ hO
  by_cases h8 : s.length > 8
  · have e : number s bs = -1 := by unfold number; rw [if_pos (.inr h8)]
    rw [e] at hk
    simp -implicitDefEqProofs only [go_sem, ↓aj, ↓ah, astr, ak, Nat.reduceBEq, ↓reduceIte, reduceCtorEq, Nat.reduceEqDiff, Nat.reduceAdd, Nat.reduceLeDiff, Int.reduceEq, Int.reduceLT, Int.reduceLE, Int.reduceAdd, Int.reduceToNat, Int.reduceNeg, Nat.reduceMul, Nat.reduceSub, Int.reduceBNe, Int.reduceBEq, aO, Tryz.underlying9, show ((s.length : Int) < 1) = False by simp; omega, show ((s.length : Int) > 8) = True by simp; omega, decide_true, decide_false]
    exact hk _ hO
  have e : number s bs = numR bs 0 (lower s) := by unfold number; rw [if_neg (by omega)]
  rw [e] at hk
  simp -implicitDefEqProofs only [go_sem, ↓aj, ↓ah, astr, ak, Nat.reduceBEq, ↓reduceIte, reduceCtorEq, Nat.reduceEqDiff, Nat.reduceAdd, Nat.reduceLeDiff, Int.reduceEq, Int.reduceLT, Int.reduceLE, Int.reduceAdd, Int.reduceToNat, Int.reduceNeg, Nat.reduceMul, Nat.reduceSub, Int.reduceBNe, Int.reduceBEq, aO, Tryz.underlying9, show ((s.length : Int) < 1) = False by simp; omega, show ((s.length : Int) > 8) = False by simp; omega, decide_false]
  refine au.enter Tryz.func101 rfl (by kernel_rfl) (jQ st r s hl hO _ _ fun s1 hs1 => ?_)
  have hll : (lower s).length = s.length := List.length_map _
  generalize lower s = l at *
  simp -implicitDefEqProofs only [go_sem, ↓aj, ↓ah, astr, ak, Nat.reduceBEq, ↓reduceIte, reduceCtorEq, Nat.reduceEqDiff, Nat.reduceAdd, Nat.reduceLeDiff, Int.reduceEq, Int.reduceLT, Int.reduceLE, Int.reduceAdd, Int.reduceToNat, Int.reduceNeg, Nat.reduceMul, Nat.reduceSub, Int.reduceBNe, Int.reduceBEq, jy Tryz.underlying9 Tryz.underlying31 Tryz.underlying5 asz5, Tryz.underlying31]
  have hO1 := hs1.new (.cells (nl (nb8 l)) 5 true)
  generalize hb : s1.n = b at *
  refine ⟨fun m ρ s' => ∃ (i : Nat) (n : Int), m = l.length - i ∧ i ≤ l.length ∧ 0 ≤ n ∧ n < 16 ^ i ∧ numR bs 0 l = numR bs n (l.drop i) ∧ ρ 1 = .int .i64 (bs : Nat) ∧ ρ 5 = .int .i64 n ∧ ρ 19 = .slice (some ⟨b, 0, some 0⟩) l.length l.length ∧ ρ 20 = .int .i64 l.length ∧ ρ 21 = .int .i64 i ∧ Own s' ((b, .cells (nl (nb8 l)) 5 true) :: r),
    ⟨_, 0, 0, rfl, Nat.zero_le _, Int.le_refl _, by decide, rfl, rfl, rfl, rfl, rfl, rfl, hO1⟩, ?_⟩
  rintro _ ρ s' ⟨i, n, rfl, hi, hn0, hn1, hnum, h1, h5, h19, h20, h21, hs⟩
  have w1 : IntKind.i64.wrap ((i : Int) + 1) = ((i + 1 : Nat) : Int) := by rw [cO (by omega)]; rfl
  have hcb := hs.head
  by_cases him : i < l.length
  · have hat : (nl (nb8 l))[i]? = some (.int .u8 ((l.getD i 0).toNat : Nat)) := by have := um (f := id) him; rw [show dU id l i = l by simp [dU]] at this; exact this
    rw [FQ bs n l i him] at hnum
    have hd := JH bs (by omega) (l.getD i 0)
    have hp8 : (16 : Int) ^ i ≤ 16 ^ 7 := by
      have h7 : ((16 ^ i : Nat) : Int) ≤ ((16 ^ 7 : Nat) : Int) := Int.ofNat_le.2 (Nat.pow_le_pow_right (by decide) (by omega))
      rw [Int.natCast_pow, Int.natCast_pow] at h7
      exact h7
    have hp1 : (16 : Int) ^ (i + 1) = 16 ^ i * 16 := Int.pow_succ ..
    generalize hc : l.getD i 0 = c at *
    have ehx : (⟨#[48, 49, 50, 51, 52, 53, 54, 55, 56, 57, 97, 98, 99, 100, 101, 102]⟩ : ByteArray) = tx uy := rfl
    have hsl := gD (st := s') (P := Tryz.prog) (t := 9) (l := uy) (b := bs) Tryz.underlying9 (by rcases hbs with rfl | rfl <;> decide)
    simp -implicitDefEqProofs only [go_sem, ↓aj, ↓ah, astr, ak, Nat.reduceBEq, ↓reduceIte, reduceCtorEq, Nat.reduceEqDiff, Nat.reduceAdd, Nat.reduceLeDiff, Int.reduceEq, Int.reduceLT, Int.reduceLE, Int.reduceAdd, Int.reduceToNat, Int.reduceNeg, Nat.reduceMul, Nat.reduceSub, Int.reduceBNe, Int.reduceBEq, h1, h5, h19, h20, h21, him, Int.ofNat_lt, decide_true, hcb, hat, asz5, Tryz.underlying5, Tryz.underlying31, ehx, hsl]
    refine ⟨by omega, ?_⟩
    refine gX (uy.take bs) c _ _ ?_
    rw [show Lib.indexByte (uy.take bs) c = digB bs c from rfl]
    generalize digB bs c = dg at *
    by_cases hdg : dg < 0
    · rw [if_pos hdg] at hnum
      rw [hnum] at hk
      simp -implicitDefEqProofs only [go_sem, ↓aj, ↓ah, astr, ak, Nat.reduceBEq, ↓reduceIte, reduceCtorEq, Nat.reduceEqDiff, Nat.reduceAdd, Nat.reduceLeDiff, Int.reduceEq, Int.reduceLT, Int.reduceLE, Int.reduceAdd, Int.reduceToNat, Int.reduceNeg, Nat.reduceMul, Nat.reduceSub, Int.reduceBNe, Int.reduceBEq, h1, h5, h19, h20, h21, hdg, decide_true]
      exact hk _ hs.tail
    · rw [if_neg hdg] at hnum
      have hb16 : 0 ≤ n * (bs : Int) ∧ n * (bs : Int) ≤ n * 16 := ⟨Int.mul_nonneg hn0 (by omega), Int.mul_le_mul_of_nonneg_left (by omega) hn0⟩
      have w2 : IntKind.i64.wrap (n * (bs : Int)) = n * bs := cO (by omega)
      have w3 : IntKind.i64.wrap (n * (bs : Int) + dg) = n * bs + dg := cO (by omega)
      simp -implicitDefEqProofs only [go_sem, ↓aj, ↓ah, astr, ak, Nat.reduceBEq, ↓reduceIte, reduceCtorEq, Nat.reduceEqDiff, Nat.reduceAdd, Nat.reduceLeDiff, Int.reduceEq, Int.reduceLT, Int.reduceLE, Int.reduceAdd, Int.reduceToNat, Int.reduceNeg, Nat.reduceMul, Nat.reduceSub, Int.reduceBNe, Int.reduceBEq, h1, h5, h19, h20, h21, hdg, decide_false, w1, w2, w3]
      exact ⟨l.length - (i + 1), by omega, i + 1, n * bs + dg, rfl, by omega, by omega, by omega, hnum, rfl, rfl, hs⟩
  · obtain rfl : i = l.length := by omega
    rw [List.drop_length] at hnum
    rw [hnum] at hk
    simp -implicitDefEqProofs only [go_sem, ↓aj, ↓ah, astr, ak, Nat.reduceBEq, ↓reduceIte, reduceCtorEq, Nat.reduceEqDiff, Nat.reduceAdd, Nat.reduceLeDiff, Int.reduceEq, Int.reduceLT, Int.reduceLE, Int.reduceAdd, Int.reduceToNat, Int.reduceNeg, Nat.reduceMul, Nat.reduceSub, Int.reduceBNe, Int.reduceBEq, h1, h5, h19, h20, h21, Int.ofNat_lt, Nat.lt_irrefl, decide_false]
    exact hk _ hs.tail
end Go.Proofs.YtigjbehgfjjlkaaGreatDoor
set_option linter.unusedVariables false
set_option linter.unusedSimpArgs false
namespace Go.Proofs.YtigjbehgfjjlkaaGreatDoor
open Go Go.Abs Go.RowKit Go.Xml
variable {base : Nat} {w0 : World} {G : Nat}
theorem pR (old new : Tx) : ∀ (k : Nat) (s : Tx), (Lib.replaceK old new k s).length ≤ s.length + k * new.length
  | 0, s => by simp [Lib.replaceK]
  | k + 1, s => by
    unfold Lib.replaceK
    split
    · exact Nat.le_add_right _ _
    · have ih := pR old new k (s.drop ((Lib.index s old).toNat + old.length))
      rw [Nat.succ_mul]
      simp only [List.length_append, List.length_take, List.length_drop] at ih ⊢
      omega
theorem jD (old new s : Tx) (hn : new.length = 1) : (Lib.replaceAll s old new).length ≤ 2 * s.length + 1 := by
  unfold Lib.replaceAll Lib.replace
  split
  · omega
  · have h1 := pR old new (Lib.replaceNum s old (-1)) s
    have h2 : Lib.replaceNum s old (-1) = Lib.count s old := by unfold Lib.replaceNum; rw [if_pos (.inl (by decide))]
    have h3 := Lib.count_le s old
    rw [hn, h2] at h1
    rw [h2]
    omega
theorem FR (s : Tx) : (lines s).length ≤ 4 * s.length + 3 := by
  have h1 := jD [13, 10] [10] s rfl
  have h2 := jD [13] [10] (Lib.replaceAll s [13, 10] [10]) rfl
  unfold lines
  omega
theorem uz (s o : Tx) (ho : 1 ≤ o.length) : Lib.countB (tx s) (tx o) ≤ s.length := by
  have := Lib.countB_le (tx o) (by rw [aO]; exact ho) s.length (tx s) (by rw [aO]; exact Nat.le_refl _)
  rwa [aO] at this
set_option maxRecDepth 10000 in
theorem AA (st : St) (r : Hp) (s : Tx) (hM : eG w0) (hl : s.length ≤ 1000000) (hO : Own st r) (k q : Value → St → Prop) (hk : k (.string (tx (lines s))) st) : ay (C base w0 3) 36 [.string (tx s)] st k q := by
  refine ay.of (cx := C base w0 3) mixed Tryz.func36 rfl (by kernel_rfl) (by simp [Tryz.ntmps36]) ?_
  simp only [Tryz.results36]
  have e1 : (⟨#[13, 10]⟩ : ByteArray) = tx [13, 10] := rfl
  have e2 : (⟨#[10]⟩ : ByteArray) = tx [10] := rfl
  have e3 : (⟨#[13]⟩ : ByteArray) = tx [13] := rfl
  have h1 := jD [13, 10] [10] s rfl
  have c1 := uz s [13, 10] (by decide)
  have c2 := uz (Lib.replaceAll s [13, 10] [10]) [13] (by decide)
  have l1 : ([10] : Tx).length = 1 := rfl
  simp -implicitDefEqProofs only [go_sem, ↓aj, ↓ah, astr, ak, Nat.reduceBEq, ↓reduceIte, reduceCtorEq, Nat.reduceEqDiff, Nat.reduceAdd, Nat.reduceLeDiff, Int.reduceEq, Int.reduceLT, Int.reduceLE, Int.reduceAdd, Int.reduceToNat, Int.reduceNeg, Nat.reduceMul, Nat.reduceSub, Int.reduceBNe, Int.reduceBEq, e1, e2, e3]
  refine lX s [13, 10] [10] hM (by omega) (by decide) (by rw [l1]; omega) _ _ ?_
  simp -implicitDefEqProofs only [go_sem, ↓aj, ↓ah, astr, ak, Nat.reduceBEq, ↓reduceIte, reduceCtorEq, Nat.reduceEqDiff, Nat.reduceAdd, Nat.reduceLeDiff, Int.reduceEq, Int.reduceLT, Int.reduceLE, Int.reduceAdd, Int.reduceToNat, Int.reduceNeg, Nat.reduceMul, Nat.reduceSub, Int.reduceBNe, Int.reduceBEq, e1, e2, e3]
  refine lX (Lib.replaceAll s [13, 10] [10]) [13] [10] hM (by omega) (by decide) (by rw [l1]; omega) _ _ ?_
  simp -implicitDefEqProofs only [go_sem, ↓aj, ↓ah, astr, ak, Nat.reduceBEq, ↓reduceIte, reduceCtorEq, Nat.reduceEqDiff, Nat.reduceAdd, Nat.reduceLeDiff, Int.reduceEq, Int.reduceLT, Int.reduceLE, Int.reduceAdd, Int.reduceToNat, Int.reduceNeg, Nat.reduceMul, Nat.reduceSub, Int.reduceBNe, Int.reduceBEq, e1, e2, e3]
  exact hk
end Go.Proofs.YtigjbehgfjjlkaaGreatDoor
set_option linter.unusedVariables false
set_option linter.unusedSimpArgs false
namespace Go.Proofs.YtigjbehgfjjlkaaGreatDoor
open Go Go.Abs Go.RowKit Go.Xml
variable {base : Nat} {w0 : World} {G : Nat}
def kH {α : Type} (cx : Cx) (n : Nat) (caps : List Value) (r : Hp) (v : α → Value) (ok : α → Prop) (p : α → Bool) : Prop :=
  ∀ (a : α) (st : St) (X : Hp) (k q : Value → St → Prop), ok a → (∀ e ∈ r, e ∈ X) → Own st X → (∀ st', Own st' X → k (.bool (p a)) st') → au cx n (v a :: caps) st k q
theorem jR {cx : Cx} {n : Nat} {x : Value} {caps : List Value} {st : St} {k q : Value → St → Prop} : gq cx (.func (.func n) #[] caps.toArray) [x] st k q = au cx n (x :: caps) st k q := by
  simp [gq]
def bJ (x : Nat × Nat) : List Value := [.int .i32 (x.1 : Nat), .int .i32 (x.2 : Nat)]
def strC (s : Tx) : List Value := [.string (tx s)]
def dclC (d : Dcl) : List Value := [.string (tx d.pre), .string (tx d.uri)]
def attC (a : Att) : List Value := [.string (tx a.pre), .string (tx a.loc), .string (tx a.spc), .string (tx a.val)]
set_option maxRecDepth 10000 in
theorem yT (st : St) (r : Hp) (l : Value) (L : List (Nat × Nat)) (n : Nat) (caps : List Value) (ok : Nat × Nat → Prop) (p : Nat × Nat → Bool) (hP : kH (C base w0 G) n caps r (fun a => .agg (bJ a).toArray) ok p) (hL : Rws r l 2 (L.map bJ)) (hok : ∀ a ∈ L, ok a) (hn : L.length ≤ 1000000) (hO : Own st r) (k q : Value → St → Prop)
    (hk : ∀ (z : Int) st', decide (z ≥ 0) = L.any p → Own st' r → k (.int .i64 z) st') : ay (C base w0 G) 117 [l, .func (.func n) #[] caps.toArray] st k q := by
  obtain ⟨a, cp, hls, _⟩ := hL.isSlice
  rw [List.length_map] at hls
  refine ay.of (cx := C base w0 G) mixed Tryz.func117 rfl (by kernel_rfl) (by simp [Tryz.ntmps117]) ?_
  simp only [Tryz.results117]
  simp -implicitDefEqProofs only [go_sem, ↓aj, ↓ah, astr, ak, Nat.reduceBEq, ↓reduceIte, reduceCtorEq, Nat.reduceEqDiff, Nat.reduceAdd, Nat.reduceLeDiff, Int.reduceEq, Int.reduceLT, Int.reduceLE, Int.reduceAdd, Int.reduceToNat, Int.reduceNeg, Nat.reduceMul, Nat.reduceSub, Int.reduceBNe, Int.reduceBEq, hls, Tryz.underlying102]
  refine ⟨fun m ρ s => ∃ i : Nat, m = L.length - i ∧ i ≤ L.length ∧ ρ 0 = l ∧ ρ 1 = .func (.func n) #[] caps.toArray ∧ ρ 7 = .int .i64 L.length ∧ ρ 8 = .int .i64 i ∧ (∀ a ∈ L.take i, p a = false) ∧ Own s r, ⟨_, 0, rfl, Nat.zero_le _, hls.symm, rfl, rfl, rfl, fun a h => (by simp at h), hO⟩, ?_⟩
  rintro _ ρ s ⟨i, rfl, hi, h0, h1, h7, h8, hno, hs⟩
  by_cases him : i < L.length
  · obtain ⟨x, o, sp, c', cs, ty, own, hvx, hmem, hcut⟩ := hL.mem (i := i) (l := bJ L[i]) (by simp [him])
    rw [List.length_map] at hvx
    have hcx := hs.get hmem
    have hoki := hok L[i] (List.getElem_mem him)
    simp -implicitDefEqProofs only [go_sem, ↓aj, ↓ah, astr, ak, Nat.reduceBEq, ↓reduceIte, reduceCtorEq, Nat.reduceEqDiff, Nat.reduceAdd, Nat.reduceLeDiff, Int.reduceEq, Int.reduceLT, Int.reduceLE, Int.reduceAdd, Int.reduceToNat, Int.reduceNeg, Nat.reduceMul, Nat.reduceSub, Int.reduceBNe, Int.reduceBEq, h0, h1, h7, h8, hvx, him, Int.ofNat_lt, decide_true, hcx, hcut, jZ, Tryz.underlying102, Tryz.underlying101, Option.map_some]
    refine ⟨by omega, ?_⟩
    rw [jR]
    refine hP L[i] s r _ _ hoki (fun e he => he) hs fun s1 hs1 => ?_
    have w1 : IntKind.i64.wrap ((i : Int) + 1) = ((i + 1 : Nat) : Int) := by rw [cO (by omega)]; rfl
    cases hp : p L[i] with
    | true =>
      simp -implicitDefEqProofs only [go_sem, ↓aj, ↓ah, astr, ak, Nat.reduceBEq, ↓reduceIte, reduceCtorEq, Nat.reduceEqDiff, Nat.reduceAdd, Nat.reduceLeDiff, Int.reduceEq, Int.reduceLT, Int.reduceLE, Int.reduceAdd, Int.reduceToNat, Int.reduceNeg, Nat.reduceMul, Nat.reduceSub, Int.reduceBNe, Int.reduceBEq, h0, h1, h7, h8]
      refine hk _ _ ?_ hs1
      rw [decide_eq_true (by omega), List.any_eq_true.2 ⟨_, List.getElem_mem him, hp⟩]
    | false =>
      simp -implicitDefEqProofs only [go_sem, ↓aj, ↓ah, astr, ak, Nat.reduceBEq, ↓reduceIte, reduceCtorEq, Nat.reduceEqDiff, Nat.reduceAdd, Nat.reduceLeDiff, Int.reduceEq, Int.reduceLT, Int.reduceLE, Int.reduceAdd, Int.reduceToNat, Int.reduceNeg, Nat.reduceMul, Nat.reduceSub, Int.reduceBNe, Int.reduceBEq, h0, h1, h7, h8, w1]
      refine ⟨L.length - (i + 1), by omega, i + 1, rfl, by omega, rfl, fun a ha => ?_, hs1⟩
      rw [List.take_add_one, List.getElem?_eq_getElem him] at ha
      rcases List.mem_append.1 ha with ha | ha
      · exact hno a ha
      · simp at ha; rw [ha]; exact hp
  · obtain rfl : i = L.length := by omega
    rw [List.take_length] at hno
    simp -implicitDefEqProofs only [go_sem, ↓aj, ↓ah, astr, ak, Nat.reduceBEq, ↓reduceIte, reduceCtorEq, Nat.reduceEqDiff, Nat.reduceAdd, Nat.reduceLeDiff, Int.reduceEq, Int.reduceLT, Int.reduceLE, Int.reduceAdd, Int.reduceToNat, Int.reduceNeg, Nat.reduceMul, Nat.reduceSub, Int.reduceBNe, Int.reduceBEq, h0, h1, h7, h8, Int.ofNat_lt, Nat.lt_irrefl, decide_false]
    refine hk (-1) _ ?_ hs
    rw [decide_eq_false (by decide)]
    exact (List.any_eq_false.2 fun a ha => by rw [hno a ha]; decide).symm
set_option maxRecDepth 10000 in
theorem CZ (st : St) (r : Hp) (l : Value) (L : List (Nat × Nat)) (n : Nat) (caps : List Value) (ok : Nat × Nat → Prop) (p : Nat × Nat → Bool) (hP : kH (C base w0 G) n caps r (fun a => .agg (bJ a).toArray) ok p) (hL : Rws r l 2 (L.map bJ)) (hok : ∀ a ∈ L, ok a) (hn : L.length ≤ 1000000) (hO : Own st r) (k q : Value → St → Prop)
    (hk : ∀ st', Own st' r → k (.bool (L.any p)) st') : ay (C base w0 G) 90 [l, .func (.func n) #[] caps.toArray] st k q := by
  refine ay.of (cx := C base w0 G) mixed Tryz.func90 rfl (by kernel_rfl) (by simp [Tryz.ntmps90]) ?_
  simp only [Tryz.results90]
  simp -implicitDefEqProofs only [go_sem, ↓aj, ↓ah, astr, ak, Nat.reduceBEq, ↓reduceIte, reduceCtorEq, Nat.reduceEqDiff, Nat.reduceAdd, Nat.reduceLeDiff, Int.reduceEq, Int.reduceLT, Int.reduceLE, Int.reduceAdd, Int.reduceToNat, Int.reduceNeg, Nat.reduceMul, Nat.reduceSub, Int.reduceBNe, Int.reduceBEq]
  refine au.enter Tryz.func117 rfl (by kernel_rfl) (yT st r l L n caps ok p hP hL hok hn hO _ _ fun z s1 hz hs1 => ?_)
  simp -implicitDefEqProofs only [go_sem, ↓aj, ↓ah, astr, ak, Nat.reduceBEq, ↓reduceIte, reduceCtorEq, Nat.reduceEqDiff, Nat.reduceAdd, Nat.reduceLeDiff, Int.reduceEq, Int.reduceLT, Int.reduceLE, Int.reduceAdd, Int.reduceToNat, Int.reduceNeg, Nat.reduceMul, Nat.reduceSub, Int.reduceBNe, Int.reduceBEq, hz]
  exact hk _ hs1
set_option maxRecDepth 10000 in
theorem yU (st : St) (r : Hp) (l : Value) (L : List (Tx)) (n : Nat) (caps : List Value) (ok : Tx → Prop) (p : Tx → Bool) (hP : kH (C base w0 G) n caps r (fun a => .string (tx a)) ok p) (hL : Rws r l 1 (L.map strC)) (hok : ∀ a ∈ L, ok a) (hn : L.length ≤ 1000000) (hO : Own st r) (k q : Value → St → Prop)
    (hk : ∀ (z : Int) st', decide (z ≥ 0) = L.any p → Own st' r → k (.int .i64 z) st') : ay (C base w0 G) 125 [l, .func (.func n) #[] caps.toArray] st k q := by
  obtain ⟨a, cp, hls, _⟩ := hL.isSlice
  rw [List.length_map] at hls
  refine ay.of (cx := C base w0 G) mixed Tryz.func125 rfl (by kernel_rfl) (by simp [Tryz.ntmps125]) ?_
  simp only [Tryz.results125]
  simp -implicitDefEqProofs only [go_sem, ↓aj, ↓ah, astr, ak, Nat.reduceBEq, ↓reduceIte, reduceCtorEq, Nat.reduceEqDiff, Nat.reduceAdd, Nat.reduceLeDiff, Int.reduceEq, Int.reduceLT, Int.reduceLE, Int.reduceAdd, Int.reduceToNat, Int.reduceNeg, Nat.reduceMul, Nat.reduceSub, Int.reduceBNe, Int.reduceBEq, hls, Tryz.underlying126]
  refine ⟨fun m ρ s => ∃ i : Nat, m = L.length - i ∧ i ≤ L.length ∧ ρ 0 = l ∧ ρ 1 = .func (.func n) #[] caps.toArray ∧ ρ 7 = .int .i64 L.length ∧ ρ 8 = .int .i64 i ∧ (∀ a ∈ L.take i, p a = false) ∧ Own s r, ⟨_, 0, rfl, Nat.zero_le _, hls.symm, rfl, rfl, rfl, fun a h => (by simp at h), hO⟩, ?_⟩
  rintro _ ρ s ⟨i, rfl, hi, h0, h1, h7, h8, hno, hs⟩
  by_cases him : i < L.length
  · obtain ⟨x, o, sp, c', cs, ty, own, hvx, hmem, hcut⟩ := hL.mem (i := i) (l := strC L[i]) (by simp [him])
    rw [List.length_map] at hvx
    have hcx := hs.get hmem
    have hcg : cs[o + i]? = some (.string (tx L[i])) := by have := eF hcut (j := 0) (by decide); simpa [strC] using this
    have hoki := hok L[i] (List.getElem_mem him)
    simp -implicitDefEqProofs only [go_sem, ↓aj, ↓ah, astr, ak, Nat.reduceBEq, ↓reduceIte, reduceCtorEq, Nat.reduceEqDiff, Nat.reduceAdd, Nat.reduceLeDiff, Int.reduceEq, Int.reduceLT, Int.reduceLE, Int.reduceAdd, Int.reduceToNat, Int.reduceNeg, Nat.reduceMul, Nat.reduceSub, Int.reduceBNe, Int.reduceBEq, h0, h1, h7, h8, hvx, him, Int.ofNat_lt, decide_true, hcx, hcg, asz9, Tryz.underlying126, Tryz.underlying9, Option.map_some]
    refine ⟨by omega, ?_⟩
    rw [jR]
    refine hP L[i] s r _ _ hoki (fun e he => he) hs fun s1 hs1 => ?_
    have w1 : IntKind.i64.wrap ((i : Int) + 1) = ((i + 1 : Nat) : Int) := by rw [cO (by omega)]; rfl
    cases hp : p L[i] with
    | true =>
      simp -implicitDefEqProofs only [go_sem, ↓aj, ↓ah, astr, ak, Nat.reduceBEq, ↓reduceIte, reduceCtorEq, Nat.reduceEqDiff, Nat.reduceAdd, Nat.reduceLeDiff, Int.reduceEq, Int.reduceLT, Int.reduceLE, Int.reduceAdd, Int.reduceToNat, Int.reduceNeg, Nat.reduceMul, Nat.reduceSub, Int.reduceBNe, Int.reduceBEq, h0, h1, h7, h8]
      refine hk _ _ ?_ hs1
      rw [decide_eq_true (by omega), List.any_eq_true.2 ⟨_, List.getElem_mem him, hp⟩]
    | false =>
      simp -implicitDefEqProofs only [go_sem, ↓aj, ↓ah, astr, ak, Nat.reduceBEq, ↓reduceIte, reduceCtorEq, Nat.reduceEqDiff, Nat.reduceAdd, Nat.reduceLeDiff, Int.reduceEq, Int.reduceLT, Int.reduceLE, Int.reduceAdd, Int.reduceToNat, Int.reduceNeg, Nat.reduceMul, Nat.reduceSub, Int.reduceBNe, Int.reduceBEq, h0, h1, h7, h8, w1]
      refine ⟨L.length - (i + 1), by omega, i + 1, rfl, by omega, rfl, fun a ha => ?_, hs1⟩
      rw [List.take_add_one, List.getElem?_eq_getElem him] at ha
      rcases List.mem_append.1 ha with ha | ha
      · exact hno a ha
      · simp at ha; rw [ha]; exact hp
  · obtain rfl : i = L.length := by omega
    rw [List.take_length] at hno
    simp -implicitDefEqProofs only [go_sem, ↓aj, ↓ah, astr, ak, Nat.reduceBEq, ↓reduceIte, reduceCtorEq, Nat.reduceEqDiff, Nat.reduceAdd, Nat.reduceLeDiff, Int.reduceEq, Int.reduceLT, Int.reduceLE, Int.reduceAdd, Int.reduceToNat, Int.reduceNeg, Nat.reduceMul, Nat.reduceSub, Int.reduceBNe, Int.reduceBEq, h0, h1, h7, h8, Int.ofNat_lt, Nat.lt_irrefl, decide_false]
    refine hk (-1) _ ?_ hs
    rw [decide_eq_false (by decide)]
    exact (List.any_eq_false.2 fun a ha => by rw [hno a ha]; decide).symm
set_option maxRecDepth 10000 in
theorem uD (st : St) (r : Hp) (l : Value) (L : List (Tx)) (n : Nat) (caps : List Value) (ok : Tx → Prop) (p : Tx → Bool) (hP : kH (C base w0 G) n caps r (fun a => .string (tx a)) ok p) (hL : Rws r l 1 (L.map strC)) (hok : ∀ a ∈ L, ok a) (hn : L.length ≤ 1000000) (hO : Own st r) (k q : Value → St → Prop)
    (hk : ∀ st', Own st' r → k (.bool (L.any p)) st') : ay (C base w0 G) 99 [l, .func (.func n) #[] caps.toArray] st k q := by
  refine ay.of (cx := C base w0 G) mixed Tryz.func99 rfl (by kernel_rfl) (by simp [Tryz.ntmps99]) ?_
  simp only [Tryz.results99]
  simp -implicitDefEqProofs only [go_sem, ↓aj, ↓ah, astr, ak, Nat.reduceBEq, ↓reduceIte, reduceCtorEq, Nat.reduceEqDiff, Nat.reduceAdd, Nat.reduceLeDiff, Int.reduceEq, Int.reduceLT, Int.reduceLE, Int.reduceAdd, Int.reduceToNat, Int.reduceNeg, Nat.reduceMul, Nat.reduceSub, Int.reduceBNe, Int.reduceBEq]
  refine au.enter Tryz.func125 rfl (by kernel_rfl) (yU st r l L n caps ok p hP hL hok hn hO _ _ fun z s1 hz hs1 => ?_)
  simp -implicitDefEqProofs only [go_sem, ↓aj, ↓ah, astr, ak, Nat.reduceBEq, ↓reduceIte, reduceCtorEq, Nat.reduceEqDiff, Nat.reduceAdd, Nat.reduceLeDiff, Int.reduceEq, Int.reduceLT, Int.reduceLE, Int.reduceAdd, Int.reduceToNat, Int.reduceNeg, Nat.reduceMul, Nat.reduceSub, Int.reduceBNe, Int.reduceBEq, hz]
  exact hk _ hs1
set_option maxRecDepth 10000 in
theorem yV (st : St) (r : Hp) (l : Value) (L : List (Dcl)) (n : Nat) (caps : List Value) (ok : Dcl → Prop) (p : Dcl → Bool) (hP : kH (C base w0 G) n caps r (fun a => .agg (dclC a).toArray) ok p) (hL : Rws r l 2 (L.map dclC)) (hok : ∀ a ∈ L, ok a) (hn : L.length ≤ 1000000) (hO : Own st r) (k q : Value → St → Prop)
    (hk : ∀ (z : Int) st', decide (z ≥ 0) = L.any p → Own st' r → k (.int .i64 z) st') : ay (C base w0 G) 157 [l, .func (.func n) #[] caps.toArray] st k q := by
  obtain ⟨a, cp, hls, _⟩ := hL.isSlice
  rw [List.length_map] at hls
  refine ay.of (cx := C base w0 G) mixed Tryz.func157 rfl (by kernel_rfl) (by simp [Tryz.ntmps157]) ?_
  simp only [Tryz.results157]
  simp -implicitDefEqProofs only [go_sem, ↓aj, ↓ah, astr, ak, Nat.reduceBEq, ↓reduceIte, reduceCtorEq, Nat.reduceEqDiff, Nat.reduceAdd, Nat.reduceLeDiff, Int.reduceEq, Int.reduceLT, Int.reduceLE, Int.reduceAdd, Int.reduceToNat, Int.reduceNeg, Nat.reduceMul, Nat.reduceSub, Int.reduceBNe, Int.reduceBEq, hls, Tryz.underlying53]
  refine ⟨fun m ρ s => ∃ i : Nat, m = L.length - i ∧ i ≤ L.length ∧ ρ 0 = l ∧ ρ 1 = .func (.func n) #[] caps.toArray ∧ ρ 7 = .int .i64 L.length ∧ ρ 8 = .int .i64 i ∧ (∀ a ∈ L.take i, p a = false) ∧ Own s r, ⟨_, 0, rfl, Nat.zero_le _, hls.symm, rfl, rfl, rfl, fun a h => (by simp at h), hO⟩, ?_⟩
  rintro _ ρ s ⟨i, rfl, hi, h0, h1, h7, h8, hno, hs⟩
  by_cases him : i < L.length
  · obtain ⟨x, o, sp, c', cs, ty, own, hvx, hmem, hcut⟩ := hL.mem (i := i) (l := dclC L[i]) (by simp [him])
    rw [List.length_map] at hvx
    have hcx := hs.get hmem
    have hoki := hok L[i] (List.getElem_mem him)
    simp -implicitDefEqProofs only [go_sem, ↓aj, ↓ah, astr, ak, Nat.reduceBEq, ↓reduceIte, reduceCtorEq, Nat.reduceEqDiff, Nat.reduceAdd, Nat.reduceLeDiff, Int.reduceEq, Int.reduceLT, Int.reduceLE, Int.reduceAdd, Int.reduceToNat, Int.reduceNeg, Nat.reduceMul, Nat.reduceSub, Int.reduceBNe, Int.reduceBEq, h0, h1, h7, h8, hvx, him, Int.ofNat_lt, decide_true, hcx, hcut, jA, Tryz.underlying53, Tryz.underlying61, Option.map_some]
    refine ⟨by omega, ?_⟩
    rw [jR]
    refine hP L[i] s r _ _ hoki (fun e he => he) hs fun s1 hs1 => ?_
    have w1 : IntKind.i64.wrap ((i : Int) + 1) = ((i + 1 : Nat) : Int) := by rw [cO (by omega)]; rfl
    cases hp : p L[i] with
    | true =>
      simp -implicitDefEqProofs only [go_sem, ↓aj, ↓ah, astr, ak, Nat.reduceBEq, ↓reduceIte, reduceCtorEq, Nat.reduceEqDiff, Nat.reduceAdd, Nat.reduceLeDiff, Int.reduceEq, Int.reduceLT, Int.reduceLE, Int.reduceAdd, Int.reduceToNat, Int.reduceNeg, Nat.reduceMul, Nat.reduceSub, Int.reduceBNe, Int.reduceBEq, h0, h1, h7, h8]
      refine hk _ _ ?_ hs1
      rw [decide_eq_true (by omega), List.any_eq_true.2 ⟨_, List.getElem_mem him, hp⟩]
    | false =>
      simp -implicitDefEqProofs only [go_sem, ↓aj, ↓ah, astr, ak, Nat.reduceBEq, ↓reduceIte, reduceCtorEq, Nat.reduceEqDiff, Nat.reduceAdd, Nat.reduceLeDiff, Int.reduceEq, Int.reduceLT, Int.reduceLE, Int.reduceAdd, Int.reduceToNat, Int.reduceNeg, Nat.reduceMul, Nat.reduceSub, Int.reduceBNe, Int.reduceBEq, h0, h1, h7, h8, w1]
      refine ⟨L.length - (i + 1), by omega, i + 1, rfl, by omega, rfl, fun a ha => ?_, hs1⟩
      rw [List.take_add_one, List.getElem?_eq_getElem him] at ha
      rcases List.mem_append.1 ha with ha | ha
      · exact hno a ha
      · simp at ha; rw [ha]; exact hp
  · obtain rfl : i = L.length := by omega
    rw [List.take_length] at hno
    simp -implicitDefEqProofs only [go_sem, ↓aj, ↓ah, astr, ak, Nat.reduceBEq, ↓reduceIte, reduceCtorEq, Nat.reduceEqDiff, Nat.reduceAdd, Nat.reduceLeDiff, Int.reduceEq, Int.reduceLT, Int.reduceLE, Int.reduceAdd, Int.reduceToNat, Int.reduceNeg, Nat.reduceMul, Nat.reduceSub, Int.reduceBNe, Int.reduceBEq, h0, h1, h7, h8, Int.ofNat_lt, Nat.lt_irrefl, decide_false]
    refine hk (-1) _ ?_ hs
    rw [decide_eq_false (by decide)]
    exact (List.any_eq_false.2 fun a ha => by rw [hno a ha]; decide).symm
set_option maxRecDepth 10000 in
theorem C8 (st : St) (r : Hp) (l : Value) (L : List (Dcl)) (n : Nat) (caps : List Value) (ok : Dcl → Prop) (p : Dcl → Bool) (hP : kH (C base w0 G) n caps r (fun a => .agg (dclC a).toArray) ok p) (hL : Rws r l 2 (L.map dclC)) (hok : ∀ a ∈ L, ok a) (hn : L.length ≤ 1000000) (hO : Own st r) (k q : Value → St → Prop)
    (hk : ∀ st', Own st' r → k (.bool (L.any p)) st') : ay (C base w0 G) 132 [l, .func (.func n) #[] caps.toArray] st k q := by
  refine ay.of (cx := C base w0 G) mixed Tryz.func132 rfl (by kernel_rfl) (by simp [Tryz.ntmps132]) ?_
  simp only [Tryz.results132]
  simp -implicitDefEqProofs only [go_sem, ↓aj, ↓ah, astr, ak, Nat.reduceBEq, ↓reduceIte, reduceCtorEq, Nat.reduceEqDiff, Nat.reduceAdd, Nat.reduceLeDiff, Int.reduceEq, Int.reduceLT, Int.reduceLE, Int.reduceAdd, Int.reduceToNat, Int.reduceNeg, Nat.reduceMul, Nat.reduceSub, Int.reduceBNe, Int.reduceBEq]
  refine au.enter Tryz.func157 rfl (by kernel_rfl) (yV st r l L n caps ok p hP hL hok hn hO _ _ fun z s1 hz hs1 => ?_)
  simp -implicitDefEqProofs only [go_sem, ↓aj, ↓ah, astr, ak, Nat.reduceBEq, ↓reduceIte, reduceCtorEq, Nat.reduceEqDiff, Nat.reduceAdd, Nat.reduceLeDiff, Int.reduceEq, Int.reduceLT, Int.reduceLE, Int.reduceAdd, Int.reduceToNat, Int.reduceNeg, Nat.reduceMul, Nat.reduceSub, Int.reduceBNe, Int.reduceBEq, hz]
  exact hk _ hs1
set_option maxRecDepth 10000 in
theorem yX (st : St) (r : Hp) (l : Value) (L : List (Att)) (n : Nat) (caps : List Value) (ok : Att → Prop) (p : Att → Bool) (hP : kH (C base w0 G) n caps r (fun a => .agg (attC a).toArray) ok p) (hL : Rws r l 4 (L.map attC)) (hok : ∀ a ∈ L, ok a) (hn : L.length ≤ 1000000) (hO : Own st r) (k q : Value → St → Prop)
    (hk : ∀ (z : Int) st', decide (z ≥ 0) = L.any p → Own st' r → k (.int .i64 z) st') : ay (C base w0 G) 158 [l, .func (.func n) #[] caps.toArray] st k q := by
  obtain ⟨a, cp, hls, _⟩ := hL.isSlice
  rw [List.length_map] at hls
  refine ay.of (cx := C base w0 G) mixed Tryz.func158 rfl (by kernel_rfl) (by simp [Tryz.ntmps158]) ?_
  simp only [Tryz.results158]
  simp -implicitDefEqProofs only [go_sem, ↓aj, ↓ah, astr, ak, Nat.reduceBEq, ↓reduceIte, reduceCtorEq, Nat.reduceEqDiff, Nat.reduceAdd, Nat.reduceLeDiff, Int.reduceEq, Int.reduceLT, Int.reduceLE, Int.reduceAdd, Int.reduceToNat, Int.reduceNeg, Nat.reduceMul, Nat.reduceSub, Int.reduceBNe, Int.reduceBEq, hls, Tryz.underlying52]
  refine ⟨fun m ρ s => ∃ i : Nat, m = L.length - i ∧ i ≤ L.length ∧ ρ 0 = l ∧ ρ 1 = .func (.func n) #[] caps.toArray ∧ ρ 7 = .int .i64 L.length ∧ ρ 8 = .int .i64 i ∧ (∀ a ∈ L.take i, p a = false) ∧ Own s r, ⟨_, 0, rfl, Nat.zero_le _, hls.symm, rfl, rfl, rfl, fun a h => (by simp at h), hO⟩, ?_⟩
  rintro _ ρ s ⟨i, rfl, hi, h0, h1, h7, h8, hno, hs⟩
  by_cases him : i < L.length
  · obtain ⟨x, o, sp, c', cs, ty, own, hvx, hmem, hcut⟩ := hL.mem (i := i) (l := attC L[i]) (by simp [him])
    rw [List.length_map] at hvx
    have hcx := hs.get hmem
    have hoki := hok L[i] (List.getElem_mem him)
    simp -implicitDefEqProofs only [go_sem, ↓aj, ↓ah, astr, ak, Nat.reduceBEq, ↓reduceIte, reduceCtorEq, Nat.reduceEqDiff, Nat.reduceAdd, Nat.reduceLeDiff, Int.reduceEq, Int.reduceLT, Int.reduceLE, Int.reduceAdd, Int.reduceToNat, Int.reduceNeg, Nat.reduceMul, Nat.reduceSub, Int.reduceBNe, Int.reduceBEq, h0, h1, h7, h8, hvx, him, Int.ofNat_lt, decide_true, hcx, hcut, iP, Tryz.underlying52, Tryz.underlying59, Option.map_some]
    refine ⟨by omega, ?_⟩
    rw [jR]
    refine hP L[i] s r _ _ hoki (fun e he => he) hs fun s1 hs1 => ?_
    have w1 : IntKind.i64.wrap ((i : Int) + 1) = ((i + 1 : Nat) : Int) := by rw [cO (by omega)]; rfl
    cases hp : p L[i] with
    | true =>
      simp -implicitDefEqProofs only [go_sem, ↓aj, ↓ah, astr, ak, Nat.reduceBEq, ↓reduceIte, reduceCtorEq, Nat.reduceEqDiff, Nat.reduceAdd, Nat.reduceLeDiff, Int.reduceEq, Int.reduceLT, Int.reduceLE, Int.reduceAdd, Int.reduceToNat, Int.reduceNeg, Nat.reduceMul, Nat.reduceSub, Int.reduceBNe, Int.reduceBEq, h0, h1, h7, h8]
      refine hk _ _ ?_ hs1
      rw [decide_eq_true (by omega), List.any_eq_true.2 ⟨_, List.getElem_mem him, hp⟩]
    | false =>
      simp -implicitDefEqProofs only [go_sem, ↓aj, ↓ah, astr, ak, Nat.reduceBEq, ↓reduceIte, reduceCtorEq, Nat.reduceEqDiff, Nat.reduceAdd, Nat.reduceLeDiff, Int.reduceEq, Int.reduceLT, Int.reduceLE, Int.reduceAdd, Int.reduceToNat, Int.reduceNeg, Nat.reduceMul, Nat.reduceSub, Int.reduceBNe, Int.reduceBEq, h0, h1, h7, h8, w1]
      refine ⟨L.length - (i + 1), by omega, i + 1, rfl, by omega, rfl, fun a ha => ?_, hs1⟩
      rw [List.take_add_one, List.getElem?_eq_getElem him] at ha
      rcases List.mem_append.1 ha with ha | ha
      · exact hno a ha
      · simp at ha; rw [ha]; exact hp
  · obtain rfl : i = L.length := by omega
    rw [List.take_length] at hno
    simp -implicitDefEqProofs only [go_sem, ↓aj, ↓ah, astr, ak, Nat.reduceBEq, ↓reduceIte, reduceCtorEq, Nat.reduceEqDiff, Nat.reduceAdd, Nat.reduceLeDiff, Int.reduceEq, Int.reduceLT, Int.reduceLE, Int.reduceAdd, Int.reduceToNat, Int.reduceNeg, Nat.reduceMul, Nat.reduceSub, Int.reduceBNe, Int.reduceBEq, h0, h1, h7, h8, Int.ofNat_lt, Nat.lt_irrefl, decide_false]
    refine hk (-1) _ ?_ hs
    rw [decide_eq_false (by decide)]
    exact (List.any_eq_false.2 fun a ha => by rw [hno a ha]; decide).symm
set_option maxRecDepth 10000 in
theorem C9 (st : St) (r : Hp) (l : Value) (L : List (Att)) (n : Nat) (caps : List Value) (ok : Att → Prop) (p : Att → Bool) (hP : kH (C base w0 G) n caps r (fun a => .agg (attC a).toArray) ok p) (hL : Rws r l 4 (L.map attC)) (hok : ∀ a ∈ L, ok a) (hn : L.length ≤ 1000000) (hO : Own st r) (k q : Value → St → Prop)
    (hk : ∀ st', Own st' r → k (.bool (L.any p)) st') : ay (C base w0 G) 135 [l, .func (.func n) #[] caps.toArray] st k q := by
  refine ay.of (cx := C base w0 G) mixed Tryz.func135 rfl (by kernel_rfl) (by simp [Tryz.ntmps135]) ?_
  simp only [Tryz.results135]
  simp -implicitDefEqProofs only [go_sem, ↓aj, ↓ah, astr, ak, Nat.reduceBEq, ↓reduceIte, reduceCtorEq, Nat.reduceEqDiff, Nat.reduceAdd, Nat.reduceLeDiff, Int.reduceEq, Int.reduceLT, Int.reduceLE, Int.reduceAdd, Int.reduceToNat, Int.reduceNeg, Nat.reduceMul, Nat.reduceSub, Int.reduceBNe, Int.reduceBEq]
  refine au.enter Tryz.func158 rfl (by kernel_rfl) (yX st r l L n caps ok p hP hL hok hn hO _ _ fun z s1 hz hs1 => ?_)
  simp -implicitDefEqProofs only [go_sem, ↓aj, ↓ah, astr, ak, Nat.reduceBEq, ↓reduceIte, reduceCtorEq, Nat.reduceEqDiff, Nat.reduceAdd, Nat.reduceLeDiff, Int.reduceEq, Int.reduceLT, Int.reduceLE, Int.reduceAdd, Int.reduceToNat, Int.reduceNeg, Nat.reduceMul, Nat.reduceSub, Int.reduceBNe, Int.reduceBEq, hz]
  exact hk _ hs1
end Go.Proofs.YtigjbehgfjjlkaaGreatDoor
set_option linter.unusedVariables false
set_option linter.unusedSimpArgs false
namespace Go.Proofs.YtigjbehgfjjlkaaGreatDoor
open Go Go.Abs Go.RowKit Go.Xml
variable {base : Nat} {w0 : World} {G : Nat}
def inSp (c : Nat) (x : Nat × Nat) : Bool := decide (x.1 ≤ c) && decide (c ≤ x.2)
theorem yY (r : Hp) (b c : Nat) (own : Bool) {ty : TypeId} (hb : (b, Ob.cells [.int .i32 (c : Nat)] ty own) ∈ r) : kH (C base w0 G) 91 [.pointer (some ⟨b, 0, none⟩)] r (fun a => .agg (bJ a).toArray) (fun _ => True) (inSp c) := by
  intro x st X k q _ hX hO hk
  refine au.enter Tryz.func91 rfl (by kernel_rfl) ?_
  refine ay.of (cx := C base w0 G) mixed Tryz.func91 rfl (by kernel_rfl) (by simp [Tryz.ntmps91]) ?_
  simp only [Tryz.results91]
  have hcb := hO.get (hX _ hb)
  have hne := hO.fresh (hX _ hb)
  have hO1 := hO.new (.cells (bJ x) 101 true)
  obtain ⟨lo, hi⟩ := x
  by_cases h1 : lo ≤ c
  · by_cases h2 : c ≤ hi
    · have e : inSp c (lo, hi) = true := by simp [inSp, h1, h2]
      rw [e] at hk
      simp -implicitDefEqProofs only [go_sem, ↓aj, ↓ah, astr, ak, Nat.reduceBEq, ↓reduceIte, reduceCtorEq, Nat.reduceEqDiff, Nat.reduceAdd, Nat.reduceLeDiff, Int.reduceEq, Int.reduceLT, Int.reduceLE, Int.reduceAdd, Int.reduceToNat, Int.reduceNeg, Nat.reduceMul, Nat.reduceSub, Int.reduceBNe, Int.reduceBEq, abox, bJ, jZ, Et, Tryz.underlying21, hcb, hne, ug, uh, show ((c : Int) ≥ lo) = True by simp; omega, show ((c : Int) ≤ hi) = True by simp; omega, decide_true, decide_false]
      exact hk _ hO1.tail
    · have e : inSp c (lo, hi) = false := by simp [inSp]; omega
      rw [e] at hk
      simp -implicitDefEqProofs only [go_sem, ↓aj, ↓ah, astr, ak, Nat.reduceBEq, ↓reduceIte, reduceCtorEq, Nat.reduceEqDiff, Nat.reduceAdd, Nat.reduceLeDiff, Int.reduceEq, Int.reduceLT, Int.reduceLE, Int.reduceAdd, Int.reduceToNat, Int.reduceNeg, Nat.reduceMul, Nat.reduceSub, Int.reduceBNe, Int.reduceBEq, abox, bJ, jZ, Et, Tryz.underlying21, hcb, hne, ug, uh, show ((c : Int) ≥ lo) = True by simp; omega, show ((c : Int) ≤ hi) = False by simp; omega, decide_true, decide_false]
      exact hk _ hO1.tail
  · have e : inSp c (lo, hi) = false := by simp [inSp]; omega
    rw [e] at hk
    simp -implicitDefEqProofs only [go_sem, ↓aj, ↓ah, astr, ak, Nat.reduceBEq, ↓reduceIte, reduceCtorEq, Nat.reduceEqDiff, Nat.reduceAdd, Nat.reduceLeDiff, Int.reduceEq, Int.reduceLT, Int.reduceLE, Int.reduceAdd, Int.reduceToNat, Int.reduceNeg, Nat.reduceMul, Nat.reduceSub, Int.reduceBNe, Int.reduceBEq, abox, bJ, jZ, Et, Tryz.underlying21, hcb, hne, ug, uh, show ((c : Int) ≥ lo) = False by simp; omega, decide_true, decide_false]
    exact hk _ hO1.tail
set_option maxRecDepth 10000 in
theorem lu (st : St) (r : Hp) (l : Value) (L : List (Nat × Nat)) (c : Nat) (hL : Rws r l 2 (L.map bJ)) (hn : L.length ≤ 1000000) (hO : Own st r) (k q : Value → St → Prop)
    (hk : ∀ st', Own st' r → k (.bool (L.any (inSp c))) st') : ay (C base w0 G) 69 [.int .i32 (c : Nat), l] st k q := by
  refine ay.of (cx := C base w0 G) mixed Tryz.func69 rfl (by kernel_rfl) (by simp [Tryz.ntmps69]) ?_
  simp only [Tryz.results69]
  have hO1 := hO.new (.cells [.int .i32 (c : Nat)] 21 true)
  simp -implicitDefEqProofs only [go_sem, ↓aj, ↓ah, astr, ak, Nat.reduceBEq, ↓reduceIte, reduceCtorEq, Nat.reduceEqDiff, Nat.reduceAdd, Nat.reduceLeDiff, Int.reduceEq, Int.reduceLT, Int.reduceLE, Int.reduceAdd, Int.reduceToNat, Int.reduceNeg, Nat.reduceMul, Nat.reduceSub, Int.reduceBNe, Int.reduceBEq, abox, Et, List.map_toArray, List.map_cons, List.map_nil]
  refine au.enter Tryz.func90 rfl (by kernel_rfl) (CZ _ _ l L 91 [.pointer (some ⟨st.n, 0, none⟩)] (fun _ => True) (inSp c) (yY _ st.n c true (List.mem_cons_self ..)) (hL.sub fun e he => List.mem_cons_of_mem _ he) (fun _ _ => trivial) hn hO1 _ _ fun s1 hs1 => ?_)
  simp -implicitDefEqProofs only [go_sem, ↓aj, ↓ah, astr, ak, Nat.reduceBEq, ↓reduceIte, reduceCtorEq, Nat.reduceEqDiff, Nat.reduceAdd, Nat.reduceLeDiff, Int.reduceEq, Int.reduceLT, Int.reduceLE, Int.reduceAdd, Int.reduceToNat, Int.reduceNeg, Nat.reduceMul, Nat.reduceSub, Int.reduceBNe, Int.reduceBEq]
  exact hk _ hs1.tail
end Go.Proofs.YtigjbehgfjjlkaaGreatDoor
set_option linter.unusedVariables false
set_option linter.unusedSimpArgs false
namespace Go.Proofs.YtigjbehgfjjlkaaGreatDoor
open Go Go.Abs Go.RowKit Go.Xml
variable {base : Nat} {w0 : World} {G : Nat}
def nL : List (Nat × Nat) := [(9, 10), (13, 13), (32, 55295), (57344, 65533), (65536, 1114111)]
theorem Da (c : Nat) : dJ c = nL.any (inSp c) := by
  simp [dJ, nL, inSp, Bool.or_assoc]
theorem AB (c : Nat) : isFirst c = dN.any (inSp c) := rfl
theorem AJ (c : Nat) : jh c = (isFirst c || j4.any (inSp c)) := rfl
def AL : List Value := [.int .i32 9, .int .i32 10, .int .i32 13, .int .i32 13, .int .i32 32, .int .i32 55295, .int .i32 57344, .int .i32 65533, .int .i32 65536, .int .i32 1114111]
theorem Ma {st : St} : aL Tryz.prog st 102 5 [(0, .agg #[.int .i32 9, .int .i32 10]), (1, .agg #[.int .i32 13, .int .i32 13]), (2, .agg #[.int .i32 32, .int .i32 55295]), (3, .agg #[.int .i32 57344, .int .i32 65533]), (4, .agg #[.int .i32 65536, .int .i32 1114111])] = some (.slice (some ⟨st.n, 0, none⟩) 5 5, st.new (.cells AL 101 true)) := by
  simp [aL, Tryz.underlying102, jZ, qM, jd, zeros, isTuple, Value.cells, setL, List.replicate, AL]
theorem Mc {h : Hp} {b : Nat} : Rws ((b, Ob.cells AL 101 true) :: h) (.slice (some ⟨b, 0, none⟩) 5 5) 2 (nL.map bJ) :=
  .inr ⟨b, 0, none, 5, AL, 101, true, rfl, List.mem_cons_self .., fun i l hi => by
    have hl : i < 5 := by have := (List.getElem?_eq_some_iff.1 hi).1; simpa [nL] using this
    match i, hl, hi with
    | 0, _, hi => simp [nL, bJ] at hi; subst hi; rfl
    | 1, _, hi => simp [nL, bJ] at hi; subst hi; rfl
    | 2, _, hi => simp [nL, bJ] at hi; subst hi; rfl
    | 3, _, hi => simp [nL, bJ] at hi; subst hi; rfl
    | 4, _, hi => simp [nL, bJ] at hi; subst hi; rfl⟩
def uE : List Value := [.int .i32 65, .int .i32 90, .int .i32 97, .int .i32 122, .int .i32 95, .int .i32 95, .int .i32 192, .int .i32 214, .int .i32 216, .int .i32 246, .int .i32 248, .int .i32 767, .int .i32 880, .int .i32 893, .int .i32 895, .int .i32 8191, .int .i32 8204, .int .i32 8205, .int .i32 8304, .int .i32 8591, .int .i32 11264, .int .i32 12271, .int .i32 12289, .int .i32 55295, .int .i32 63744, .int .i32 64975, .int .i32 65008, .int .i32 65533, .int .i32 65536, .int .i32 983039]
theorem K8 {st : St} : aL Tryz.prog st 102 15 [(0, .agg #[.int .i32 65, .int .i32 90]), (1, .agg #[.int .i32 97, .int .i32 122]), (2, .agg #[.int .i32 95, .int .i32 95]), (3, .agg #[.int .i32 192, .int .i32 214]), (4, .agg #[.int .i32 216, .int .i32 246]), (5, .agg #[.int .i32 248, .int .i32 767]), (6, .agg #[.int .i32 880, .int .i32 893]), (7, .agg #[.int .i32 895, .int .i32 8191]), (8, .agg #[.int .i32 8204, .int .i32 8205]), (9, .agg #[.int .i32 8304, .int .i32 8591]), (10, .agg #[.int .i32 11264, .int .i32 12271]), (11, .agg #[.int .i32 12289, .int .i32 55295]), (12, .agg #[.int .i32 63744, .int .i32 64975]), (13, .agg #[.int .i32 65008, .int .i32 65533]), (14, .agg #[.int .i32 65536, .int .i32 983039])] = some (.slice (some ⟨st.n, 0, none⟩) 15 15, st.new (.cells uE 101 true)) := by
  simp [aL, Tryz.underlying102, jZ, qM, jd, zeros, isTuple, Value.cells, setL, List.replicate, uE]
theorem K9 {h : Hp} {b : Nat} : Rws ((b, Ob.cells uE 101 true) :: h) (.slice (some ⟨b, 0, none⟩) 15 15) 2 (dN.map bJ) :=
  .inr ⟨b, 0, none, 15, uE, 101, true, rfl, List.mem_cons_self .., fun i l hi => by
    have hl : i < 15 := by have := (List.getElem?_eq_some_iff.1 hi).1; simpa [dN] using this
    match i, hl, hi with
    | 0, _, hi => simp [dN, bJ] at hi; subst hi; rfl
    | 1, _, hi => simp [dN, bJ] at hi; subst hi; rfl
    | 2, _, hi => simp [dN, bJ] at hi; subst hi; rfl
    | 3, _, hi => simp [dN, bJ] at hi; subst hi; rfl
    | 4, _, hi => simp [dN, bJ] at hi; subst hi; rfl
    | 5, _, hi => simp [dN, bJ] at hi; subst hi; rfl
    | 6, _, hi => simp [dN, bJ] at hi; subst hi; rfl
    | 7, _, hi => simp [dN, bJ] at hi; subst hi; rfl
    | 8, _, hi => simp [dN, bJ] at hi; subst hi; rfl
    | 9, _, hi => simp [dN, bJ] at hi; subst hi; rfl
    | 10, _, hi => simp [dN, bJ] at hi; subst hi; rfl
    | 11, _, hi => simp [dN, bJ] at hi; subst hi; rfl
    | 12, _, hi => simp [dN, bJ] at hi; subst hi; rfl
    | 13, _, hi => simp [dN, bJ] at hi; subst hi; rfl
    | 14, _, hi => simp [dN, bJ] at hi; subst hi; rfl⟩
def uF : List Value := [.int .i32 48, .int .i32 57, .int .i32 45, .int .i32 46, .int .i32 183, .int .i32 183, .int .i32 768, .int .i32 879, .int .i32 8255, .int .i32 8256]
theorem La {st : St} : aL Tryz.prog st 102 5 [(0, .agg #[.int .i32 48, .int .i32 57]), (1, .agg #[.int .i32 45, .int .i32 46]), (2, .agg #[.int .i32 183, .int .i32 183]), (3, .agg #[.int .i32 768, .int .i32 879]), (4, .agg #[.int .i32 8255, .int .i32 8256])] = some (.slice (some ⟨st.n, 0, none⟩) 5 5, st.new (.cells uF 101 true)) := by
  simp [aL, Tryz.underlying102, jZ, qM, jd, zeros, isTuple, Value.cells, setL, List.replicate, uF]
theorem Lb {h : Hp} {b : Nat} : Rws ((b, Ob.cells uF 101 true) :: h) (.slice (some ⟨b, 0, none⟩) 5 5) 2 (j4.map bJ) :=
  .inr ⟨b, 0, none, 5, uF, 101, true, rfl, List.mem_cons_self .., fun i l hi => by
    have hl : i < 5 := by have := (List.getElem?_eq_some_iff.1 hi).1; simpa [j4] using this
    match i, hl, hi with
    | 0, _, hi => simp [j4, bJ] at hi; subst hi; rfl
    | 1, _, hi => simp [j4, bJ] at hi; subst hi; rfl
    | 2, _, hi => simp [j4, bJ] at hi; subst hi; rfl
    | 3, _, hi => simp [j4, bJ] at hi; subst hi; rfl
    | 4, _, hi => simp [j4, bJ] at hi; subst hi; rfl⟩
set_option maxRecDepth 10000 in
theorem Db (st : St) (r : Hp) (c : Nat) (hO : Own st r) (k q : Value → St → Prop) (hk : ∀ st', Own st' r → k (.bool (dJ c)) st') : ay (C base w0 G) 53 [.int .i32 (c : Nat)] st k q := by
  refine ay.of (cx := C base w0 G) mixed Tryz.func53 rfl (by kernel_rfl) (by simp [Tryz.ntmps53]) ?_
  simp only [Tryz.results53]
  simp -implicitDefEqProofs only [go_sem, ↓aj, ↓ah, astr, ak, Nat.reduceBEq, ↓reduceIte, reduceCtorEq, Nat.reduceEqDiff, Nat.reduceAdd, Nat.reduceLeDiff, Int.reduceEq, Int.reduceLT, Int.reduceLE, Int.reduceAdd, Int.reduceToNat, Int.reduceNeg, Nat.reduceMul, Nat.reduceSub, Int.reduceBNe, Int.reduceBEq, qM, CW, jZ, Tryz.underlying101, List.length_cons, List.length_nil, List.set_cons_zero, List.set_cons_succ, List.getElem?_cons_zero, List.getElem?_cons_succ, Option.map_some, Ma]
  refine au.enter Tryz.func69 rfl (by kernel_rfl) (lu _ _ _ nL c Mc (by decide) (hO.new (.cells AL 101 true)) _ _ fun s1 hs1 => ?_)
  simp -implicitDefEqProofs only [go_sem, ↓aj, ↓ah, astr, ak, Nat.reduceBEq, ↓reduceIte, reduceCtorEq, Nat.reduceEqDiff, Nat.reduceAdd, Nat.reduceLeDiff, Int.reduceEq, Int.reduceLT, Int.reduceLE, Int.reduceAdd, Int.reduceToNat, Int.reduceNeg, Nat.reduceMul, Nat.reduceSub, Int.reduceBNe, Int.reduceBEq]
  rw [Da] at hk
  exact hk _ hs1.tail
set_option maxRecDepth 10000 in
theorem rP (st : St) (r : Hp) (c : Nat) (hO : Own st r) (k q : Value → St → Prop) (hk : ∀ st', Own st' r → k (.bool (isFirst c)) st') : ay (C base w0 G) 162 [.int .i32 (c : Nat)] st k q := by
  refine ay.of (cx := C base w0 G) mixed Tryz.func162 rfl (by kernel_rfl) (by simp [Tryz.ntmps162]) ?_
  simp only [Tryz.results162]
  simp -implicitDefEqProofs only [go_sem, ↓aj, ↓ah, astr, ak, Nat.reduceBEq, ↓reduceIte, reduceCtorEq, Nat.reduceEqDiff, Nat.reduceAdd, Nat.reduceLeDiff, Int.reduceEq, Int.reduceLT, Int.reduceLE, Int.reduceAdd, Int.reduceToNat, Int.reduceNeg, Nat.reduceMul, Nat.reduceSub, Int.reduceBNe, Int.reduceBEq, qM, CW, jZ, Tryz.underlying101, List.length_cons, List.length_nil, List.set_cons_zero, List.set_cons_succ, List.getElem?_cons_zero, List.getElem?_cons_succ, Option.map_some, K8]
  refine au.enter Tryz.func69 rfl (by kernel_rfl) (lu _ _ _ dN c K9 (by decide) (hO.new (.cells uE 101 true)) _ _ fun s1 hs1 => ?_)
  simp -implicitDefEqProofs only [go_sem, ↓aj, ↓ah, astr, ak, Nat.reduceBEq, ↓reduceIte, reduceCtorEq, Nat.reduceEqDiff, Nat.reduceAdd, Nat.reduceLeDiff, Int.reduceEq, Int.reduceLT, Int.reduceLE, Int.reduceAdd, Int.reduceToNat, Int.reduceNeg, Nat.reduceMul, Nat.reduceSub, Int.reduceBNe, Int.reduceBEq]
  rw [AB] at hk
  exact hk _ hs1.tail
end Go.Proofs.YtigjbehgfjjlkaaGreatDoor
set_option linter.unusedVariables false
set_option linter.unusedSimpArgs false
namespace Go.Proofs.YtigjbehgfjjlkaaGreatDoor
open Go Go.Abs Go.RowKit Go.Xml
variable {base : Nat} {w0 : World} {G : Nat}
set_option maxRecDepth 10000 in
theorem AO (st : St) (r : Hp) (c : Nat) (hO : Own st r) (k q : Value → St → Prop) (hk : ∀ st', Own st' r → k (.bool (jh c)) st') : ay (C base w0 G) 163 [.int .i32 (c : Nat)] st k q := by
  refine ay.of (cx := C base w0 G) mixed Tryz.func163 rfl (by kernel_rfl) (by simp [Tryz.ntmps163]) ?_
  simp only [Tryz.results163]
  simp -implicitDefEqProofs only [go_sem, ↓aj, ↓ah, astr, ak, Nat.reduceBEq, ↓reduceIte, reduceCtorEq, Nat.reduceEqDiff, Nat.reduceAdd, Nat.reduceLeDiff, Int.reduceEq, Int.reduceLT, Int.reduceLE, Int.reduceAdd, Int.reduceToNat, Int.reduceNeg, Nat.reduceMul, Nat.reduceSub, Int.reduceBNe, Int.reduceBEq]
  refine au.enter Tryz.func162 rfl (by kernel_rfl) (rP st r c hO _ _ fun s1 hs1 => ?_)
  rw [AJ] at hk
  cases hf : isFirst c with
  | true =>
    rw [hf, Bool.true_or] at hk
    simp -implicitDefEqProofs only [go_sem, ↓aj, ↓ah, astr, ak, Nat.reduceBEq, ↓reduceIte, reduceCtorEq, Nat.reduceEqDiff, Nat.reduceAdd, Nat.reduceLeDiff, Int.reduceEq, Int.reduceLT, Int.reduceLE, Int.reduceAdd, Int.reduceToNat, Int.reduceNeg, Nat.reduceMul, Nat.reduceSub, Int.reduceBNe, Int.reduceBEq]
    exact hk _ hs1
  | false =>
    rw [hf, Bool.false_or] at hk
    simp -implicitDefEqProofs only [go_sem, ↓aj, ↓ah, astr, ak, Nat.reduceBEq, ↓reduceIte, reduceCtorEq, Nat.reduceEqDiff, Nat.reduceAdd, Nat.reduceLeDiff, Int.reduceEq, Int.reduceLT, Int.reduceLE, Int.reduceAdd, Int.reduceToNat, Int.reduceNeg, Nat.reduceMul, Nat.reduceSub, Int.reduceBNe, Int.reduceBEq, qM, CW, jZ, Tryz.underlying101, List.length_cons, List.length_nil, List.set_cons_zero, List.set_cons_succ, List.getElem?_cons_zero, List.getElem?_cons_succ, Option.map_some, La]
    refine au.enter Tryz.func69 rfl (by kernel_rfl) (lu _ _ _ j4 c Lb (by decide) (hs1.new (.cells uF 101 true)) _ _ fun s2 hs2 => ?_)
    simp -implicitDefEqProofs only [go_sem, ↓aj, ↓ah, astr, ak, Nat.reduceBEq, ↓reduceIte, reduceCtorEq, Nat.reduceEqDiff, Nat.reduceAdd, Nat.reduceLeDiff, Int.reduceEq, Int.reduceLT, Int.reduceLE, Int.reduceAdd, Int.reduceToNat, Int.reduceNeg, Nat.reduceMul, Nat.reduceSub, Int.reduceBNe, Int.reduceBEq]
    exact hk _ hs2.tail
end Go.Proofs.YtigjbehgfjjlkaaGreatDoor
