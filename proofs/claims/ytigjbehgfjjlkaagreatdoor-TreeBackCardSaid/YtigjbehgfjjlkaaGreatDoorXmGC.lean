/- Texts between quotation marks. No conditions but on the library's tables. -/
import Derived.Test.YtigjbehgfjjlkaaGreatDoorXmGB
import Derived.Test.YtigjbehgfjjlkaaGreatDoorBuil
import Derived.Test.YtigjbehgfjjlkaaGreatDoorAbs9
set_option linter.unusedVariables false
set_option linter.unusedSimpArgs false
namespace Go.Proofs.YtigjbehgfjjlkaaGreatDoor
open Go Go.Abs Go.RowKit Go.Xml
variable {base : Nat} {w0 : World} {G : Nat}
theorem pV (st : St) (r h : Hp) (b : Nat) (l m : Tx) (hb : Bld b (nb8 l) h) (hl : l.length + m.length ≤ 100000000000000) (hO : Own st (h ++ r)) (k q : Value → St → Prop)
    (hk : ∀ h' st', Bld b (nb8 (l ++ m)) h' → Own st' (h' ++ r) → k (.tuple #[.int .i64 (m.length : Nat), .nilIface]) st') :
    ay (C base w0 G) 48 [.pointer (some ⟨b, 0, none⟩), .string (tx m)] st k q := by
  rw [jc]
  refine kI st r h b (nb8 l) (nb8 m) hb (nU m) (by rw [aF, aF]; exact hl) hO k q fun h' st' h1 h2 => ?_
  rw [aF]
  exact hk h' st' (by rw [sJ]; exact h1) h2
theorem wo (st : St) (r h : Hp) (b : Nat) (l : Tx) (hb : Bld b (nb8 l) h) (hl : l.length ≤ 100000000000000) (hO : Own st (h ++ r)) (k q : Value → St → Prop)
    (hk : ∀ st', Own st' r → k (.string (tx l)) st') : ay (C base w0 G) 31 [.pointer (some ⟨b, 0, none⟩)] st k q :=
  rQ st r h b (nb8 l) hb (by rw [aF]; exact hl) hO k q fun st' h1 => by rw [← jc]; exact hk st' h1
theorem y7 (s sg : Tx) : upTo s sg ≤ s.length := (List.takeWhile_sublist _).length_le
theorem qR (s : Tx) : (iQ s).length = s.length := List.length_map _
theorem H6 (x t : Tx) (h : refX x = .ok t) : t.length ≤ 4 := by
  have hc : ∀ dg bs, codeF dg bs = .ok t → t.length ≤ 4 := fun dg bs h => by
    unfold codeF at h
    split at h
    · split at h
      · injection h with h
        rw [← h]
        unfold j5
        split <;> exact AV _
      · cases h
    · cases h
  unfold refX at h
  split at h
  · injection h with h; rw [← h]; decide
  split at h
  · injection h with h; rw [← h]; decide
  split at h
  · injection h with h; rw [← h]; decide
  split at h
  · injection h with h; rw [← h]; decide
  split at h
  · injection h with h; rw [← h]; decide
  split at h
  · split at h
    · exact hc _ _ h
    · exact hc _ _ h
  · cases h
theorem mD {s t s' : Tx} (h : refF s = .ok (t, s')) : t.length ≤ 4 ∧ s'.length ≤ s.length := by
  unfold refF at h
  split at h
  · cases h
  · split at h
    · rename_i t' ht
      injection h with h
      simp only [Prod.mk.injEq] at h
      obtain ⟨rfl, rfl⟩ := h
      exact ⟨H6 _ _ ht, by rw [List.length_drop]; omega⟩
    · cases h
theorem ED (c : UInt8) (n : Nat) (hn : n < 256) : (c = UInt8.ofNat n) ↔ c.toNat = n := by
  constructor
  · intro h; rw [h]; simp; omega
  · intro h; apply UInt8.toNat_inj.1; rw [h]; simp; omega
set_option maxRecDepth 10000 in
theorem y8 (st : St) (r : Hp) (b : Nat) (s : Tx) (nv kv : Value) (d : Bool) (hT : dw w0) (hl : s.length ≤ 1000000) (hO : Own st ((b, .cells (rdC s nv kv d) 76 true) :: r)) (k q : Value → St → Prop)
    (hk : ∀ v s' st', jC s = .ok (v, s') → Own st' ((b, .cells (rdC s' nv kv d) 76 true) :: r) → k (.string (tx v)) st')
    (hq : ∀ e st', jC s = .error e → Own st' r → q (fV e) st') : ay (C base w0 3) 129 [.pointer (some ⟨b, 0, none⟩)] st k q := by
  refine ay.of (cx := C base w0 3) mixed Tryz.func129 rfl (by kernel_rfl) (by simp [Tryz.ntmps129]) ?_
  simp only [Tryz.results129]
  have e34 : (⟨#[34]⟩ : ByteArray) = tx [34] := rfl
  have e39 : (⟨#[39]⟩ : ByteArray) = tx [39] := rfl
  have e60 : (⟨#[60, 38]⟩ : ByteArray) = tx [60, 38] := rfl
  have hF : jC s = if (hasF [34] s).1 then gU [34] (s.length + 1) [] (hasF [34] s).2 else if (hasF [39] s).1 then gU [39] (s.length + 1) [] (hasF [39] s).2 else .error 10 := rfl
  simp -implicitDefEqProofs only [go_sem, ↓aj, ↓ah, ak, Nat.reduceBEq, ↓reduceIte, reduceCtorEq, Nat.reduceEqDiff, Nat.reduceAdd, Nat.reduceLeDiff, Int.reduceEq, Int.reduceLT, Int.reduceLE, Int.reduceAdd, Int.reduceToNat, Int.reduceNeg, Nat.reduceMul, Nat.reduceSub, Int.reduceBNe, Int.reduceBEq, e34]
  refine au.enter Tryz.func58 rfl (by kernel_rfl) (fF st r b s [34] nv kv d hO _ _ fun s1 hs1 => ?_)
  have hle1 := bD [34] s
  cases hq1 : (hasF [34] s).1
  case' true =>
    rw [hq1, if_pos rfl] at hF
    simp -implicitDefEqProofs only [go_sem, ↓aj, ↓ah, ak, Nat.reduceBEq, ↓reduceIte, reduceCtorEq, Nat.reduceEqDiff, Nat.reduceAdd, Nat.reduceLeDiff, Int.reduceEq, Int.reduceLT, Int.reduceLE, Int.reduceAdd, Int.reduceToNat, Int.reduceNeg, Nat.reduceMul, Nat.reduceSub, Int.reduceBNe, Int.reduceBEq, Bool.not_true, bB, Ey]
    have hql : ([34] : Tx).length = 1 := rfl
    have hs2 := hs1
    have hle2 := hle1
    generalize (hasF [34] s).2 = s2 at *
    generalize ([34] : Tx) = qs at *
  case' false =>
    rw [hq1, if_neg (by decide)] at hF
    have hsame : (hasF [34] s).2 = s := by rw [uJ]; rw [uI] at hq1; rw [hq1]; rfl
    rw [hsame] at hs1
    simp -implicitDefEqProofs only [go_sem, ↓aj, ↓ah, ak, Nat.reduceBEq, ↓reduceIte, reduceCtorEq, Nat.reduceEqDiff, Nat.reduceAdd, Nat.reduceLeDiff, Int.reduceEq, Int.reduceLT, Int.reduceLE, Int.reduceAdd, Int.reduceToNat, Int.reduceNeg, Nat.reduceMul, Nat.reduceSub, Int.reduceBNe, Int.reduceBEq, Bool.not_false, e39]
    refine au.enter Tryz.func58 rfl (by kernel_rfl) (fF s1 r b s [39] nv kv d hs1 _ _ fun s1 hs3 => ?_)
    have hle2 := bD [39] s
    by_cases hq2 : (hasF [39] s).1 = false
    · rw [hq2, if_neg (by decide)] at hF
      simp -implicitDefEqProofs only [go_sem, ↓aj, ↓ah, ak, Nat.reduceBEq, ↓reduceIte, reduceCtorEq, Nat.reduceEqDiff, Nat.reduceAdd, Nat.reduceLeDiff, Int.reduceEq, Int.reduceLT, Int.reduceLE, Int.reduceAdd, Int.reduceToNat, Int.reduceNeg, Nat.reduceMul, Nat.reduceSub, Int.reduceBNe, Int.reduceBEq, hq2]
      refine au.enter Tryz.func61 rfl (by kernel_rfl) (aC _ false _ _ (fun h => by cases h) (fun _ => ?_))
      exact hq 10 _ hF hs3.tail
    rw [Bool.not_eq_false] at hq2
    rw [hq2, if_pos rfl] at hF
    simp -implicitDefEqProofs only [go_sem, ↓aj, ↓ah, ak, Nat.reduceBEq, ↓reduceIte, reduceCtorEq, Nat.reduceEqDiff, Nat.reduceAdd, Nat.reduceLeDiff, Int.reduceEq, Int.reduceLT, Int.reduceLE, Int.reduceAdd, Int.reduceToNat, Int.reduceNeg, Nat.reduceMul, Nat.reduceSub, Int.reduceBNe, Int.reduceBEq, hq2]
    refine au.enter Tryz.func61 rfl (by kernel_rfl) (aC _ true _ _ (fun _ => ?_) (fun h => by cases h))
    simp -implicitDefEqProofs only [go_sem, ↓aj, ↓ah, ak, Nat.reduceBEq, ↓reduceIte, reduceCtorEq, Nat.reduceEqDiff, Nat.reduceAdd, Nat.reduceLeDiff, Int.reduceEq, Int.reduceLT, Int.reduceLE, Int.reduceAdd, Int.reduceToNat, Int.reduceNeg, Nat.reduceMul, Nat.reduceSub, Int.reduceBNe, Int.reduceBEq, bB, Ey]
    have hql : ([39] : Tx).length = 1 := rfl
    have hs2 := hs3
    clear hs1
    generalize (hasF [39] s).2 = s2 at *
    generalize ([39] : Tx) = qs at *
  all_goals
    have hO3 := hs2.new (.cells [.pointer none, .slice none 0 0] 64 true)
    have hB0 := Bld.new s1.n
    generalize hbb : s1.n = bb at *
    refine ⟨fun m ρ s' => ∃ (f : Nat) (out t : Tx) (h : Hp), m = t.length ∧ t.length < f ∧ jC s = gU qs f out t ∧ out.length + 5 * t.length ≤ 5000000 ∧ Bld bb (nb8 out) h ∧ ρ 0 = .pointer (some ⟨b, 0, none⟩) ∧ ρ 3 = .string (tx qs) ∧ ρ 4 = .pointer (some ⟨bb, 0, none⟩) ∧ Own s' ((b, .cells (rdC t nv kv d) 76 true) :: (h ++ r)),
      ⟨_, s.length + 1, [], s2, _, rfl, by omega, hF, by rw [List.length_nil]; omega, hB0, rfl, rfl, by rw [← hbb]; rfl, hO3.perm (List.Perm.swap _ _ _)⟩, ?_⟩
    rintro _ ρ s' ⟨f, out, t, h, rfl, hf, hR, hlen, hB, h0, h3, h4, hs⟩
    have hc := hs.head
    unfold rdC at hc
    have hadd : astr .add (tx qs) (tx [60, 38]) = some (.string (tx (qs ++ [60, 38]))) := kG (by rw [hql]; decide)
    simp -implicitDefEqProofs only [go_sem, ↓aj, ↓ah, ak, Nat.reduceBEq, ↓reduceIte, reduceCtorEq, Nat.reduceEqDiff, Nat.reduceAdd, Nat.reduceLeDiff, Int.reduceEq, Int.reduceLT, Int.reduceLE, Int.reduceAdd, Int.reduceToNat, Int.reduceNeg, Nat.reduceMul, Nat.reduceSub, Int.reduceBNe, Int.reduceBEq, h0, h3, h4, hc, aK, asz9, Tryz.underlying9, e60, hadd]
    refine au.enter Tryz.func83 rfl (by kernel_rfl) (nW s' t (qs ++ [60, 38]) (by omega) _ _ ?_)
    have hnle := y7 t (qs ++ [60, 38])
    obtain ⟨f', rfl⟩ : ∃ f', f = f' + 1 := ⟨f - 1, by omega⟩
    have hR1 : gU qs (f' + 1) out t = if upTo t (qs ++ [60, 38]) < t.length ∧ t.getD (upTo t (qs ++ [60, 38])) 0 ≠ 60 then
        if t.getD (upTo t (qs ++ [60, 38])) 0 = 38 then
          match refF (t.drop (upTo t (qs ++ [60, 38]) + 1)) with
          | .ok (t', s') => gU qs f' (out ++ iQ (t.take (upTo t (qs ++ [60, 38]))) ++ t') s'
          | .error e => .error e
        else .ok (out ++ iQ (t.take (upTo t (qs ++ [60, 38]))), t.drop (upTo t (qs ++ [60, 38]) + 1))
      else .error 10 := rfl
    rw [hR1] at hR
    clear hR1
    generalize upTo t (qs ++ [60, 38]) = n at *
    have bad : jC s = .error 10 → ∀ s4, Own s4 (h ++ r) → q (fV 10) s4 := fun e s4 hs4 => hq 10 s4 e hs4.right
    by_cases hn : n < t.length
    rotate_left
    · rw [if_neg (fun h => hn h.1)] at hR
      simp -implicitDefEqProofs only [go_sem, ↓aj, ↓ah, ak, Nat.reduceBEq, ↓reduceIte, reduceCtorEq, Nat.reduceEqDiff, Nat.reduceAdd, Nat.reduceLeDiff, Int.reduceEq, Int.reduceLT, Int.reduceLE, Int.reduceAdd, Int.reduceToNat, Int.reduceNeg, Nat.reduceMul, Nat.reduceSub, Int.reduceBNe, Int.reduceBEq, h0, h3, h4, hc, aK, asz9, Tryz.underlying9, aO, Int.ofNat_lt, hn, decide_false]
      refine au.enter Tryz.func61 rfl (by kernel_rfl) (aC _ false _ _ (fun h => by cases h) (fun _ => ?_))
      exact bad hR _ hs.tail
    have u60 := ED (t.getD n 0) 60 (by decide)
    have u38 := ED (t.getD n 0) 38 (by decide)
    change t.getD n 0 = 60 ↔ _ at u60
    change t.getD n 0 = 38 ↔ _ at u38
    have hat := mV (k := .i64) Tryz.underlying9 hn
    generalize t.getD n 0 = c at *
    by_cases g60 : c = 60
    · rw [if_neg (fun h => h.2 g60)] at hR
      simp -implicitDefEqProofs only [go_sem, ↓aj, ↓ah, ak, Nat.reduceBEq, ↓reduceIte, reduceCtorEq, Nat.reduceEqDiff, Nat.reduceAdd, Nat.reduceLeDiff, Int.reduceEq, Int.reduceLT, Int.reduceLE, Int.reduceAdd, Int.reduceToNat, Int.reduceNeg, Nat.reduceMul, Nat.reduceSub, Int.reduceBNe, Int.reduceBEq, h0, h3, h4, hc, aK, asz9, Tryz.underlying9, aO, Int.ofNat_lt, hn, decide_true, hat, show ((c.toNat : Int) != 60) = false by rw [u60.1 g60]; rfl]
      refine au.enter Tryz.func61 rfl (by kernel_rfl) (aC _ false _ _ (fun h => by cases h) (fun _ => ?_))
      exact bad hR _ hs.tail
    rw [if_pos ⟨hn, g60⟩] at hR
    have k60 : c.toNat ≠ 60 := fun h => g60 (u60.2 h)
    have w1 : IntKind.i64.wrap ((n : Int) + 1) = ((n + 1 : Nat) : Int) := by rw [cO (by omega)]; rfl
    have htk : (t.take n).length = n := by rw [List.length_take]; omega
    simp -implicitDefEqProofs only [go_sem, ↓aj, ↓ah, ak, Nat.reduceBEq, ↓reduceIte, reduceCtorEq, Nat.reduceEqDiff, Nat.reduceAdd, Nat.reduceLeDiff, Int.reduceEq, Int.reduceLT, Int.reduceLE, Int.reduceAdd, Int.reduceToNat, Int.reduceNeg, Nat.reduceMul, Nat.reduceSub, Int.reduceBNe, Int.reduceBEq, h0, h3, h4, hc, aK, asz9, Tryz.underlying9, aO, Int.ofNat_lt, hn, decide_true, hat, show ((c.toNat : Int) != 60) = true by rw [bne_iff_ne]; omega]
    refine au.enter Tryz.func61 rfl (by kernel_rfl) (aC _ true _ _ (fun _ => ?_) (fun h => by cases h))
    simp -implicitDefEqProofs only [go_sem, ↓aj, ↓ah, ak, Nat.reduceBEq, ↓reduceIte, reduceCtorEq, Nat.reduceEqDiff, Nat.reduceAdd, Nat.reduceLeDiff, Int.reduceEq, Int.reduceLT, Int.reduceLE, Int.reduceAdd, Int.reduceToNat, Int.reduceNeg, Nat.reduceMul, Nat.reduceSub, Int.reduceBNe, Int.reduceBEq, h0, h3, h4, hc, aK, asz9, Tryz.underlying9, gD Tryz.underlying9 hnle]
    refine au.enter Tryz.func145 rfl (by kernel_rfl) (CY s' _ (t.take n) (by omega) hs _ _ fun s4 hs4 => ?_)
    simp -implicitDefEqProofs only [go_sem, ↓aj, ↓ah, ak, Nat.reduceBEq, ↓reduceIte, reduceCtorEq, Nat.reduceEqDiff, Nat.reduceAdd, Nat.reduceLeDiff, Int.reduceEq, Int.reduceLT, Int.reduceLE, Int.reduceAdd, Int.reduceToNat, Int.reduceNeg, Nat.reduceMul, Nat.reduceSub, Int.reduceBNe, Int.reduceBEq, h0, h3, h4]
    have hfl := qR (t.take n)
    refine au.enter Tryz.func48 rfl (by kernel_rfl) (pV s4 ((b, .cells (rdC t nv kv d) 76 true) :: r) h bb out (iQ (t.take n)) hB (by omega) (hs4.perm (aJ h _ r).symm) _ _ fun h5 s5 hB5 hs5 => ?_)
    have hs6 := hs5.perm (aJ h5 _ r)
    have hc6 := hs6.head
    unfold rdC at hc6
    have hs7 := hs6.set rfl (.cells (rdC (t.drop (n + 1)) nv kv d) 76 true) rfl
    have hdl : (t.drop (n + 1)).length = t.length - (n + 1) := List.length_drop ..
    by_cases g38 : c = 38
    rotate_left
    · rw [if_neg g38] at hR
      have k38 : c.toNat ≠ 38 := fun h => g38 (u38.2 h)
      simp -implicitDefEqProofs only [go_sem, ↓aj, ↓ah, ak, Nat.reduceBEq, ↓reduceIte, reduceCtorEq, Nat.reduceEqDiff, Nat.reduceAdd, Nat.reduceLeDiff, Int.reduceEq, Int.reduceLT, Int.reduceLE, Int.reduceAdd, Int.reduceToNat, Int.reduceNeg, Nat.reduceMul, Nat.reduceSub, Int.reduceBNe, Int.reduceBEq, h0, h3, h4, hc6, aK, asz9, Tryz.underlying9, hat, show ((c.toNat : Int) == 38) = false by simp; omega, w1, bU Tryz.underlying9 (show n + 1 ≤ t.length by omega), List.length_cons, List.length_nil, Bool.not_false]
      refine au.enter Tryz.func31 rfl (by kernel_rfl) (wo _ ((b, .cells (rdC (t.drop (n + 1)) nv kv d) 76 true) :: r) h5 bb _ hB5 (by rw [List.length_append]; omega) (hs7.perm (aJ h5 _ r).symm) _ _ fun s8 hs8 => ?_)
      simp -implicitDefEqProofs only [go_sem, ↓aj, ↓ah, ak, Nat.reduceBEq, ↓reduceIte, reduceCtorEq, Nat.reduceEqDiff, Nat.reduceAdd, Nat.reduceLeDiff, Int.reduceEq, Int.reduceLT, Int.reduceLE, Int.reduceAdd, Int.reduceToNat, Int.reduceNeg, Nat.reduceMul, Nat.reduceSub, Int.reduceBNe, Int.reduceBEq]
      exact hk _ _ _ hR hs8
    · rw [if_pos g38] at hR
      simp -implicitDefEqProofs only [go_sem, ↓aj, ↓ah, ak, Nat.reduceBEq, ↓reduceIte, reduceCtorEq, Nat.reduceEqDiff, Nat.reduceAdd, Nat.reduceLeDiff, Int.reduceEq, Int.reduceLT, Int.reduceLE, Int.reduceAdd, Int.reduceToNat, Int.reduceNeg, Nat.reduceMul, Nat.reduceSub, Int.reduceBNe, Int.reduceBEq, h0, h3, h4, hc6, aK, asz9, Tryz.underlying9, hat, show ((c.toNat : Int) == 38) = true by rw [u38.1 g38]; rfl, w1, bU Tryz.underlying9 (show n + 1 ≤ t.length by omega), List.length_cons, List.length_nil, Bool.not_true]
      refine au.enter Tryz.func60 rfl (by kernel_rfl) (lY _ _ b (t.drop (n + 1)) nv kv d hT (by omega) hs7 _ _ (fun v t' s8 hr8 hs8 => ?_) (fun e s8 hr8 hs8 => ?_))
      · rw [hr8] at hR
        obtain ⟨v4, t4⟩ := mD hr8
        simp -implicitDefEqProofs only [go_sem, ↓aj, ↓ah, ak, Nat.reduceBEq, ↓reduceIte, reduceCtorEq, Nat.reduceEqDiff, Nat.reduceAdd, Nat.reduceLeDiff, Int.reduceEq, Int.reduceLT, Int.reduceLE, Int.reduceAdd, Int.reduceToNat, Int.reduceNeg, Nat.reduceMul, Nat.reduceSub, Int.reduceBNe, Int.reduceBEq, h0, h3, h4]
        refine au.enter Tryz.func48 rfl (by kernel_rfl) (pV s8 ((b, .cells (rdC t' nv kv d) 76 true) :: r) h5 bb _ v hB5 (by rw [List.length_append]; omega) (hs8.perm (aJ h5 _ r).symm) _ _ fun h9 s9 hB9 hs9 => ?_)
        simp -implicitDefEqProofs only [go_sem, ↓aj, ↓ah, ak, Nat.reduceBEq, ↓reduceIte, reduceCtorEq, Nat.reduceEqDiff, Nat.reduceAdd, Nat.reduceLeDiff, Int.reduceEq, Int.reduceLT, Int.reduceLE, Int.reduceAdd, Int.reduceToNat, Int.reduceNeg, Nat.reduceMul, Nat.reduceSub, Int.reduceBNe, Int.reduceBEq, h0, h3, h4]
        exact ⟨t'.length, by omega, f', _, t', h9, rfl, by omega, hR, by rw [List.length_append, List.length_append]; omega, hB9, hs9.perm (aJ h9 _ r)⟩
      · rw [hr8] at hR
        exact hq e _ hR hs8.right
end Go.Proofs.YtigjbehgfjjlkaaGreatDoor
set_option linter.unusedVariables false
set_option linter.unusedSimpArgs false
namespace Go.Proofs.YtigjbehgfjjlkaaGreatDoor
open Go Go.Abs Go.RowKit Go.Xml
variable {base : Nat} {w0 : World} {G : Nat}
set_option maxRecDepth 10000 in
theorem AZ (r : Hp) (bv bf : Nat) (v : Tx) (fold : Bool) {t1 t2 : TypeId} {o1 o2 : Bool} (hv : (bv, Ob.cells [.string (tx v)] t1 o1) ∈ r) (hf : (bf, Ob.cells [.bool fold] t2 o2) ∈ r) (hvl : v.length ≤ 1000000) :
    kH (C base w0 G) 100 [.pointer (some ⟨bv, 0, none⟩), .pointer (some ⟨bf, 0, none⟩)] r (fun a => .string (tx a)) (fun a => a.length ≤ 1000000) (fun x => decide (x = v) || (fold && decide (lower v = lower x))) := by
  intro x st X k q hx hX hO hk
  refine au.enter Tryz.func100 rfl (by kernel_rfl) ?_
  refine ay.of (cx := C base w0 G) mixed Tryz.func100 rfl (by kernel_rfl) (by simp [Tryz.ntmps100]) ?_
  simp only [Tryz.results100]
  dsimp only at hk
  have hc1 := hO.get (hX _ hv)
  have hc2 := hO.get (hX _ hf)
  by_cases h1 : x = v
  · rw [decide_eq_true h1, Bool.true_or] at hk
    simp -implicitDefEqProofs only [go_sem, ↓aj, ↓ah, ak, Nat.reduceBEq, ↓reduceIte, reduceCtorEq, Nat.reduceEqDiff, Nat.reduceAdd, Nat.reduceLeDiff, Int.reduceEq, Int.reduceLT, Int.reduceLE, Int.reduceAdd, Int.reduceToNat, Int.reduceNeg, Nat.reduceMul, Nat.reduceSub, Int.reduceBNe, Int.reduceBEq, hc1, hc2, asz9, asz4, Tryz.underlying4, Tryz.underlying9, aA, decide_eq_true h1]
    exact hk _ hO
  rw [decide_eq_false h1, Bool.false_or] at hk
  cases fold with
  | false =>
    simp -implicitDefEqProofs only [go_sem, ↓aj, ↓ah, ak, Nat.reduceBEq, ↓reduceIte, reduceCtorEq, Nat.reduceEqDiff, Nat.reduceAdd, Nat.reduceLeDiff, Int.reduceEq, Int.reduceLT, Int.reduceLE, Int.reduceAdd, Int.reduceToNat, Int.reduceNeg, Nat.reduceMul, Nat.reduceSub, Int.reduceBNe, Int.reduceBEq, hc1, hc2, asz9, asz4, Tryz.underlying4, Tryz.underlying9, aA, decide_eq_false h1]
    exact hk _ hO
  | true =>
    rw [Bool.true_and] at hk
    simp -implicitDefEqProofs only [go_sem, ↓aj, ↓ah, ak, Nat.reduceBEq, ↓reduceIte, reduceCtorEq, Nat.reduceEqDiff, Nat.reduceAdd, Nat.reduceLeDiff, Int.reduceEq, Int.reduceLT, Int.reduceLE, Int.reduceAdd, Int.reduceToNat, Int.reduceNeg, Nat.reduceMul, Nat.reduceSub, Int.reduceBNe, Int.reduceBEq, hc1, hc2, asz9, asz4, Tryz.underlying4, Tryz.underlying9, aA, decide_eq_false h1]
    refine au.enter Tryz.func101 rfl (by kernel_rfl) (jQ st X v (by omega) hO _ _ fun s1 hs1 => ?_)
    simp -implicitDefEqProofs only [go_sem, ↓aj, ↓ah, ak, Nat.reduceBEq, ↓reduceIte, reduceCtorEq, Nat.reduceEqDiff, Nat.reduceAdd, Nat.reduceLeDiff, Int.reduceEq, Int.reduceLT, Int.reduceLE, Int.reduceAdd, Int.reduceToNat, Int.reduceNeg, Nat.reduceMul, Nat.reduceSub, Int.reduceBNe, Int.reduceBEq]
    refine au.enter Tryz.func101 rfl (by kernel_rfl) (jQ s1 X x (by omega) hs1 _ _ fun s2 hs2 => ?_)
    simp -implicitDefEqProofs only [go_sem, ↓aj, ↓ah, ak, Nat.reduceBEq, ↓reduceIte, reduceCtorEq, Nat.reduceEqDiff, Nat.reduceAdd, Nat.reduceLeDiff, Int.reduceEq, Int.reduceLT, Int.reduceLE, Int.reduceAdd, Int.reduceToNat, Int.reduceNeg, Nat.reduceMul, Nat.reduceSub, Int.reduceBNe, Int.reduceBEq, aA]
    exact hk _ hs2
theorem gZ (s : Tx) : (aD s).2.length ≤ s.length := (List.dropWhile_sublist _).length_le
theorem pW {s s' : Tx} (h : eqF s = .ok s') : s'.length ≤ s.length := by
  unfold eqF at h
  split at h
  · injection h with h
    rw [← h]
    exact Nat.le_trans (gZ _) (Nat.le_trans (bD _ _) (gZ _))
  · cases h
theorem lG {t s v s' : Tx} (h : aZ t s = .ok (v, s')) : v.length ≤ s.length ∧ s'.length ≤ s.length := by
  unfold aZ at h
  split at h
  · injection h with h
    simp only [Prod.mk.injEq] at h
    obtain ⟨rfl, rfl⟩ := h
    exact EC s t
  · cases h
set_option maxRecDepth 10000 in
theorem mE (st : St) (r : Hp) (b : Nat) (s word : Tx) (fold : Bool) (vl : Value) (vals : List Tx) (nv kv : Value) (d : Bool) (hM : eG w0) (hV : Rws r vl 1 (vals.map strC)) (hok : ∀ a ∈ vals, a.length ≤ 1000000) (hn : vals.length ≤ 1000000) (hl : s.length ≤ 1000000) (hO : Own st ((b, .cells (rdC s nv kv d) 76 true) :: r)) (k q : Value → St → Prop)
    (hk : ∀ v s' st', dh word fold vals s = .ok (v, s') → Own st' ((b, .cells (rdC s' nv kv d) 76 true) :: r) → k (.bool v) st')
    (hq : ∀ e st', dh word fold vals s = .error e → Own st' r → q (fV e) st') : ay (C base w0 3) 73 [.pointer (some ⟨b, 0, none⟩), .string (tx word), .bool fold, vl] st k q := by
  refine ay.of (cx := C base w0 3) mixed Tryz.func73 rfl (by kernel_rfl) (by simp [Tryz.ntmps73]) ?_
  simp only [Tryz.results73]
  have e34 : (⟨#[34]⟩ : ByteArray) = tx [34] := rfl
  have e39 : (⟨#[39]⟩ : ByteArray) = tx [39] := rfl
  have hc := hO.head
  unfold rdC at hc
  have hne := hO.iE
  have hO1 := hO.new (.cells [.bool fold] 4 true)
  simp -implicitDefEqProofs only [go_sem, ↓aj, ↓ah, ak, Nat.reduceBEq, ↓reduceIte, reduceCtorEq, Nat.reduceEqDiff, Nat.reduceAdd, Nat.reduceLeDiff, Int.reduceEq, Int.reduceLT, Int.reduceLE, Int.reduceAdd, Int.reduceToNat, Int.reduceNeg, Nat.reduceMul, Nat.reduceSub, Int.reduceBNe, Int.reduceBEq, abox, asz4, hc, hne, aK, asz9, Tryz.underlying9]
  generalize hbf : st.n = bf at *
  have hF : dh word fold vals s = if (aD s).1 && (hasF word (aD s).2).1 then
      match eqF (hasF word (aD s).2).2 with
      | .error e => .error e
      | .ok s1 =>
        if s1.take 1 = [34] ∨ s1.take 1 = [39] then
          match aZ (s1.take 1) (s1.drop 1) with
          | .error e => .error e
          | .ok (v, s2) => if EA fold vals v then .ok (true, s2) else .error 10
        else .error 10
    else .ok (false, s) := rfl
  refine au.enter Tryz.func74 rfl (by kernel_rfl) (gy _ ((bf, .cells [.bool fold] 4 true) :: r) b s nv kv d (hO1.perm (List.Perm.swap _ _ _)) _ _ fun s1 hs1 => ?_)
  have hle1 := gZ s
  generalize aD s = sk at *
  obtain ⟨ok1, t1⟩ := sk
  dsimp only at hs1 hle1 hF ⊢
  have back : ∀ t2 s2, dh word fold vals s = .ok (false, s) → Own s2 ((b, .cells (rdC t2 nv kv d) 76 true) :: (bf, .cells [.bool fold] 4 true) :: r) → k (.bool false) (s2.set b (some (.cells [.string (tx s), nv, kv, .bool d] 76 true))) := fun t2 s2 e hs2 => by
    have h3 := hs2.set rfl (.cells (rdC s nv kv d) 76 true) rfl
    exact hk _ _ _ e (h3.perm (List.Perm.swap _ _ _)).tail
  have hc1 := hs1.head
  unfold rdC at hc1
  cases ok1 with
  | false =>
    rw [Bool.false_and, if_neg (by decide)] at hF
    simp -implicitDefEqProofs only [go_sem, ↓aj, ↓ah, ak, Nat.reduceBEq, ↓reduceIte, reduceCtorEq, Nat.reduceEqDiff, Nat.reduceAdd, Nat.reduceLeDiff, Int.reduceEq, Int.reduceLT, Int.reduceLE, Int.reduceAdd, Int.reduceToNat, Int.reduceNeg, Nat.reduceMul, Nat.reduceSub, Int.reduceBNe, Int.reduceBEq, Bool.not_false, hc1, aK, asz9, Tryz.underlying9, List.length_cons, List.length_nil]
    exact back t1 s1 hF hs1
  | true =>
  rw [Bool.true_and] at hF
  simp -implicitDefEqProofs only [go_sem, ↓aj, ↓ah, ak, Nat.reduceBEq, ↓reduceIte, reduceCtorEq, Nat.reduceEqDiff, Nat.reduceAdd, Nat.reduceLeDiff, Int.reduceEq, Int.reduceLT, Int.reduceLE, Int.reduceAdd, Int.reduceToNat, Int.reduceNeg, Nat.reduceMul, Nat.reduceSub, Int.reduceBNe, Int.reduceBEq, Bool.not_true]
  refine au.enter Tryz.func58 rfl (by kernel_rfl) (fF s1 _ b t1 word nv kv d hs1 _ _ fun s2 hs2 => ?_)
  have hle2 := bD word t1
  generalize hasF word t1 = hw at *
  obtain ⟨ok2, t2⟩ := hw
  dsimp only at hs2 hle2 hF ⊢
  have hc2 := hs2.head
  unfold rdC at hc2
  cases ok2 with
  | false =>
    rw [if_neg (by decide)] at hF
    simp -implicitDefEqProofs only [go_sem, ↓aj, ↓ah, ak, Nat.reduceBEq, ↓reduceIte, reduceCtorEq, Nat.reduceEqDiff, Nat.reduceAdd, Nat.reduceLeDiff, Int.reduceEq, Int.reduceLT, Int.reduceLE, Int.reduceAdd, Int.reduceToNat, Int.reduceNeg, Nat.reduceMul, Nat.reduceSub, Int.reduceBNe, Int.reduceBEq, Bool.not_false, hc2, aK, asz9, Tryz.underlying9, List.length_cons, List.length_nil]
    exact back t2 s2 hF hs2
  | true =>
  rw [if_pos rfl] at hF
  simp -implicitDefEqProofs only [go_sem, ↓aj, ↓ah, ak, Nat.reduceBEq, ↓reduceIte, reduceCtorEq, Nat.reduceEqDiff, Nat.reduceAdd, Nat.reduceLeDiff, Int.reduceEq, Int.reduceLT, Int.reduceLE, Int.reduceAdd, Int.reduceToNat, Int.reduceNeg, Nat.reduceMul, Nat.reduceSub, Int.reduceBNe, Int.reduceBEq, Bool.not_true]
  refine au.enter Tryz.func98 rfl (by kernel_rfl) (pQ s2 _ b t2 nv kv d hs2 _ _ (fun t3 s3 he hs3 => ?_) (fun e s3 he hs3 => ?_))
  rotate_left
  · rw [he] at hF
    exact hq _ _ hF hs3.tail
  rw [he] at hF
  dsimp only at hF
  have hle3 := pW he
  have hc3 := hs3.head
  unfold rdC at hc3
  have hmin : (if (t3.length : Int) < 1 then (t3.length : Int) else 1) = ((min 1 t3.length : Nat) : Int) := by split <;> omega
  have htk : t3.take (min 1 t3.length) = t3.take 1 := by
    cases t3 with
    | nil => rfl
    | cons c l => rw [List.length_cons, Nat.min_eq_left (by omega)]
  simp -implicitDefEqProofs only [go_sem, ↓aj, ↓ah, ak, Nat.reduceBEq, ↓reduceIte, reduceCtorEq, Nat.reduceEqDiff, Nat.reduceAdd, Nat.reduceLeDiff, Int.reduceEq, Int.reduceLT, Int.reduceLE, Int.reduceAdd, Int.reduceToNat, Int.reduceNeg, Nat.reduceMul, Nat.reduceSub, Int.reduceBNe, Int.reduceBEq]
  refine bG.of [(0, false, []), (1, false, []), (2, false, []), (3, false, []), (4, false, []), (5, false, []), (6, false, []), (7, false, []), (8, false, []), (9, false, []), (10, false, []), (11, false, [])] [] [] (by kernel_rfl) ?_
  simp -implicitDefEqProofs only [go_sem, ↓aj, ↓ah, ak, Nat.reduceBEq, ↓reduceIte, reduceCtorEq, Nat.reduceEqDiff, Nat.reduceAdd, Nat.reduceLeDiff, Int.reduceEq, Int.reduceLT, Int.reduceLE, Int.reduceAdd, Int.reduceToNat, Int.reduceNeg, Nat.reduceMul, Nat.reduceSub, Int.reduceBNe, Int.reduceBEq, hc3, aK, asz9, Tryz.underlying9, aO, amm, hmin, gD Tryz.underlying9 (Nat.min_le_right 1 t3.length), htk]
  have e34' : decide (t3.take 1 = [34]) = decide (t3.take 1 = [34]) := rfl
  have rest : (t3.take 1 = [34] ∨ t3.take 1 = [39]) → 1 ≤ t3.length := fun h => by
    cases t3 with
    | nil => rcases h with h | h <;> cases h
    | cons c l => rw [List.length_cons]; omega
  by_cases g : t3.take 1 = [34] ∨ t3.take 1 = [39]
  rotate_left
  · rw [if_neg g] at hF
    obtain ⟨g1, g2⟩ := not_or.1 g
    simp -implicitDefEqProofs only [go_sem, ↓aj, ↓ah, ak, Nat.reduceBEq, ↓reduceIte, reduceCtorEq, Nat.reduceEqDiff, Nat.reduceAdd, Nat.reduceLeDiff, Int.reduceEq, Int.reduceLT, Int.reduceLE, Int.reduceAdd, Int.reduceToNat, Int.reduceNeg, Nat.reduceMul, Nat.reduceSub, Int.reduceBNe, Int.reduceBEq, e34, e39, aA, decide_eq_false g1, decide_eq_false g2]
    refine au.enter Tryz.func61 rfl (by kernel_rfl) (aC _ false _ _ (fun h => by cases h) (fun _ => ?_))
    exact hq _ _ hF hs3.tail.tail
  rw [if_pos g] at hF
  have h1l := rest g
  have hgo : ∀ (k' q' : Value → St → Prop), k' (.tuple #[]) s3 → au (C base w0 3) 61 [.bool true] s3 k' q' := fun k' q' h =>
    au.enter Tryz.func61 rfl (by kernel_rfl) (aC _ true _ _ (fun _ => h) (fun h => by cases h))
  have hsl1 : aslice Tryz.prog s3 9 (.string (tx t3)) (some (.int .i64 1)) none none = some (.string (tx (t3.drop 1))) := bU Tryz.underlying9 h1l
  have hs4 := hs3.set rfl (.cells (rdC (t3.drop 1) nv kv d) 76 true) rfl
  have hdl : (t3.drop 1).length ≤ 1000000 := by rw [List.length_drop]; omega
  have eu : ∀ (k' q' : Value → St → Prop), (∀ v t5 s5, aZ (t3.take 1) (t3.drop 1) = .ok (v, t5) → Own s5 ((b, .cells (rdC t5 nv kv d) 76 true) :: (bf, .cells [.bool fold] 4 true) :: r) → k' (.string (tx v)) s5) →
      (∀ e s5, aZ (t3.take 1) (t3.drop 1) = .error e → Own s5 ((bf, .cells [.bool fold] 4 true) :: r) → q' (fV e) s5) → au (C base w0 3) 77 [.pointer (some ⟨b, 0, none⟩), .string (tx (t3.take 1))] (s3.set b (some (.cells (rdC (t3.drop 1) nv kv d) 76 true))) k' q' := fun k' q' h1 h2 =>
    au.enter Tryz.func77 rfl (by kernel_rfl) (rO _ _ b (t3.drop 1) (t3.take 1) nv kv d hM (by omega) hs4 _ _ h1 h2)
  by_cases g1 : t3.take 1 = [34]
  case' pos => simp -implicitDefEqProofs only [go_sem, ↓aj, ↓ah, ak, Nat.reduceBEq, ↓reduceIte, reduceCtorEq, Nat.reduceEqDiff, Nat.reduceAdd, Nat.reduceLeDiff, Int.reduceEq, Int.reduceLT, Int.reduceLE, Int.reduceAdd, Int.reduceToNat, Int.reduceNeg, Nat.reduceMul, Nat.reduceSub, Int.reduceBNe, Int.reduceBEq, e34, e39, aA, decide_eq_true g1]
  case' neg =>
    have g2 : t3.take 1 = [39] := g.resolve_left g1
    simp -implicitDefEqProofs only [go_sem, ↓aj, ↓ah, ak, Nat.reduceBEq, ↓reduceIte, reduceCtorEq, Nat.reduceEqDiff, Nat.reduceAdd, Nat.reduceLeDiff, Int.reduceEq, Int.reduceLT, Int.reduceLE, Int.reduceAdd, Int.reduceToNat, Int.reduceNeg, Nat.reduceMul, Nat.reduceSub, Int.reduceBNe, Int.reduceBEq, e34, e39, aA, decide_eq_false g1, decide_eq_true g2]
  all_goals
    refine hgo _ _ ?_
    simp -implicitDefEqProofs only [go_sem, ↓aj, ↓ah, ak, Nat.reduceBEq, ↓reduceIte, reduceCtorEq, Nat.reduceEqDiff, Nat.reduceAdd, Nat.reduceLeDiff, Int.reduceEq, Int.reduceLT, Int.reduceLE, Int.reduceAdd, Int.reduceToNat, Int.reduceNeg, Nat.reduceMul, Nat.reduceSub, Int.reduceBNe, Int.reduceBEq, hc3, aK, asz9, Tryz.underlying9, hsl1, List.length_cons, List.length_nil]
    refine eu _ _ (fun v t5 s5 he5 hs5 => ?_) (fun e s5 he5 hs5 => ?_)
    rotate_left
    · rw [he5] at hF
      exact hq _ _ hF hs5.tail
    rw [he5] at hF
    dsimp only at hF
    have hul := lG he5
    simp -implicitDefEqProofs only [go_sem, ↓aj, ↓ah, ak, Nat.reduceBEq, ↓reduceIte, reduceCtorEq, Nat.reduceEqDiff, Nat.reduceAdd, Nat.reduceLeDiff, Int.reduceEq, Int.reduceLT, Int.reduceLE, Int.reduceAdd, Int.reduceToNat, Int.reduceNeg, Nat.reduceMul, Nat.reduceSub, Int.reduceBNe, Int.reduceBEq, bB, azc9, asz9, List.length_cons, List.length_nil, List.set_cons_zero, List.map_toArray, List.map_cons, List.map_nil]
    have hs6 := (hs5.new (.cells [.string ⟨#[]⟩] 9 true)).set rfl (.cells [.string (tx v)] 9 true) rfl
    refine au.enter Tryz.func99 rfl (by kernel_rfl) (uD _ _ vl vals 100 [.pointer (some ⟨s5.n, 0, none⟩), .pointer (some ⟨bf, 0, none⟩)] (fun a => a.length ≤ 1000000) (fun x => decide (x = v) || (fold && decide (lower v = lower x)))
      (AZ _ s5.n bf v fold (List.mem_cons_self ..) (List.mem_cons_of_mem _ (List.mem_cons_of_mem _ (List.mem_cons_self ..))) (by omega)) (hV.sub fun e he => List.mem_cons_of_mem _ (List.mem_cons_of_mem _ (List.mem_cons_of_mem _ he))) hok hn hs6 _ _ fun s7 hs7 => ?_)
    simp -implicitDefEqProofs only [go_sem, ↓aj, ↓ah, ak, Nat.reduceBEq, ↓reduceIte, reduceCtorEq, Nat.reduceEqDiff, Nat.reduceAdd, Nat.reduceLeDiff, Int.reduceEq, Int.reduceLT, Int.reduceLE, Int.reduceAdd, Int.reduceToNat, Int.reduceNeg, Nat.reduceMul, Nat.reduceSub, Int.reduceBNe, Int.reduceBEq]
    refine au.enter Tryz.func61 rfl (by kernel_rfl) (aC _ _ _ _ (fun h => ?_) (fun h => ?_))
    · rw [if_pos (show EA fold vals v = true from h)] at hF
      simp -implicitDefEqProofs only [go_sem, ↓aj, ↓ah, ak, Nat.reduceBEq, ↓reduceIte, reduceCtorEq, Nat.reduceEqDiff, Nat.reduceAdd, Nat.reduceLeDiff, Int.reduceEq, Int.reduceLT, Int.reduceLE, Int.reduceAdd, Int.reduceToNat, Int.reduceNeg, Nat.reduceMul, Nat.reduceSub, Int.reduceBNe, Int.reduceBEq]
      exact hk _ _ _ hF (hs7.tail.perm (List.Perm.swap _ _ _)).tail
    · rw [if_neg (by rw [show EA fold vals v = false from h]; decide)] at hF
      exact hq _ _ hF hs7.tail.tail.tail
end Go.Proofs.YtigjbehgfjjlkaaGreatDoor
set_option linter.unusedVariables false
set_option linter.unusedSimpArgs false
namespace Go.Proofs.YtigjbehgfjjlkaaGreatDoor
open Go Go.Abs Go.RowKit Go.Xml
variable {base : Nat} {w0 : World} {G : Nat}
theorem H7 (a c : Tx) (b : Nat) (h : Hp) (hm : (b, Ob.cells [.string (tx a), .string (tx c)] 9 true) ∈ h) : Rws h (.slice (some ⟨b, 0, none⟩) 2 2) 1 ([a, c].map strC) := by
  refine .inr ⟨b, 0, none, 2, _, _, _, rfl, hm, fun i l hi => ?_⟩
  match i, hi with
  | 0, hi => simp at hi; subst hi; rfl
  | 1, hi => simp at hi; subst hi; rfl
  | i + 2, hi => simp at hi
theorem jG {word s s' : Tx} {fold v : Bool} {vals : List Tx} (h : dh word fold vals s = .ok (v, s')) : s'.length ≤ s.length := by
  unfold dh at h
  split at h
  · split at h
    · cases h
    · rename_i s1 he
      have l1 := Nat.le_trans (pW he) (Nat.le_trans (bD _ _) (gZ s))
      split at h
      · split at h
        · cases h
        · rename_i v' s2 hu
          split at h
          · injection h with h
            simp only [Prod.mk.injEq] at h
            obtain ⟨_, rfl⟩ := h
            have := (lG hu).2
            rw [List.length_drop] at this
            omega
          · cases h
      · cases h
  · injection h with h
    simp only [Prod.mk.injEq] at h
    obtain ⟨_, rfl⟩ := h
    exact Nat.le_refl _
set_option maxRecDepth 10000 in
theorem A8 (st : St) (r : Hp) (b : Nat) (s : Tx) (nv kv : Value) (d : Bool) (hM : eG w0) (hl : s.length ≤ 1000000) (hO : Own st ((b, .cells (rdC s nv kv d) 76 true) :: r)) (k q : Value → St → Prop)
    (hk : ∀ s' st', fJ s = .ok s' → Own st' ((b, .cells (rdC s' nv kv d) 76 true) :: r) → k (.tuple #[]) st')
    (hq : ∀ e st', fJ s = .error e → Own st' r → q (fV e) st') : ay (C base w0 3) 55 [.pointer (some ⟨b, 0, none⟩)] st k q := by
  refine ay.of (cx := C base w0 3) mixed Tryz.func55 rfl (by kernel_rfl) (by simp [Tryz.ntmps55]) ?_
  simp only [Tryz.results55]
  have e0 : (⟨#[]⟩ : ByteArray) = tx [] := rfl
  have e1 : (⟨#[60, 63, 120, 109, 108]⟩ : ByteArray) = tx wXml := rfl
  have e2 : (⟨#[32, 9, 10]⟩ : ByteArray) = tx blanks := rfl
  have e3 : (⟨#[49, 46, 48]⟩ : ByteArray) = tx [49, 46, 48] := rfl
  have e4 : (⟨#[118, 101, 114, 115, 105, 111, 110]⟩ : ByteArray) = tx [118, 101, 114, 115, 105, 111, 110] := rfl
  have e5 : (⟨#[85, 84, 70, 45, 56]⟩ : ByteArray) = tx [85, 84, 70, 45, 56] := rfl
  have e6 : (⟨#[101, 110, 99, 111, 100, 105, 110, 103]⟩ : ByteArray) = tx [101, 110, 99, 111, 100, 105, 110, 103] := rfl
  have e7 : (⟨#[121, 101, 115]⟩ : ByteArray) = tx [121, 101, 115] := rfl
  have e8 : (⟨#[110, 111]⟩ : ByteArray) = tx [110, 111] := rfl
  have e9 : (⟨#[115, 116, 97, 110, 100, 97, 108, 111, 110, 101]⟩ : ByteArray) = tx [115, 116, 97, 110, 100, 97, 108, 111, 110, 101] := rfl
  have e10 : (⟨#[63, 62]⟩ : ByteArray) = tx [63, 62] := rfl
  have hc := hO.head
  unfold rdC at hc
  have hF : fJ s = if (hasF wXml s).1 && (match (hasF wXml s).2 with | [] => false | c :: _ => blanks.contains c) then
      match dh [118, 101, 114, 115, 105, 111, 110] false [[49, 46, 48]] (hasF wXml s).2 with
      | .error e => .error e
      | .ok (false, _) => .error 10
      | .ok (true, s1) =>
        match dh [101, 110, 99, 111, 100, 105, 110, 103] true [[85, 84, 70, 45, 56]] s1 with
        | .error e => .error e
        | .ok (_, s2) =>
          match dh [115, 116, 97, 110, 100, 97, 108, 111, 110, 101] false [[121, 101, 115], [110, 111]] s2 with
          | .error e => .error e
          | .ok (_, s3) => if (hasF [63, 62] (aD s3).2).1 then .ok (hasF [63, 62] (aD s3).2).2 else .error 10
    else .ok s := rfl
  simp -implicitDefEqProofs only [go_sem, ↓aj, ↓ah, ak, Nat.reduceBEq, ↓reduceIte, reduceCtorEq, Nat.reduceEqDiff, Nat.reduceAdd, Nat.reduceLeDiff, Int.reduceEq, Int.reduceLT, Int.reduceLE, Int.reduceAdd, Int.reduceToNat, Int.reduceNeg, Nat.reduceMul, Nat.reduceSub, Int.reduceBNe, Int.reduceBEq, hc, aK, asz9, Tryz.underlying9, e1]
  refine gY s wXml _ _ ?_
  have hle := bD wXml s
  rw [← uJ, ← uI]
  generalize hasF wXml s = hw at *
  obtain ⟨ok, t⟩ := hw
  dsimp only at hle hF ⊢
  cases ok with
  | false =>
    rw [Bool.false_and, if_neg (by decide)] at hF
    simp -implicitDefEqProofs only [go_sem, ↓aj, ↓ah, ak, Nat.reduceBEq, ↓reduceIte, reduceCtorEq, Nat.reduceEqDiff, Nat.reduceAdd, Nat.reduceLeDiff, Int.reduceEq, Int.reduceLT, Int.reduceLE, Int.reduceAdd, Int.reduceToNat, Int.reduceNeg, Nat.reduceMul, Nat.reduceSub, Int.reduceBNe, Int.reduceBEq, Bool.not_false]
    exact hk _ _ hF hO
  | true =>
  rw [Bool.true_and] at hF
  cases t with
  | nil =>
    rw [if_neg (by decide)] at hF
    simp -implicitDefEqProofs only [go_sem, ↓aj, ↓ah, ak, Nat.reduceBEq, ↓reduceIte, reduceCtorEq, Nat.reduceEqDiff, Nat.reduceAdd, Nat.reduceLeDiff, Int.reduceEq, Int.reduceLT, Int.reduceLE, Int.reduceAdd, Int.reduceToNat, Int.reduceNeg, Nat.reduceMul, Nat.reduceSub, Int.reduceBNe, Int.reduceBEq, Bool.not_true, e0, aA, decide_true]
    exact hk _ _ hF hO
  | cons c t =>
  dsimp only at hF
  have hat : jr Tryz.prog 9 (.string (tx (c :: t))) (.int .i64 0) = some (.int .u8 (c.toNat : Nat)) := mV (k := .i64) (i := 0) Tryz.underlying9 (by simp)
  simp -implicitDefEqProofs only [go_sem, ↓aj, ↓ah, ak, Nat.reduceBEq, ↓reduceIte, reduceCtorEq, Nat.reduceEqDiff, Nat.reduceAdd, Nat.reduceLeDiff, Int.reduceEq, Int.reduceLT, Int.reduceLE, Int.reduceAdd, Int.reduceToNat, Int.reduceNeg, Nat.reduceMul, Nat.reduceSub, Int.reduceBNe, Int.reduceBEq, Bool.not_true, e0, e2, aA, decide_false, hat]
  refine gX blanks c _ _ ?_
  have hn := nK blanks c
  cases hbl : blanks.contains c with
  | false =>
    rw [hbl, Bool.not_false] at hn
    rw [if_neg (by rw [hbl]; decide)] at hF
    simp -implicitDefEqProofs only [go_sem, ↓aj, ↓ah, ak, Nat.reduceBEq, ↓reduceIte, reduceCtorEq, Nat.reduceEqDiff, Nat.reduceAdd, Nat.reduceLeDiff, Int.reduceEq, Int.reduceLT, Int.reduceLE, Int.reduceAdd, Int.reduceToNat, Int.reduceNeg, Nat.reduceMul, Nat.reduceSub, Int.reduceBNe, Int.reduceBEq, hn]
    exact hk _ _ hF hO
  | true =>
  rw [hbl, Bool.not_true] at hn
  rw [if_pos hbl] at hF
  generalize c :: t = t1 at *
  have hs1 := hO.set rfl (.cells (rdC t1 nv kv d) 76 true) rfl
  simp -implicitDefEqProofs only [go_sem, ↓aj, ↓ah, ak, Nat.reduceBEq, ↓reduceIte, reduceCtorEq, Nat.reduceEqDiff, Nat.reduceAdd, Nat.reduceLeDiff, Int.reduceEq, Int.reduceLT, Int.reduceLE, Int.reduceAdd, Int.reduceToNat, Int.reduceNeg, Nat.reduceMul, Nat.reduceSub, Int.reduceBNe, Int.reduceBEq, hn, hc, aK, asz9, Tryz.underlying9, List.length_cons, List.length_nil, e3, e4, aI (v := .string (tx [49, 46, 48])) Tryz.underlying126 asz9 azc9 rfl rfl rfl (by decide)]
  have hO2 := hs1.new (.cells [.string (tx [49, 46, 48])] 9 true)
  have ok1 : ∀ v : Tx, v.length ≤ 1000000 → ∀ a ∈ [v], a.length ≤ 1000000 := fun v hv a ha => by rw [List.mem_singleton.1 ha]; exact hv
  have big : 10 ≤ 1000000 := Nat.le_of_lt_succ (by decide : 10 < 1000001)
  have l3 : ([49, 46, 48] : Tx).length = 3 := rfl
  have l5 : ([85, 84, 70, 45, 56] : Tx).length = 5 := rfl
  have l7 : ([121, 101, 115] : Tx).length = 3 := rfl
  have l8 : ([110, 111] : Tx).length = 2 := rfl
  refine au.enter Tryz.func73 rfl (by kernel_rfl) (mE _ _ b t1 _ false _ [[49, 46, 48]] nv kv d hM (pU _ _ _ (List.mem_cons_self (l := r))) (ok1 _ (by omega)) (by show 1 ≤ 1000000; omega) (by omega) (hO2.perm (List.Perm.swap _ _ _)) _ _ (fun v s1 st1 hg1 hs1 => ?_) (fun e st1 hg1 hs1 => ?_))
  rotate_left
  · rw [hg1] at hF
    exact hq _ _ hF hs1.tail
  rw [hg1] at hF
  simp -implicitDefEqProofs only [go_sem, ↓aj, ↓ah, ak, Nat.reduceBEq, ↓reduceIte, reduceCtorEq, Nat.reduceEqDiff, Nat.reduceAdd, Nat.reduceLeDiff, Int.reduceEq, Int.reduceLT, Int.reduceLE, Int.reduceAdd, Int.reduceToNat, Int.reduceNeg, Nat.reduceMul, Nat.reduceSub, Int.reduceBNe, Int.reduceBEq]
  refine au.enter Tryz.func61 rfl (by kernel_rfl) (aC _ _ _ _ (fun hv => ?_) (fun hv => ?_))
  rotate_left
  · subst hv
    exact hq _ _ hF hs1.tail.tail
  subst hv
  dsimp only at hF
  have le1 := jG hg1
  have hs1' := (hs1.perm (List.Perm.swap _ _ _)).tail
  have hO3 := hs1'.new (.cells [.string (tx [85, 84, 70, 45, 56])] 9 true)
  simp -implicitDefEqProofs only [go_sem, ↓aj, ↓ah, ak, Nat.reduceBEq, ↓reduceIte, reduceCtorEq, Nat.reduceEqDiff, Nat.reduceAdd, Nat.reduceLeDiff, Int.reduceEq, Int.reduceLT, Int.reduceLE, Int.reduceAdd, Int.reduceToNat, Int.reduceNeg, Nat.reduceMul, Nat.reduceSub, Int.reduceBNe, Int.reduceBEq, e5, e6, aI (v := .string (tx [85, 84, 70, 45, 56])) Tryz.underlying126 asz9 azc9 rfl rfl rfl (by decide)]
  refine au.enter Tryz.func73 rfl (by kernel_rfl) (mE _ _ b s1 _ true _ [[85, 84, 70, 45, 56]] nv kv d hM (pU _ _ _ (List.mem_cons_self (l := r))) (ok1 _ (by omega)) (by show 1 ≤ 1000000; omega) (by omega) (hO3.perm (List.Perm.swap _ _ _)) _ _ (fun v2 s2 st2 hg2 hs2 => ?_) (fun e st1 hg2 hs2 => ?_))
  rotate_left
  · rw [hg2] at hF
    exact hq _ _ hF hs2.tail
  rw [hg2] at hF
  dsimp only at hF
  have le2 := jG hg2
  have hs2' := (hs2.perm (List.Perm.swap _ _ _)).tail
  have hO4 := hs2'.new (.cells [.string (tx [121, 101, 115]), .string (tx [110, 111])] 9 true)
  have hbs : aL Tryz.prog st2 126 2 [(0, .string (tx [121, 101, 115])), (1, .string (tx [110, 111]))] = some (.slice (some ⟨st2.n, 0, none⟩) 2 2, st2.new (.cells [.string (tx [121, 101, 115]), .string (tx [110, 111])] 9 true)) := by
    simp [aL, Tryz.underlying126, asz9, azc9, jd, zeros, isTuple, Value.cells, setL, List.replicate]
  simp -implicitDefEqProofs only [go_sem, ↓aj, ↓ah, ak, Nat.reduceBEq, ↓reduceIte, reduceCtorEq, Nat.reduceEqDiff, Nat.reduceAdd, Nat.reduceLeDiff, Int.reduceEq, Int.reduceLT, Int.reduceLE, Int.reduceAdd, Int.reduceToNat, Int.reduceNeg, Nat.reduceMul, Nat.reduceSub, Int.reduceBNe, Int.reduceBEq, e7, e8, e9, hbs]
  refine au.enter Tryz.func73 rfl (by kernel_rfl) (mE _ _ b s2 _ false _ [[121, 101, 115], [110, 111]] nv kv d hM (H7 _ _ _ _ (List.mem_cons_self (l := r))) (fun a ha => by
    rcases List.mem_cons.1 ha with rfl | ha
    · omega
    · exact ok1 _ (by omega) a ha) (by show 2 ≤ 1000000; omega) (by omega) (hO4.perm (List.Perm.swap _ _ _)) _ _ (fun v3 s3 st3 hg3 hs3 => ?_) (fun e st1 hg3 hs3 => ?_))
  rotate_left
  · rw [hg3] at hF
    exact hq _ _ hF hs3.tail
  rw [hg3] at hF
  dsimp only at hF
  have hs3' := (hs3.perm (List.Perm.swap _ _ _)).tail
  simp -implicitDefEqProofs only [go_sem, ↓aj, ↓ah, ak, Nat.reduceBEq, ↓reduceIte, reduceCtorEq, Nat.reduceEqDiff, Nat.reduceAdd, Nat.reduceLeDiff, Int.reduceEq, Int.reduceLT, Int.reduceLE, Int.reduceAdd, Int.reduceToNat, Int.reduceNeg, Nat.reduceMul, Nat.reduceSub, Int.reduceBNe, Int.reduceBEq]
  refine au.enter Tryz.func74 rfl (by kernel_rfl) (gy _ r b s3 nv kv d hs3' _ _ fun st4 hs4 => ?_)
  simp -implicitDefEqProofs only [go_sem, ↓aj, ↓ah, ak, Nat.reduceBEq, ↓reduceIte, reduceCtorEq, Nat.reduceEqDiff, Nat.reduceAdd, Nat.reduceLeDiff, Int.reduceEq, Int.reduceLT, Int.reduceLE, Int.reduceAdd, Int.reduceToNat, Int.reduceNeg, Nat.reduceMul, Nat.reduceSub, Int.reduceBNe, Int.reduceBEq, e10]
  refine au.enter Tryz.func58 rfl (by kernel_rfl) (fF _ r b _ [63, 62] nv kv d hs4 _ _ fun st5 hs5 => ?_)
  simp -implicitDefEqProofs only [go_sem, ↓aj, ↓ah, ak, Nat.reduceBEq, ↓reduceIte, reduceCtorEq, Nat.reduceEqDiff, Nat.reduceAdd, Nat.reduceLeDiff, Int.reduceEq, Int.reduceLT, Int.reduceLE, Int.reduceAdd, Int.reduceToNat, Int.reduceNeg, Nat.reduceMul, Nat.reduceSub, Int.reduceBNe, Int.reduceBEq]
  refine au.enter Tryz.func61 rfl (by kernel_rfl) (aC _ _ _ _ (fun hv => ?_) (fun hv => ?_))
  · rw [if_pos hv] at hF
    simp -implicitDefEqProofs only [go_sem, ↓aj, ↓ah, ak, Nat.reduceBEq, ↓reduceIte, reduceCtorEq, Nat.reduceEqDiff, Nat.reduceAdd, Nat.reduceLeDiff, Int.reduceEq, Int.reduceLT, Int.reduceLE, Int.reduceAdd, Int.reduceToNat, Int.reduceNeg, Nat.reduceMul, Nat.reduceSub, Int.reduceBNe, Int.reduceBEq]
    exact hk _ _ hF hs5
  · rw [if_neg (by rw [hv]; decide)] at hF
    exact hq _ _ hF hs5.tail
end Go.Proofs.YtigjbehgfjjlkaaGreatDoor
set_option linter.unusedVariables false
set_option linter.unusedSimpArgs false
namespace Go.Proofs.YtigjbehgfjjlkaaGreatDoor
open Go Go.Abs Go.RowKit Go.Xml
variable {base : Nat} {w0 : World} {G : Nat}
theorem jH {sz : Nat} : ∀ {cs : List (List Value)}, (∀ c ∈ cs, c.length = sz) → cs.flatten.length = cs.length * sz
  | [], _ => by simp
  | c :: cs, h => by
    rw [List.flatten_cons, List.length_append, jH (fun d hd => h d (List.mem_cons_of_mem _ hd)), h c (List.mem_cons_self ..), List.length_cons, Nat.succ_mul, Nat.add_comm]
theorem flat_get {sz : Nat} : ∀ {cs : List (List Value)}, (∀ c ∈ cs, c.length = sz) → ∀ {p j : Nat} {c : List Value}, cs[p]? = some c → j < sz → cs.flatten[p * sz + j]? = c[j]?
  | [], _, p, j, c, hp, _ => by simp at hp
  | d :: cs, h, p, j, c, hp, hj => by
    have hd := h d (List.mem_cons_self ..)
    rw [List.flatten_cons]
    cases p with
    | zero =>
      simp at hp; subst hp
      rw [Nat.zero_mul, Nat.zero_add, List.getElem?_append_left (by omega)]
    | succ p =>
      rw [List.getElem?_append_right (by rw [hd, Nat.succ_mul]; omega), show (p + 1) * sz + j - d.length = p * sz + j by rw [hd, Nat.succ_mul]; omega]
      exact flat_get (fun e he => h e (List.mem_cons_of_mem _ he)) (by simpa using hp) hj
theorem pX {sz : Nat} : ∀ {cs : List (List Value)}, (∀ c ∈ cs, c.length = sz) → ∀ {p j : Nat} {c : List Value} (v : Value), cs[p]? = some c → j < sz → cs.flatten.set (p * sz + j) v = (cs.set p (c.set j v)).flatten
  | [], _, p, j, c, v, hp, _ => by simp at hp
  | d :: cs, h, p, j, c, v, hp, hj => by
    have hd := h d (List.mem_cons_self ..)
    rw [List.flatten_cons]
    cases p with
    | zero =>
      simp at hp; subst hp
      rw [Nat.zero_mul, Nat.zero_add, List.set_append_left _ _ (by omega)]
      rfl
    | succ p =>
      rw [List.set_append_right _ _ (by rw [hd, Nat.succ_mul]; omega), show (p + 1) * sz + j - d.length = p * sz + j by rw [hd, Nat.succ_mul]; omega, pX (fun e he => h e (List.mem_cons_of_mem _ he)) v (by simpa using hp) hj]
      rfl
theorem kJ {sz : Nat} {cs : List (List Value)} (h : ∀ c ∈ cs, c.length = sz) {p : Nat} {c : List Value} (hp : cs[p]? = some c) : cut cs.flatten (p * sz) sz = some c := by
  have hpl := (List.getElem?_eq_some_iff.1 hp).1
  have hc := h c (List.mem_of_getElem? hp)
  have hle : p * sz + sz ≤ cs.flatten.length := by
    rw [jH h, ← Nat.succ_mul]
    exact Nat.mul_le_mul_right _ hpl
  unfold cut
  rw [if_pos hle]
  congr 1
  apply List.ext_getElem?
  intro j
  rw [List.getElem?_take]
  split
  · rename_i hj
    rw [List.getElem?_drop, flat_get h hp hj]
  · rw [List.getElem?_eq_none (by omega)]
theorem GV.rows {v : Value} {cs : List (List Value)} {n sz : Nat} {e : TypeId} {hg r : Hp} (hG : GV v cs.flatten n sz e hg) (h : ∀ c ∈ cs, c.length = sz) (hn : cs.length = n) : Rws (hg ++ r) v sz cs := by
  subst hn
  rcases hG with ⟨rfl, h2, _, _⟩ | ⟨b, rfl, rfl, _⟩
  · exact .inl ⟨List.eq_nil_of_length_eq_zero h2, .inl rfl⟩
  · exact .inr ⟨b, 0, some 0, _, _, _, _, rfl, List.mem_cons_self .., fun i l hi => by rw [Nat.zero_add]; exact kJ h hi⟩
def mF (l : List Nat) : List Value := l.map fun i => .int .i64 (i : Nat)
def eX (l : List Att) : List Value := (l.map attC).flatten
def rR (l : List Dcl) : List Value := (l.map dclC).flatten
def ndC (n : Nd) (kv av dv : Value) : List Value := [.int .i64 n.kind, .int .i64 n.par, kv, .string (tx n.pre), .string (tx n.loc), .string (tx n.spc), av, dv, .string (tx n.val)]
def NdH (n : Nd) (c : List Value) (h : Hp) : Prop := ∃ kv av dv hk ha hd, c = ndC n kv av dv ∧ h = hk ++ (ha ++ hd) ∧ GV kv (mF n.kids) n.kids.length 1 3 hk ∧ GV av (eX n.atts) n.atts.length 4 59 ha ∧ GV dv (rR n.dcls) n.dcls.length 2 61 hd
theorem NdH.len {n : Nd} {c : List Value} {h : Hp} (hN : NdH n c h) : c.length = 9 := by
  obtain ⟨kv, av, dv, hk, ha, hd, rfl, _⟩ := hN
  rfl
def NdsH : List Nd → List (List Value) → Hp → Prop
  | [], cs, h => cs = [] ∧ h = []
  | n :: ns, cs, h => ∃ c cs' h1 h2, cs = c :: cs' ∧ h = h1 ++ h2 ∧ NdH n c h1 ∧ NdsH ns cs' h2
theorem NdsH.len : ∀ {ns : List Nd} {cs : List (List Value)} {h : Hp}, NdsH ns cs h → cs.length = ns.length ∧ ∀ c ∈ cs, c.length = 9
  | [], _, _, ⟨rfl, _⟩ => ⟨rfl, fun c hc => by cases hc⟩
  | n :: ns, _, _, ⟨c, cs', h1, h2, rfl, rfl, h3, h4⟩ => by
    obtain ⟨i1, i2⟩ := NdsH.len h4
    refine ⟨by rw [List.length_cons, List.length_cons, i1], fun d hd => ?_⟩
    rcases List.mem_cons.1 hd with rfl | hd
    · exact h3.len
    · exact i2 d hd
theorem NdsH.snoc : ∀ {ns : List Nd} {cs : List (List Value)} {h : Hp} {n : Nd} {c : List Value} {h' : Hp}, NdsH ns cs h → NdH n c h' → NdsH (ns ++ [n]) (cs ++ [c]) (h ++ h')
  | [], _, _, n, c, h', ⟨rfl, rfl⟩, hN => ⟨c, [], h', [], rfl, by simp, hN, rfl, rfl⟩
  | m :: ns, _, _, n, c, h', ⟨d, cs', h1, h2, rfl, rfl, h3, h4⟩, hN => ⟨d, cs' ++ [c], h1, h2 ++ h', rfl, by rw [List.append_assoc], h3, h4.snoc hN⟩
theorem NdsH.at : ∀ {ns : List Nd} {cs : List (List Value)} {h : Hp}, NdsH ns cs h → ∀ {p : Nat} {n : Nd}, ns[p]? = some n →
    ∃ c h1 h2 h3, cs[p]? = some c ∧ h = h1 ++ (h2 ++ h3) ∧ NdH n c h2 ∧ ∀ n' c' h2', NdH n' c' h2' → NdsH (ns.set p n') (cs.set p c') (h1 ++ (h2' ++ h3))
  | [], _, _, _, p, n, hp => by simp at hp
  | m :: ns, _, _, ⟨d, cs', g1, g2, rfl, rfl, g3, g4⟩, 0, n, hp => by
    simp at hp; subst hp
    exact ⟨d, [], g1, g2, rfl, rfl, g3, fun n' c' h2' hN => ⟨c', cs', h2', g2, rfl, rfl, hN, g4⟩⟩
  | m :: ns, _, _, ⟨d, cs', g1, g2, rfl, rfl, g3, g4⟩, p + 1, n, hp => by
    obtain ⟨c, h1, h2, h3, a1, a2, a3, a4⟩ := NdsH.at g4 (p := p) (n := n) (by simpa using hp)
    refine ⟨c, g1 ++ h1, h2, h3, by simpa using a1, by rw [a2]; simp, a3, fun n' c' h2' hN => ⟨d, cs'.set p c', g1, h1 ++ (h2' ++ h3), rfl, by simp, g3, a4 n' c' h2' hN⟩⟩
def stkC (l : List (Nat × Tx)) : List Value := (l.map fun x => [.int .i64 (x.1 : Nat), .string (tx x.2)]).flatten
def RdH (b : Nat) (r : RS) (h : Hp) : Prop := ∃ nv kv cs hn hs hx, h = (b, Ob.cells (rdC r.s nv kv r.done) 76 true) :: (hn ++ (hs ++ hx)) ∧ GV nv cs.flatten r.ns.length 9 55 hn ∧ GVc kv (stkC r.stk) r.stk.length 2 109 hs ∧ NdsH r.ns cs hx
structure RI (r : RS) : Prop where
  many : r.ns.length ≤ 4096
  deep : r.stk.length ≤ 32
  left : r.s.length ≤ 1000000
  stk : ∀ x ∈ r.stk, x.1 < r.ns.length ∧ x.2.length ≤ 1000000
  kids : ∀ n ∈ r.ns, n.kids.length ≤ r.ns.length ∧ ∀ c ∈ n.kids, c < r.ns.length
  val : ∀ n ∈ r.ns, n.val.length + 5 * r.s.length ≤ 5000000
  dcl : ∀ n ∈ r.ns, n.dcls.length ≤ 1000000
theorem H8 (l : List (Nat × Tx)) : (stkC l).length = l.length * 2 := by
  unfold stkC
  rw [jH (sz := 2) (fun c hc => by obtain ⟨x, _, rfl⟩ := List.mem_map.1 hc; rfl), List.length_map]
theorem H9 {l : List (Nat × Tx)} {i : Nat} {x : Nat × Tx} (h : l[i]? = some x) : (stkC l)[i * 2]? = some (.int .i64 (x.1 : Nat)) ∧ (stkC l)[i * 2 + 1]? = some (.string (tx x.2)) := by
  have hu : ∀ c ∈ l.map (fun x : Nat × Tx => [Value.int .i64 (x.1 : Nat), .string (tx x.2)]), c.length = 2 := fun c hc => by obtain ⟨x, _, rfl⟩ := List.mem_map.1 hc; rfl
  have hp : (l.map (fun x : Nat × Tx => [Value.int .i64 (x.1 : Nat), .string (tx x.2)]))[i]? = some [.int .i64 (x.1 : Nat), .string (tx x.2)] := by rw [List.getElem?_map, h]; rfl
  exact ⟨flat_get hu hp (j := 0) (by decide), flat_get hu hp (j := 1) (by decide)⟩
theorem sK {kv : Value} {l : List (Nat × Tx)} {e : TypeId} {hs : Hp} (hG : GVc kv (stkC l) l.length 2 e hs) (hne : l ≠ []) :
    ∃ B c D, kv = .slice (some ⟨B, 0, some 0⟩) l.length c ∧ l.length ≤ c ∧ hs = [(B, .cells D e true)] ∧ cut D 0 (l.length * 2) = some (stkC l) ∧
      ∀ i x, l[i]? = some x → D[i * 2]? = some (.int .i64 (x.1 : Nat)) ∧ D[i * 2 + 1]? = some (.string (tx x.2)) := by
  have hl : l.length ≠ 0 := fun h => hne (List.eq_nil_of_length_eq_zero h)
  rcases hG with ⟨_, h, _⟩ | ⟨_, _, h, _⟩ | ⟨B, c, D, rfl, rfl, hc, hr⟩
  · exact absurd h hl
  · exact absurd h hl
  · refine ⟨B, c, D, rfl, hr, rfl, hc, fun i x hx => ?_⟩
    have hi := (List.getElem?_eq_some_iff.1 hx).1
    obtain ⟨g1, g2⟩ := H9 hx
    have a1 := eF hc (j := i * 2) (by omega)
    have a2 := eF hc (j := i * 2 + 1) (by omega)
    rw [Nat.zero_add] at a1 a2
    exact ⟨a1.trans g1, a2.trans g2⟩
theorem JK {B c : Nat} {D : List Value} {l : List (Nat × Tx)} {e : TypeId} (hc : cut D 0 (l.length * 2) = some (stkC l)) (hr : l.length ≤ c) :
    GVc (.slice (some ⟨B, 0, some 0⟩) (l.length - 1) c) (stkC l.dropLast) l.dropLast.length 2 e [(B, .cells D e true)] := by
  refine .inr (.inr ⟨B, c, D, by rw [List.length_dropLast], rfl, ?_, by rw [List.length_dropLast]; omega⟩)
  obtain ⟨h1, h2⟩ : l.length * 2 ≤ D.length ∧ D.take (l.length * 2) = stkC l := by
    unfold cut at hc
    split at hc
    · rename_i h
      injection hc with hc
      exact ⟨by omega, hc⟩
    · cases hc
  have hd : stkC l.dropLast = (stkC l).take (l.dropLast.length * 2) := by
    cases hl : l.getLast? with
    | none =>
      rw [List.getLast?_eq_none_iff] at hl
      subst hl
      rfl
    | some x =>
      have e1 : l = l.dropLast ++ [x] := by
        rw [List.getLast?_eq_some_iff] at hl
        obtain ⟨l', rfl⟩ := hl
        simp
      have e2 : stkC l = stkC l.dropLast ++ stkC [x] := by
        conv => lhs; rw [e1]
        unfold stkC
        rw [List.map_append, List.flatten_append]
      rw [e2, List.take_left' (H8 _)]
  unfold cut
  rw [if_pos (by rw [List.length_dropLast]; omega), hd, ← h2, List.take_take, List.drop_zero, Nat.min_eq_left (by rw [List.length_dropLast]; omega)]
end Go.Proofs.YtigjbehgfjjlkaaGreatDoor
set_option linter.unusedVariables false
set_option linter.unusedSimpArgs false
namespace Go.Proofs.YtigjbehgfjjlkaaGreatDoor
open Go Go.Abs Go.RowKit Go.Xml
variable {base : Nat} {w0 : World} {G : Nat}
theorem qU {st : St} {e1 e2 : Nat × Ob} {a r : Hp} (h : Own st (e1 :: e2 :: (a ++ r))) : Own st (a ++ (e1 :: e2 :: r)) :=
  h.perm (by simpa using bR [[e1], [e2], a, r] [0, 1, 2, 3] [2, 0, 1, 3] rfl)
theorem Ld {st : St} {b : Nat} {s : Tx} {nv kv : Value} {d : Bool} {r : Hp} (h : Own st ((b, .cells (rdC s nv kv d) 76 true) :: r)) (nv' : Value) : Own (st.set b (some (.cells (rdC s nv' kv d) 76 true))) ((b, .cells (rdC s nv' kv d) 76 true) :: r) := h.set rfl _ rfl
theorem nX {st : St} {a b : Hp} (h : Own st a) (e : a = b) : Own st b := e ▸ h
theorem uN {st : St} {e1 e2 : Nat × Ob} {a r : Hp} (h : Own st (a ++ (e1 :: e2 :: r))) : Own st (e1 :: e2 :: (a ++ r)) :=
  h.perm (by simpa using bR [[e1], [e2], a, r] [2, 0, 1, 3] [0, 1, 2, 3] rfl)
theorem FV {ns : List Nd} {p c : Nat} {np : Nd} (h : ns[p]? = some np) : aB ns p c = ns.set p { np with kids := np.kids ++ [c] } := by
  unfold aB
  have hp := (List.getElem?_eq_some_iff.1 h).1
  apply List.ext_getElem?
  intro i
  rw [List.getElem?_modify, List.getElem?_set]
  by_cases e : p = i
  · subst e
    rw [h]
    simp [hp]
  · simp [e]
theorem NdH.one {n : Nd} {c : List Value} {h : Hp} (hN : NdH n c h) : c.all Abs.one = true := by
  obtain ⟨kv, av, dv, hk, ha, hd, rfl, _, g1, g2, g3⟩ := hN
  obtain ⟨_, rfl⟩ := g1.isSlice
  obtain ⟨_, rfl⟩ := g2.isSlice
  obtain ⟨_, rfl⟩ := g3.isSlice
  rfl
set_option maxRecDepth 10000 in
theorem qV (st : St) (r0 h hx : Hp) (b : Nat) (r : RS) (n : Nd) (c : List Value) (hR : RdH b r h) (hI : RI r) (hN : NdH n c hx) (hO : Own st (h ++ (hx ++ r0))) (k q : Value → St → Prop)
    (hk : ∀ i r' h' st', addF n r = .ok (i, r') → RdH b r' h' → Own st' (h' ++ r0) → k (.int .i64 (i : Nat)) st')
    (hq : ∀ e st', addF n r = .error e → Own st' r0 → q (fV e) st') : ay (C base w0 G) 81 [.pointer (some ⟨b, 0, none⟩), .agg c.toArray] st k q := by
  refine ay.of (cx := C base w0 G) mixed Tryz.func81 rfl (by kernel_rfl) (by simp [Tryz.ntmps81]) ?_
  simp only [Tryz.results81]
  obtain ⟨nv, kv, cs, hn, hs, hxs, rfl, hG, hK, hNs⟩ := hR
  obtain ⟨cl, c9⟩ := hNs.len
  have hc := hO.head
  unfold rdC at hc
  have hne := hO.iE
  have hO1 := hO.new (.cells c 55 true)
  obtain ⟨ank, hank⟩ := hG.isSlice
  obtain ⟨akk, ckk, hakk⟩ := hK.isSlice
  generalize hst : st.n = bx at *
  have hcl := hN.len
  obtain ⟨nk, na, nd, hk1, hk2, hk3, rfl, rfl, gk, ga, gd⟩ := hN
  unfold ndC at hO1
  simp -implicitDefEqProofs only [go_sem, ↓aj, ↓ah, ak, Nat.reduceBEq, ↓reduceIte, reduceCtorEq, Nat.reduceEqDiff, Nat.reduceAdd, Nat.reduceLeDiff, Int.reduceEq, Int.reduceLT, Int.reduceLE, Int.reduceAdd, Int.reduceToNat, Int.reduceNeg, Nat.reduceMul, Nat.reduceSub, Int.reduceBNe, Int.reduceBEq, ndC, abox, aU, asz3, Tryz.underlying3, List.length_cons, List.length_nil, List.set_cons_zero, List.set_cons_succ, hc, hne, hank, fP, dD, eT, Tryz.underlying22, fE, hst]
  refine ⟨fun he => ?_, fun h4 => ?_⟩
  · have hF : addF n r = .error 33 := by unfold addF; rw [if_pos (by omega)]
    refine au.enter Tryz.func76 rfl (by kernel_rfl) (dX _ 33 _ _ ?_)
    exact hq 33 _ hF hO1.tail.right.right
  have h4' : ¬ r.ns.length = 4096 := by omega
  have hO2 := hO1.set rfl (.cells (ndC { n with par := -1 } nk na nd) 55 true) rfl
  unfold ndC at hO2
  generalize (st.new (Ob.cells [.int .i64 n.kind, .int .i64 n.par, nk, .string (tx n.pre), .string (tx n.loc), .string (tx n.spc), na, nd, .string (tx n.val)] 55 true)).set bx (some (Ob.cells [.int .i64 n.kind, .int .i64 (-1), nk, .string (tx n.pre), .string (tx n.loc), .string (tx n.spc), na, nd, .string (tx n.val)] 55 true)) = s1 at *
  by_cases hsk : r.stk = []
  case' pos =>
    have e0 : r.stk.length = 0 := by rw [hsk]; rfl
    have hcx := hO2.head
    have hcb := hO2.tail.head
    unfold rdC at hcb
    simp -implicitDefEqProofs only [go_sem, ↓aj, ↓ah, ak, Nat.reduceBEq, ↓reduceIte, reduceCtorEq, Nat.reduceEqDiff, Nat.reduceAdd, Nat.reduceLeDiff, Int.reduceEq, Int.reduceLT, Int.reduceLE, Int.reduceAdd, Int.reduceToNat, Int.reduceNeg, Nat.reduceMul, Nat.reduceSub, Int.reduceBNe, Int.reduceBEq, aU, asz3, je, Tryz.underlying3, Tryz.underlying74, hakk, hcb, hcx, dD, show ((r.stk.length : Int) > 0) = False by simp; omega, decide_false]
    have hl5 : r.ns.length = r.ns.length := rfl
    have hF5 : addF n r = .ok (r.ns.length, { r with ns := r.ns ++ [{ n with par := -1 }] }) := by
      unfold addF
      rw [if_neg h4', hsk]
      rfl
    have hO5 := hO2
    have hG5 := hG
    have hK5 := hK
    have hNs5 := hNs
    have hN5 : ndC { n with par := -1 } nk na nd = ndC { n with par := -1 } nk na nd := rfl
    have gk5 : NdH { n with par := -1 } (ndC { n with par := -1 } nk na nd) (hk1 ++ (hk2 ++ hk3)) := ⟨nk, na, nd, hk1, hk2, hk3, rfl, rfl, gk, ga, gd⟩
    clear hcx hcb hO2 hG hNs
    have hO5 : Own s1 ((bx, .cells (ndC { n with par := -1 } nk na nd) 55 true) :: (b, .cells (rdC r.s nv kv r.done) 76 true) :: (hn ++ (hs ++ (hxs ++ (hk1 ++ (hk2 ++ (hk3 ++ r0))))))) := by
      have := hO5
      simpa [ndC] using this
    generalize ndC { n with par := -1 } nk na nd = N5 at *
    skip
  case' neg =>
    obtain ⟨B, ck, D, rfl, hlc, rfl, hcut, hget⟩ := sK hK hsk
    have hpos : 0 < r.stk.length := List.length_pos_iff.2 hsk
    obtain ⟨⟨p, nm⟩, hlast⟩ : ∃ x, r.stk.getLast? = some x := ⟨r.stk.getLast hsk, List.getLast?_eq_some_getLast hsk⟩
    have hgl : r.stk[r.stk.length - 1]? = some (p, nm) := by rw [← List.getLast?_eq_getElem?]; exact hlast
    obtain ⟨g1, g2⟩ := hget _ _ hgl
    have hp : p < r.ns.length := (hI.stk (p, nm) (List.mem_of_getElem? hgl)).1
    obtain ⟨np, hnp⟩ : ∃ np, r.ns[p]? = some np := ⟨r.ns[p], List.getElem?_eq_getElem hp⟩
    obtain ⟨cp, x1, x2, x3, hcp, rfl, hNp, hset⟩ := hNs.at hnp
    obtain ⟨pk, pa, pd, y1, y2, y3, rfl, rfl, fk, fa, fd⟩ := hNp
    obtain ⟨bn, rfl, rfl⟩ : ∃ bn, nv = .slice (some ⟨bn, 0, some 0⟩) r.ns.length r.ns.length ∧ hn = [(bn, .cells cs.flatten 55 true)] := by
      rcases hG with ⟨_, h0, _⟩ | ⟨bn, h1, h2, _⟩
      · omega
      · exact ⟨bn, h1, h2⟩
    have hcx := hO2.head
    have hcb := hO2.tail.head
    have hcB : s1.H B = some (.cells D 109 true) := hO2.get (by simp)
    have hcn : s1.H bn = some (.cells cs.flatten 55 true) := hO2.get (by simp)
    unfold rdC at hcb
    have wk : IntKind.i64.wrap ((r.stk.length : Int) - 1) = ((r.stk.length - 1 : Nat) : Int) := by rw [cO (by have := hI.deep; omega)]; omega
    have f2 := flat_get c9 hcp (j := 2) (by decide)
    have hnb : ¬ b = bx := fun e => hO2.ne rfl (List.mem_cons_self ..) e
    have hnB : ¬ B = bx := fun e => hO2.ne rfl (b' := B) (o' := .cells D 109 true) (by simp) e
    have hnn : ¬ bn = bx := fun e => hO2.ne rfl (b' := bn) (o' := .cells cs.flatten 55 true) (by simp) e
    have hO3 := hO2.set rfl (.cells (ndC { n with par := p } nk na nd) 55 true) rfl
    unfold ndC at hO3
    simp -implicitDefEqProofs only [go_sem, ↓aj, ↓ah, ak, Nat.reduceBEq, ↓reduceIte, reduceCtorEq, Nat.reduceEqDiff, Nat.reduceAdd, Nat.reduceLeDiff, Int.reduceEq, Int.reduceLT, Int.reduceLE, Int.reduceAdd, Int.reduceToNat, Int.reduceNeg, Nat.reduceMul, Nat.reduceSub, Int.reduceBNe, Int.reduceBEq, aU, asz3, j3, je, Tryz.underlying3, Tryz.underlying74, hcb, hcx, hcB, dD, uj, fE, show ((r.stk.length : Int) > 0) = True by simp; omega, decide_true, wk, show (0 ≤ ((r.stk.length - 1 : Nat) : Int)) = True by simp, show (((r.stk.length - 1 : Nat) : Int) < (r.stk.length : Int)) = True by simp; omega, Int.toNat_natCast, g1, and_self, List.length_cons, List.length_nil, List.set_cons_zero, List.set_cons_succ]
    have hcx3 := hO3.head
    have hcb3 := hO3.tail.head
    unfold rdC at hcb3
    have hcn3 := hO3.get (b := bn) (o := .cells cs.flatten 55 true) (by simp)
    generalize s1.set bx (some (Ob.cells [.int .i64 n.kind, .int .i64 (p : Nat), nk, .string (tx n.pre), .string (tx n.loc), .string (tx n.spc), na, nd, .string (tx n.val)] 55 true)) = s3 at *
    refine bG.of [(0, false, []), (1, false, []), (2, false, []), (3, true, []), (4, false, []), (5, true, []), (6, false, []), (7, false, []), (8, false, []), (9, true, []), (10, false, []), (11, true, []), (12, false, []), (13, false, []), (14, true, []), (15, false, []), (16, false, [3, 5, 9, 11, 14]), (17, false, [3, 5]), (18, false, []), (19, false, []), (20, false, [])] [3, 5, 9, 11, 14] [(3, 16), (3, 17), (5, 16), (5, 17), (9, 16), (11, 16), (14, 16)] (by kernel_rfl) ?_
    simp -implicitDefEqProofs only [go_sem, ↓aj, ↓ah, ak, Nat.reduceBEq, ↓reduceIte, reduceCtorEq, Nat.reduceEqDiff, Nat.reduceAdd, Nat.reduceLeDiff, Int.reduceEq, Int.reduceLT, Int.reduceLE, Int.reduceAdd, Int.reduceToNat, Int.reduceNeg, Nat.reduceMul, Nat.reduceSub, Int.reduceBNe, Int.reduceBEq, hcx3, hcb3, hcn3, fP, fE, kZ, aU, eT, asz3, iM, Tryz.underlying3, Tryz.underlying22, Tryz.underlying47, Int.toNat_natCast, Int.ofNat_lt, hp, show (0 ≤ (p : Int)) = True by simp, and_self, f2, ndC]
    have e1 : ¬ bx = s3.n := hO3.iE
    have e2 : ¬ b = s3.n := hO3.fresh (o := .cells (rdC r.s (.slice (some ⟨bn, 0, some 0⟩) r.ns.length r.ns.length) (.slice (some ⟨B, 0, some 0⟩) r.stk.length ck) r.done) 76 true) (by simp)
    have e3 : ¬ bn = s3.n := hO3.fresh (o := .cells cs.flatten 55 true) (by simp)
    simp -implicitDefEqProofs only [go_sem, ↓aj, ↓ah, ak, Nat.reduceBEq, ↓reduceIte, reduceCtorEq, Nat.reduceEqDiff, Nat.reduceAdd, Nat.reduceLeDiff, Int.reduceEq, Int.reduceLT, Int.reduceLE, Int.reduceAdd, Int.reduceToNat, Int.reduceNeg, Nat.reduceMul, Nat.reduceSub, Int.reduceBNe, Int.reduceBEq, aI (st := s3) (v := .int .i64 (r.ns.length : Nat)) Tryz.underlying47 asz3 azc3 rfl rfl rfl (by decide), e1, e2, e3, hcx3, hcb3, hcn3, fP, fE, kZ, aU, eT, asz3, iM, Tryz.underlying3, Tryz.underlying22, Tryz.underlying47, Int.toNat_natCast, Int.ofNat_lt, hp, show (0 ≤ (p : Int)) = True by simp, and_self, f2, ndC]
    have hkl := (hI.kids np (List.mem_of_getElem? hnp)).1
    have hmn := hI.many
    have hO4 : Own s3 (y1 ++ ((bx, .cells [.int .i64 n.kind, .int .i64 (p : Nat), nk, .string (tx n.pre), .string (tx n.loc), .string (tx n.spc), na, nd, .string (tx n.val)] 55 true) :: (b, .cells (rdC r.s (.slice (some ⟨bn, 0, some 0⟩) r.ns.length r.ns.length) (.slice (some ⟨B, 0, some 0⟩) r.stk.length ck) r.done) 76 true) :: (bn, .cells cs.flatten 55 true) :: (B, .cells D 109 true) :: (x1 ++ (y2 ++ (y3 ++ (x3 ++ (hk1 ++ (hk2 ++ (hk3 ++ r0)))))))) ) := hO3.perm (by simpa using bR [[_], [_], [_], [_], x1, y1, y2, y3, x3, hk1, hk2, hk3, r0] [0, 1, 2, 3, 4, 5, 6, 7, 8, 9, 10, 11, 12] [5, 0, 1, 2, 3, 4, 6, 7, 8, 9, 10, 11, 12] rfl)
    refine GV.fC (t := 47) (t' := 47) (c := [.int .i64 (r.ns.length : Nat)]) Tryz.underlying47 (by rw [Tryz.underlying47]; rfl) asz3 azc3 aby3 fk hO4 rfl rfl (by omega) fun pk' y1' s4 fk' hs4 => ?_
    obtain ⟨apk, rfl⟩ := fk'.isSlice
    have hcx4 := hs4.get (b := bx) (o := .cells [.int .i64 n.kind, .int .i64 (p : Nat), nk, .string (tx n.pre), .string (tx n.loc), .string (tx n.spc), na, nd, .string (tx n.val)] 55 true) (by simp)
    have hcb4 := hs4.get (b := b) (o := .cells (rdC r.s (.slice (some ⟨bn, 0, some 0⟩) r.ns.length r.ns.length) (.slice (some ⟨B, 0, some 0⟩) r.stk.length ck) r.done) 76 true) (by simp)
    unfold rdC at hcb4
    have hcn4 := hs4.get (b := bn) (o := .cells cs.flatten 55 true) (by simp)
    have hfl : cs.flatten.length = cs.length * 9 := jH c9
    have hle : p * 9 + 2 + 1 ≤ cs.flatten.length := by rw [hfl, cl]; omega
    simp -implicitDefEqProofs only [go_sem, ↓aj, ↓ah, ak, Nat.reduceBEq, ↓reduceIte, reduceCtorEq, Nat.reduceEqDiff, Nat.reduceAdd, Nat.reduceLeDiff, Int.reduceEq, Int.reduceLT, Int.reduceLE, Int.reduceAdd, Int.reduceToNat, Int.reduceNeg, Nat.reduceMul, Nat.reduceSub, Int.reduceBNe, Int.reduceBEq, hcx4, hcb4, hcn4, fP, fE, kZ, aU, eT, asz3, iM, Tryz.underlying3, Tryz.underlying22, Tryz.underlying47, Int.toNat_natCast, Int.ofNat_lt, hp, show (0 ≤ (p : Int)) = True by simp, and_self, f2, ndC, hle]
    have hs5 := (hs4.perm (show List.Perm _ ((bn, .cells cs.flatten 55 true) :: (bx, .cells (ndC { n with par := p } nk na nd) 55 true) :: (b, .cells (rdC r.s (.slice (some ⟨bn, 0, some 0⟩) r.ns.length r.ns.length) (.slice (some ⟨B, 0, some 0⟩) r.stk.length ck) r.done) 76 true) :: (B, .cells D 109 true) :: (x1 ++ (y1' ++ (y2 ++ (y3 ++ (x3 ++ (hk1 ++ (hk2 ++ (hk3 ++ r0))))))))) from by
      simpa [ndC] using bR [y1', [(bx, .cells (ndC { n with par := p } nk na nd) 55 true)], [(b, .cells (rdC r.s (.slice (some ⟨bn, 0, some 0⟩) r.ns.length r.ns.length) (.slice (some ⟨B, 0, some 0⟩) r.stk.length ck) r.done) 76 true)], [(bn, .cells cs.flatten 55 true)], [(B, .cells D 109 true)], x1, y2, y3, x3, hk1, hk2, hk3, r0] [0, 1, 2, 3, 4, 5, 6, 7, 8, 9, 10, 11, 12] [3, 1, 2, 4, 5, 0, 6, 7, 8, 9, 10, 11, 12] rfl)).set rfl (.cells (cs.flatten.set (p * 9 + 2) (.slice apk (np.kids.length + 1) (np.kids.length + 1))) 55 true) rfl
    generalize s4.set bn (some (Ob.cells (cs.flatten.set (p * 9 + 2) (.slice apk (np.kids.length + 1) (np.kids.length + 1))) 55 true)) = s5 at *
    have hfs := pX c9 (Value.slice apk (np.kids.length + 1) (np.kids.length + 1)) hcp (j := 2) (by decide)
    rw [hfs] at hs5
    have fk2 : GV (.slice apk (np.kids.length + 1) (np.kids.length + 1)) (mF (np.kids ++ [r.ns.length])) (np.kids ++ [r.ns.length]).length 1 3 y1' := by
      rw [List.length_append]
      unfold mF at fk' ⊢
      rw [List.map_append]
      exact fk'
    have hNs5 := hset { np with kids := np.kids ++ [r.ns.length] } (ndC { np with kids := np.kids ++ [r.ns.length] } (.slice apk (np.kids.length + 1) (np.kids.length + 1)) pa pd) (y1' ++ (y2 ++ y3)) ⟨_, pa, pd, y1', y2, y3, rfl, rfl, fk2, fa, fd⟩
    have hkid : aB r.ns p r.ns.length = r.ns.set p { np with kids := np.kids ++ [r.ns.length] } := FV hnp
    have hF5 : addF n r = .ok (r.ns.length, { r with ns := r.ns.set p { np with kids := np.kids ++ [r.ns.length] } ++ [{ n with par := (p : Nat) }] }) := by
      unfold addF
      rw [if_neg h4', hlast, ← hkid]
    have hl5 : (r.ns.set p { np with kids := np.kids ++ [r.ns.length] }).length = r.ns.length := List.length_set
    have hK5 := hK
    have hcl5 := (hNs5.len).1
    have hG5 : GV (.slice (some ⟨bn, 0, some 0⟩) r.ns.length r.ns.length) (cs.set p ((ndC np pk pa pd).set 2 (.slice apk (np.kids.length + 1) (np.kids.length + 1)))).flatten r.ns.length 9 55 [(bn, .cells (cs.set p ((ndC np pk pa pd).set 2 (.slice apk (np.kids.length + 1) (np.kids.length + 1)))).flatten 55 true)] := .inr ⟨bn, rfl, rfl, by rw [← hfs, List.length_set, hfl, cl]⟩
    have gk5 : NdH { n with par := (p : Nat) } (ndC { n with par := (p : Nat) } nk na nd) (hk1 ++ (hk2 ++ hk3)) := ⟨nk, na, nd, hk1, hk2, hk3, rfl, rfl, gk, ga, gd⟩
    have hO5 : Own s5 ((bx, .cells (ndC { n with par := (p : Nat) } nk na nd) 55 true) :: (b, .cells (rdC r.s (.slice (some ⟨bn, 0, some 0⟩) r.ns.length r.ns.length) (.slice (some ⟨B, 0, some 0⟩) r.stk.length ck) r.done) 76 true) :: ([(bn, .cells (cs.set p ((ndC np pk pa pd).set 2 (.slice apk (np.kids.length + 1) (np.kids.length + 1)))).flatten 55 true)] ++ ([(B, .cells D 109 true)] ++ ((x1 ++ ((y1' ++ (y2 ++ y3)) ++ x3)) ++ (hk1 ++ (hk2 ++ (hk3 ++ r0))))))) :=
      hs5.perm (by simpa using bR [[(bn, .cells (cs.set p ((ndC np pk pa pd).set 2 (.slice apk (np.kids.length + 1) (np.kids.length + 1)))).flatten 55 true)], [(bx, .cells (ndC { n with par := (p : Nat) } nk na nd) 55 true)], [(b, .cells (rdC r.s (.slice (some ⟨bn, 0, some 0⟩) r.ns.length r.ns.length) (.slice (some ⟨B, 0, some 0⟩) r.stk.length ck) r.done) 76 true)], [(B, .cells D 109 true)], x1, y1', y2, y3, x3, hk1, hk2, hk3, r0] [0, 1, 2, 3, 4, 5, 6, 7, 8, 9, 10, 11, 12] [1, 2, 0, 3, 4, 5, 6, 7, 8, 9, 10, 11, 12] rfl)
    clear hcx hcb hO2 hG hNs hO1 hO hO3 hO4 hcx3 hcb3 hcn3 hcx4 hcb4 hcn4 hcB hcn hs4 hs5
    generalize ndC { n with par := (p : Nat) } nk na nd = N5 at *
    skip
  all_goals
    have hN5l := gk5.len
    have hcx5 := hO5.head
    have hcb5 := hO5.tail.head
    unfold rdC at hcb5
    have hcut5 : cut N5 0 9 = some N5 := by have := iI N5; rwa [hN5l] at this
    have e1 := hO5.iE
    have e2 := hO5.tail.iE
    have hone : N5.all Abs.one = true := NdH.one gk5
    refine bG.of [(0, false, []), (1, false, []), (2, false, []), (3, false, []), (4, true, []), (5, false, []), (6, false, [4]), (7, false, []), (8, false, []), (9, false, []), (10, false, [])] [4] [(4, 6)] (by kernel_rfl) ?_
    simp -implicitDefEqProofs only [go_sem, ↓aj, ↓ah, ak, Nat.reduceBEq, ↓reduceIte, reduceCtorEq, Nat.reduceEqDiff, Nat.reduceAdd, Nat.reduceLeDiff, Int.reduceEq, Int.reduceLT, Int.reduceLE, Int.reduceAdd, Int.reduceToNat, Int.reduceNeg, Nat.reduceMul, Nat.reduceSub, Int.reduceBNe, Int.reduceBEq, hcb5, hcx5, fP, aU, eT, Tryz.underlying22, Tryz.underlying55, Option.map_some, hcut5, e1, e2, aI (v := .agg N5.toArray) Tryz.underlying22 aU nH rfl rfl (by simp [Value.cells, hN5l]) (by decide)]
    refine GV.fC (t := 22) (t' := 22) (c := N5) Tryz.underlying22 (by rw [Tryz.underlying22]; rfl) aU nH LZ hG5 (qU hO5) hN5l hone (by have := hI.many; omega) fun nv' hn6 s6 hG6 hs6 => ?_
    have hs6' := uN hs6
    have hcx6 := hs6'.head
    have hcb6 := hs6'.tail.head
    obtain ⟨an6, rfl⟩ := hG6.isSlice
    simp -implicitDefEqProofs only [go_sem, ↓aj, ↓ah, ak, Nat.reduceBEq, ↓reduceIte, reduceCtorEq, Nat.reduceEqDiff, Nat.reduceAdd, Nat.reduceLeDiff, Int.reduceEq, Int.reduceLT, Int.reduceLE, Int.reduceAdd, Int.reduceToNat, Int.reduceNeg, Nat.reduceMul, Nat.reduceSub, Int.reduceBNe, Int.reduceBEq, hcb6, hcx6, fP, aU, eT, Tryz.underlying22, Tryz.underlying55, List.length_cons, List.length_nil, List.set_cons_zero, List.set_cons_succ]
    refine ⟨by simp [rdC], ?_⟩
    have hs7 := Ld hs6'.tail (.slice an6 (r.ns.length + 1) (r.ns.length + 1))
    refine hk r.ns.length _ _ _ hF5 ⟨.slice an6 (r.ns.length + 1) (r.ns.length + 1), _, _, hn6, _, _, rfl, ?_, hK5, hNs5.snoc gk5⟩ (nX hs7 (by simp [List.append_assoc]))
    show GV _ (_ ++ [N5]).flatten (_ ++ [_]).length 9 55 hn6
    rw [List.flatten_append, List.length_append, hl5, List.flatten_cons, List.flatten_nil, List.append_nil, List.length_singleton]
    exact hG6
end Go.Proofs.YtigjbehgfjjlkaaGreatDoor
set_option linter.unusedVariables false
set_option linter.unusedSimpArgs false
namespace Go.Proofs.YtigjbehgfjjlkaaGreatDoor
open Go Go.Abs Go.RowKit Go.Xml
variable {base : Nat} {w0 : World} {G : Nat}
theorem GV.blk {v : Value} {cs : List Value} {n sz : Nat} {e : TypeId} {hg : Hp} (hG : GV v cs n sz e hg) (hn : 0 < n) : ∃ b, v = .slice (some ⟨b, 0, some 0⟩) n n ∧ hg = [(b, .cells cs e true)] := by
  rcases hG with ⟨_, h0, _⟩ | ⟨b, h1, h2, _⟩
  · omega
  · exact ⟨b, h1, h2⟩
theorem wk1 {n : Nat} (h : 0 < n) (h2 : n ≤ 1000000) : IntKind.i64.wrap ((n : Int) - 1) = ((n - 1 : Nat) : Int) := by rw [cO (by omega)]; omega
theorem FW {l : List Nat} {i c : Nat} (h : l[i]? = some c) : (mF l)[i]? = some (.int .i64 (c : Nat)) := by
  unfold mF
  rw [List.getElem?_map, h]
  rfl
theorem nY {ns : List Nd} {p : Nat} {np : Nd} (f : Nd → Nd) (h : ns[p]? = some np) : ns.modify p f = ns.set p (f np) := by
  have hp := (List.getElem?_eq_some_iff.1 h).1
  apply List.ext_getElem?
  intro i
  rw [List.getElem?_modify, List.getElem?_set]
  by_cases e : p = i
  · subst e
    rw [h]
    simp [hp]
  · simp [e]
set_option maxRecDepth 10000 in
theorem nZ (st : St) (r0 h : Hp) (b : Nat) (r : RS) (t : Tx) (hR : RdH b r h) (hI : RI r) (hsk : r.stk ≠ []) (ht : t.length ≤ 5000000) (hO : Own st (h ++ r0)) (k q : Value → St → Prop)
    (hk : ∀ r' h' st', aW t r = .ok r' → RdH b r' h' → Own st' (h' ++ r0) → k (.tuple #[]) st')
    (hq : ∀ e st', aW t r = .error e → Own st' r0 → q (fV e) st') : ay (C base w0 G) 59 [.pointer (some ⟨b, 0, none⟩), .string (tx t)] st k q := by
  refine ay.of (cx := C base w0 G) mixed Tryz.func59 rfl (by kernel_rfl) (by simp [Tryz.ntmps59]) ?_
  simp only [Tryz.results59]
  have e0 : (⟨#[]⟩ : ByteArray) = tx [] := rfl
  by_cases ht0 : t = []
  · have hF : aW t r = .ok r := by unfold aW; rw [if_pos ht0]
    simp -implicitDefEqProofs only [go_sem, ↓aj, ↓ah, ak, Nat.reduceBEq, ↓reduceIte, reduceCtorEq, Nat.reduceEqDiff, Nat.reduceAdd, Nat.reduceLeDiff, Int.reduceEq, Int.reduceLT, Int.reduceLE, Int.reduceAdd, Int.reduceToNat, Int.reduceNeg, Nat.reduceMul, Nat.reduceSub, Int.reduceBNe, Int.reduceBEq, e0, aA, decide_eq_true ht0]
    exact hk r h st hF hR hO
  have hR0 := hR
  have hO0 := hO
  obtain ⟨nv, kv, cs, hn, hs, hxs, rfl, hG, hK, hNs⟩ := hR
  obtain ⟨cl, c9⟩ := hNs.len
  obtain ⟨B, ck, D, rfl, hlc, rfl, hcut, hget⟩ := sK hK hsk
  have hpos : 0 < r.stk.length := List.length_pos_iff.2 hsk
  obtain ⟨⟨p, nm⟩, hlast⟩ : ∃ x, r.stk.getLast? = some x := ⟨r.stk.getLast hsk, List.getLast?_eq_some_getLast hsk⟩
  have hgl : r.stk[r.stk.length - 1]? = some (p, nm) := by rw [← List.getLast?_eq_getElem?]; exact hlast
  obtain ⟨g1, g2⟩ := hget _ _ hgl
  have hp : p < r.ns.length := (hI.stk (p, nm) (List.mem_of_getElem? hgl)).1
  obtain ⟨np, hnp⟩ : ∃ np, r.ns[p]? = some np := ⟨r.ns[p], List.getElem?_eq_getElem hp⟩
  obtain ⟨cp, x1, x2, x3, hcp, hxe, hNp, hset⟩ := hNs.at hnp
  obtain ⟨pk, pa, pd, y1, y2, y3, rfl, rfl, fk, fa, fd⟩ := hNp
  obtain ⟨bn, rfl, rfl⟩ := GV.blk hG (by omega)
  have hcb := hO.head
  have hcB : st.H B = some (.cells D 109 true) := hO.get (by simp)
  have hcn : st.H bn = some (.cells cs.flatten 55 true) := hO.get (by simp)
  unfold rdC at hcb
  have wk := wk1 hpos (by have := hI.deep; omega)
  have f2 := flat_get c9 hcp (j := 2) (by decide)
  have hF : aW t r = match aR r.ns p with
      | some c => .ok { r with ns := r.ns.modify c fun n => { n with val := n.val ++ t } }
      | none => match addF { nd0 with kind := 2, val := t } r with
        | .ok (_, r') => .ok r'
        | .error e => .error e := by
    unfold aW
    rw [if_neg ht0, hlast]
    rfl
  obtain ⟨hkl, hkc⟩ := hI.kids np (List.mem_of_getElem? hnp)
  have hmn := hI.many
  obtain ⟨apk, hpk⟩ := fk.isSlice
  simp -implicitDefEqProofs only [go_sem, ↓aj, ↓ah, ak, Nat.reduceBEq, ↓reduceIte, reduceCtorEq, Nat.reduceEqDiff, Nat.reduceAdd, Nat.reduceLeDiff, Int.reduceEq, Int.reduceLT, Int.reduceLE, Int.reduceAdd, Int.reduceToNat, Int.reduceNeg, Nat.reduceMul, Nat.reduceSub, Int.reduceBNe, Int.reduceBEq, e0, aA, decide_eq_false ht0]
  refine bG.of [(0, false, []), (1, false, []), (2, false, []), (3, false, []), (4, false, []), (5, false, []), (6, false, []), (7, false, []), (8, false, []), (9, false, []), (10, false, []), (11, false, []), (12, false, []), (13, false, []), (14, false, []), (15, false, []), (16, false, []), (17, false, []), (18, false, []), (19, false, []), (20, false, [])] [] [] (by kernel_rfl) ?_
  simp -implicitDefEqProofs only [go_sem, ↓aj, ↓ah, ak, Nat.reduceBEq, ↓reduceIte, reduceCtorEq, Nat.reduceEqDiff, Nat.reduceAdd, Nat.reduceLeDiff, Int.reduceEq, Int.reduceLT, Int.reduceLE, Int.reduceAdd, Int.reduceToNat, Int.reduceNeg, Nat.reduceMul, Nat.reduceSub, Int.reduceBNe, Int.reduceBEq, hcb, hcB, hcn, fP, dD, uj, kZ, aU, eT, asz3, j3, je, iM, Tryz.underlying3, Tryz.underlying22, Tryz.underlying74, Tryz.underlying47, wk, show (0 ≤ ((r.stk.length - 1 : Nat) : Int)) = True by simp, show (((r.stk.length - 1 : Nat) : Int) < (r.stk.length : Int)) = True by simp; omega, Int.toNat_natCast, g1, and_self, Int.ofNat_lt, hp, show (0 ≤ (p : Int)) = True by simp, f2, ndC, List.getElem?_cons_succ, List.getElem?_cons_zero]
  have hkin : decide ((np.kids.length : Int) > 0) = !decide (np.kids = []) := by
    cases np.kids with
    | nil => rfl
    | cons c l => simp
  have addgo : aR r.ns p = none → ∀ (k' q' : Value → St → Prop), (∀ (v : Value) s', k (.tuple #[]) s' → k' v s') → (∀ e s', q (fV e) s' → q' (fV e) s') →
      au (C base w0 G) 81 [.pointer (some ⟨b, 0, none⟩), .agg #[.int .i64 2, .int .i64 0, .slice none 0 0, .string ⟨#[]⟩, .string ⟨#[]⟩, .string ⟨#[]⟩, .slice none 0 0, .slice none 0 0, .string (tx t)]] st k' q' := fun hlt k' q' h1 h2 => by
    rw [hlt] at hF
    refine au.enter Tryz.func81 rfl (by kernel_rfl) (qV st r0 _ [] b r { nd0 with kind := 2, val := t } (ndC { nd0 with kind := 2, val := t } (.slice none 0 0) (.slice none 0 0) (.slice none 0 0)) hR0 hI ⟨_, _, _, [], [], [], rfl, rfl, .nil, .nil, .nil⟩ hO0 _ _ (fun i r' h' s' ha hR' hO' => ?_) (fun e s' ha hO' => ?_))
    · rw [ha] at hF
      exact h1 _ _ (hk r' h' s' hF hR' hO')
    · rw [ha] at hF
      exact h2 e _ (hq e s' hF hO')
  by_cases hk0 : np.kids = []
  · have hlt : aR r.ns p = none := by unfold aR; rw [hnp]; simp [hk0]
    rw [decide_eq_true hk0] at hkin
    simp -implicitDefEqProofs only [go_sem, ↓aj, ↓ah, ak, Nat.reduceBEq, ↓reduceIte, reduceCtorEq, Nat.reduceEqDiff, Nat.reduceAdd, Nat.reduceLeDiff, Int.reduceEq, Int.reduceLT, Int.reduceLE, Int.reduceAdd, Int.reduceToNat, Int.reduceNeg, Nat.reduceMul, Nat.reduceSub, Int.reduceBNe, Int.reduceBEq, hpk, hkin, Bool.not_true, Tryz.underlying47]
    refine bG.of [(0, false, []), (1, false, []), (2, false, []), (3, false, []), (4, false, []), (5, false, []), (6, false, []), (7, false, []), (8, false, []), (9, false, []), (10, false, []), (11, false, []), (12, false, []), (13, false, []), (14, false, []), (15, false, []), (16, false, [])] [] [] (by kernel_rfl) ?_
    simp -implicitDefEqProofs only [go_sem, ↓aj, ↓ah, ak, Nat.reduceBEq, ↓reduceIte, reduceCtorEq, Nat.reduceEqDiff, Nat.reduceAdd, Nat.reduceLeDiff, Int.reduceEq, Int.reduceLT, Int.reduceLE, Int.reduceAdd, Int.reduceToNat, Int.reduceNeg, Nat.reduceMul, Nat.reduceSub, Int.reduceBNe, Int.reduceBEq, hkin, Bool.not_true, nH, Av, aU, Tryz.underlying55, List.length_cons, List.length_nil, List.set_cons_zero, List.set_cons_succ, List.getElem?_cons_zero, List.getElem?_cons_succ, Option.map_some, List.getElem?_toArray]
    refine addgo hlt _ _ (fun v s' h1 => ?_) (fun e s' h1 => h1)
    simp -implicitDefEqProofs only [go_sem, ↓aj, ↓ah, ak, Nat.reduceBEq, ↓reduceIte, reduceCtorEq, Nat.reduceEqDiff, Nat.reduceAdd, Nat.reduceLeDiff, Int.reduceEq, Int.reduceLT, Int.reduceLE, Int.reduceAdd, Int.reduceToNat, Int.reduceNeg, Nat.reduceMul, Nat.reduceSub, Int.reduceBNe, Int.reduceBEq]
    exact h1
  · have hkp : 0 < np.kids.length := List.length_pos_iff.2 hk0
    obtain ⟨bk, rfl, rfl⟩ := GV.blk fk hkp
    obtain ⟨c, hc⟩ : ∃ c, np.kids.getLast? = some c := ⟨np.kids.getLast hk0, List.getLast?_eq_some_getLast hk0⟩
    have hcg : np.kids[np.kids.length - 1]? = some c := by rw [← List.getLast?_eq_getElem?]; exact hc
    have hcl := hkc c (List.mem_of_getElem? hcg)
    obtain ⟨nc, hnc⟩ : ∃ nc, r.ns[c]? = some nc := ⟨r.ns[c], List.getElem?_eq_getElem hcl⟩
    obtain ⟨cc, z1, z2, z3, hcc, hze, hNc, hsetc⟩ := hNs.at hnc
    obtain ⟨qk, qa, qd, w1, w2, w3, rfl, rfl, lk, la, ld⟩ := hNc
    have hi0 := FW hcg
    have hck : st.H bk = some (.cells (mF np.kids) 3 true) := hO.get (by rw [hxe]; simp)
    have j0 := flat_get c9 hcc (j := 0) (by decide)
    rw [Nat.add_zero] at j0
    have j8 := flat_get c9 hcc (j := 8) (by decide)
    have wkk := wk1 hkp (by omega)
    rw [decide_eq_false hk0] at hkin
    simp -implicitDefEqProofs only [go_sem, ↓aj, ↓ah, ak, Nat.reduceBEq, ↓reduceIte, reduceCtorEq, Nat.reduceEqDiff, Nat.reduceAdd, Nat.reduceLeDiff, Int.reduceEq, Int.reduceLT, Int.reduceLE, Int.reduceAdd, Int.reduceToNat, Int.reduceNeg, Nat.reduceMul, Nat.reduceSub, Int.reduceBNe, Int.reduceBEq, hkin, Bool.not_false, Tryz.underlying47]
    refine bG.of [(0, false, []), (1, false, []), (2, false, []), (3, false, []), (4, false, []), (5, false, []), (6, false, []), (7, false, []), (8, false, []), (9, false, []), (10, false, []), (11, false, []), (12, false, []), (13, false, []), (14, false, []), (15, false, []), (16, false, [])] [] [] (by kernel_rfl) ?_
    have hltv : aR r.ns p = if nc.kind = 2 then some c else none := by unfold aR; rw [hnp]; simp [hc, hnc]
    by_cases hkd : nc.kind = 2
    rotate_left
    · rw [if_neg hkd] at hltv
      simp -implicitDefEqProofs only [go_sem, ↓aj, ↓ah, ak, Nat.reduceBEq, ↓reduceIte, reduceCtorEq, Nat.reduceEqDiff, Nat.reduceAdd, Nat.reduceLeDiff, Int.reduceEq, Int.reduceLT, Int.reduceLE, Int.reduceAdd, Int.reduceToNat, Int.reduceNeg, Nat.reduceMul, Nat.reduceSub, Int.reduceBNe, Int.reduceBEq, hkin, Bool.not_false, hcb, hcn, hck, fP, fD, aU, eT, asz3, iM, Tryz.underlying3, Tryz.underlying22, Tryz.underlying47, wkk, show (0 ≤ ((np.kids.length - 1 : Nat) : Int)) = True by simp, show (((np.kids.length - 1 : Nat) : Int) < (np.kids.length : Int)) = True by simp; omega, Int.toNat_natCast, Nat.mul_one, hi0, and_self, Int.ofNat_lt, hcl, show (0 ≤ (c : Int)) = True by simp, j0, show (nc.kind == 2) = false by simp [hkd], ndC, List.getElem?_cons_succ, nH, Av, aU, Tryz.underlying55, List.length_cons, List.length_nil, List.set_cons_zero, List.set_cons_succ, List.getElem?_cons_zero, List.getElem?_cons_succ, Option.map_some, List.getElem?_toArray]
      refine addgo hltv _ _ (fun v s' h1 => ?_) (fun e s' h1 => h1)
      simp -implicitDefEqProofs only [go_sem, ↓aj, ↓ah, ak, Nat.reduceBEq, ↓reduceIte, reduceCtorEq, Nat.reduceEqDiff, Nat.reduceAdd, Nat.reduceLeDiff, Int.reduceEq, Int.reduceLT, Int.reduceLE, Int.reduceAdd, Int.reduceToNat, Int.reduceNeg, Nat.reduceMul, Nat.reduceSub, Int.reduceBNe, Int.reduceBEq]
      exact h1
    · rw [if_pos hkd] at hltv
      rw [hltv] at hF
      dsimp only at hF
      rw [nY _ hnc] at hF
      simp -implicitDefEqProofs only [go_sem, ↓aj, ↓ah, ak, Nat.reduceBEq, ↓reduceIte, reduceCtorEq, Nat.reduceEqDiff, Nat.reduceAdd, Nat.reduceLeDiff, Int.reduceEq, Int.reduceLT, Int.reduceLE, Int.reduceAdd, Int.reduceToNat, Int.reduceNeg, Nat.reduceMul, Nat.reduceSub, Int.reduceBNe, Int.reduceBEq, hkin, Bool.not_false, hcb, hcn, hck, fP, fD, aU, eT, asz3, iM, Tryz.underlying3, Tryz.underlying22, Tryz.underlying47, wkk, show (0 ≤ ((np.kids.length - 1 : Nat) : Int)) = True by simp, show (((np.kids.length - 1 : Nat) : Int) < (np.kids.length : Int)) = True by simp; omega, Int.toNat_natCast, Nat.mul_one, hi0, and_self, Int.ofNat_lt, hcl, show (0 ≤ (c : Int)) = True by simp, j0, show (nc.kind == 2) = true by simp [hkd], ndC, List.getElem?_cons_succ, List.getElem?_cons_zero]
      refine bG.of [(0, false, []), (1, false, []), (2, false, []), (3, false, []), (4, false, []), (5, false, []), (6, false, []), (7, false, []), (8, false, []), (9, false, []), (10, false, []), (11, false, []), (12, false, []), (13, false, []), (14, false, []), (15, false, []), (16, false, [])] [] [] (by kernel_rfl) ?_
      have hvl := hI.val nc (List.mem_of_getElem? hnc)
      have hadd : astr .add (tx nc.val) (tx t) = some (.string (tx (nc.val ++ t))) := kG (by omega)
      have hfl : cs.flatten.length = cs.length * 9 := jH c9
      have hle : c * 9 + 8 + 1 ≤ cs.flatten.length := by rw [hfl, cl]; omega
      have hfs := pX c9 (Value.string (tx (nc.val ++ t))) hcc (j := 8) (by decide)
      simp -implicitDefEqProofs only [go_sem, ↓aj, ↓ah, ak, Nat.reduceBEq, ↓reduceIte, reduceCtorEq, Nat.reduceEqDiff, Nat.reduceAdd, Nat.reduceLeDiff, Int.reduceEq, Int.reduceLT, Int.reduceLE, Int.reduceAdd, Int.reduceToNat, Int.reduceNeg, Nat.reduceMul, Nat.reduceSub, Int.reduceBNe, Int.reduceBEq, hcb, hcn, hck, fP, fD, mW, asz9, aU, eT, asz3, iM, Tryz.underlying3, Tryz.underlying9, Tryz.underlying22, Tryz.underlying47, wkk, show (0 ≤ ((np.kids.length - 1 : Nat) : Int)) = True by simp, show (((np.kids.length - 1 : Nat) : Int) < (np.kids.length : Int)) = True by simp; omega, Int.toNat_natCast, Nat.mul_one, hi0, and_self, Int.ofNat_lt, hcl, show (0 ≤ (c : Int)) = True by simp, j8, ndC, List.getElem?_cons_succ, List.getElem?_cons_zero, hadd, hle, hfs]
      have hN' := hsetc { nc with val := nc.val ++ t } (ndC { nc with val := nc.val ++ t } qk qa qd) (w1 ++ (w2 ++ w3)) ⟨qk, qa, qd, w1, w2, w3, rfl, rfl, lk, la, ld⟩
      have hs2 := (hO.perm (List.Perm.swap _ _ _)).set rfl (.cells (cs.set c (ndC { nc with val := nc.val ++ t } qk qa qd)).flatten 55 true) rfl
      refine hk _ _ _ hF ⟨.slice (some ⟨bn, 0, some 0⟩) r.ns.length r.ns.length, _, cs.set c (ndC { nc with val := nc.val ++ t } qk qa qd), [(bn, .cells (cs.set c (ndC { nc with val := nc.val ++ t } qk qa qd)).flatten 55 true)], _, _, rfl, ?_, hK, hN'⟩ (nX (hs2.perm (List.Perm.swap _ _ _)) (by rw [hze]; simp [List.append_assoc]))
      show GV _ _ (r.ns.set c _).length 9 _ _
      rw [List.length_set]
      exact .inr ⟨bn, rfl, rfl, by rw [jH (sz := 9) hN'.len.2, hN'.len.1, List.length_set]⟩
end Go.Proofs.YtigjbehgfjjlkaaGreatDoor
set_option linter.unusedVariables false
set_option linter.unusedSimpArgs false
namespace Go.Proofs.YtigjbehgfjjlkaaGreatDoor
open Go Go.Abs Go.RowKit Go.Xml
variable {base : Nat} {w0 : World} {G : Nat}
theorem y9 : (⟨#[104, 116, 116, 112, 58, 47, 47, 119, 119, 119, 46, 119, 51, 46, 111, 114, 103, 47, 88, 77, 76, 47, 49, 57, 57, 56, 47, 110, 97, 109, 101, 115, 112, 97, 99, 101]⟩ : ByteArray) = tx gV := by kernel_rfl
theorem Ia : (⟨#[104, 116, 116, 112, 58, 47, 47, 119, 119, 119, 46, 119, 51, 46, 111, 114, 103, 47, 50, 48, 48, 48, 47, 120, 109, 108, 110, 115, 47]⟩ : ByteArray) = tx mZ := by kernel_rfl
theorem Ib (r : Hp) : kH (C base w0 G) 133 [] r (fun a => .agg (dclC a).toArray) (fun _ => True) odd := by
  intro x st X k q _ hX hO hk
  refine au.enter Tryz.func133 rfl (by kernel_rfl) ?_
  refine ay.of (cx := C base w0 G) mixed Tryz.func133 rfl (by kernel_rfl) (by simp [Tryz.ntmps133]) ?_
  simp only [Tryz.results133]
  have hO1 := hO.new (.cells (dclC x) 61 true)
  have e0 : (⟨#[]⟩ : ByteArray) = tx [] := rfl
  have e1 : (⟨#[120, 109, 108]⟩ : ByteArray) = tx [120, 109, 108] := rfl
  have e2 : (⟨#[120, 109, 108, 110, 115]⟩ : ByteArray) = tx [120, 109, 108, 110, 115] := rfl
  obtain ⟨pre, uri⟩ := x
  have ho : odd ⟨pre, uri⟩ = (((!(decide (pre = [120, 109, 108]) == decide (uri = gV))) || decide (pre = [120, 109, 108, 110, 115])) || (decide (uri = mZ) || (!decide (pre = []) && decide (uri = [])))) := rfl
  rw [ho] at hk
  generalize hc1 : (!(decide (pre = [120, 109, 108]) == decide (uri = gV))) = c1 at *
  generalize hc2 : decide (pre = [120, 109, 108, 110, 115]) = c2 at *
  generalize hc3 : decide (uri = mZ) = c3 at *
  generalize hc4 : decide (pre = []) = c4 at *
  generalize hc5 : decide (uri = []) = c5 at *
  cases c1 <;> cases c2 <;> cases c3 <;> cases c4 <;>
    simp -implicitDefEqProofs only [go_sem, ↓aj, ↓ah, ak, Nat.reduceBEq, ↓reduceIte, reduceCtorEq, Nat.reduceEqDiff, Nat.reduceAdd, Nat.reduceLeDiff, Int.reduceEq, Int.reduceLT, Int.reduceLE, Int.reduceAdd, Int.reduceToNat, Int.reduceNeg, Nat.reduceMul, Nat.reduceSub, Int.reduceBNe, Int.reduceBEq, abox, dclC, jA, asz9, Tryz.underlying9, pE, pF, y9, Ia, e0, e1, e2, aA, dx, hc1, hc2, hc3, hc4, hc5, Bool.not_true, Bool.not_false, Tryz.underlying4] <;>
    exact hk _ hO1.tail
def EF (p : Tx) : Option Tx → Tx × Bool
  | some u => (u, true)
  | none => ([], decide (p = []))
theorem FX (r : RS) (p : Tx) (ds : List Dcl) (h : p ≠ [120, 109, 108]) : aM r p ds = EF p (match findD p ds with | some u => some u | none => outer r.ns p r.stk.reverse) := by
  unfold aM
  rw [if_neg h]
  cases findD p ds with
  | some u => rfl
  | none =>
    dsimp only
    cases outer r.ns p r.stk.reverse <;> rfl
theorem Dj (ns : List Nd) (p : Tx) (stk : List (Nat × Tx)) (i : Nat) (x : Nat × Tx) (n : Nd) (hx : stk[i]? = some x) (hn : ns[x.1]? = some n) :
    outer ns p (stk.take (i + 1)).reverse = match findD p n.dcls with | some u => some u | none => outer ns p (stk.take i).reverse := by
  rw [List.take_add_one, hx]
  simp only [Option.toList_some, List.reverse_append, List.reverse_cons, List.reverse_nil, List.nil_append, List.singleton_append]
  obtain ⟨a, nm⟩ := x
  show (match findD p ((ns[a]?.map (·.dcls)).getD []) with | some u => some u | none => outer ns p (stk.take i).reverse) = _
  rw [hn]
  rfl
theorem Dk {p : Tx} {l : List Dcl} (h : ∀ d ∈ l, d.pre ≠ p) : findD p l = none := by
  unfold findD
  rw [List.find?_eq_none.2 fun d hd => by simpa using h d hd]
  rfl
theorem Ic {p : Tx} {l : List Dcl} {i : Nat} {d : Dcl} (hd : l[i]? = some d) (h : ∀ e ∈ l.take i, e.pre ≠ p) (hp : d.pre = p) : findD p l = some d.uri := by
  have hl : l = l.take i ++ d :: l.drop (i + 1) := by
    have hi := (List.getElem?_eq_some_iff.1 hd)
    obtain ⟨h1, h2⟩ := hi
    rw [← h2, List.getElem_cons_drop, List.take_append_drop]
  rw [hl]
  unfold findD
  rw [List.find?_append, List.find?_eq_none.2 fun e he => by simpa using h e he]
  simp [List.find?_cons, hp]
theorem ng {v : Value} {l : List Dcl} {hg r : Hp} (hG : GV v (rR l) l.length 2 61 hg) : Rws (hg ++ r) v 2 (l.map dclC) :=
  GV.rows hG (fun c hc => by obtain ⟨d, _, rfl⟩ := List.mem_map.1 hc; rfl) (List.length_map _)
set_option maxRecDepth 10000 in
theorem mG (st : St) (r0 h : Hp) (b : Nat) (r : RS) (p : Tx) (dv : Value) (ds : List Dcl) (hR : RdH b r h) (hI : RI r) (hD : Rws r0 dv 2 (ds.map dclC)) (hdl : ds.length ≤ 1000000) (hO : Own st (h ++ r0)) (k q : Value → St → Prop)
    (hk : ∀ st', Own st' (h ++ r0) → k (.tuple #[.string (tx (aM r p ds).1), .bool (aM r p ds).2]) st') : ay (C base w0 G) 134 [.pointer (some ⟨b, 0, none⟩), .string (tx p), dv] st k q := by
  refine ay.of (cx := C base w0 G) mixed Tryz.func134 rfl (by kernel_rfl) (by simp [Tryz.ntmps134]) ?_
  simp only [Tryz.results134]
  have e0 : (⟨#[]⟩ : ByteArray) = tx [] := rfl
  have e1 : (⟨#[120, 109, 108]⟩ : ByteArray) = tx [120, 109, 108] := rfl
  by_cases hx : p = [120, 109, 108]
  · have hF : aM r p ds = (gV, true) := by unfold aM; rw [if_pos hx]
    rw [hF] at hk
    simp -implicitDefEqProofs only [go_sem, ↓aj, ↓ah, ak, Nat.reduceBEq, ↓reduceIte, reduceCtorEq, Nat.reduceEqDiff, Nat.reduceAdd, Nat.reduceLeDiff, Int.reduceEq, Int.reduceLT, Int.reduceLE, Int.reduceAdd, Int.reduceToNat, Int.reduceNeg, Nat.reduceMul, Nat.reduceSub, Int.reduceBNe, Int.reduceBEq, e0, e1, y9, aA, decide_eq_true hx]
    exact hk st hO
  have hS := FX r p ds hx
  have hR0 := hR
  obtain ⟨nv, kv, cs, hn, hs, hxs, rfl, hG, hK, hNs⟩ := hR
  obtain ⟨cl, c9⟩ := hNs.len
  have hcb := hO.head
  unfold rdC at hcb
  obtain ⟨akk, ckk, hakk⟩ := hK.isSlice
  have hdp := hI.deep
  simp -implicitDefEqProofs only [go_sem, ↓aj, ↓ah, ak, Nat.reduceBEq, ↓reduceIte, reduceCtorEq, Nat.reduceEqDiff, Nat.reduceAdd, Nat.reduceLeDiff, Int.reduceEq, Int.reduceLT, Int.reduceLE, Int.reduceAdd, Int.reduceToNat, Int.reduceNeg, Nat.reduceMul, Nat.reduceSub, Int.reduceBNe, Int.reduceBEq, e0, e1, y9, aA, decide_eq_false hx, hcb, hakk, dD, je, Tryz.underlying74]
  rw [← hakk]
  refine ⟨fun m ρ s => ∃ j : Nat, m = j ∧ ρ 0 = .pointer (some ⟨b, 0, none⟩) ∧ ρ 1 = .string (tx p) ∧ ρ 8 = .int .i64 ((j : Int) - 1) ∧ (j = r.stk.length + 1 ∧ ρ 2 = dv ∨ j ≤ r.stk.length ∧ aM r p ds = EF p (outer r.ns p (r.stk.take j).reverse)) ∧ Own s (((b, .cells (rdC r.s nv kv r.done) 76 true) :: (hn ++ (hs ++ hxs))) ++ r0), ⟨_, r.stk.length + 1, rfl, rfl, rfl, ?_, .inl ⟨rfl, rfl⟩, hO⟩, ?_⟩
  · show Value.int .i64 (r.stk.length : Int) = .int .i64 ((((r.stk.length + 1 : Nat) : Int)) - 1)
    congr 1
    omega
  rintro j ρ s ⟨_, rfl, h0, h1, h8, hj, ho⟩
  cases j with
  | zero =>
    obtain ⟨_, hj⟩ := hj.resolve_left (fun h => by omega)
    have hz : aM r p ds = ([], decide (p = [])) := hj
    rw [hz] at hk
    have h8' : ρ 8 = .int .i64 (-1) := h8
    simp -implicitDefEqProofs only [go_sem, ↓aj, ↓ah, ak, Nat.reduceBEq, ↓reduceIte, reduceCtorEq, Nat.reduceEqDiff, Nat.reduceAdd, Nat.reduceLeDiff, Int.reduceEq, Int.reduceLT, Int.reduceLE, Int.reduceAdd, Int.reduceToNat, Int.reduceNeg, Nat.reduceMul, Nat.reduceSub, Int.reduceBNe, Int.reduceBEq, h0, h1, h8', e0, aA, show ((-1 : Int) ≥ 0) = False by simp, decide_false]
    exact hk _ ho
  | succ j =>
  have ej : (((j + 1 : Nat) : Int) - 1) = (j : Int) := by omega
  rw [ej] at h8
  have hcb2 := ho.head
  unfold rdC at hcb2
  have wj : IntKind.i64.wrap ((j : Int) - 1) = (j : Int) - 1 := cO (by omega)
  by_cases hjk : j = r.stk.length
  case' pos =>
    obtain ⟨hv, h2⟩ : ρ 2 = dv ∧ True := by
      rcases hj with ⟨_, h⟩ | ⟨h, _⟩
      · exact ⟨h, trivial⟩
      · omega
    have hSj : aM r p ds = EF p (match findD p ds with | some u => some u | none => outer r.ns p (r.stk.take j).reverse) := by rw [hjk, List.take_length]; exact hS
    have hRw : Rws (((b, .cells (rdC r.s nv kv r.done) 76 true) :: (hn ++ (hs ++ hxs))) ++ r0) dv 2 (ds.map dclC) := hD.sub fun e he => List.mem_append_right _ he
    have hll := hdl
    have hjle : j ≤ r.stk.length := by omega
    obtain ⟨xa, xc, hxs2, _⟩ := hRw.isSlice
    rw [List.length_map] at hxs2
    simp -implicitDefEqProofs only [go_sem, ↓aj, ↓ah, ak, Nat.reduceBEq, ↓reduceIte, reduceCtorEq, Nat.reduceEqDiff, Nat.reduceAdd, Nat.reduceLeDiff, Int.reduceEq, Int.reduceLT, Int.reduceLE, Int.reduceAdd, Int.reduceToNat, Int.reduceNeg, Nat.reduceMul, Nat.reduceSub, Int.reduceBNe, Int.reduceBEq, h0, h1, h8, hv, hcb2, hakk, dD, je, Tryz.underlying74, Tryz.underlying53, show ((j : Int) ≥ 0) = True by simp, show ((j : Int) < (r.stk.length : Int)) = False by simp; omega, decide_true, decide_false, hxs2]
    rw [← hxs2]
    generalize ds = lD at *
    generalize dv = vD at *
  case' neg =>
    obtain ⟨hjl, hSj0⟩ := hj.resolve_left (fun h => by omega)
    have hjlt : j < r.stk.length := by omega
    obtain ⟨⟨pp, nm⟩, hgl⟩ : ∃ x, r.stk[j]? = some x := ⟨r.stk[j], List.getElem?_eq_getElem hjlt⟩
    have hp : pp < r.ns.length := (hI.stk (pp, nm) (List.mem_of_getElem? hgl)).1
    obtain ⟨np, hnp⟩ : ∃ np, r.ns[pp]? = some np := ⟨r.ns[pp], List.getElem?_eq_getElem hp⟩
    have hSj : aM r p ds = EF p (match findD p np.dcls with | some u => some u | none => outer r.ns p (r.stk.take j).reverse) := by
      rw [hSj0, Dj r.ns p r.stk j (pp, nm) np hgl hnp]
    obtain ⟨B, ck, D, hkv, hlc, hsB, hcut, hget⟩ := sK hK (fun e => by rw [e] at hjlt; simp at hjlt)
    obtain ⟨g1, g2⟩ := hget _ _ hgl
    obtain ⟨cp, x1, x2, x3, hcp, hxe, hNp, hset⟩ := hNs.at hnp
    obtain ⟨pk, pa, pd, y1, y2, y3, rfl, rfl, fk, fa, fd⟩ := hNp
    obtain ⟨bn, hnv, hnB⟩ := GV.blk hG (by omega)
    have f7 := flat_get c9 hcp (j := 7) (by decide)
    have hcB : s.H B = some (.cells D 109 true) := ho.get (by rw [hsB]; simp)
    have hcn : s.H bn = some (.cells cs.flatten 55 true) := ho.get (by rw [hnB]; simp)
    have hRw : Rws (((b, .cells (rdC r.s nv kv r.done) 76 true) :: (hn ++ (hs ++ hxs))) ++ r0) pd 2 (np.dcls.map dclC) := (ng (r := []) fd).sub fun e he => by rw [hxe]; simp at he ⊢; simp [he]
    have hll := hI.dcl np (List.mem_of_getElem? hnp)
    have hjle := hjl
    obtain ⟨xa, xc, hxs2, _⟩ := hRw.isSlice
    rw [List.length_map] at hxs2
    simp -implicitDefEqProofs only [go_sem, ↓aj, ↓ah, ak, Nat.reduceBEq, ↓reduceIte, reduceCtorEq, Nat.reduceEqDiff, Nat.reduceAdd, Nat.reduceLeDiff, Int.reduceEq, Int.reduceLT, Int.reduceLE, Int.reduceAdd, Int.reduceToNat, Int.reduceNeg, Nat.reduceMul, Nat.reduceSub, Int.reduceBNe, Int.reduceBEq, h0, h1, h8, hcb2, hkv, dD, je, Tryz.underlying74, Tryz.underlying53, show ((j : Int) ≥ 0) = True by simp, Int.ofNat_lt, hjlt, decide_true]
    refine bG.of [(0, false, []), (1, false, []), (2, false, []), (3, false, []), (4, false, []), (5, false, []), (6, false, []), (7, false, []), (8, false, []), (9, false, []), (10, false, []), (11, false, []), (12, false, []), (13, false, []), (14, false, []), (15, false, [])] [] [] (by kernel_rfl) ?_
    simp -implicitDefEqProofs only [go_sem, ↓aj, ↓ah, ak, Nat.reduceBEq, ↓reduceIte, reduceCtorEq, Nat.reduceEqDiff, Nat.reduceAdd, Nat.reduceLeDiff, Int.reduceEq, Int.reduceLT, Int.reduceLE, Int.reduceAdd, Int.reduceToNat, Int.reduceNeg, Nat.reduceMul, Nat.reduceSub, Int.reduceBNe, Int.reduceBEq, h0, h1, h8, hcb2, hkv, hnv, hcB, hcn, fP, dD, uj, bT, aU, eT, asz3, j3, je, fI, Tryz.underlying3, Tryz.underlying22, Tryz.underlying74, Tryz.underlying53, show (0 ≤ (j : Int)) = True by simp, Int.ofNat_lt, hjlt, Int.toNat_natCast, g1, and_self, hp, show (0 ≤ (pp : Int)) = True by simp, f7, ndC, List.getElem?_cons_succ, List.getElem?_cons_zero, hxs2]
    rw [← hxs2]
    generalize np.dcls = lD at *
    generalize pd = vD at *
  all_goals
    refine ⟨fun m ρ s => ∃ i : Nat, m = lD.length - i ∧ i ≤ lD.length ∧ ρ 0 = .pointer (some ⟨b, 0, none⟩) ∧ ρ 1 = .string (tx p) ∧ ρ 8 = .int .i64 (j : Int) ∧ ρ 44 = vD ∧ ρ 45 = .int .i64 (lD.length : Nat) ∧ ρ 46 = .int .i64 (i : Nat) ∧ (∀ d ∈ lD.take i, d.pre ≠ p) ∧ Own s (((b, .cells (rdC r.s nv kv r.done) 76 true) :: (hn ++ (hs ++ hxs))) ++ r0), ⟨_, 0, rfl, Nat.zero_le _, h0, h1, h8, rfl, rfl, rfl, fun d hd => (by simp at hd), ho⟩, ?_⟩
    rintro _ ρ2 s2 ⟨i, rfl, hi, k0, k1, k8, k44, k45, k46, hno, ho2⟩
    by_cases him : i < lD.length
    · obtain ⟨x, o, sp, c', cs', ty, own, hvx, hmem, hcut'⟩ := hRw.mem (i := i) (l := dclC lD[i]) (by simp [him])
      rw [List.length_map] at hvx
      have hcx := ho2.get hmem
      have hnew := (ho2.new (.cells [.string ⟨#[]⟩, .string ⟨#[]⟩] 61 true)).set rfl (.cells (dclC lD[i]) 61 true) rfl
      have hdi : lD[i]? = some lD[i] := List.getElem?_eq_getElem him
      generalize hd : lD[i] = d at *
      have wi : IntKind.i64.wrap ((i : Int) + 1) = ((i + 1 : Nat) : Int) := by rw [cO (by omega)]; rfl
      unfold dclC at hcut' hnew
      by_cases hpre : d.pre = p
      · have hfd := Ic hdi hno hpre
        rw [hfd] at hSj
        rw [hSj] at hk
        simp -implicitDefEqProofs only [go_sem, ↓aj, ↓ah, ak, Nat.reduceBEq, ↓reduceIte, reduceCtorEq, Nat.reduceEqDiff, Nat.reduceAdd, Nat.reduceLeDiff, Int.reduceEq, Int.reduceLT, Int.reduceLE, Int.reduceAdd, Int.reduceToNat, Int.reduceNeg, Nat.reduceMul, Nat.reduceSub, Int.reduceBNe, Int.reduceBEq, k0, k1, k8, k44, k45, k46, hvx, him, Int.ofNat_lt, decide_true, hcx, hcut', jA, asz9, Tryz.underlying9, Tryz.underlying61, Tryz.underlying53, Option.map_some, bB, nI, pE, pF, List.length_cons, List.length_nil, aA, decide_eq_true hpre, show (0 ≤ (i : Int)) = True by simp, and_self, Int.toNat_natCast, List.set_cons_zero, List.set_cons_succ]
        exact hk _ hnew.tail
      · simp -implicitDefEqProofs only [go_sem, ↓aj, ↓ah, ak, Nat.reduceBEq, ↓reduceIte, reduceCtorEq, Nat.reduceEqDiff, Nat.reduceAdd, Nat.reduceLeDiff, Int.reduceEq, Int.reduceLT, Int.reduceLE, Int.reduceAdd, Int.reduceToNat, Int.reduceNeg, Nat.reduceMul, Nat.reduceSub, Int.reduceBNe, Int.reduceBEq, k0, k1, k8, k44, k45, k46, hvx, him, Int.ofNat_lt, decide_true, hcx, hcut', jA, asz9, Tryz.underlying9, Tryz.underlying61, Tryz.underlying53, Option.map_some, bB, nI, pE, pF, List.length_cons, List.length_nil, aA, decide_eq_false hpre, show (0 ≤ (i : Int)) = True by simp, and_self, Int.toNat_natCast, List.set_cons_zero, List.set_cons_succ, wi]
        refine ⟨lD.length - (i + 1), by omega, i + 1, rfl, by omega, rfl, fun e he => ?_, hnew.tail⟩
        rw [List.take_add_one, hdi] at he
        rcases List.mem_append.1 he with he | he
        · exact hno e he
        · simp at he; rw [he]; exact hpre
    · obtain rfl : i = lD.length := by omega
      rw [List.take_length] at hno
      rw [Dk hno] at hSj
      simp -implicitDefEqProofs only [go_sem, ↓aj, ↓ah, ak, Nat.reduceBEq, ↓reduceIte, reduceCtorEq, Nat.reduceEqDiff, Nat.reduceAdd, Nat.reduceLeDiff, Int.reduceEq, Int.reduceLT, Int.reduceLE, Int.reduceAdd, Int.reduceToNat, Int.reduceNeg, Nat.reduceMul, Nat.reduceSub, Int.reduceBNe, Int.reduceBEq, k0, k1, k8, k44, k45, k46, Int.ofNat_lt, Nat.lt_irrefl, decide_false, wj]
      exact ⟨j, by omega, j, rfl, rfl, .inr ⟨by omega, hSj⟩, ho2⟩
end Go.Proofs.YtigjbehgfjjlkaaGreatDoor
set_option linter.unusedVariables false
set_option linter.unusedSimpArgs false
namespace Go.Proofs.YtigjbehgfjjlkaaGreatDoor
open Go Go.Abs Go.RowKit Go.Xml
variable {base : Nat} {w0 : World} {G : Nat}
set_option maxRecDepth 10000 in
theorem za (r : Hp) (ba bs : Nat) (a : Att) (s : Tx) {t1 t2 : TypeId} {o1 o2 : Bool} (ha : (ba, Ob.cells (attC a) t1 o1) ∈ r) (hs : (bs, Ob.cells [.string (tx s)] t2 o2) ∈ r) :
    kH (C base w0 G) 136 [.pointer (some ⟨ba, 0, none⟩), .pointer (some ⟨bs, 0, none⟩)] r (fun a => .agg (attC a).toArray) (fun _ => True) (fun x => (decide (x.loc = a.loc) && decide (x.spc = s)) && !decide (s = [])) := by
  intro x st X k q _ hX hO hk
  refine au.enter Tryz.func136 rfl (by kernel_rfl) ?_
  refine ay.of (cx := C base w0 G) mixed Tryz.func136 rfl (by kernel_rfl) (by simp [Tryz.ntmps136]) ?_
  simp only [Tryz.results136]
  dsimp only at hk
  have hc1 := hO.get (hX _ ha)
  have hc2 := hO.get (hX _ hs)
  have hn1 := hO.fresh (hX _ ha)
  have hn2 := hO.fresh (hX _ hs)
  have hO1 := hO.new (.cells (attC x) 59 true)
  have e0 : (⟨#[]⟩ : ByteArray) = tx [] := rfl
  unfold attC at hc1
  generalize hd1 : decide (x.loc = a.loc) = d1 at *
  generalize hd2 : decide (x.spc = s) = d2 at *
  generalize hd3 : decide (s = []) = d3 at *
  cases d1 <;> cases d2 <;>
    simp -implicitDefEqProofs only [go_sem, ↓aj, ↓ah, ak, Nat.reduceBEq, ↓reduceIte, reduceCtorEq, Nat.reduceEqDiff, Nat.reduceAdd, Nat.reduceLeDiff, Int.reduceEq, Int.reduceLT, Int.reduceLE, Int.reduceAdd, Int.reduceToNat, Int.reduceNeg, Nat.reduceMul, Nat.reduceSub, Int.reduceBNe, Int.reduceBEq, abox, attC, hc1, hc2, hn1, hn2, iP, asz9, Tryz.underlying9, yP, Ev, e0, aA, dx, hd1, hd2, hd3, List.getElem?_cons_succ, List.getElem?_cons_zero] <;>
    exact hk _ hO1.tail
theorem Me {st : St} {e : Nat × Ob} {a d h k r : Hp} (ho : Own st (e :: (a ++ (d ++ (h ++ (k ++ r)))))) : Own st (h ++ (e :: (a ++ (d ++ (k ++ r))))) :=
  ho.perm (by simpa using bR [[e], a, d, h, k, r] [0, 1, 2, 3, 4, 5] [3, 0, 1, 2, 4, 5] rfl)
theorem Le {st : St} {e : Nat × Ob} {a d h k r : Hp} (ho : Own st (h ++ (e :: (a ++ (d ++ (k ++ r)))))) : Own st (e :: (a ++ (d ++ (h ++ (k ++ r))))) :=
  ho.perm (by simpa using bR [[e], a, d, h, k, r] [3, 0, 1, 2, 4, 5] [0, 1, 2, 3, 4, 5] rfl)
theorem Lf {st : St} {e f : Nat × Ob} {a d h k r : Hp} (ho : Own st (e :: f :: (a ++ (d ++ (h ++ (k ++ r)))))) : Own st (h ++ (e :: f :: (a ++ (d ++ (k ++ r))))) :=
  ho.perm (by simpa using bR [[e], [f], a, d, h, k, r] [0, 1, 2, 3, 4, 5, 6] [4, 0, 1, 2, 3, 5, 6] rfl)
theorem JL {st : St} {e f : Nat × Ob} {a d h k r : Hp} (ho : Own st (h ++ (e :: f :: (a ++ (d ++ (k ++ r)))))) : Own st (e :: f :: (a ++ (d ++ (h ++ (k ++ r))))) :=
  ho.perm (by simpa using bR [[e], [f], a, d, h, k, r] [4, 0, 1, 2, 3, 5, 6] [0, 1, 2, 3, 4, 5, 6] rfl)
theorem Lg {st : St} {e f g : Nat × Ob} {a d h k r : Hp} (ho : Own st (e :: f :: g :: (a ++ (d ++ (h ++ (k ++ r)))))) : Own st (h ++ (e :: f :: g :: (a ++ (d ++ (k ++ r))))) :=
  ho.perm (by simpa using bR [[e], [f], [g], a, d, h, k, r] [0, 1, 2, 3, 4, 5, 6, 7] [5, 0, 1, 2, 3, 4, 6, 7] rfl)
theorem JM {st : St} {e f g : Nat × Ob} {a d h k r : Hp} (ho : Own st (h ++ (e :: f :: g :: (a ++ (d ++ (k ++ r)))))) : Own st (e :: f :: g :: (a ++ (d ++ (h ++ (k ++ r))))) :=
  ho.perm (by simpa using bR [[e], [f], [g], a, d, h, k, r] [5, 0, 1, 2, 3, 4, 6, 7] [0, 1, 2, 3, 4, 5, 6, 7] rfl)
theorem ni (l : List Att) : ∀ c ∈ l.map attC, c.length = 4 := fun c hc => by obtain ⟨d, _, rfl⟩ := List.mem_map.1 hc; rfl
set_option maxRecDepth 10000 in
theorem ze (st : St) (r0 h hk1 ha hd : Hp) (b bx : Nat) (r : RS) (n : Nd) (kv av dv : Value) (hR : RdH b r h) (hI : RI r) (gk : GV kv (mF n.kids) n.kids.length 1 3 hk1) (ga : GV av (eX n.atts) n.atts.length 4 59 ha) (gd : GV dv (rR n.dcls) n.dcls.length 2 61 hd)
    (hal : n.atts.length ≤ 1000000) (hdl : n.dcls.length ≤ 1000000) (hO : Own st ((bx, .cells (ndC n kv av dv) 55 true) :: (ha ++ (hd ++ (h ++ (hk1 ++ r0)))))) (k q : Value → St → Prop)
    (hk : ∀ n' ha' st', bH r n = .ok n' → GV av (eX n'.atts) n'.atts.length 4 59 ha' → Own st' ((bx, .cells (ndC n' kv av dv) 55 true) :: (ha' ++ (hd ++ (h ++ (hk1 ++ r0))))) → k (.tuple #[]) st')
    (hq : ∀ e st', bH r n = .error e → Own st' r0 → q (fV e) st') : ay (C base w0 G) 109 [.pointer (some ⟨b, 0, none⟩), .pointer (some ⟨bx, 0, none⟩)] st k q := by
  refine ay.of (cx := C base w0 G) mixed Tryz.func109 rfl (by kernel_rfl) (by simp [Tryz.ntmps109]) ?_
  simp only [Tryz.results109]
  have e0 : (⟨#[]⟩ : ByteArray) = tx [] := rfl
  have hc := hO.head
  unfold ndC at hc
  have hout : ∀ {s : St} {X : Hp} {e : Nat × Ob}, Own s (e :: (X ++ (hd ++ (h ++ (hk1 ++ r0))))) → Own s r0 := fun h => h.tail.right.right.right.right
  simp -implicitDefEqProofs only [go_sem, ↓aj, ↓ah, ak, Nat.reduceBEq, ↓reduceIte, reduceCtorEq, Nat.reduceEqDiff, Nat.reduceAdd, Nat.reduceLeDiff, Int.reduceEq, Int.reduceLT, Int.reduceLE, Int.reduceAdd, Int.reduceToNat, Int.reduceNeg, Nat.reduceMul, Nat.reduceSub, Int.reduceBNe, Int.reduceBEq, hc, bT, fI, Tryz.underlying53, List.getElem?_cons_succ, List.getElem?_cons_zero]
  refine au.enter Tryz.func132 rfl (by kernel_rfl) (C8 st _ dv n.dcls 133 [] (fun _ => True) odd (Ib _) ((ng (r := []) gd).sub fun e he => by simp at he ⊢; simp [he]) (fun _ _ => trivial) hdl hO _ _ fun s1 hs1 => ?_)
  have hF : bH r n = if n.dcls.any odd then .error 31
    else if (aM r n.pre n.dcls).2 then
      match fO r n.dcls [] n.atts with
      | .ok l => .ok { n with spc := (aM r n.pre n.dcls).1, atts := l }
      | .error e => .error e
    else .error 31 := rfl
  cases ho : n.dcls.any odd with
  | true =>
    rw [ho, if_pos rfl] at hF
    simp -implicitDefEqProofs only [go_sem, ↓aj, ↓ah, ak, Nat.reduceBEq, ↓reduceIte, reduceCtorEq, Nat.reduceEqDiff, Nat.reduceAdd, Nat.reduceLeDiff, Int.reduceEq, Int.reduceLT, Int.reduceLE, Int.reduceAdd, Int.reduceToNat, Int.reduceNeg, Nat.reduceMul, Nat.reduceSub, Int.reduceBNe, Int.reduceBEq]
    refine au.enter Tryz.func76 rfl (by kernel_rfl) (dX _ 31 _ _ ?_)
    exact hq 31 _ hF (hout hs1)
  | false =>
  rw [ho, if_neg (by decide)] at hF
  have hc1 := hs1.head
  unfold ndC at hc1
  simp -implicitDefEqProofs only [go_sem, ↓aj, ↓ah, ak, Nat.reduceBEq, ↓reduceIte, reduceCtorEq, Nat.reduceEqDiff, Nat.reduceAdd, Nat.reduceLeDiff, Int.reduceEq, Int.reduceLT, Int.reduceLE, Int.reduceAdd, Int.reduceToNat, Int.reduceNeg, Nat.reduceMul, Nat.reduceSub, Int.reduceBNe, Int.reduceBEq]
  refine bG.of [(0, false, []), (1, false, []), (2, false, []), (3, false, []), (4, false, []), (5, false, []), (6, false, []), (7, false, []), (8, false, []), (9, false, []), (10, false, []), (11, false, []), (12, false, []), (13, false, []), (14, false, [])] [] [] (by kernel_rfl) ?_
  simp -implicitDefEqProofs only [go_sem, ↓aj, ↓ah, ak, Nat.reduceBEq, ↓reduceIte, reduceCtorEq, Nat.reduceEqDiff, Nat.reduceAdd, Nat.reduceLeDiff, Int.reduceEq, Int.reduceLT, Int.reduceLE, Int.reduceAdd, Int.reduceToNat, Int.reduceNeg, Nat.reduceMul, Nat.reduceSub, Int.reduceBNe, Int.reduceBEq, hc1, o9, bT, asz9, fI, Tryz.underlying9, Tryz.underlying53, List.getElem?_cons_succ, List.getElem?_cons_zero]
  refine au.enter Tryz.func134 rfl (by kernel_rfl) (mG s1 _ h b r n.pre dv n.dcls hR hI ((ng (r := []) gd).sub fun e he => by simp at he ⊢; simp [he]) hdl (Me hs1) _ _ fun s2 hs2 => ?_)
  have hs2 := Le hs2
  generalize aM r n.pre n.dcls = sp at *
  obtain ⟨S, ok⟩ := sp
  dsimp only at hF ⊢
  simp -implicitDefEqProofs only [go_sem, ↓aj, ↓ah, ak, Nat.reduceBEq, ↓reduceIte, reduceCtorEq, Nat.reduceEqDiff, Nat.reduceAdd, Nat.reduceLeDiff, Int.reduceEq, Int.reduceLT, Int.reduceLE, Int.reduceAdd, Int.reduceToNat, Int.reduceNeg, Nat.reduceMul, Nat.reduceSub, Int.reduceBNe, Int.reduceBEq]
  cases ok with
  | false =>
    rw [if_neg (by decide)] at hF
    simp -implicitDefEqProofs only [go_sem, ↓aj, ↓ah, ak, Nat.reduceBEq, ↓reduceIte, reduceCtorEq, Nat.reduceEqDiff, Nat.reduceAdd, Nat.reduceLeDiff, Int.reduceEq, Int.reduceLT, Int.reduceLE, Int.reduceAdd, Int.reduceToNat, Int.reduceNeg, Nat.reduceMul, Nat.reduceSub, Int.reduceBNe, Int.reduceBEq, Bool.not_false]
    refine au.enter Tryz.func76 rfl (by kernel_rfl) (dX _ 31 _ _ ?_)
    exact hq 31 _ hF (hout hs2)
  | true =>
  rw [if_pos rfl] at hF
  have hc2 := hs2.head
  have hs3 := hs2.set rfl (.cells (ndC { n with spc := S } kv av dv) 55 true) rfl
  obtain ⟨aa, hav⟩ := ga.isSlice
  unfold ndC at hc2
  simp -implicitDefEqProofs only [go_sem, ↓aj, ↓ah, ak, Nat.reduceBEq, ↓reduceIte, reduceCtorEq, Nat.reduceEqDiff, Nat.reduceAdd, Nat.reduceLeDiff, Int.reduceEq, Int.reduceLT, Int.reduceLE, Int.reduceAdd, Int.reduceToNat, Int.reduceNeg, Nat.reduceMul, Nat.reduceSub, Int.reduceBNe, Int.reduceBEq, Bool.not_true, hc2, Eu, dB, asz9, iO, Tryz.underlying9, Tryz.underlying52, List.getElem?_cons_succ, List.getElem?_cons_zero, List.length_cons, List.length_nil, List.set_cons_zero, List.set_cons_succ, hav]
  rw [← hav]
  refine ⟨fun m ρ s => ∃ (i : Nat) (acc : List Att) (ha' : Hp), m = n.atts.length - i ∧ i ≤ n.atts.length ∧ acc.length = i ∧ fO r n.dcls [] n.atts = fO r n.dcls acc (n.atts.drop i) ∧ GV av (eX (acc ++ n.atts.drop i)) n.atts.length 4 59 ha' ∧ ρ 0 = .pointer (some ⟨b, 0, none⟩) ∧ ρ 1 = .pointer (some ⟨bx, 0, none⟩) ∧ ρ 40 = av ∧ ρ 41 = .int .i64 (n.atts.length : Nat) ∧ ρ 42 = .int .i64 (i : Nat) ∧ Own s ((bx, .cells (ndC { n with spc := S } kv av dv) 55 true) :: (ha' ++ (hd ++ (h ++ (hk1 ++ r0))))),
    ⟨_, 0, [], ha, rfl, Nat.zero_le _, rfl, rfl, ga, rfl, rfl, rfl, rfl, rfl, hs3⟩, ?_⟩
  rintro _ ρ s ⟨i, acc, ha', rfl, hi, hacc, hR2, gA, h0, h1, h40, h41, h42, ho1⟩
  have wi : IntKind.i64.wrap ((i : Int) + 1) = ((i + 1 : Nat) : Int) := by rw [cO (by omega)]; rfl
  by_cases him : i < n.atts.length
  rotate_left
  · obtain rfl : i = n.atts.length := by omega
    rw [List.drop_length] at hR2 gA
    rw [List.append_nil] at gA
    have hR3 : fO r n.dcls [] n.atts = .ok acc := hR2
    rw [hR3] at hF
    simp -implicitDefEqProofs only [go_sem, ↓aj, ↓ah, ak, Nat.reduceBEq, ↓reduceIte, reduceCtorEq, Nat.reduceEqDiff, Nat.reduceAdd, Nat.reduceLeDiff, Int.reduceEq, Int.reduceLT, Int.reduceLE, Int.reduceAdd, Int.reduceToNat, Int.reduceNeg, Nat.reduceMul, Nat.reduceSub, Int.reduceBNe, Int.reduceBEq, h0, h1, h40, h41, h42, Int.ofNat_lt, Nat.lt_irrefl, decide_false]
    exact hk _ ha' _ hF (by rw [← hacc] at gA; exact gA) ho1
  · obtain ⟨ba, rfl, rfl⟩ := GV.blk gA (by omega)
    have hdi : n.atts[i]? = some n.atts[i] := List.getElem?_eq_getElem him
    have hdrop : n.atts.drop i = n.atts[i] :: n.atts.drop (i + 1) := List.drop_eq_getElem_cons him
    generalize n.atts[i] = a at *
    rw [hdrop] at hR2 gA ho1
    have hrow : ((acc ++ a :: n.atts.drop (i + 1)).map attC)[i]? = some (attC a) := by
      rw [List.getElem?_map, List.getElem?_append_right (by omega), hacc, Nat.sub_self]
      rfl
    have hcut := kJ (ni _) hrow
    have hcA : s.H ba = some (.cells (eX (acc ++ a :: n.atts.drop (i + 1))) 59 true) := ho1.get (by simp)
    have hcN := ho1.head
    have hcut' : cut (eX (acc ++ a :: n.atts.drop (i + 1))) (i * 4) 4 = some (attC a) := hcut
    unfold attC at hcut'
    unfold ndC at hcN
    have hR4 : fO r n.dcls acc (a :: n.atts.drop (i + 1)) = if a.pre = [] then fO r n.dcls (acc ++ [a]) (n.atts.drop (i + 1))
      else if (aM r a.pre n.dcls).2 && !(acc.any fun b => (decide (b.loc = a.loc) && decide (b.spc = (aM r a.pre n.dcls).1)) && !decide ((aM r a.pre n.dcls).1 = [])) then
        fO r n.dcls (acc ++ [{ a with spc := (aM r a.pre n.dcls).1 }]) (n.atts.drop (i + 1))
      else .error 31 := rfl
    rw [hR4] at hR2
    have ho2 := (ho1.new (.cells [.string (tx []), .string (tx []), .string (tx []), .string (tx [])] 59 true)).set rfl (.cells (attC a) 59 true) rfl
    have hcat : acc ++ a :: n.atts.drop (i + 1) = (acc ++ [a]) ++ n.atts.drop (i + 1) := by simp
    unfold attC at ho2
    by_cases hpre : a.pre = []
    · rw [if_pos hpre] at hR2
      simp -implicitDefEqProofs only [go_sem, ↓aj, ↓ah, ak, Nat.reduceBEq, ↓reduceIte, reduceCtorEq, Nat.reduceEqDiff, Nat.reduceAdd, Nat.reduceLeDiff, Int.reduceEq, Int.reduceLT, Int.reduceLE, Int.reduceAdd, Int.reduceToNat, Int.reduceNeg, Nat.reduceMul, Nat.reduceSub, Int.reduceBNe, Int.reduceBEq, h0, h1, h40, h41, h42, him, Int.ofNat_lt, decide_true, hcA, hcut', iP, asz9, Tryz.underlying9, Tryz.underlying59, Tryz.underlying52, Option.map_some, bB, pz, mX, List.length_cons, List.length_nil, e0, aA, decide_eq_true hpre, show (0 ≤ (i : Int)) = True by simp, and_self, Int.toNat_natCast, List.set_cons_zero, List.set_cons_succ, List.getElem?_cons_succ, List.getElem?_cons_zero, wi]
      exact ⟨n.atts.length - (i + 1), by omega, i + 1, acc ++ [a], _, rfl, by omega, by simp [hacc], hR2, by rw [← hcat]; exact gA, rfl, ho2.tail⟩
    · rw [if_neg hpre] at hR2
      simp -implicitDefEqProofs only [go_sem, ↓aj, ↓ah, ak, Nat.reduceBEq, ↓reduceIte, reduceCtorEq, Nat.reduceEqDiff, Nat.reduceAdd, Nat.reduceLeDiff, Int.reduceEq, Int.reduceLT, Int.reduceLE, Int.reduceAdd, Int.reduceToNat, Int.reduceNeg, Nat.reduceMul, Nat.reduceSub, Int.reduceBNe, Int.reduceBEq, h0, h1, h40, h41, h42, him, Int.ofNat_lt, decide_true, hcA, hcut', iP, asz9, Tryz.underlying9, Tryz.underlying59, Tryz.underlying52, Option.map_some, bB, pz, mX, List.length_cons, List.length_nil, e0, aA, decide_eq_false hpre, show (0 ≤ (i : Int)) = True by simp, and_self, Int.toNat_natCast, List.set_cons_zero, List.set_cons_succ, List.getElem?_cons_succ, List.getElem?_cons_zero, wi]
      have hc7 := ho2.head
      have hc8 := ho2.tail.head
      unfold ndC at hc8
      generalize (s.new (Ob.cells [.string (tx []), .string (tx []), .string (tx []), .string (tx [])] 59 true)).set s.n (some (Ob.cells [.string (tx a.pre), .string (tx a.loc), .string (tx a.spc), .string (tx a.val)] 59 true)) = s4 at *
      generalize s.n = b7 at *
      have hsp : aM r a.pre n.dcls = ((aM r a.pre n.dcls).1, (aM r a.pre n.dcls).2) := rfl
      generalize (aM r a.pre n.dcls).1 = S2 at *
      generalize (aM r a.pre n.dcls).2 = ok2 at *
      have rows : ∀ (e : Hp), Rws (e ++ ((bx, .cells (ndC { n with spc := S } kv (.slice (some ⟨ba, 0, some 0⟩) n.atts.length n.atts.length) dv) 55 true) :: ([(ba, .cells (eX (acc ++ a :: n.atts.drop (i + 1))) 59 true)] ++ (hd ++ (hk1 ++ r0))))) dv 2 (n.dcls.map dclC) := fun e => (ng (r := []) gd).sub fun x hx => by simp at hx ⊢; simp [hx]
      refine bG.mid (fun ρ' s' => ρ' 0 = .pointer (some ⟨b, 0, none⟩) ∧ ρ' 1 = .pointer (some ⟨bx, 0, none⟩) ∧ ρ' 40 = .slice (some ⟨ba, 0, some 0⟩) n.atts.length n.atts.length ∧ ρ' 41 = .int .i64 (n.atts.length : Nat) ∧ ρ' 42 = .int .i64 (i : Nat) ∧ ρ' 6 = .int .i64 (i : Nat) ∧ ρ' 7 = .pointer (some ⟨b7, 0, none⟩) ∧ ρ' 9 = .bool ok2 ∧ ∃ b8, ρ' 8 = .pointer (some ⟨b8, 0, none⟩) ∧
        Own s' ((b8, .cells [.string (tx S2)] 9 true) :: (b7, .cells (attC a) 59 true) :: (bx, .cells (ndC { n with spc := S } kv (.slice (some ⟨ba, 0, some 0⟩) n.atts.length n.atts.length) dv) 55 true) :: ([(ba, .cells (eX (acc ++ a :: n.atts.drop (i + 1))) 59 true)] ++ (hd ++ (h ++ (hk1 ++ r0)))))) ?_ ?_
      · refine bG.ofT (.step 0 false [] (.step 1 false [] (.step 2 true [] (.step 3 false [] (.step 4 false [] (.step 5 false [] (.step 6 true [] (.two 7 [] (.lin [(8, false, []), (9, false, []), (10, false, []), (11, false, [2, 6]), (12, false, []), (13, false, [])]) 11 [2, 6] (.lin [(7, false, []), (8, false, []), (9, false, []), (10, false, []), (12, false, []), (13, false, [])]))))))))) [2, 6] [(2, 11), (6, 11)] (by kernel_rfl) ?_
        simp -implicitDefEqProofs only [go_sem, ↓aj, ↓ah, ak, Nat.reduceBEq, ↓reduceIte, reduceCtorEq, Nat.reduceEqDiff, Nat.reduceAdd, Nat.reduceLeDiff, Int.reduceEq, Int.reduceLT, Int.reduceLE, Int.reduceAdd, Int.reduceToNat, Int.reduceNeg, Nat.reduceMul, Nat.reduceSub, Int.reduceBNe, Int.reduceBEq, jE, iT, jF, h0, h1, h40, h41, h42, hc7, hc8, asz9, fI, Tryz.underlying9, Tryz.underlying53, mX, bT, List.getElem?_cons_succ, List.getElem?_cons_zero]
        have n7 := ho2.iE
        have n8 := ho2.tail.iE
        refine ⟨?_, ?_⟩
        · refine au.enter Tryz.func134 rfl (by kernel_rfl) (mG s4 _ h b r a.pre dv n.dcls hR hI (rows [_]) hdl (Lf ho2) _ _ fun s6 hs6 => ?_)
          rw [hsp]
          have hs6' := JL hs6
          have hs7 := (hs6'.new (.cells [.string ⟨#[]⟩] 9 true)).set rfl (.cells [.string (tx S2)] 9 true) rfl
          have hc6 := hs6'.tail.head
          unfold ndC at hc6
          have m7 := hs6'.iE
          have m8 := hs6'.tail.iE
          have hc7' := hs6'.head
          simp -implicitDefEqProofs only [go_sem, ↓aj, ↓ah, ak, Nat.reduceBEq, ↓reduceIte, reduceCtorEq, Nat.reduceEqDiff, Nat.reduceAdd, Nat.reduceLeDiff, Int.reduceEq, Int.reduceLT, Int.reduceLE, Int.reduceAdd, Int.reduceToNat, Int.reduceNeg, Nat.reduceMul, Nat.reduceSub, Int.reduceBNe, Int.reduceBEq, jE, iT, jF, h0, h1, h40, h41, h42, hc7', hc6, m7, m8, bB, azc9, asz9, fI, Tryz.underlying9, Tryz.underlying53, List.length_cons, List.length_nil, List.set_cons_zero, attC, List.getElem?_cons_succ, List.getElem?_cons_zero]
          exact ⟨s6.n, rfl, hs7⟩
        · simp -implicitDefEqProofs only [go_sem, ↓aj, ↓ah, ak, Nat.reduceBEq, ↓reduceIte, reduceCtorEq, Nat.reduceEqDiff, Nat.reduceAdd, Nat.reduceLeDiff, Int.reduceEq, Int.reduceLT, Int.reduceLE, Int.reduceAdd, Int.reduceToNat, Int.reduceNeg, Nat.reduceMul, Nat.reduceSub, Int.reduceBNe, Int.reduceBEq, jE, iT, jF, h0, h1, h40, h41, h42, hc7, hc8, n7, n8, bB, azc9, asz9, fI, Tryz.underlying9, Tryz.underlying53, mX, bT, List.getElem?_cons_succ, List.getElem?_cons_zero]
          refine au.enter Tryz.func134 rfl (by kernel_rfl) (mG _ _ h b r a.pre dv n.dcls hR hI (rows [_, _]) hdl (Lg (ho2.new (.cells [.string ⟨#[]⟩] 9 true))) _ _ fun s6 hs6 => ?_)
          rw [hsp]
          have hs6' := JM hs6
          have hs7 := hs6'.set rfl (.cells [.string (tx S2)] 9 true) rfl
          have hc6 := hs6'.tail.tail.head
          unfold ndC at hc6
          have m7 : ¬ b7 = s4.n := n7
          have hc5' := hs6'.head
          have hc7' := hs6'.tail.head
          simp -implicitDefEqProofs only [go_sem, ↓aj, ↓ah, ak, Nat.reduceBEq, ↓reduceIte, reduceCtorEq, Nat.reduceEqDiff, Nat.reduceAdd, Nat.reduceLeDiff, Int.reduceEq, Int.reduceLT, Int.reduceLE, Int.reduceAdd, Int.reduceToNat, Int.reduceNeg, Nat.reduceMul, Nat.reduceSub, Int.reduceBNe, Int.reduceBEq, jE, iT, jF, h0, h1, h40, h41, h42, hc5', hc7', hc6, n7, n8, bB, azc9, asz9, fI, Tryz.underlying9, Tryz.underlying53, List.length_cons, List.length_nil, List.set_cons_zero, attC, List.getElem?_cons_succ, List.getElem?_cons_zero]
          exact ⟨s4.n, rfl, hs7⟩
      · rintro ρ5 s5 ⟨j0, j1, j40, j41, j42, j6, j7, j9, b8, j8, ho5⟩
        have hcN5 := ho5.tail.tail.head
        have hcA5 := ho5.tail.tail.tail.head
        have hc85 := ho5.head
        unfold ndC at hcN5
        have hsl : aslice Tryz.prog s5 52 (.slice (some ⟨ba, 0, some 0⟩) n.atts.length n.atts.length) none (some (.int .i64 (i : Nat))) none = some (.slice (some ⟨ba, 0, some 0⟩) i n.atts.length) := by
          have := qL (P := Tryz.prog) (st := s5) (off := 0) Tryz.underlying52 iP (mg hcA5 iP) (nS (len := n.atts.length) (cap := n.atts.length) (hi := i) (by omega))
          rw [Nat.zero_mul] at this
          exact this
        have hrwA : Rws ((b8, Ob.cells [.string (tx S2)] 9 true) :: (b7, .cells (attC a) 59 true) :: (bx, .cells (ndC { n with spc := S } kv (.slice (some ⟨ba, 0, some 0⟩) n.atts.length n.atts.length) dv) 55 true) :: ([(ba, .cells (eX (acc ++ a :: n.atts.drop (i + 1))) 59 true)] ++ (hd ++ (h ++ (hk1 ++ r0))))) (.slice (some ⟨ba, 0, some 0⟩) i n.atts.length) 4 (acc.map attC) :=
          .inr ⟨ba, 0, some 0, n.atts.length, eX (acc ++ a :: n.atts.drop (i + 1)), 59, true, by rw [List.length_map, hacc], List.mem_cons_of_mem _ (List.mem_cons_of_mem _ (List.mem_cons_of_mem _ (List.mem_cons_self ..))), fun j l hj => by
            rw [Nat.zero_add]
            show cut ((acc ++ a :: n.atts.drop (i + 1)).map attC).flatten (j * 4) 4 = some l
            refine kJ (ni _) ?_
            have hjl := (List.getElem?_eq_some_iff.1 hj).1
            rw [List.map_append, List.getElem?_append_left hjl]
            exact hj⟩
        simp -implicitDefEqProofs only [go_sem, ↓aj, ↓ah, ak, Nat.reduceBEq, ↓reduceIte, reduceCtorEq, Nat.reduceEqDiff, Nat.reduceAdd, Nat.reduceLeDiff, Int.reduceEq, Int.reduceLT, Int.reduceLE, Int.reduceAdd, Int.reduceToNat, Int.reduceNeg, Nat.reduceMul, Nat.reduceSub, Int.reduceBNe, Int.reduceBEq, j0, j1, j40, j41, j42, j6, j7, j8, j9, hcN5, dB, iO, Tryz.underlying52, hsl, List.getElem?_cons_succ, List.getElem?_cons_zero, List.map_toArray, List.map_cons, List.map_nil]
        refine au.enter Tryz.func135 rfl (by kernel_rfl) (C9 _ _ _ acc 136 [.pointer (some ⟨b7, 0, none⟩), .pointer (some ⟨b8, 0, none⟩)] (fun _ => True) (fun x => (decide (x.loc = a.loc) && decide (x.spc = S2)) && !decide (S2 = [])) (za _ b7 b8 a S2 (List.mem_cons_of_mem _ (List.mem_cons_self ..)) (List.mem_cons_self ..)) hrwA (fun _ _ => trivial) (by omega) ho5 _ _ fun s6 hs6 => ?_)
        generalize (acc.any fun x => (decide (x.loc = a.loc) && decide (x.spc = S2)) && !decide (S2 = [])) = tw at *
        have out3 : Own s6 r0 := hs6.tail.tail.tail.right.right.right.right
        cases ok2 with
        | false =>
          rw [Bool.false_and, if_neg (by decide)] at hR2
          rw [hR2] at hF
          simp -implicitDefEqProofs only [go_sem, ↓aj, ↓ah, ak, Nat.reduceBEq, ↓reduceIte, reduceCtorEq, Nat.reduceEqDiff, Nat.reduceAdd, Nat.reduceLeDiff, Int.reduceEq, Int.reduceLT, Int.reduceLE, Int.reduceAdd, Int.reduceToNat, Int.reduceNeg, Nat.reduceMul, Nat.reduceSub, Int.reduceBNe, Int.reduceBEq, j0, j1, j40, j41, j42, j6, j7, j8, j9, Bool.not_false]
          refine au.enter Tryz.func76 rfl (by kernel_rfl) (dX _ 31 _ _ ?_)
          exact hq 31 _ hF out3
        | true =>
        cases tw with
        | true =>
          rw [if_neg (by decide)] at hR2
          rw [hR2] at hF
          simp -implicitDefEqProofs only [go_sem, ↓aj, ↓ah, ak, Nat.reduceBEq, ↓reduceIte, reduceCtorEq, Nat.reduceEqDiff, Nat.reduceAdd, Nat.reduceLeDiff, Int.reduceEq, Int.reduceLT, Int.reduceLE, Int.reduceAdd, Int.reduceToNat, Int.reduceNeg, Nat.reduceMul, Nat.reduceSub, Int.reduceBNe, Int.reduceBEq, j0, j1, j40, j41, j42, j6, j7, j8, j9, Bool.not_true]
          refine au.enter Tryz.func76 rfl (by kernel_rfl) (dX _ 31 _ _ ?_)
          exact hq 31 _ hF out3
        | false =>
        rw [if_pos (by decide)] at hR2
        have hcN6 := hs6.tail.tail.head
        have hcA6 := hs6.tail.tail.tail.head
        have hc86 := hs6.head
        unfold ndC at hcN6
        have hfl : (eX (acc ++ a :: n.atts.drop (i + 1))).length = n.atts.length * 4 := by
          unfold eX
          rw [jH (ni _), List.length_map, List.length_append, hacc, List.length_cons, List.length_drop]
          congr 1
          omega
        have hle : i * 4 + 2 + 1 ≤ (eX (acc ++ a :: n.atts.drop (i + 1))).length := by rw [hfl]; omega
        have hfs : (eX (acc ++ a :: n.atts.drop (i + 1))).set (i * 4 + 2) (.string (tx S2)) = eX (acc ++ { a with spc := S2 } :: n.atts.drop (i + 1)) := by
          unfold eX
          rw [pX (ni _) _ hrow (by decide)]
          congr 1
          rw [List.map_append, List.set_append_right _ _ (by rw [List.length_map]; omega), List.length_map, hacc, Nat.sub_self, List.map_append]
          rfl
        simp -implicitDefEqProofs only [go_sem, ↓aj, ↓ah, ak, Nat.reduceBEq, ↓reduceIte, reduceCtorEq, Nat.reduceEqDiff, Nat.reduceAdd, Nat.reduceLeDiff, Int.reduceEq, Int.reduceLT, Int.reduceLE, Int.reduceAdd, Int.reduceToNat, Int.reduceNeg, Nat.reduceMul, Nat.reduceSub, Int.reduceBNe, Int.reduceBEq, j0, j1, j40, j41, j42, j6, j7, j8, j9, Bool.not_true]
        refine bG.of [(0, false, []), (1, false, []), (2, false, []), (3, false, []), (4, false, []), (5, false, []), (6, false, []), (7, false, []), (8, false, [])] [] [] (by kernel_rfl) ?_
        simp -implicitDefEqProofs only [go_sem, ↓aj, ↓ah, ak, Nat.reduceBEq, ↓reduceIte, reduceCtorEq, Nat.reduceEqDiff, Nat.reduceAdd, Nat.reduceLeDiff, Int.reduceEq, Int.reduceLT, Int.reduceLE, Int.reduceAdd, Int.reduceToNat, Int.reduceNeg, Nat.reduceMul, Nat.reduceSub, Int.reduceBNe, Int.reduceBEq, j0, j1, j40, j41, j42, j6, j7, j8, j9, hcN6, hcA6, hc86, dB, Ev, asz9, iP, iO, Tryz.underlying9, Tryz.underlying52, List.getElem?_cons_succ, List.getElem?_cons_zero, show (0 ≤ (i : Int)) = True by simp, Int.ofNat_lt, him, and_self, Int.toNat_natCast, hle, hfs, wi]
        have hcat2 : acc ++ { a with spc := S2 } :: n.atts.drop (i + 1) = (acc ++ [{ a with spc := S2 }]) ++ n.atts.drop (i + 1) := by simp
        have hs7 := (hs6.tail.tail.perm (List.Perm.swap _ _ _)).set rfl (.cells (eX (acc ++ { a with spc := S2 } :: n.atts.drop (i + 1))) 59 true) rfl
        refine ⟨n.atts.length - (i + 1), by omega, i + 1, acc ++ [{ a with spc := S2 }], [(ba, .cells (eX (acc ++ { a with spc := S2 } :: n.atts.drop (i + 1))) 59 true)], rfl, by omega, by simp [hacc], hR2, ?_, rfl, hs7.perm (List.Perm.swap _ _ _)⟩
        rw [← hcat2]
        exact .inr ⟨ba, rfl, rfl, by rw [← hfs, List.length_set, hfl]⟩
end Go.Proofs.YtigjbehgfjjlkaaGreatDoor
set_option linter.unusedVariables false
set_option linter.unusedSimpArgs false
namespace Go.Proofs.YtigjbehgfjjlkaaGreatDoor
open Go Go.Abs Go.RowKit Go.Xml
variable {base : Nat} {w0 : World} {G : Nat}
theorem fG {s nm s' : Tx} (h : dF s = .ok (nm, s')) : nm.length ≤ s.length ∧ s'.length ≤ s.length := by
  unfold dF at h
  split at h
  · injection h with h
    simp only [Prod.mk.injEq] at h
    obtain ⟨rfl, rfl⟩ := h
    exact ⟨by rw [List.length_take]; omega, by rw [List.length_drop]; omega⟩
  · cases h
theorem qW (qs : Tx) : ∀ (f : Nat) {out s v s' : Tx}, gU qs f out s = .ok (v, s') → s'.length ≤ s.length
  | 0, out, s, v, s', h => by cases h
  | f + 1, out, s, v, s', h => by
    unfold gU at h
    split at h
    · split at h
      · split at h
        · rename_i t s2 hr
          have := qW qs f h
          have h2 := (mD hr).2
          rw [List.length_drop] at h2
          omega
        · cases h
      · injection h with h
        simp only [Prod.mk.injEq] at h
        obtain ⟨_, rfl⟩ := h
        rw [List.length_drop]; omega
    · cases h
theorem qX {s v s' : Tx} (h : jC s = .ok (v, s')) : s'.length ≤ s.length := by
  unfold jC at h
  split at h
  · exact Nat.le_trans (qW _ _ h) (bD _ _)
  split at h
  · exact Nat.le_trans (qW _ _ h) (bD _ _)
  · cases h
theorem rT (nm v : Tx) (n : Nd) : (bE nm v n).kids = n.kids ∧ (bE nm v n).atts.length ≤ n.atts.length + 1 ∧ (bE nm v n).dcls.length ≤ n.dcls.length + 1 := by
  unfold bE
  split
  · simp
  split
  · split <;> simp
  · simp
def wV (l : List Tx) : List Value := l.map fun s => .string (tx s)
theorem Ku {st : St} {e f : Nat × Ob} {m a d r : Hp} (ho : Own st (e :: f :: (m ++ (a ++ (d ++ r))))) : Own st (a ++ (e :: f :: (m ++ (d ++ r)))) :=
  ho.perm (by simpa using bR [[e], [f], m, a, d, r] [0, 1, 2, 3, 4, 5] [3, 0, 1, 2, 4, 5] rfl)
theorem Ie {st : St} {e f : Nat × Ob} {m a d r : Hp} (ho : Own st (a ++ (e :: f :: (m ++ (d ++ r))))) : Own st (f :: e :: (m ++ (a ++ (d ++ r)))) :=
  ho.perm (by simpa using bR [[e], [f], m, a, d, r] [3, 0, 1, 2, 4, 5] [1, 0, 2, 3, 4, 5] rfl)
theorem Kv {st : St} {e f : Nat × Ob} {m a d r : Hp} (ho : Own st (e :: f :: (m ++ (a ++ (d ++ r))))) : Own st (d ++ (e :: f :: (m ++ (a ++ r)))) :=
  ho.perm (by simpa using bR [[e], [f], m, a, d, r] [0, 1, 2, 3, 4, 5] [4, 0, 1, 2, 3, 5] rfl)
theorem Ig {st : St} {e f : Nat × Ob} {m a d r : Hp} (ho : Own st (d ++ (e :: f :: (m ++ (a ++ r))))) : Own st (f :: e :: (m ++ (a ++ (d ++ r)))) :=
  ho.perm (by simpa using bR [[e], [f], m, a, d, r] [4, 0, 1, 2, 3, 5] [1, 0, 2, 3, 4, 5] rfl)
theorem uO (l : List Att) (a : Att) : eX (l ++ [a]) = eX l ++ attC a := by simp [eX]
theorem uP (l : List Dcl) (a : Dcl) : rR (l ++ [a]) = rR l ++ dclC a := by simp [rR]
theorem Dl (l : List Tx) (a : Tx) : wV (l ++ [a]) = wV l ++ [.string (tx a)] := by simp [wV]
set_option maxRecDepth 10000 in
theorem A9 (st : St) (r0 : Hp) (b bx : Nat) (s : Tx) (n : Nd) (nv kv nk : Value) (d : Bool) (hM : eG w0) (hT : dw w0) (hl : s.length ≤ 1000000) (hn1 : n.atts = []) (hn2 : n.dcls = [])
    (hO : Own st ((b, .cells (rdC s nv kv d) 76 true) :: (bx, .cells (ndC n nk (.slice none 0 0) (.slice none 0 0)) 55 true) :: r0)) (k q : Value → St → Prop)
    (hk : ∀ nms n' s' nmv av dv hm ha hd st', bC (s.length + 1) [] n s = .ok (nms, n', s') → n'.kids = n.kids → nms.length + s'.length ≤ 1000000 → n'.atts.length ≤ nms.length → n'.dcls.length ≤ nms.length → GV nmv (wV nms) nms.length 1 9 hm → GV av (eX n'.atts) n'.atts.length 4 59 ha → GV dv (rR n'.dcls) n'.dcls.length 2 61 hd →
      Own st' ((b, .cells (rdC s' nv kv d) 76 true) :: (bx, .cells (ndC n' nk av dv) 55 true) :: (hm ++ (ha ++ (hd ++ r0)))) → k nmv st')
    (hq : ∀ e st', bC (s.length + 1) [] n s = .error e → Own st' r0 → q (fV e) st') : ay (C base w0 3) 105 [.pointer (some ⟨b, 0, none⟩), .pointer (some ⟨bx, 0, none⟩)] st k q := by
  refine ay.of (cx := C base w0 3) mixed Tryz.func105 rfl (by kernel_rfl) (by simp [Tryz.ntmps105]) ?_
  simp only [Tryz.results105]
  have e47 : (⟨#[47]⟩ : ByteArray) = tx [47] := rfl
  have e62 : (⟨#[62]⟩ : ByteArray) = tx [62] := rfl
  have e58 : (⟨#[58]⟩ : ByteArray) = tx [58] := rfl
  have ex : (⟨#[120, 109, 108, 110, 115]⟩ : ByteArray) = tx [120, 109, 108, 110, 115] := rfl
  have e0 : (⟨#[]⟩ : ByteArray) = tx [] := rfl
  simp -implicitDefEqProofs only [go_sem, ↓aj, ↓ah, ak, Nat.reduceBEq, ↓reduceIte, reduceCtorEq, Nat.reduceEqDiff, Nat.reduceAdd, Nat.reduceLeDiff, Int.reduceEq, Int.reduceLT, Int.reduceLE, Int.reduceAdd, Int.reduceToNat, Int.reduceNeg, Nat.reduceMul, Nat.reduceSub, Int.reduceBNe, Int.reduceBEq]
  refine ⟨fun m ρ st' => ∃ (f : Nat) (nms : List Tx) (n' : Nd) (s' : Tx) (nmv av dv : Value) (hm ha hd : Hp), m = s'.length ∧ s'.length < f ∧ bC (s.length + 1) [] n s = bC f nms n' s' ∧ n'.kids = n.kids ∧ nms.length + s'.length ≤ 1000000 ∧ n'.atts.length ≤ nms.length ∧ n'.dcls.length ≤ nms.length ∧
      GV nmv (wV nms) nms.length 1 9 hm ∧ GV av (eX n'.atts) n'.atts.length 4 59 ha ∧ GV dv (rR n'.dcls) n'.dcls.length 2 61 hd ∧ ρ 0 = .pointer (some ⟨b, 0, none⟩) ∧ ρ 1 = .pointer (some ⟨bx, 0, none⟩) ∧ ρ 5 = nmv ∧
      Own st' ((b, .cells (rdC s' nv kv d) 76 true) :: (bx, .cells (ndC n' nk av dv) 55 true) :: (hm ++ (ha ++ (hd ++ r0)))),
    ⟨_, s.length + 1, [], n, s, _, _, _, [], [], [], rfl, Nat.lt_succ_self _, rfl, rfl, by simpa using hl, by rw [hn1]; exact Nat.le_refl _, by rw [hn2]; exact Nat.le_refl _, .nil, by rw [hn1]; exact .nil, by rw [hn2]; exact .nil, rfl, rfl, rfl, hO⟩, ?_⟩
  rintro _ ρ st1 ⟨f, nms, n', s', nmv, av, dv, hm, ha, hd, rfl, hf, hR, hkd, hb, hb1, hb2, gm, ga, gd, h0, h1, h5, ho⟩
  obtain ⟨f', rfl⟩ : ∃ f', f = f' + 1 := ⟨f - 1, by omega⟩
  have hR1 : bC (f' + 1) nms n' s' = if (aD s').1 && !(([47] : Tx).isPrefixOf (aD s').2) && !(([62] : Tx).isPrefixOf (aD s').2) then
      match dF (aD s').2 with
      | .error e => .error e
      | .ok (nm, s1) => match eqF s1 with
        | .error e => .error e
        | .ok s2 => match jC s2 with
          | .error e => .error e
          | .ok (v, s3) => bC f' (nms ++ [nm]) (bE nm v n') s3
    else .ok (nms, n', (aD s').2) := rfl
  rw [hR1] at hR
  clear hR1
  simp -implicitDefEqProofs only [go_sem, ↓aj, ↓ah, ak, Nat.reduceBEq, ↓reduceIte, reduceCtorEq, Nat.reduceEqDiff, Nat.reduceAdd, Nat.reduceLeDiff, Int.reduceEq, Int.reduceLT, Int.reduceLE, Int.reduceAdd, Int.reduceToNat, Int.reduceNeg, Nat.reduceMul, Nat.reduceSub, Int.reduceBNe, Int.reduceBEq, h0, h1, h5]
  refine au.enter Tryz.func74 rfl (by kernel_rfl) (gy st1 _ b s' nv kv d ho _ _ fun st2 hs2 => ?_)
  have hsk1 : (aD s').1 = decide ((aD s').2.length < s'.length) := rfl
  have hskl := gZ s'
  generalize (aD s').2 = t at *
  generalize (aD s').1 = b1 at *
  have hc2 := hs2.head
  unfold rdC at hc2
  have fin : ∀ st3, (b1 && !(([47] : Tx).isPrefixOf t) && !(([62] : Tx).isPrefixOf t)) = false → Own st3 ((b, .cells (rdC t nv kv d) 76 true) :: (bx, .cells (ndC n' nk av dv) 55 true) :: (hm ++ (ha ++ (hd ++ r0)))) → k nmv st3 := fun st3 e h3 => by
    rw [if_neg (by rw [e]; decide)] at hR
    exact hk nms n' t nmv av dv hm ha hd st3 hR hkd (by omega) hb1 hb2 gm ga gd h3
  cases b1 with
  | false =>
    simp -implicitDefEqProofs only [go_sem, ↓aj, ↓ah, ak, Nat.reduceBEq, ↓reduceIte, reduceCtorEq, Nat.reduceEqDiff, Nat.reduceAdd, Nat.reduceLeDiff, Int.reduceEq, Int.reduceLT, Int.reduceLE, Int.reduceAdd, Int.reduceToNat, Int.reduceNeg, Nat.reduceMul, Nat.reduceSub, Int.reduceBNe, Int.reduceBEq, h0, h1, h5]
    exact fin _ rfl hs2
  | true =>
  simp -implicitDefEqProofs only [go_sem, ↓aj, ↓ah, ak, Nat.reduceBEq, ↓reduceIte, reduceCtorEq, Nat.reduceEqDiff, Nat.reduceAdd, Nat.reduceLeDiff, Int.reduceEq, Int.reduceLT, Int.reduceLE, Int.reduceAdd, Int.reduceToNat, Int.reduceNeg, Nat.reduceMul, Nat.reduceSub, Int.reduceBNe, Int.reduceBEq, h0, h1, h5, hc2, aK, asz9, Tryz.underlying9, e47]
  refine mo t [47] _ _ ?_
  cases p47 : ([47] : Tx).isPrefixOf t with
  | true =>
    simp -implicitDefEqProofs only [go_sem, ↓aj, ↓ah, ak, Nat.reduceBEq, ↓reduceIte, reduceCtorEq, Nat.reduceEqDiff, Nat.reduceAdd, Nat.reduceLeDiff, Int.reduceEq, Int.reduceLT, Int.reduceLE, Int.reduceAdd, Int.reduceToNat, Int.reduceNeg, Nat.reduceMul, Nat.reduceSub, Int.reduceBNe, Int.reduceBEq, h0, h1, h5, Bool.not_true]
    exact fin _ (by rw [p47]; rfl) hs2
  | false =>
  simp -implicitDefEqProofs only [go_sem, ↓aj, ↓ah, ak, Nat.reduceBEq, ↓reduceIte, reduceCtorEq, Nat.reduceEqDiff, Nat.reduceAdd, Nat.reduceLeDiff, Int.reduceEq, Int.reduceLT, Int.reduceLE, Int.reduceAdd, Int.reduceToNat, Int.reduceNeg, Nat.reduceMul, Nat.reduceSub, Int.reduceBNe, Int.reduceBEq, h0, h1, h5, Bool.not_false, hc2, aK, asz9, Tryz.underlying9, e62]
  refine mo t [62] _ _ ?_
  cases p62 : ([62] : Tx).isPrefixOf t with
  | true =>
    simp -implicitDefEqProofs only [go_sem, ↓aj, ↓ah, ak, Nat.reduceBEq, ↓reduceIte, reduceCtorEq, Nat.reduceEqDiff, Nat.reduceAdd, Nat.reduceLeDiff, Int.reduceEq, Int.reduceLT, Int.reduceLE, Int.reduceAdd, Int.reduceToNat, Int.reduceNeg, Nat.reduceMul, Nat.reduceSub, Int.reduceBNe, Int.reduceBEq, h0, h1, h5, Bool.not_true]
    exact fin _ (by rw [p47, p62]; rfl) hs2
  | false =>
  rw [p47, p62, if_pos (by decide)] at hR
  have hlt : t.length < s'.length := by simpa using hsk1
  simp -implicitDefEqProofs only [go_sem, ↓aj, ↓ah, ak, Nat.reduceBEq, ↓reduceIte, reduceCtorEq, Nat.reduceEqDiff, Nat.reduceAdd, Nat.reduceLeDiff, Int.reduceEq, Int.reduceLT, Int.reduceLE, Int.reduceAdd, Int.reduceToNat, Int.reduceNeg, Nat.reduceMul, Nat.reduceSub, Int.reduceBNe, Int.reduceBEq, h0, h1, h5, Bool.not_false]
  have out : ∀ {st3 : St}, Own st3 ((bx, .cells (ndC n' nk av dv) 55 true) :: (hm ++ (ha ++ (hd ++ r0)))) → Own st3 r0 := fun h => h.tail.right.right.right
  refine au.enter Tryz.func104 rfl (by kernel_rfl) (lC st2 _ b t nv kv d hM hT (by omega) hs2 _ _ (fun nm s1 st3 he1 hs3 => ?_) (fun e st3 he1 hs3 => ?_))
  rotate_left
  · rw [he1] at hR
    exact hq e _ hR (out hs3)
  rw [he1] at hR
  dsimp only at hR
  obtain ⟨l1, l2⟩ := fG he1
  simp -implicitDefEqProofs only [go_sem, ↓aj, ↓ah, ak, Nat.reduceBEq, ↓reduceIte, reduceCtorEq, Nat.reduceEqDiff, Nat.reduceAdd, Nat.reduceLeDiff, Int.reduceEq, Int.reduceLT, Int.reduceLE, Int.reduceAdd, Int.reduceToNat, Int.reduceNeg, Nat.reduceMul, Nat.reduceSub, Int.reduceBNe, Int.reduceBEq, h0, h1, h5]
  refine au.enter Tryz.func98 rfl (by kernel_rfl) (pQ st3 _ b s1 nv kv d hs3 _ _ (fun s2 st4 he2 hs4 => ?_) (fun e st4 he2 hs4 => ?_))
  rotate_left
  · rw [he2] at hR
    exact hq e _ hR (out hs4)
  rw [he2] at hR
  dsimp only at hR
  have l3 := pW he2
  simp -implicitDefEqProofs only [go_sem, ↓aj, ↓ah, ak, Nat.reduceBEq, ↓reduceIte, reduceCtorEq, Nat.reduceEqDiff, Nat.reduceAdd, Nat.reduceLeDiff, Int.reduceEq, Int.reduceLT, Int.reduceLE, Int.reduceAdd, Int.reduceToNat, Int.reduceNeg, Nat.reduceMul, Nat.reduceSub, Int.reduceBNe, Int.reduceBEq, h0, h1, h5]
  refine au.enter Tryz.func129 rfl (by kernel_rfl) (y8 st4 _ b s2 nv kv d hT (by omega) hs4 _ _ (fun v s3 st5 he3 hs5 => ?_) (fun e st5 he3 hs5 => ?_))
  rotate_left
  · rw [he3] at hR
    exact hq e _ hR (out hs5)
  rw [he3] at hR
  dsimp only at hR
  have l4 := qX he3
  have hps := rT nm v n'
  simp -implicitDefEqProofs only [go_sem, ↓aj, ↓ah, ak, Nat.reduceBEq, ↓reduceIte, reduceCtorEq, Nat.reduceEqDiff, Nat.reduceAdd, Nat.reduceLeDiff, Int.reduceEq, Int.reduceLT, Int.reduceLE, Int.reduceAdd, Int.reduceToNat, Int.reduceNeg, Nat.reduceMul, Nat.reduceSub, Int.reduceBNe, Int.reduceBEq, h0, h1, h5, aI (st := st5) (v := .string (tx nm)) Tryz.underlying126 asz9 azc9 rfl rfl rfl (by decide)]
  refine GV.fC (t := 126) (t' := 126) (c := [.string (tx nm)]) Tryz.underlying126 (by rw [Tryz.underlying126]; rfl) asz9 azc9 aby9 gm (qU hs5) rfl rfl (by omega) fun nmv' hm' st6 gm' hs6 => ?_
  have hs6' := uN hs6
  have gm6 : GV nmv' (wV (nms ++ [nm])) (nms ++ [nm]).length 1 9 hm' := by rw [Dl, List.length_append]; exact gm'
  have hcx6 := hs6'.tail.head
  unfold ndC at hcx6
  simp -implicitDefEqProofs only [go_sem, ↓aj, ↓ah, ak, Nat.reduceBEq, ↓reduceIte, reduceCtorEq, Nat.reduceEqDiff, Nat.reduceAdd, Nat.reduceLeDiff, Int.reduceEq, Int.reduceLT, Int.reduceLE, Int.reduceAdd, Int.reduceToNat, Int.reduceNeg, Nat.reduceMul, Nat.reduceSub, Int.reduceBNe, Int.reduceBEq, h0, h1, h5, e58]
  refine pI nm [58] hM (by omega) _ _ ?_
  unfold cutV
  by_cases c1 : nm = [120, 109, 108, 110, 115]
  · simp -implicitDefEqProofs only [go_sem, ↓aj, ↓ah, ak, Nat.reduceBEq, ↓reduceIte, reduceCtorEq, Nat.reduceEqDiff, Nat.reduceAdd, Nat.reduceLeDiff, Int.reduceEq, Int.reduceLT, Int.reduceLE, Int.reduceAdd, Int.reduceToNat, Int.reduceNeg, Nat.reduceMul, Nat.reduceSub, Int.reduceBNe, Int.reduceBEq, h0, h1, ex, aA, decide_eq_true c1]
    have hput : bE nm v n' = { n' with dcls := n'.dcls ++ [⟨[], v⟩] } := by unfold bE; rw [if_pos c1]
    rw [hput] at hR hps
    simp -implicitDefEqProofs only [go_sem, ↓aj, ↓ah, ak, Nat.reduceBEq, ↓reduceIte, reduceCtorEq, Nat.reduceEqDiff, Nat.reduceAdd, Nat.reduceLeDiff, Int.reduceEq, Int.reduceLT, Int.reduceLE, Int.reduceAdd, Int.reduceToNat, Int.reduceNeg, Nat.reduceMul, Nat.reduceSub, Int.reduceBNe, Int.reduceBEq, h0, h1, e0, hcx6, bT, fI, Tryz.underlying53, nI, Kr, jA, Tryz.underlying61, List.length_cons, List.length_nil, List.set_cons_zero, List.set_cons_succ, List.getElem?_cons_zero, List.getElem?_cons_succ, Option.map_some, List.getElem?_toArray, aI (st := st6) (v := .agg #[.string (tx []), .string (tx v)]) Tryz.underlying53 jA nI rfl rfl rfl (by decide)]
    refine GV.fC (t := 53) (t' := 53) (c := dclC ⟨[], v⟩) Tryz.underlying53 (by rw [Tryz.underlying53]; rfl) jA nI Kq gd (Kv hs6') rfl rfl (by omega) fun v' h' st7 g' hs7 => ?_
    obtain ⟨av', rfl⟩ := g'.isSlice
    have hs7' := Ig hs7
    have hcx7 := hs7'.head
    have hs8 := hs7'.set rfl (.cells (ndC ({ n' with dcls := n'.dcls ++ [⟨[], v⟩] }) nk av (.slice av' (n'.dcls.length + 1) (n'.dcls.length + 1))) 55 true) rfl
    unfold ndC at hcx7
    simp -implicitDefEqProofs only [go_sem, ↓aj, ↓ah, ak, Nat.reduceBEq, ↓reduceIte, reduceCtorEq, Nat.reduceEqDiff, Nat.reduceAdd, Nat.reduceLeDiff, Int.reduceEq, Int.reduceLT, Int.reduceLE, Int.reduceAdd, Int.reduceToNat, Int.reduceNeg, Nat.reduceMul, Nat.reduceSub, Int.reduceBNe, Int.reduceBEq, h0, h1, e0, hcx7, bT, fI, Tryz.underlying53, List.length_cons, List.length_nil, List.set_cons_zero, List.set_cons_succ]
    exact ⟨s3.length, by omega, f', nms ++ [nm], _, s3, nmv', av, .slice av' (n'.dcls.length + 1) (n'.dcls.length + 1), hm', ha, h', rfl, by omega, hR, hps.1.trans hkd, by rw [List.length_append, List.length_singleton]; omega, Nat.le_trans hps.2.1 (by rw [List.length_append, List.length_singleton]; omega), Nat.le_trans hps.2.2 (by rw [List.length_append, List.length_singleton]; omega), gm6, ga, by rw [uP, List.length_append]; exact g', rfl, hs8.perm (List.Perm.swap _ _ _)⟩
  generalize hp1 : (Lib.cut nm [58]).1 = pr at *
  generalize hp2 : (Lib.cut nm [58]).2.1 = lo at *
  cases hp3 : (Lib.cut nm [58]).2.2 with
  | false =>
    simp -implicitDefEqProofs only [go_sem, ↓aj, ↓ah, ak, Nat.reduceBEq, ↓reduceIte, reduceCtorEq, Nat.reduceEqDiff, Nat.reduceAdd, Nat.reduceLeDiff, Int.reduceEq, Int.reduceLT, Int.reduceLE, Int.reduceAdd, Int.reduceToNat, Int.reduceNeg, Nat.reduceMul, Nat.reduceSub, Int.reduceBNe, Int.reduceBEq, h0, h1, ex, aA, decide_eq_false c1]
    have hput : bE nm v n' = { n' with atts := n'.atts ++ [⟨[], nm, [], v⟩] } := by unfold bE; rw [if_neg c1, hp3, if_neg (by decide)]
    rw [hput] at hR hps
    simp -implicitDefEqProofs only [go_sem, ↓aj, ↓ah, ak, Nat.reduceBEq, ↓reduceIte, reduceCtorEq, Nat.reduceEqDiff, Nat.reduceAdd, Nat.reduceLeDiff, Int.reduceEq, Int.reduceLT, Int.reduceLE, Int.reduceAdd, Int.reduceToNat, Int.reduceNeg, Nat.reduceMul, Nat.reduceSub, Int.reduceBNe, Int.reduceBEq, h0, h1, e0, hcx6, dB, iO, Tryz.underlying52, pz, Ko, iP, Tryz.underlying59, List.length_cons, List.length_nil, List.set_cons_zero, List.set_cons_succ, List.getElem?_cons_zero, List.getElem?_cons_succ, Option.map_some, List.getElem?_toArray, aI (st := st6) (v := .agg #[.string (tx []), .string (tx nm), .string (tx []), .string (tx v)]) Tryz.underlying52 iP pz rfl rfl rfl (by decide)]
    refine GV.fC (t := 52) (t' := 52) (c := attC ⟨[], nm, [], v⟩) Tryz.underlying52 (by rw [Tryz.underlying52]; rfl) iP pz Kn ga (Ku hs6') rfl rfl (by omega) fun v' h' st7 g' hs7 => ?_
    obtain ⟨av', rfl⟩ := g'.isSlice
    have hs7' := Ie hs7
    have hcx7 := hs7'.head
    have hs8 := hs7'.set rfl (.cells (ndC ({ n' with atts := n'.atts ++ [⟨[], nm, [], v⟩] }) nk (.slice av' (n'.atts.length + 1) (n'.atts.length + 1)) dv) 55 true) rfl
    unfold ndC at hcx7
    simp -implicitDefEqProofs only [go_sem, ↓aj, ↓ah, ak, Nat.reduceBEq, ↓reduceIte, reduceCtorEq, Nat.reduceEqDiff, Nat.reduceAdd, Nat.reduceLeDiff, Int.reduceEq, Int.reduceLT, Int.reduceLE, Int.reduceAdd, Int.reduceToNat, Int.reduceNeg, Nat.reduceMul, Nat.reduceSub, Int.reduceBNe, Int.reduceBEq, h0, h1, e0, hcx7, dB, iO, Tryz.underlying52, List.length_cons, List.length_nil, List.set_cons_zero, List.set_cons_succ]
    exact ⟨s3.length, by omega, f', nms ++ [nm], _, s3, nmv', .slice av' (n'.atts.length + 1) (n'.atts.length + 1), dv, hm', h', hd, rfl, by omega, hR, hps.1.trans hkd, by rw [List.length_append, List.length_singleton]; omega, Nat.le_trans hps.2.1 (by rw [List.length_append, List.length_singleton]; omega), Nat.le_trans hps.2.2 (by rw [List.length_append, List.length_singleton]; omega), gm6, by rw [uO, List.length_append]; exact g', gd, rfl, hs8.perm (List.Perm.swap _ _ _)⟩
  | true =>
    by_cases c2 : pr = [120, 109, 108, 110, 115]
    · simp -implicitDefEqProofs only [go_sem, ↓aj, ↓ah, ak, Nat.reduceBEq, ↓reduceIte, reduceCtorEq, Nat.reduceEqDiff, Nat.reduceAdd, Nat.reduceLeDiff, Int.reduceEq, Int.reduceLT, Int.reduceLE, Int.reduceAdd, Int.reduceToNat, Int.reduceNeg, Nat.reduceMul, Nat.reduceSub, Int.reduceBNe, Int.reduceBEq, h0, h1, ex, aA, decide_eq_false c1, decide_eq_true c2]
      have hput : bE nm v n' = { n' with dcls := n'.dcls ++ [⟨lo, v⟩] } := by unfold bE; rw [if_neg c1, hp3, if_pos rfl, hp1, if_pos c2, hp2]
      rw [hput] at hR hps
      simp -implicitDefEqProofs only [go_sem, ↓aj, ↓ah, ak, Nat.reduceBEq, ↓reduceIte, reduceCtorEq, Nat.reduceEqDiff, Nat.reduceAdd, Nat.reduceLeDiff, Int.reduceEq, Int.reduceLT, Int.reduceLE, Int.reduceAdd, Int.reduceToNat, Int.reduceNeg, Nat.reduceMul, Nat.reduceSub, Int.reduceBNe, Int.reduceBEq, h0, h1, e0, hcx6, bT, fI, Tryz.underlying53, nI, Kr, jA, Tryz.underlying61, List.length_cons, List.length_nil, List.set_cons_zero, List.set_cons_succ, List.getElem?_cons_zero, List.getElem?_cons_succ, Option.map_some, List.getElem?_toArray, aI (st := st6) (v := .agg #[.string (tx lo), .string (tx v)]) Tryz.underlying53 jA nI rfl rfl rfl (by decide)]
      refine GV.fC (t := 53) (t' := 53) (c := dclC ⟨lo, v⟩) Tryz.underlying53 (by rw [Tryz.underlying53]; rfl) jA nI Kq gd (Kv hs6') rfl rfl (by omega) fun v' h' st7 g' hs7 => ?_
      obtain ⟨av', rfl⟩ := g'.isSlice
      have hs7' := Ig hs7
      have hcx7 := hs7'.head
      have hs8 := hs7'.set rfl (.cells (ndC ({ n' with dcls := n'.dcls ++ [⟨lo, v⟩] }) nk av (.slice av' (n'.dcls.length + 1) (n'.dcls.length + 1))) 55 true) rfl
      unfold ndC at hcx7
      simp -implicitDefEqProofs only [go_sem, ↓aj, ↓ah, ak, Nat.reduceBEq, ↓reduceIte, reduceCtorEq, Nat.reduceEqDiff, Nat.reduceAdd, Nat.reduceLeDiff, Int.reduceEq, Int.reduceLT, Int.reduceLE, Int.reduceAdd, Int.reduceToNat, Int.reduceNeg, Nat.reduceMul, Nat.reduceSub, Int.reduceBNe, Int.reduceBEq, h0, h1, e0, hcx7, bT, fI, Tryz.underlying53, List.length_cons, List.length_nil, List.set_cons_zero, List.set_cons_succ]
      exact ⟨s3.length, by omega, f', nms ++ [nm], _, s3, nmv', av, .slice av' (n'.dcls.length + 1) (n'.dcls.length + 1), hm', ha, h', rfl, by omega, hR, hps.1.trans hkd, by rw [List.length_append, List.length_singleton]; omega, Nat.le_trans hps.2.1 (by rw [List.length_append, List.length_singleton]; omega), Nat.le_trans hps.2.2 (by rw [List.length_append, List.length_singleton]; omega), gm6, ga, by rw [uP, List.length_append]; exact g', rfl, hs8.perm (List.Perm.swap _ _ _)⟩
    · simp -implicitDefEqProofs only [go_sem, ↓aj, ↓ah, ak, Nat.reduceBEq, ↓reduceIte, reduceCtorEq, Nat.reduceEqDiff, Nat.reduceAdd, Nat.reduceLeDiff, Int.reduceEq, Int.reduceLT, Int.reduceLE, Int.reduceAdd, Int.reduceToNat, Int.reduceNeg, Nat.reduceMul, Nat.reduceSub, Int.reduceBNe, Int.reduceBEq, h0, h1, ex, aA, decide_eq_false c1, decide_eq_false c2]
      have hput : bE nm v n' = { n' with atts := n'.atts ++ [⟨pr, lo, [], v⟩] } := by unfold bE; rw [if_neg c1, hp3, if_pos rfl, hp1, if_neg c2, hp2]
      rw [hput] at hR hps
      simp -implicitDefEqProofs only [go_sem, ↓aj, ↓ah, ak, Nat.reduceBEq, ↓reduceIte, reduceCtorEq, Nat.reduceEqDiff, Nat.reduceAdd, Nat.reduceLeDiff, Int.reduceEq, Int.reduceLT, Int.reduceLE, Int.reduceAdd, Int.reduceToNat, Int.reduceNeg, Nat.reduceMul, Nat.reduceSub, Int.reduceBNe, Int.reduceBEq, h0, h1, e0, hcx6, dB, iO, Tryz.underlying52, pz, Ko, iP, Tryz.underlying59, List.length_cons, List.length_nil, List.set_cons_zero, List.set_cons_succ, List.getElem?_cons_zero, List.getElem?_cons_succ, Option.map_some, List.getElem?_toArray, aI (st := st6) (v := .agg #[.string (tx pr), .string (tx lo), .string (tx []), .string (tx v)]) Tryz.underlying52 iP pz rfl rfl rfl (by decide)]
      refine GV.fC (t := 52) (t' := 52) (c := attC ⟨pr, lo, [], v⟩) Tryz.underlying52 (by rw [Tryz.underlying52]; rfl) iP pz Kn ga (Ku hs6') rfl rfl (by omega) fun v' h' st7 g' hs7 => ?_
      obtain ⟨av', rfl⟩ := g'.isSlice
      have hs7' := Ie hs7
      have hcx7 := hs7'.head
      have hs8 := hs7'.set rfl (.cells (ndC ({ n' with atts := n'.atts ++ [⟨pr, lo, [], v⟩] }) nk (.slice av' (n'.atts.length + 1) (n'.atts.length + 1)) dv) 55 true) rfl
      unfold ndC at hcx7
      simp -implicitDefEqProofs only [go_sem, ↓aj, ↓ah, ak, Nat.reduceBEq, ↓reduceIte, reduceCtorEq, Nat.reduceEqDiff, Nat.reduceAdd, Nat.reduceLeDiff, Int.reduceEq, Int.reduceLT, Int.reduceLE, Int.reduceAdd, Int.reduceToNat, Int.reduceNeg, Nat.reduceMul, Nat.reduceSub, Int.reduceBNe, Int.reduceBEq, h0, h1, e0, hcx7, dB, iO, Tryz.underlying52, List.length_cons, List.length_nil, List.set_cons_zero, List.set_cons_succ]
      exact ⟨s3.length, by omega, f', nms ++ [nm], _, s3, nmv', .slice av' (n'.atts.length + 1) (n'.atts.length + 1), dv, hm', h', hd, rfl, by omega, hR, hps.1.trans hkd, by rw [List.length_append, List.length_singleton]; omega, Nat.le_trans hps.2.1 (by rw [List.length_append, List.length_singleton]; omega), Nat.le_trans hps.2.2 (by rw [List.length_append, List.length_singleton]; omega), gm6, by rw [uO, List.length_append]; exact g', gd, rfl, hs8.perm (List.Perm.swap _ _ _)⟩
end Go.Proofs.YtigjbehgfjjlkaaGreatDoor
