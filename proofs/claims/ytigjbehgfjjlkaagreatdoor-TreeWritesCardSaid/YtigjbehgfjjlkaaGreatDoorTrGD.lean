/- Texts turned, as the reference says it (lanyardref03.Turned). No conditions. -/
import Derived.Test.YtigjbehgfjjlkaaGreatDoorTrGB
import Derived.Test.YtigjbehgfjjlkaaGreatDoorTrGC
set_option linter.unusedVariables false
set_option linter.unusedSimpArgs false
namespace Go.Proofs.YtigjbehgfjjlkaaGreatDoor
open Go Go.Abs Go.RowKit Go.Xml
variable {base : Nat} {w0 : World} {G : Nat}
set_option maxRecDepth 10000 in
theorem iR (st : St) (r : Hp) (s : Tx) (how : Int) (f : UInt8 → Tx) (hf : (how = 1 ∧ f = attE) ∨ (how = 2 ∧ f = texE)) (hl : s.length ≤ 1000000000) (hO : Own st r) (k q : Value → St → Prop) (hk : ∀ st', Own st' r → k (.string (tx (dI f s))) st') : ay (C base w0 G) 32 [.string (tx s), .int .i64 how] st k q := by
  have h6 : ∀ c, (f c).length ≤ 6 := by rcases hf with ⟨_, rfl⟩ | ⟨_, rfl⟩ <;> first | exact fF | exact kX
  refine ay.of (cx := C base w0 G) mixed Tryz.func32 rfl (by kernel_rfl) (by simp [Tryz.ntmps32]) ?_
  simp only [Tryz.results32]
  simp -implicitDefEqProofs only [go_sem, ↓aj, ↓ah, ak, Nat.reduceBEq, ↓reduceIte, reduceCtorEq, Nat.reduceEqDiff, Nat.reduceAdd, Nat.reduceLeDiff, Int.reduceEq, Int.reduceLT, Int.reduceLE, Int.reduceAdd, Int.reduceToNat, Int.reduceNeg, Nat.reduceMul, Nat.reduceSub, Int.reduceBNe, Int.reduceBEq]
  refine ⟨fun m ρ s' => ∃ i : Nat, m = s.length - i ∧ i ≤ s.length ∧ ρ 0 = .string (tx s) ∧ ρ 1 = .int .i64 how ∧ ρ 5 = .string (tx (dI f (s.take i))) ∧ ρ 6 = .int .i64 i ∧ Own s' r,
    ⟨_, 0, rfl, Nat.zero_le _, rfl, rfl, rfl, rfl, hO⟩, ?_⟩
  rintro _ ρ s' ⟨i, rfl, hi, h0, h1, h5, h6', hs⟩
  have hlen := bN h6 (s.take i)
  have hlt : (s.take i).length = i := by rw [List.length_take]; omega
  generalize ho : dI f (s.take i) = o at *
  by_cases him : i < s.length
  case neg =>
    obtain rfl : i = s.length := by omega
    rw [List.take_length] at ho
    rw [ho] at hk
    simp -implicitDefEqProofs only [go_sem, ↓aj, ↓ah, ak, Nat.reduceBEq, ↓reduceIte, reduceCtorEq, Nat.reduceEqDiff, Nat.reduceAdd, Nat.reduceLeDiff, Int.reduceEq, Int.reduceLT, Int.reduceLE, Int.reduceAdd, Int.reduceToNat, Int.reduceNeg, Nat.reduceMul, Nat.reduceSub, Int.reduceBNe, Int.reduceBEq, h0, h1, h5, h6', aC, Tryz.underlying9, Int.ofNat_lt, Nat.lt_irrefl, decide_false]
    exact hk _ hs
  have hat := jK (P := Tryz.prog) (t := 9) (k := .i64) Tryz.underlying9 him
  have hgd : s.getD i 0 = s[i] := by simp [him]
  rw [hgd] at hat
  have hnx : dI f (s.take (i + 1)) = o ++ (if f s[i] = [] then [s[i]] else f s[i]) := by
    rw [List.take_add_one, List.getElem?_eq_getElem him, uU, ho]
    rw [show (some s[i]).toList = [s[i]] from rfl, uV]
  generalize s[i] = c at *
  have hli : ((i : Int) < (s.length : Int)) = True := eq_true (by omega)
  have w1 : IntKind.i64.wrap ((i : Int) + 1) = ((i + 1 : Nat) : Int) := by rw [bL (by omega)]; rfl
  have hil' : i + 1 ≤ s.length := him
  have hon := hs.new (.cells [.int .u8 (c.toNat : Nat)] 5 true)
  have hcv : cZ Tryz.prog (s'.new (.cells [.int .u8 (c.toNat : Nat)] 5 true)) 31 9 (.slice (some ⟨s'.n, 0, none⟩) 1 1) = some (.string (tx [c]), s'.new (.cells [.int .u8 (c.toNat : Nat)] 5 true)) :=
    kg (l := [c]) Tryz.underlying31 Tryz.underlying5 Tryz.underlying9 (by
      simp only [asrc, acut, Gb, if_true]
      rfl) ⟨_, _, _, rfl⟩
  simp -implicitDefEqProofs only [go_sem, Nat.reduceBEq, ↓reduceIte, reduceCtorEq, Nat.reduceEqDiff, Nat.reduceAdd, Nat.reduceLeDiff, Int.reduceEq, Int.reduceLT, Int.reduceLE, Int.reduceAdd, Int.reduceToNat, Int.reduceNeg, Nat.reduceMul, Nat.reduceSub, Int.reduceBNe, Int.reduceBEq]
  rw [aj, aj]
  simp -implicitDefEqProofs only [go_sem, Nat.reduceBEq, ↓reduceIte, reduceCtorEq, Nat.reduceEqDiff, Nat.reduceAdd, Nat.reduceLeDiff, Int.reduceEq, Int.reduceLT, Int.reduceLE, Int.reduceAdd, Int.reduceToNat, Int.reduceNeg, Nat.reduceMul, Nat.reduceSub, Int.reduceBNe, Int.reduceBEq, h0, h1, h5, h6', hli, decide_true, aC, Tryz.underlying9]
  rw [aj, ah, aj]
  simp -implicitDefEqProofs only [go_sem, Nat.reduceBEq, ↓reduceIte, reduceCtorEq, Nat.reduceEqDiff, Nat.reduceAdd, Nat.reduceLeDiff, Int.reduceEq, Int.reduceLT, Int.reduceLE, Int.reduceAdd, Int.reduceToNat, Int.reduceNeg, Nat.reduceMul, Nat.reduceSub, Int.reduceBNe, Int.reduceBEq, h0, h1, h5, h6', hat]
  rw [aj]
  simp -implicitDefEqProofs only [go_sem, Nat.reduceBEq, ↓reduceIte, reduceCtorEq, Nat.reduceEqDiff, Nat.reduceAdd, Nat.reduceLeDiff, Int.reduceEq, Int.reduceLT, Int.reduceLE, Int.reduceAdd, Int.reduceToNat, Int.reduceNeg, Nat.reduceMul, Nat.reduceSub, Int.reduceBNe, Int.reduceBEq, h0, h1, h5, h6', aF (st := s') (v := .int .u8 (c.toNat : Nat)) Tryz.underlying31 asz5 azc5 rfl rfl rfl (by decide), hcv]
  generalize hs2 : St.new s' _ = s2 at *
  have ho2 := hon.tail
  refine nD (fun ρ s4 => ρ 0 = .string (tx s) ∧ ρ 1 = .int .i64 how ∧ ρ 5 = .string (tx o) ∧ ρ 6 = .int .i64 (i : Nat) ∧ s2 = s4 ∧ ρ 8 = .string (tx (if f c = [] then [c] else f c))) ?_ ?_
  case' refine_2 =>
    rintro ρ s3 ⟨h0, h1, h5, h6', rfl, h8⟩
    have hu6 : (if f c = [] then [c] else f c).length ≤ 6 := by
      split
      · exact (show 1 ≤ 6 by decide)
      · exact h6 c
    have ca : astr .add (tx o) (tx (if f c = [] then [c] else f c)) = some (.string (tx (dI f (s.take (i + 1))))) := addX hnx.symm (by rw [hnx, List.length_append]; omega)
    simp -implicitDefEqProofs only [go_sem, ↓aj, ↓ah, ak, Nat.reduceBEq, ↓reduceIte, reduceCtorEq, Nat.reduceEqDiff, Nat.reduceAdd, Nat.reduceLeDiff, Int.reduceEq, Int.reduceLT, Int.reduceLE, Int.reduceAdd, Int.reduceToNat, Int.reduceNeg, Nat.reduceMul, Nat.reduceSub, Int.reduceBNe, Int.reduceBEq, h0, h1, h5, h6', h8, ca, w1]
    refine ⟨s.length - (i + 1), by omega, i + 1, ?_⟩
    (repeat' first | assumption | exact rfl | apply And.intro)
  have g1 : ((1 : Int) > 1) = False := by decide
  have g2 : ((2 : Int) > 1) = True := by decide
  rcases hf with ⟨rfl, rfl⟩ | ⟨rfl, rfl⟩
  · by_cases c38 : c = 38
    · have hz : ((c.toNat : Nat) : Int) = 38 := by rw [c38]; rfl
      have hr : (if attE c = [] then [c] else attE c) = [38, 97, 109, 112, 59] := by rw [c38]; rfl
      have e0 : (⟨#[38, 97, 109, 112, 59]⟩ : ByteArray) = tx (if attE c = [] then [c] else attE c) := by rw [hr]; rfl
      simp -implicitDefEqProofs only [go_sem, ↓aj, ↓ah, ak, Nat.reduceBEq, ↓reduceIte, reduceCtorEq, Nat.reduceEqDiff, Nat.reduceAdd, Nat.reduceLeDiff, Int.reduceEq, Int.reduceLT, Int.reduceLE, Int.reduceAdd, Int.reduceToNat, Int.reduceNeg, Nat.reduceMul, Nat.reduceSub, Int.reduceBNe, Int.reduceBEq, h0, h1, h5, h6', hz, e0, g1, g2]
      (repeat' first | assumption | exact rfl | apply And.intro)
    by_cases c60 : c = 60
    · have hz : ((c.toNat : Nat) : Int) = 60 := by rw [c60]; rfl
      have hr : (if attE c = [] then [c] else attE c) = [38, 108, 116, 59] := by rw [c60]; rfl
      have e0 : (⟨#[38, 108, 116, 59]⟩ : ByteArray) = tx (if attE c = [] then [c] else attE c) := by rw [hr]; rfl
      simp -implicitDefEqProofs only [go_sem, ↓aj, ↓ah, ak, Nat.reduceBEq, ↓reduceIte, reduceCtorEq, Nat.reduceEqDiff, Nat.reduceAdd, Nat.reduceLeDiff, Int.reduceEq, Int.reduceLT, Int.reduceLE, Int.reduceAdd, Int.reduceToNat, Int.reduceNeg, Nat.reduceMul, Nat.reduceSub, Int.reduceBNe, Int.reduceBEq, h0, h1, h5, h6', hz, e0, g1, g2]
      (repeat' first | assumption | exact rfl | apply And.intro)
    by_cases c62 : c = 62
    · have hz : ((c.toNat : Nat) : Int) = 62 := by rw [c62]; rfl
      have e0 : tx [c] = tx (if attE c = [] then [c] else attE c) := by rw [c62]; rfl
      simp -implicitDefEqProofs only [go_sem, ↓aj, ↓ah, ak, Nat.reduceBEq, ↓reduceIte, reduceCtorEq, Nat.reduceEqDiff, Nat.reduceAdd, Nat.reduceLeDiff, Int.reduceEq, Int.reduceLT, Int.reduceLE, Int.reduceAdd, Int.reduceToNat, Int.reduceNeg, Nat.reduceMul, Nat.reduceSub, Int.reduceBNe, Int.reduceBEq, h0, h1, h5, h6', hz, e0, g1, g2]
      (repeat' first | assumption | exact rfl | apply And.intro)
    by_cases c34 : c = 34
    · have hz : ((c.toNat : Nat) : Int) = 34 := by rw [c34]; rfl
      have hr : (if attE c = [] then [c] else attE c) = [38, 113, 117, 111, 116, 59] := by rw [c34]; rfl
      have e0 : (⟨#[38, 113, 117, 111, 116, 59]⟩ : ByteArray) = tx (if attE c = [] then [c] else attE c) := by rw [hr]; rfl
      simp -implicitDefEqProofs only [go_sem, ↓aj, ↓ah, ak, Nat.reduceBEq, ↓reduceIte, reduceCtorEq, Nat.reduceEqDiff, Nat.reduceAdd, Nat.reduceLeDiff, Int.reduceEq, Int.reduceLT, Int.reduceLE, Int.reduceAdd, Int.reduceToNat, Int.reduceNeg, Nat.reduceMul, Nat.reduceSub, Int.reduceBNe, Int.reduceBEq, h0, h1, h5, h6', hz, e0, g1, g2]
      (repeat' first | assumption | exact rfl | apply And.intro)
    by_cases c39 : c = 39
    · have hz : ((c.toNat : Nat) : Int) = 39 := by rw [c39]; rfl
      have e0 : tx [c] = tx (if attE c = [] then [c] else attE c) := by rw [c39]; rfl
      simp -implicitDefEqProofs only [go_sem, ↓aj, ↓ah, ak, Nat.reduceBEq, ↓reduceIte, reduceCtorEq, Nat.reduceEqDiff, Nat.reduceAdd, Nat.reduceLeDiff, Int.reduceEq, Int.reduceLT, Int.reduceLE, Int.reduceAdd, Int.reduceToNat, Int.reduceNeg, Nat.reduceMul, Nat.reduceSub, Int.reduceBNe, Int.reduceBEq, h0, h1, h5, h6', hz, e0, g1, g2]
      (repeat' first | assumption | exact rfl | apply And.intro)
    by_cases c13 : c = 13
    · have hz : ((c.toNat : Nat) : Int) = 13 := by rw [c13]; rfl
      have hr : (if attE c = [] then [c] else attE c) = [38, 35, 120, 68, 59] := by rw [c13]; rfl
      have e0 : (⟨#[38, 35, 120, 68, 59]⟩ : ByteArray) = tx (if attE c = [] then [c] else attE c) := by rw [hr]; rfl
      simp -implicitDefEqProofs only [go_sem, ↓aj, ↓ah, ak, Nat.reduceBEq, ↓reduceIte, reduceCtorEq, Nat.reduceEqDiff, Nat.reduceAdd, Nat.reduceLeDiff, Int.reduceEq, Int.reduceLT, Int.reduceLE, Int.reduceAdd, Int.reduceToNat, Int.reduceNeg, Nat.reduceMul, Nat.reduceSub, Int.reduceBNe, Int.reduceBEq, h0, h1, h5, h6', hz, e0, g1, g2]
      (repeat' first | assumption | exact rfl | apply And.intro)
    by_cases c9 : c = 9
    · have hz : ((c.toNat : Nat) : Int) = 9 := by rw [c9]; rfl
      have hr : (if attE c = [] then [c] else attE c) = [38, 35, 120, 57, 59] := by rw [c9]; rfl
      have e0 : (⟨#[38, 35, 120, 57, 59]⟩ : ByteArray) = tx (if attE c = [] then [c] else attE c) := by rw [hr]; rfl
      simp -implicitDefEqProofs only [go_sem, ↓aj, ↓ah, ak, Nat.reduceBEq, ↓reduceIte, reduceCtorEq, Nat.reduceEqDiff, Nat.reduceAdd, Nat.reduceLeDiff, Int.reduceEq, Int.reduceLT, Int.reduceLE, Int.reduceAdd, Int.reduceToNat, Int.reduceNeg, Nat.reduceMul, Nat.reduceSub, Int.reduceBNe, Int.reduceBEq, h0, h1, h5, h6', hz, e0, g1, g2]
      (repeat' first | assumption | exact rfl | apply And.intro)
    by_cases c10 : c = 10
    · have hz : ((c.toNat : Nat) : Int) = 10 := by rw [c10]; rfl
      have hr : (if attE c = [] then [c] else attE c) = [38, 35, 120, 65, 59] := by rw [c10]; rfl
      have e0 : (⟨#[38, 35, 120, 65, 59]⟩ : ByteArray) = tx (if attE c = [] then [c] else attE c) := by rw [hr]; rfl
      simp -implicitDefEqProofs only [go_sem, ↓aj, ↓ah, ak, Nat.reduceBEq, ↓reduceIte, reduceCtorEq, Nat.reduceEqDiff, Nat.reduceAdd, Nat.reduceLeDiff, Int.reduceEq, Int.reduceLT, Int.reduceLE, Int.reduceAdd, Int.reduceToNat, Int.reduceNeg, Nat.reduceMul, Nat.reduceSub, Int.reduceBNe, Int.reduceBEq, h0, h1, h5, h6', hz, e0, g1, g2]
      (repeat' first | assumption | exact rfl | apply And.intro)
    have e38 := bU c 38 (by decide)
    rw [show ((38 : Nat) : Int) = 38 from rfl, decide_eq_false (show ¬ c = UInt8.ofNat 38 from c38)] at e38
    have e60 := bU c 60 (by decide)
    rw [show ((60 : Nat) : Int) = 60 from rfl, decide_eq_false (show ¬ c = UInt8.ofNat 60 from c60)] at e60
    have e62 := bU c 62 (by decide)
    rw [show ((62 : Nat) : Int) = 62 from rfl, decide_eq_false (show ¬ c = UInt8.ofNat 62 from c62)] at e62
    have e34 := bU c 34 (by decide)
    rw [show ((34 : Nat) : Int) = 34 from rfl, decide_eq_false (show ¬ c = UInt8.ofNat 34 from c34)] at e34
    have e39 := bU c 39 (by decide)
    rw [show ((39 : Nat) : Int) = 39 from rfl, decide_eq_false (show ¬ c = UInt8.ofNat 39 from c39)] at e39
    have e13 := bU c 13 (by decide)
    rw [show ((13 : Nat) : Int) = 13 from rfl, decide_eq_false (show ¬ c = UInt8.ofNat 13 from c13)] at e13
    have e9 := bU c 9 (by decide)
    rw [show ((9 : Nat) : Int) = 9 from rfl, decide_eq_false (show ¬ c = UInt8.ofNat 9 from c9)] at e9
    have e10 := bU c 10 (by decide)
    rw [show ((10 : Nat) : Int) = 10 from rfl, decide_eq_false (show ¬ c = UInt8.ofNat 10 from c10)] at e10
    have e0 : tx [c] = tx (if attE c = [] then [c] else attE c) := by
      congr 1
      unfold attE comE
      simp only [c38, c60, c34, c13, c9, c10, if_false]
      rfl
    simp -implicitDefEqProofs only [go_sem, ↓aj, ↓ah, ak, Nat.reduceBEq, ↓reduceIte, reduceCtorEq, Nat.reduceEqDiff, Nat.reduceAdd, Nat.reduceLeDiff, Int.reduceEq, Int.reduceLT, Int.reduceLE, Int.reduceAdd, Int.reduceToNat, Int.reduceNeg, Nat.reduceMul, Nat.reduceSub, Int.reduceBNe, Int.reduceBEq, h0, h1, h5, h6', g1, g2, e0, e38, e60, e62, e34, e39, e13, e9, e10]
    (repeat' first | assumption | exact rfl | apply And.intro)
  · by_cases c38 : c = 38
    · have hz : ((c.toNat : Nat) : Int) = 38 := by rw [c38]; rfl
      have hr : (if texE c = [] then [c] else texE c) = [38, 97, 109, 112, 59] := by rw [c38]; rfl
      have e0 : (⟨#[38, 97, 109, 112, 59]⟩ : ByteArray) = tx (if texE c = [] then [c] else texE c) := by rw [hr]; rfl
      simp -implicitDefEqProofs only [go_sem, ↓aj, ↓ah, ak, Nat.reduceBEq, ↓reduceIte, reduceCtorEq, Nat.reduceEqDiff, Nat.reduceAdd, Nat.reduceLeDiff, Int.reduceEq, Int.reduceLT, Int.reduceLE, Int.reduceAdd, Int.reduceToNat, Int.reduceNeg, Nat.reduceMul, Nat.reduceSub, Int.reduceBNe, Int.reduceBEq, h0, h1, h5, h6', hz, e0, g1, g2]
      (repeat' first | assumption | exact rfl | apply And.intro)
    by_cases c60 : c = 60
    · have hz : ((c.toNat : Nat) : Int) = 60 := by rw [c60]; rfl
      have hr : (if texE c = [] then [c] else texE c) = [38, 108, 116, 59] := by rw [c60]; rfl
      have e0 : (⟨#[38, 108, 116, 59]⟩ : ByteArray) = tx (if texE c = [] then [c] else texE c) := by rw [hr]; rfl
      simp -implicitDefEqProofs only [go_sem, ↓aj, ↓ah, ak, Nat.reduceBEq, ↓reduceIte, reduceCtorEq, Nat.reduceEqDiff, Nat.reduceAdd, Nat.reduceLeDiff, Int.reduceEq, Int.reduceLT, Int.reduceLE, Int.reduceAdd, Int.reduceToNat, Int.reduceNeg, Nat.reduceMul, Nat.reduceSub, Int.reduceBNe, Int.reduceBEq, h0, h1, h5, h6', hz, e0, g1, g2]
      (repeat' first | assumption | exact rfl | apply And.intro)
    by_cases c62 : c = 62
    · have hz : ((c.toNat : Nat) : Int) = 62 := by rw [c62]; rfl
      have hr : (if texE c = [] then [c] else texE c) = [38, 103, 116, 59] := by rw [c62]; rfl
      have e0 : (⟨#[38, 103, 116, 59]⟩ : ByteArray) = tx (if texE c = [] then [c] else texE c) := by rw [hr]; rfl
      simp -implicitDefEqProofs only [go_sem, ↓aj, ↓ah, ak, Nat.reduceBEq, ↓reduceIte, reduceCtorEq, Nat.reduceEqDiff, Nat.reduceAdd, Nat.reduceLeDiff, Int.reduceEq, Int.reduceLT, Int.reduceLE, Int.reduceAdd, Int.reduceToNat, Int.reduceNeg, Nat.reduceMul, Nat.reduceSub, Int.reduceBNe, Int.reduceBEq, h0, h1, h5, h6', hz, e0, g1, g2]
      (repeat' first | assumption | exact rfl | apply And.intro)
    by_cases c34 : c = 34
    · have hz : ((c.toNat : Nat) : Int) = 34 := by rw [c34]; rfl
      have e0 : tx [c] = tx (if texE c = [] then [c] else texE c) := by rw [c34]; rfl
      simp -implicitDefEqProofs only [go_sem, ↓aj, ↓ah, ak, Nat.reduceBEq, ↓reduceIte, reduceCtorEq, Nat.reduceEqDiff, Nat.reduceAdd, Nat.reduceLeDiff, Int.reduceEq, Int.reduceLT, Int.reduceLE, Int.reduceAdd, Int.reduceToNat, Int.reduceNeg, Nat.reduceMul, Nat.reduceSub, Int.reduceBNe, Int.reduceBEq, h0, h1, h5, h6', hz, e0, g1, g2]
      (repeat' first | assumption | exact rfl | apply And.intro)
    by_cases c39 : c = 39
    · have hz : ((c.toNat : Nat) : Int) = 39 := by rw [c39]; rfl
      have e0 : tx [c] = tx (if texE c = [] then [c] else texE c) := by rw [c39]; rfl
      simp -implicitDefEqProofs only [go_sem, ↓aj, ↓ah, ak, Nat.reduceBEq, ↓reduceIte, reduceCtorEq, Nat.reduceEqDiff, Nat.reduceAdd, Nat.reduceLeDiff, Int.reduceEq, Int.reduceLT, Int.reduceLE, Int.reduceAdd, Int.reduceToNat, Int.reduceNeg, Nat.reduceMul, Nat.reduceSub, Int.reduceBNe, Int.reduceBEq, h0, h1, h5, h6', hz, e0, g1, g2]
      (repeat' first | assumption | exact rfl | apply And.intro)
    by_cases c13 : c = 13
    · have hz : ((c.toNat : Nat) : Int) = 13 := by rw [c13]; rfl
      have hr : (if texE c = [] then [c] else texE c) = [38, 35, 120, 68, 59] := by rw [c13]; rfl
      have e0 : (⟨#[38, 35, 120, 68, 59]⟩ : ByteArray) = tx (if texE c = [] then [c] else texE c) := by rw [hr]; rfl
      simp -implicitDefEqProofs only [go_sem, ↓aj, ↓ah, ak, Nat.reduceBEq, ↓reduceIte, reduceCtorEq, Nat.reduceEqDiff, Nat.reduceAdd, Nat.reduceLeDiff, Int.reduceEq, Int.reduceLT, Int.reduceLE, Int.reduceAdd, Int.reduceToNat, Int.reduceNeg, Nat.reduceMul, Nat.reduceSub, Int.reduceBNe, Int.reduceBEq, h0, h1, h5, h6', hz, e0, g1, g2]
      (repeat' first | assumption | exact rfl | apply And.intro)
    by_cases c9 : c = 9
    · have hz : ((c.toNat : Nat) : Int) = 9 := by rw [c9]; rfl
      have e0 : tx [c] = tx (if texE c = [] then [c] else texE c) := by rw [c9]; rfl
      simp -implicitDefEqProofs only [go_sem, ↓aj, ↓ah, ak, Nat.reduceBEq, ↓reduceIte, reduceCtorEq, Nat.reduceEqDiff, Nat.reduceAdd, Nat.reduceLeDiff, Int.reduceEq, Int.reduceLT, Int.reduceLE, Int.reduceAdd, Int.reduceToNat, Int.reduceNeg, Nat.reduceMul, Nat.reduceSub, Int.reduceBNe, Int.reduceBEq, h0, h1, h5, h6', hz, e0, g1, g2]
      (repeat' first | assumption | exact rfl | apply And.intro)
    by_cases c10 : c = 10
    · have hz : ((c.toNat : Nat) : Int) = 10 := by rw [c10]; rfl
      have e0 : tx [c] = tx (if texE c = [] then [c] else texE c) := by rw [c10]; rfl
      simp -implicitDefEqProofs only [go_sem, ↓aj, ↓ah, ak, Nat.reduceBEq, ↓reduceIte, reduceCtorEq, Nat.reduceEqDiff, Nat.reduceAdd, Nat.reduceLeDiff, Int.reduceEq, Int.reduceLT, Int.reduceLE, Int.reduceAdd, Int.reduceToNat, Int.reduceNeg, Nat.reduceMul, Nat.reduceSub, Int.reduceBNe, Int.reduceBEq, h0, h1, h5, h6', hz, e0, g1, g2]
      (repeat' first | assumption | exact rfl | apply And.intro)
    have e38 := bU c 38 (by decide)
    rw [show ((38 : Nat) : Int) = 38 from rfl, decide_eq_false (show ¬ c = UInt8.ofNat 38 from c38)] at e38
    have e60 := bU c 60 (by decide)
    rw [show ((60 : Nat) : Int) = 60 from rfl, decide_eq_false (show ¬ c = UInt8.ofNat 60 from c60)] at e60
    have e62 := bU c 62 (by decide)
    rw [show ((62 : Nat) : Int) = 62 from rfl, decide_eq_false (show ¬ c = UInt8.ofNat 62 from c62)] at e62
    have e34 := bU c 34 (by decide)
    rw [show ((34 : Nat) : Int) = 34 from rfl, decide_eq_false (show ¬ c = UInt8.ofNat 34 from c34)] at e34
    have e39 := bU c 39 (by decide)
    rw [show ((39 : Nat) : Int) = 39 from rfl, decide_eq_false (show ¬ c = UInt8.ofNat 39 from c39)] at e39
    have e13 := bU c 13 (by decide)
    rw [show ((13 : Nat) : Int) = 13 from rfl, decide_eq_false (show ¬ c = UInt8.ofNat 13 from c13)] at e13
    have e9 := bU c 9 (by decide)
    rw [show ((9 : Nat) : Int) = 9 from rfl, decide_eq_false (show ¬ c = UInt8.ofNat 9 from c9)] at e9
    have e10 := bU c 10 (by decide)
    rw [show ((10 : Nat) : Int) = 10 from rfl, decide_eq_false (show ¬ c = UInt8.ofNat 10 from c10)] at e10
    have e0 : tx [c] = tx (if texE c = [] then [c] else texE c) := by
      congr 1
      unfold texE comE
      simp only [c38, c60, c62, c13, if_false]
      rfl
    simp -implicitDefEqProofs only [go_sem, ↓aj, ↓ah, ak, Nat.reduceBEq, ↓reduceIte, reduceCtorEq, Nat.reduceEqDiff, Nat.reduceAdd, Nat.reduceLeDiff, Int.reduceEq, Int.reduceLT, Int.reduceLE, Int.reduceAdd, Int.reduceToNat, Int.reduceNeg, Nat.reduceMul, Nat.reduceSub, Int.reduceBNe, Int.reduceBEq, h0, h1, h5, h6', g1, g2, e0, e38, e60, e62, e34, e39, e13, e9, e10]
    (repeat' first | assumption | exact rfl | apply And.intro)
end Go.Proofs.YtigjbehgfjjlkaaGreatDoor
set_option linter.unusedVariables false
set_option linter.unusedSimpArgs false
namespace Go.Proofs.YtigjbehgfjjlkaaGreatDoor
open Go Go.Abs Go.RowKit Go.Xml
variable {base : Nat} {w0 : World} {G : Nat}
theorem zi {ns : List Nx} (hR : RtX ns) {i m : Nat} (h : m ≤ i + 1) : aR ns m (i : Int) = [] := by
  apply List.eq_nil_iff_forall_not_mem.2
  intro k hk
  obtain ⟨j, n, rfl, h1, h2, h3, h4⟩ := mH.1 hk
  have := (hR.par j n h3 h1).2.1
  omega
theorem uW (ns : List Nx) (g : Int → Tx) (p : Int) (m : Nat) : ∀ d, ((aR ns m p).flatMap g).length ≤ ((aR ns (m + d) p).flatMap g).length
  | 0 => Nat.le_refl _
  | d + 1 => by
    refine Nat.le_trans (uW ns g p m d) ?_
    rw [← Nat.add_assoc, dL]
    split
    · split
      · rw [List.flatMap_append, List.length_append]; omega
      · exact Nat.le_refl _
    · exact Nat.le_refl _
set_option maxRecDepth 10000 in
theorem zk {ns : List Nx} (hR : RtX ns) (hz : ∀ n ∈ ns, SzX n) (hbn : BndX ns) : ∀ (f i : Nat) (st : St) (r : Hp) (v : Value), ns.length ≤ f + i → i < ns.length → (aQ ns f (i : Int)).length ≤ 100000000000000 → DocX r v ns → Own st r → ∀ (k q : Value → St → Prop),
    (∀ st', Own st' r → k (.string (tx (aQ ns f (i : Int)))) st') → ay (C base w0 G) 11 [.agg #[v], .int .i64 (i : Nat)] st k q := by
  intro f
  induction f with
  | zero => intro i st r v h1 h2; omega
  | succ f ih =>
  intro i st r v hfi hil hlim hD hO k q hk
  obtain ⟨n, hn⟩ : ∃ n, ns[i]? = some n := ⟨ns[i], List.getElem?_eq_getElem hil⟩
  obtain ⟨x, o, sp, c, ccs, ty, own, kv, av, dv, hvx, hmem, hcut, hget, hnr⟩ := hD.at hn
  subst hvx
  have hwx : aQ ns (f + 1) (i : Int) = if n.kind = 2 ∨ n.kind = 3 ∨ n.kind = 4 then gQ n else gq n ++ (n.kids.flatMap (aQ ns f) ++ endE n) := by rw [eH, ig, hn]
  rw [hwx] at hk hlim
  refine ay.of (cx := C base w0 G) mixed Tryz.func11 rfl (by kernel_rfl) (by simp [Tryz.ntmps11]) ?_
  simp only [Tryz.results11]
  have ho1 := hO.new (.cells [.slice (some ⟨x, o, sp⟩) ns.length c] 24 true)
  have hcx := hO.get hmem
  have hnx : ¬ x = st.n := hO.fresh hmem
  have hcx1 := ho1.get (List.mem_cons_of_mem _ hmem)
  have hnx1 : ¬ x = st.n + 1 := by have := ho1.fresh (List.mem_cons_of_mem _ hmem); rwa [um] at this
  have hli : ((i : Int) < (ns.length : Int)) = True := eq_true (by omega)
  have hge : ((0 : Int) ≤ (i : Int)) = True := eq_true (by omega)
  have hon := (ho1.new (.cells [.int .i64 0, .int .i64 0, .slice none 0 0, .string ⟨#[]⟩, .string ⟨#[]⟩, .string ⟨#[]⟩, .slice none 0 0, .slice none 0 0, .string ⟨#[]⟩] 55 true)).set rfl (.cells (ndX n kv av dv) 55 true) rfl
  rw [um] at hon
  have hsetN : setL [.int .i64 0, .int .i64 0, .slice none 0 0, .string ⟨#[]⟩, .string ⟨#[]⟩, .string ⟨#[]⟩, .slice none 0 0, .slice none 0 0, .string ⟨#[]⟩] 0 (ndX n kv av dv) = ndX n kv av dv := rfl
  rw [aj]
  simp -implicitDefEqProofs only [go_sem, Nat.reduceBEq, ↓reduceIte, reduceCtorEq, Nat.reduceEqDiff, Nat.reduceAdd, Nat.reduceLeDiff, Int.reduceEq, Int.reduceLT, Int.reduceLE, Int.reduceAdd, Int.reduceToNat, Int.reduceNeg, Nat.reduceMul, Nat.reduceSub, Int.reduceBNe, Int.reduceBEq, abox]
  rw [aj]
  simp -implicitDefEqProofs only [go_sem, Nat.reduceBEq, ↓reduceIte, reduceCtorEq, Nat.reduceEqDiff, Nat.reduceAdd, Nat.reduceLeDiff, Int.reduceEq, Int.reduceLT, Int.reduceLE, Int.reduceAdd, Int.reduceToNat, Int.reduceNeg, Nat.reduceMul, Nat.reduceSub, Int.reduceBNe, Int.reduceBEq, hcx, hnx, hcut, hnx1, hli, hge, and_self, true_and, decide_true, Int.toNat_natCast, eZ, bq, aB, jM, aZ, hsetN, bC, Tryz.underlying24, Tryz.underlying22, Tryz.underlying55, Option.map_some]
  generalize hs2 : (St.set _ _ _) = s2 at *
  generalize hbn' : st.n + 1 = bn at *
  generalize hbd : st.n = bd at *
  obtain ⟨ka, kc, hkv1, _⟩ := hnr.kid.isSlice
  obtain ⟨aa, ac, hav1, _⟩ := hnr.att.isSlice
  obtain ⟨da, dc, hdv1, _⟩ := hnr.dcl.isSlice
  refine ⟨⟨rfl, by rw [hkv1, hav1, hdv1]; rfl⟩, ?_⟩
  have hA : Rws r av 4 (n.atts.map attC) := hnr.att
  have hDc : Rws r dv 2 (n.dcls.map dclC) := hnr.dcl
  subst hkv1 hav1 hdv1
  simp only [List.length_map] at *
  clear ho1 hcx hnx hcx1 hnx1 hli hge hsetN hget hcut hs2
  generalize hnd : ndX n (.slice ka n.kids.length kc) (.slice aa n.atts.length ac) (.slice da n.dcls.length dc) = nd at *
  have hcn := hon.head
  have f0 : nd[0]? = some (.int .i64 n.kind) := by rw [← hnd]; rfl
  have f3 : nd[3]? = some (.string (tx n.pre)) := by rw [← hnd]; rfl
  have f4 : nd[4]? = some (.string (tx n.loc)) := by rw [← hnd]; rfl
  have f6 : nd[6]? = some (.slice aa n.atts.length ac) := by rw [← hnd]; rfl
  have f7 : nd[7]? = some (.slice da n.dcls.length dc) := by rw [← hnd]; rfl
  have f8 : nd[8]? = some (.string (tx n.val)) := by rw [← hnd]; rfl
  have hzn := hz n (List.mem_of_getElem? hn)
  have z1 := hzn.pre
  have z2 := hzn.loc
  have z3 := hzn.val
  have htl := bN kX n.val
  have hnl := eY n.pre n.loc
  by_cases hk2 : n.kind = 2
  · have t2 : (n.kind == 2) = true := by rw [hk2]; rfl
    have hl : gQ n = dI texE n.val := by unfold gQ; rw [if_pos hk2]
    rw [if_pos (.inl hk2), hl] at hk hlim
    simp -implicitDefEqProofs only [go_sem, ↓aj, ↓ah, ak, Nat.reduceBEq, ↓reduceIte, reduceCtorEq, Nat.reduceEqDiff, Nat.reduceAdd, Nat.reduceLeDiff, Int.reduceEq, Int.reduceLT, Int.reduceLE, Int.reduceAdd, Int.reduceToNat, Int.reduceNeg, Nat.reduceMul, Nat.reduceSub, Int.reduceBNe, Int.reduceBEq, f0, aS, asz3, Tryz.underlying3, t2, hcn, f8, aB, asz9, dB, Tryz.underlying55, Tryz.underlying9]
    refine au.enter Tryz.func32 rfl (by kernel_rfl) (iR s2 _ n.val 2 texE (.inr ⟨rfl, rfl⟩) (by omega) hon _ _ fun s3 ho3 => ?_)
    simp -implicitDefEqProofs only [go_sem, ↓aj, ↓ah, ak, Nat.reduceBEq, ↓reduceIte, reduceCtorEq, Nat.reduceEqDiff, Nat.reduceAdd, Nat.reduceLeDiff, Int.reduceEq, Int.reduceLT, Int.reduceLE, Int.reduceAdd, Int.reduceToNat, Int.reduceNeg, Nat.reduceMul, Nat.reduceSub, Int.reduceBNe, Int.reduceBEq]
    exact hk _ ho3.tail.tail
  have t2 : (n.kind == 2) = false := beq_eq_false_iff_ne.2 hk2
  by_cases hk3 : n.kind = 3
  · have t3 : (n.kind == 3) = true := by rw [hk3]; rfl
    have hl : gQ n = [60, 33, 45, 45] ++ (n.val ++ [45, 45, 62]) := by unfold gQ; rw [if_neg hk2, if_pos hk3]
    obtain ⟨u, hu⟩ : ∃ u, u = [60, 33, 45, 45] ++ n.val := ⟨_, rfl⟩
    rw [if_pos (.inr (.inl hk3)), hl, show [60, 33, 45, 45] ++ (n.val ++ [45, 45, 62]) = u ++ [45, 45, 62] by rw [hu, List.append_assoc]] at hk hlim
    rw [List.length_append] at hlim
    have a1 : astr .add ⟨#[60, 33, 45, 45]⟩ (tx n.val) = some (.string (tx u)) := addX (a := [60, 33, 45, 45]) hu.symm (by omega)
    have a2 : astr .add (tx u) ⟨#[45, 45, 62]⟩ = some (.string (tx (u ++ [45, 45, 62]))) := addX (b := [45, 45, 62]) rfl (by rw [List.length_append]; omega)
    simp -implicitDefEqProofs only [go_sem, ↓aj, ↓ah, ak, Nat.reduceBEq, ↓reduceIte, reduceCtorEq, Nat.reduceEqDiff, Nat.reduceAdd, Nat.reduceLeDiff, Int.reduceEq, Int.reduceLT, Int.reduceLE, Int.reduceAdd, Int.reduceToNat, Int.reduceNeg, Nat.reduceMul, Nat.reduceSub, Int.reduceBNe, Int.reduceBEq, f0, aS, asz3, Tryz.underlying3, t2, t3, a1, a2, hcn, f8, aB, asz9, dB, Tryz.underlying55, Tryz.underlying9]
    exact hk _ hon.tail.tail
  have t3 : (n.kind == 3) = false := beq_eq_false_iff_ne.2 hk3
  by_cases hk4 : n.kind = 4
  · have t4 : (n.kind == 4) = true := by rw [hk4]; rfl
    have hl : gQ n = [60, 63] ++ (n.loc ++ ((if n.val = [] then [] else 32 :: n.val) ++ [63, 62])) := by unfold gQ; rw [if_neg hk2, if_neg hk3]
    rw [if_pos (.inr (.inr hk4)), hl] at hk hlim
    simp only [List.length_append] at hlim
    obtain ⟨u, hu⟩ : ∃ u, u = [60, 63] ++ n.loc := ⟨_, rfl⟩
    have hul : u.length = 2 + n.loc.length := by rw [hu]; simp; omega
    have e2' : ([63, 62] : Tx).length = 2 := rfl
    have e1' : ([32] : Tx).length = 1 := rfl
    have a1 : astr .add ⟨#[60, 63]⟩ (tx n.loc) = some (.string (tx u)) := addX (a := [60, 63]) hu.symm (by omega)
    have hen : astr .eql (tx n.val) ⟨#[]⟩ = some (.bool (decide (n.val = []))) := aA n.val []
    by_cases hve : n.val = []
    · rw [decide_eq_true hve] at hen
      rw [if_pos hve] at hk hlim
      have a2 : astr .add (tx u) ⟨#[63, 62]⟩ = some (.string (tx (u ++ [63, 62]))) := addX (b := [63, 62]) rfl (by rw [List.length_append]; omega)
      rw [show [60, 63] ++ (n.loc ++ ([] ++ [63, 62])) = u ++ [63, 62] by rw [hu]; simp] at hk
      simp -implicitDefEqProofs only [go_sem, ↓aj, ↓ah, ak, Nat.reduceBEq, ↓reduceIte, reduceCtorEq, Nat.reduceEqDiff, Nat.reduceAdd, Nat.reduceLeDiff, Int.reduceEq, Int.reduceLT, Int.reduceLE, Int.reduceAdd, Int.reduceToNat, Int.reduceNeg, Nat.reduceMul, Nat.reduceSub, Int.reduceBNe, Int.reduceBEq, f0, aS, asz3, Tryz.underlying3, t2, t3, t4, a1, a2, hen, hcn, f4, f8, aB, asz9, dQ, dB, Tryz.underlying55, Tryz.underlying9]
      exact hk _ hon.tail.tail
    · rw [decide_eq_false hve] at hen
      rw [if_neg hve] at hk hlim
      obtain ⟨u2, hu2⟩ : ∃ u2, u2 = u ++ [32] := ⟨_, rfl⟩
      obtain ⟨u3, hu3⟩ : ∃ u3, u3 = u2 ++ n.val := ⟨_, rfl⟩
      have l2 : u2.length = u.length + 1 := by rw [hu2]; simp
      have l3 : u3.length = u2.length + n.val.length := by rw [hu3]; simp
      have a2 : astr .add (tx u) ⟨#[32]⟩ = some (.string (tx u2)) := addX (b := [32]) hu2.symm (by omega)
      have a3 : astr .add (tx u2) (tx n.val) = some (.string (tx u3)) := addX hu3.symm (by omega)
      have a4 : astr .add (tx u3) ⟨#[63, 62]⟩ = some (.string (tx (u3 ++ [63, 62]))) := addX (b := [63, 62]) rfl (by rw [List.length_append]; omega)
      rw [show [60, 63] ++ (n.loc ++ (32 :: n.val ++ [63, 62])) = u3 ++ [63, 62] by rw [hu3, hu2, hu]; simp] at hk
      simp -implicitDefEqProofs only [go_sem, ↓aj, ↓ah, ak, Nat.reduceBEq, ↓reduceIte, reduceCtorEq, Nat.reduceEqDiff, Nat.reduceAdd, Nat.reduceLeDiff, Int.reduceEq, Int.reduceLT, Int.reduceLE, Int.reduceAdd, Int.reduceToNat, Int.reduceNeg, Nat.reduceMul, Nat.reduceSub, Int.reduceBNe, Int.reduceBEq, f0, aS, asz3, Tryz.underlying3, t2, t3, t4, a1, a2, a3, a4, hen, hcn, f4, f8, aB, asz9, dQ, dB, Tryz.underlying55, Tryz.underlying9]
      exact hk _ hon.tail.tail
  have t4 : (n.kind == 4) = false := beq_eq_false_iff_ne.2 hk4
  rw [if_neg (by omega)] at hk hlim
  simp only [List.length_append] at hlim
  have hsn := mO hzn
  simp -implicitDefEqProofs only [go_sem, ↓aj, ↓ah, ak, Nat.reduceBEq, ↓reduceIte, reduceCtorEq, Nat.reduceEqDiff, Nat.reduceAdd, Nat.reduceLeDiff, Int.reduceEq, Int.reduceLT, Int.reduceLE, Int.reduceAdd, Int.reduceToNat, Int.reduceNeg, Nat.reduceMul, Nat.reduceSub, Int.reduceBNe, Int.reduceBEq, f0, f3, f4, aS, eT, dQ, asz3, asz9, Tryz.underlying3, Tryz.underlying9, t2, t3, t4, hcn, aB, Tryz.underlying55]
  have hle : endE n = 60 :: 47 :: (fA n.pre n.loc ++ [62]) := rfl
  refine au.enter Tryz.func33 rfl (by kernel_rfl) (mM _ n.pre n.loc (by omega) _ _ ?_)
  have a0 : astr .add ⟨#[60]⟩ (tx (fA n.pre n.loc)) = some (.string (tx (60 :: fA n.pre n.loc))) := addX (a := [60]) rfl (by simp; omega)
  have hse : gq n = 60 :: (fA n.pre n.loc ++ (n.dcls.flatMap dclE ++ (n.atts.flatMap atE ++ [62]))) := rfl
  rw [hse] at hsn
  simp only [List.length_cons, List.length_append, List.length_nil] at hsn
  generalize hnm : fA n.pre n.loc = nm at *
  have hda := hzn.dcls
  have haa := hzn.atts
  simp -implicitDefEqProofs only [go_sem, ↓aj, ↓ah, ak, Nat.reduceBEq, ↓reduceIte, reduceCtorEq, Nat.reduceEqDiff, Nat.reduceAdd, Nat.reduceLeDiff, Int.reduceEq, Int.reduceLT, Int.reduceLE, Int.reduceAdd, Int.reduceToNat, Int.reduceNeg, Nat.reduceMul, Nat.reduceSub, Int.reduceBNe, Int.reduceBEq, a0]
  have hDOC : Own s2 ((bn, Ob.cells nd 55 true) :: (bd, .cells [.slice (some ⟨x, o, sp⟩) ns.length c] 24 true) :: r) := hon
  clear hcn
  refine ⟨fun m ρ s => ∃ i_ : Nat, m = n.dcls.length - i_ ∧ i_ ≤ n.dcls.length ∧ ρ 1 = .int .i64 (i : Nat) ∧ ρ 2 = .pointer (some ⟨bd, 0, none⟩) ∧ ρ 5 = .pointer (some ⟨bn, 0, none⟩) ∧ ρ 6 = .string (tx (60 :: (nm ++ (n.dcls.take i_).flatMap dclE))) ∧ ρ 7 = .int .i64 (i_ : Nat) ∧ Own s ((bn, Ob.cells nd 55 true) :: (bd, .cells [.slice (some ⟨x, o, sp⟩) ns.length c] 24 true) :: r),
    ⟨_, 0, rfl, Nat.zero_le _, rfl, rfl, rfl, by rw [List.take_zero, List.flatMap_nil, List.append_nil]; rfl, rfl, hon⟩, ?_⟩
  clear hon hDOC
  rintro _ ρ s ⟨j, rfl, hj, h1, h2, h5, h6, h7, ho⟩
  have hcn := ho.head
  by_cases hjl : j < n.dcls.length
  · obtain ⟨d, hd⟩ : ∃ d, n.dcls[j]? = some d := ⟨n.dcls[j], List.getElem?_eq_getElem hjl⟩
    obtain ⟨y, yo, ysp, yc, ycs, yty, yown, hvy, hmy, hcy⟩ := hDc.mem (i := j) (l := dclC d) (by simp [hd])
    rw [List.length_map] at hvy
    injection hvy with hvy _ hvyc
    subst hvy hvyc
    have hcx := ho.get (List.mem_cons_of_mem _ (List.mem_cons_of_mem _ hmy))
    have hnx : ¬ y = s.n := ho.fresh (List.mem_cons_of_mem _ (List.mem_cons_of_mem _ hmy))
    have hli : ((j : Int) < (n.dcls.length : Int)) = True := eq_true (by omega)
    have hge : ((0 : Int) ≤ (j : Int)) = True := eq_true (by omega)
    have hon := (ho.new (.cells [.string ⟨#[]⟩, .string ⟨#[]⟩] 61 true)).set rfl (.cells (dclC d) 61 true) rfl
    have hsetD : setL [.string ⟨#[]⟩, .string ⟨#[]⟩] 0 (dclC d) = dclC d := rfl
    have g0 : (dclC d)[0]? = some (.string (tx d.pre)) := rfl
    have g1 : (dclC d)[1]? = some (.string (tx d.uri)) := rfl
    have hdz := hzn.dcl d (List.mem_of_getElem? hd)
    have htu := bN fF d.uri
    have htk := jS (f := dclE) hd
    have htl2 := gN (f := dclE) (l := n.dcls) j
    obtain ⟨u, hu⟩ : ∃ u, u = dI attE d.uri := ⟨_, rfl⟩
    rw [← hu] at htu
    obtain ⟨sx, hsx⟩ : ∃ sx, sx = 60 :: (nm ++ (n.dcls.take j).flatMap dclE) := ⟨_, rfl⟩
    have lsx : sx.length ≤ 18000000000000 := by rw [hsx]; simp only [List.length_cons, List.length_append]; omega
    rw [← hsx] at h6
    have hsn' : 60 :: (nm ++ (n.dcls.take (j + 1)).flatMap dclE) = sx ++ dclE d := by rw [hsx, htk]; simp
    have w1 : IntKind.i64.wrap ((j : Int) + 1) = ((j + 1 : Nat) : Int) := by rw [bL (by omega)]; omega
    have hen : astr .eql (tx d.pre) ⟨#[]⟩ = some (.bool (decide (d.pre = []))) := aA d.pre []
    simp -implicitDefEqProofs only [go_sem, Nat.reduceBEq, ↓reduceIte, reduceCtorEq, Nat.reduceEqDiff, Nat.reduceAdd, Nat.reduceLeDiff, Int.reduceEq, Int.reduceLT, Int.reduceLE, Int.reduceAdd, Int.reduceToNat, Int.reduceNeg, Nat.reduceMul, Nat.reduceSub, Int.reduceBNe, Int.reduceBEq]
    rw [aj, aj]
    simp -implicitDefEqProofs only [go_sem, Nat.reduceBEq, ↓reduceIte, reduceCtorEq, Nat.reduceEqDiff, Nat.reduceAdd, Nat.reduceLeDiff, Int.reduceEq, Int.reduceLT, Int.reduceLE, Int.reduceAdd, Int.reduceToNat, Int.reduceNeg, Nat.reduceMul, Nat.reduceSub, Int.reduceBNe, Int.reduceBEq, h1, h2, h5, h6, h7, hcn, f7, hli, decide_true, bF, aM, Tryz.underlying53]
    rw [aj, ah, aj]
    simp -implicitDefEqProofs only [go_sem, Nat.reduceBEq, ↓reduceIte, reduceCtorEq, Nat.reduceEqDiff, Nat.reduceAdd, Nat.reduceLeDiff, Int.reduceEq, Int.reduceLT, Int.reduceLE, Int.reduceAdd, Int.reduceToNat, Int.reduceNeg, Nat.reduceMul, Nat.reduceSub, Int.reduceBNe, Int.reduceBEq, h1, h2, h5, h6, h7, hcn, f7, hli, hge, hcx, hcy, hnx, and_self, true_and, Int.toNat_natCast, bF, fu, kR, aZ, hsetD, aM, Tryz.underlying53, Tryz.underlying61]
    generalize hb5 : s.n = b5 at *
    refine ⟨⟨rfl, rfl⟩, ?_⟩
    generalize hs5 : (s.new _).set _ _ = s5 at *
    have hc5 := hon.head
    by_cases hpe : d.pre = []
    · rw [decide_eq_true hpe] at hen
      obtain ⟨u1, hu1⟩ : ∃ u1, u1 = sx ++ [32, 120, 109, 108, 110, 115, 61, 34] := ⟨_, rfl⟩
      obtain ⟨u2, hu2⟩ : ∃ u2, u2 = u1 ++ u := ⟨_, rfl⟩
      have l1 : u1.length = sx.length + 8 := by rw [hu1, List.length_append]; rfl
      have l2 : u2.length = u1.length + u.length := by rw [hu2, List.length_append]
      have hfin : u2 ++ [34] = sx ++ dclE d := by rw [hu2, hu1]; unfold dclE lV; rw [if_pos hpe, ← hu]; simp
      have c1 : astr .add (tx sx) ⟨#[32, 120, 109, 108, 110, 115, 61, 34]⟩ = some (.string (tx u1)) := addX (b := [32, 120, 109, 108, 110, 115, 61, 34]) hu1.symm (by omega)
      have c2 : astr .add (tx u1) (tx u) = some (.string (tx u2)) := addX hu2.symm (by omega)
      have c3 : astr .add (tx u2) ⟨#[34]⟩ = some (.string (tx (sx ++ dclE d))) := addX (b := [34]) hfin (by rw [← hfin, List.length_append]; simp; omega)
      simp -implicitDefEqProofs only [go_sem, ↓aj, ↓ah, ak, Nat.reduceBEq, ↓reduceIte, reduceCtorEq, Nat.reduceEqDiff, Nat.reduceAdd, Nat.reduceLeDiff, Int.reduceEq, Int.reduceLT, Int.reduceLE, Int.reduceAdd, Int.reduceToNat, Int.reduceNeg, Nat.reduceMul, Nat.reduceSub, Int.reduceBNe, Int.reduceBEq, h1, h2, h5, h6, h7, hc5, g0, g1, hen, c1, fH, fI, fu, asz9, Tryz.underlying61, Tryz.underlying9]
      refine au.enter Tryz.func32 rfl (by kernel_rfl) (iR s5 _ d.uri 1 attE (.inl ⟨rfl, rfl⟩) (by omega) hon _ _ fun s6 ho6 => ?_)
      rw [← hu]
      simp -implicitDefEqProofs only [go_sem, ↓aj, ↓ah, ak, Nat.reduceBEq, ↓reduceIte, reduceCtorEq, Nat.reduceEqDiff, Nat.reduceAdd, Nat.reduceLeDiff, Int.reduceEq, Int.reduceLT, Int.reduceLE, Int.reduceAdd, Int.reduceToNat, Int.reduceNeg, Nat.reduceMul, Nat.reduceSub, Int.reduceBNe, Int.reduceBEq, h1, h2, h5, h6, h7, c2, c3, w1]
      have ho7 := ho6.tail
      have hjl' : j + 1 ≤ n.dcls.length := hjl
      refine ⟨n.dcls.length - (j + 1), by omega, j + 1, ?_⟩
      rw [hsn']
      (repeat' first | assumption | exact rfl | apply And.intro)
    · rw [decide_eq_false hpe] at hen
      obtain ⟨u0, hu0⟩ : ∃ u0, u0 = sx ++ [32, 120, 109, 108, 110, 115, 58] := ⟨_, rfl⟩
      obtain ⟨u9, hu9⟩ : ∃ u9, u9 = u0 ++ d.pre := ⟨_, rfl⟩
      obtain ⟨u1, hu1⟩ : ∃ u1, u1 = u9 ++ [61, 34] := ⟨_, rfl⟩
      obtain ⟨u2, hu2⟩ : ∃ u2, u2 = u1 ++ u := ⟨_, rfl⟩
      have l0 : u0.length = sx.length + 7 := by rw [hu0, List.length_append]; rfl
      have l9 : u9.length = u0.length + d.pre.length := by rw [hu9, List.length_append]
      have l1 : u1.length = u9.length + 2 := by rw [hu1, List.length_append]; rfl
      have l2 : u2.length = u1.length + u.length := by rw [hu2, List.length_append]
      have hfin : u2 ++ [34] = sx ++ dclE d := by rw [hu2, hu1, hu9, hu0]; unfold dclE lV; rw [if_neg hpe, ← hu]; simp
      have c0 : astr .add (tx sx) ⟨#[32, 120, 109, 108, 110, 115, 58]⟩ = some (.string (tx u0)) := addX (b := [32, 120, 109, 108, 110, 115, 58]) hu0.symm (by omega)
      have c9 : astr .add (tx u0) (tx d.pre) = some (.string (tx u9)) := addX hu9.symm (by omega)
      have c1 : astr .add (tx u9) ⟨#[61, 34]⟩ = some (.string (tx u1)) := addX (b := [61, 34]) hu1.symm (by omega)
      have c2 : astr .add (tx u1) (tx u) = some (.string (tx u2)) := addX hu2.symm (by omega)
      have c3 : astr .add (tx u2) ⟨#[34]⟩ = some (.string (tx (sx ++ dclE d))) := addX (b := [34]) hfin (by rw [← hfin, List.length_append]; simp; omega)
      simp -implicitDefEqProofs only [go_sem, ↓aj, ↓ah, ak, Nat.reduceBEq, ↓reduceIte, reduceCtorEq, Nat.reduceEqDiff, Nat.reduceAdd, Nat.reduceLeDiff, Int.reduceEq, Int.reduceLT, Int.reduceLE, Int.reduceAdd, Int.reduceToNat, Int.reduceNeg, Nat.reduceMul, Nat.reduceSub, Int.reduceBNe, Int.reduceBEq, h1, h2, h5, h6, h7, hc5, g0, g1, hen, fH, fI, fu, asz9, Tryz.underlying61, Tryz.underlying9]
      refine bg.of [(0, false, []), (1, false, []), (2, false, []), (3, true, []), (4, false, []), (5, false, []), (6, false, []), (7, false, []), (8, false, [3]), (9, false, []), (10, false, []), (11, false, [])] [3] [(3, 8)] (by kernel_rfl) ?_
      simp -implicitDefEqProofs only [go_sem, ↓aj, ↓ah, ak, Nat.reduceBEq, ↓reduceIte, reduceCtorEq, Nat.reduceEqDiff, Nat.reduceAdd, Nat.reduceLeDiff, Int.reduceEq, Int.reduceLT, Int.reduceLE, Int.reduceAdd, Int.reduceToNat, Int.reduceNeg, Nat.reduceMul, Nat.reduceSub, Int.reduceBNe, Int.reduceBEq, h1, h2, h5, h6, h7, hc5, g0, g1, c0, c9, c1, fH, fI, fu, asz9, Tryz.underlying61, Tryz.underlying9]
      refine au.enter Tryz.func32 rfl (by kernel_rfl) (iR s5 _ d.uri 1 attE (.inl ⟨rfl, rfl⟩) (by omega) hon _ _ fun s6 ho6 => ?_)
      rw [← hu]
      have hc6 := ho6.head
      simp -implicitDefEqProofs only [go_sem, ↓aj, ↓ah, ak, Nat.reduceBEq, ↓reduceIte, reduceCtorEq, Nat.reduceEqDiff, Nat.reduceAdd, Nat.reduceLeDiff, Int.reduceEq, Int.reduceLT, Int.reduceLE, Int.reduceAdd, Int.reduceToNat, Int.reduceNeg, Nat.reduceMul, Nat.reduceSub, Int.reduceBNe, Int.reduceBEq, h1, h2, h5, h6, h7, hc6, g0, g1, c0, c9, c1, c2, c3, w1, fH, fI, fu, asz9, Tryz.underlying61, Tryz.underlying9]
      have ho7 := ho6.tail
      have hjl' : j + 1 ≤ n.dcls.length := hjl
      refine ⟨n.dcls.length - (j + 1), by omega, j + 1, ?_⟩
      rw [hsn']
      (repeat' first | assumption | exact rfl | apply And.intro)
  obtain rfl : j = n.dcls.length := by omega
  rw [List.take_length] at h6
  obtain ⟨ds, hds⟩ : ∃ ds, ds = n.dcls.flatMap dclE := ⟨_, rfl⟩
  rw [← hds] at h6 hsn hse
  simp -implicitDefEqProofs only [go_sem, ↓aj, ↓ah, ak, Nat.reduceBEq, ↓reduceIte, reduceCtorEq, Nat.reduceEqDiff, Nat.reduceAdd, Nat.reduceLeDiff, Int.reduceEq, Int.reduceLT, Int.reduceLE, Int.reduceAdd, Int.reduceToNat, Int.reduceNeg, Nat.reduceMul, Nat.reduceSub, Int.reduceBNe, Int.reduceBEq, h1, h2, h5, h6, h7, hcn, f7, Int.ofNat_lt, Nat.lt_irrefl, decide_false, bF, aM, Tryz.underlying53]
  refine ⟨fun m ρ s => ∃ i_ : Nat, m = n.atts.length - i_ ∧ i_ ≤ n.atts.length ∧ ρ 1 = .int .i64 (i : Nat) ∧ ρ 2 = .pointer (some ⟨bd, 0, none⟩) ∧ ρ 5 = .pointer (some ⟨bn, 0, none⟩) ∧ ρ 6 = .string (tx (60 :: (nm ++ (ds ++ (n.atts.take i_).flatMap atE)))) ∧ ρ 9 = .int .i64 (i_ : Nat) ∧ Own s ((bn, Ob.cells nd 55 true) :: (bd, .cells [.slice (some ⟨x, o, sp⟩) ns.length c] 24 true) :: r),
    ⟨_, 0, rfl, Nat.zero_le _, h1, h2, h5, by rw [List.take_zero, List.flatMap_nil, List.append_nil]; exact h6, rfl, ho⟩, ?_⟩
  clear h1 h2 h5 h6 h7 ho hcn
  rintro _ ρ s ⟨j, rfl, hj, h1, h2, h5, h6, h9, ho⟩
  have hcn := ho.head
  by_cases hjl : j < n.atts.length
  · obtain ⟨a, ha⟩ : ∃ a, n.atts[j]? = some a := ⟨n.atts[j], List.getElem?_eq_getElem hjl⟩
    obtain ⟨y, yo, ysp, yc, ycs, yty, yown, hvy, hmy, hcy⟩ := hA.mem (i := j) (l := attC a) (by simp [ha])
    rw [List.length_map] at hvy
    injection hvy with hvy _ hvyc
    subst hvy hvyc
    have hcx := ho.get (List.mem_cons_of_mem _ (List.mem_cons_of_mem _ hmy))
    have hli : ((j : Int) < (n.atts.length : Int)) = True := eq_true (by omega)
    have hge : ((0 : Int) ≤ (j : Int)) = True := eq_true (by omega)
    have g0 := bO hcy (j := 0) (by decide)
    have g1 := bO hcy (j := 1) (by decide)
    have g3 := bO hcy (j := 3) (by decide)
    rw [Nat.add_zero] at g0
    change _ = some (Value.string (tx a.pre)) at g0
    change _ = some (Value.string (tx a.loc)) at g1
    change _ = some (Value.string (tx a.val)) at g3
    have haz := hzn.att a (List.mem_of_getElem? ha)
    have htu := bN fF a.val
    have hnl' := eY a.pre a.loc
    have htk := jS (f := atE) ha
    have htl2 := gN (f := atE) (l := n.atts) j
    obtain ⟨u, hu⟩ : ∃ u, u = dI attE a.val := ⟨_, rfl⟩
    obtain ⟨dn, hdn⟩ : ∃ dn, dn = fA a.pre a.loc := ⟨_, rfl⟩
    rw [← hu] at htu
    rw [← hdn] at hnl'
    obtain ⟨sx, hsx⟩ : ∃ sx, sx = 60 :: (nm ++ (ds ++ (n.atts.take j).flatMap atE)) := ⟨_, rfl⟩
    have lsx : sx.length ≤ 18000000000000 := by rw [hsx]; simp only [List.length_cons, List.length_append]; omega
    rw [← hsx] at h6
    have hsn' : 60 :: (nm ++ (ds ++ (n.atts.take (j + 1)).flatMap atE)) = sx ++ atE a := by rw [hsx, htk]; simp
    have w1 : IntKind.i64.wrap ((j : Int) + 1) = ((j + 1 : Nat) : Int) := by rw [bL (by omega)]; omega
    obtain ⟨u0, hu0⟩ : ∃ u0, u0 = sx ++ [32] := ⟨_, rfl⟩
    obtain ⟨u9, hu9⟩ : ∃ u9, u9 = u0 ++ dn := ⟨_, rfl⟩
    obtain ⟨u1, hu1⟩ : ∃ u1, u1 = u9 ++ [61, 34] := ⟨_, rfl⟩
    obtain ⟨u2, hu2⟩ : ∃ u2, u2 = u1 ++ u := ⟨_, rfl⟩
    have l0 : u0.length = sx.length + 1 := by rw [hu0, List.length_append]; rfl
    have l9 : u9.length = u0.length + dn.length := by rw [hu9, List.length_append]
    have l1 : u1.length = u9.length + 2 := by rw [hu1, List.length_append]; rfl
    have l2 : u2.length = u1.length + u.length := by rw [hu2, List.length_append]
    have hfin : u2 ++ [34] = sx ++ atE a := by rw [hu2, hu1, hu9, hu0]; unfold atE; rw [← hu, ← hdn]; simp
    have c0 : astr .add (tx sx) ⟨#[32]⟩ = some (.string (tx u0)) := addX (b := [32]) hu0.symm (by omega)
    have c9 : astr .add (tx u0) (tx dn) = some (.string (tx u9)) := addX hu9.symm (by omega)
    have c1 : astr .add (tx u9) ⟨#[61, 34]⟩ = some (.string (tx u1)) := addX (b := [61, 34]) hu1.symm (by omega)
    have c2 : astr .add (tx u1) (tx u) = some (.string (tx u2)) := addX hu2.symm (by omega)
    have c3 : astr .add (tx u2) ⟨#[34]⟩ = some (.string (tx (sx ++ atE a))) := addX (b := [34]) hfin (by rw [← hfin, List.length_append]; simp; omega)
    simp -implicitDefEqProofs only [go_sem, ↓aj, ↓ah, ak, Nat.reduceBEq, ↓reduceIte, reduceCtorEq, Nat.reduceEqDiff, Nat.reduceAdd, Nat.reduceLeDiff, Int.reduceEq, Int.reduceLT, Int.reduceLE, Int.reduceAdd, Int.reduceToNat, Int.reduceNeg, Nat.reduceMul, Nat.reduceSub, Int.reduceBNe, Int.reduceBEq, h1, h2, h5, h6, h9, hcn, f6, hli, decide_true, bP, aB, aL, Tryz.underlying55, Tryz.underlying52]
    refine bg.of [(0, false, []), (1, false, []), (2, false, []), (3, false, []), (4, false, []), (5, false, []), (6, false, []), (7, false, []), (8, false, []), (9, false, []), (10, false, []), (11, false, []), (12, false, []), (13, false, []), (17, false, []), (18, true, []), (19, false, []), (20, false, []), (21, false, []), (22, true, []), (14, false, [18, 22]), (15, false, []), (16, false, []), (23, false, []), (24, false, []), (25, false, []), (26, false, [])] [18, 22] [(18, 14), (22, 14)] (by kernel_rfl) ?_
    simp -implicitDefEqProofs only [go_sem, ↓aj, ↓ah, ak, Nat.reduceBEq, ↓reduceIte, reduceCtorEq, Nat.reduceEqDiff, Nat.reduceAdd, Nat.reduceLeDiff, Int.reduceEq, Int.reduceLT, Int.reduceLE, Int.reduceAdd, Int.reduceToNat, Int.reduceNeg, Nat.reduceMul, Nat.reduceSub, Int.reduceBNe, Int.reduceBEq, h1, h2, h5, h6, h9, hcn, f6, hli, hge, hcx, g0, g1, g3, c0, and_self, true_and, decide_true, Int.toNat_natCast, Nat.add_zero, fG, iP, jk, aL, fq, bP, asz9, Tryz.underlying59, Tryz.underlying52, Tryz.underlying9]
    refine au.enter Tryz.func33 rfl (by kernel_rfl) (mM s a.pre a.loc (by omega) _ _ ?_)
    rw [← hdn]
    simp -implicitDefEqProofs only [go_sem, ↓aj, ↓ah, ak, Nat.reduceBEq, ↓reduceIte, reduceCtorEq, Nat.reduceEqDiff, Nat.reduceAdd, Nat.reduceLeDiff, Int.reduceEq, Int.reduceLT, Int.reduceLE, Int.reduceAdd, Int.reduceToNat, Int.reduceNeg, Nat.reduceMul, Nat.reduceSub, Int.reduceBNe, Int.reduceBEq, h1, h2, h5, h6, h9, hcn, f6, hli, hge, hcx, g0, g1, g3, c0, c9, c1, and_self, true_and, decide_true, Int.toNat_natCast, Nat.add_zero, fG, iP, jk, aL, fq, bP, asz9, Tryz.underlying59, Tryz.underlying52, Tryz.underlying9]
    refine au.enter Tryz.func32 rfl (by kernel_rfl) (iR s _ a.val 1 attE (.inl ⟨rfl, rfl⟩) (by omega) ho _ _ fun s6 ho6 => ?_)
    rw [← hu]
    simp -implicitDefEqProofs only [go_sem, ↓aj, ↓ah, ak, Nat.reduceBEq, ↓reduceIte, reduceCtorEq, Nat.reduceEqDiff, Nat.reduceAdd, Nat.reduceLeDiff, Int.reduceEq, Int.reduceLT, Int.reduceLE, Int.reduceAdd, Int.reduceToNat, Int.reduceNeg, Nat.reduceMul, Nat.reduceSub, Int.reduceBNe, Int.reduceBEq, h1, h2, h5, h6, h9, c0, c9, c1, c2, c3, w1]
    have hjl' : j + 1 ≤ n.atts.length := hjl
    refine ⟨n.atts.length - (j + 1), by omega, j + 1, ?_⟩
    rw [hsn']
    (repeat' first | assumption | exact rfl | apply And.intro)
  obtain rfl : j = n.atts.length := by omega
  rw [List.take_length] at h6
  obtain ⟨sx, hsx⟩ : ∃ sx, sx = 60 :: (nm ++ (ds ++ n.atts.flatMap atE)) := ⟨_, rfl⟩
  rw [← hsx] at h6
  have hse' : gq n = sx ++ [62] := by rw [hsx, hse]; simp
  have lsx : sx.length ≤ 18000000000000 := by rw [hsx]; simp only [List.length_cons, List.length_append]; omega
  have c62 : astr .add (tx sx) ⟨#[62]⟩ = some (.string (tx (gq n))) := addX (b := [62]) hse'.symm (by rw [hse', List.length_append]; simp; omega)
  have w0' : IntKind.i64.wrap ((i : Int) + 1) = ((i + 1 : Nat) : Int) := by rw [bL (by have := hbn.1; omega)]; omega
  simp -implicitDefEqProofs only [go_sem, ↓aj, ↓ah, ak, Nat.reduceBEq, ↓reduceIte, reduceCtorEq, Nat.reduceEqDiff, Nat.reduceAdd, Nat.reduceLeDiff, Int.reduceEq, Int.reduceLT, Int.reduceLE, Int.reduceAdd, Int.reduceToNat, Int.reduceNeg, Nat.reduceMul, Nat.reduceSub, Int.reduceBNe, Int.reduceBEq, h1, h2, h5, h6, h9, hcn, f6, c62, w0', Int.ofNat_lt, Nat.lt_irrefl, decide_false, bP, aL, Tryz.underlying52]
  have hkk := hR.kid i n hn
  generalize hst : gq n = stx at *
  refine ⟨fun m ρ s => ∃ k_ : Nat, m = ns.length - k_ ∧ k_ ≤ ns.length ∧ ρ 1 = .int .i64 (i : Nat) ∧ ρ 2 = .pointer (some ⟨bd, 0, none⟩) ∧ ρ 5 = .pointer (some ⟨bn, 0, none⟩) ∧ ρ 6 = .string (tx (stx ++ (aR ns k_ (i : Int)).flatMap (aQ ns f))) ∧ ρ 10 = .int .i64 (k_ : Nat) ∧ Own s ((bn, Ob.cells nd 55 true) :: (bd, .cells [.slice (some ⟨x, o, sp⟩) ns.length c] 24 true) :: r) ∧ i < k_,
    ⟨_, i + 1, rfl, hil, h1, h2, h5, by rw [zi hR (Nat.le_refl _), List.flatMap_nil, List.append_nil]; rfl, rfl, ho, Nat.lt_succ_self _⟩, ?_⟩
  clear h1 h2 h5 h6 h9 ho hcn
  rintro _ ρ s ⟨j, rfl, hj, h1, h2, h5, h6, h10, ho, hij⟩
  have hcn := ho.head
  have hcd := ho.tail.head
  by_cases hjl : j < ns.length
  case neg =>
    obtain rfl : j = ns.length := by omega
    rw [show aR ns ns.length (i : Int) = n.kids from hkk.symm] at h6
    obtain ⟨sy, hsy⟩ : ∃ sy, sy = stx ++ n.kids.flatMap (aQ ns f) := ⟨_, rfl⟩
    rw [← hsy] at h6
    have lsy : sy.length + (endE n).length ≤ 100000000000000 := by rw [hsy, List.length_append]; omega
    have hle' : (endE n).length = nm.length + 3 := by rw [hle]; simp
    obtain ⟨u0, hu0⟩ : ∃ u0, u0 = sy ++ [60, 47] := ⟨_, rfl⟩
    obtain ⟨u1, hu1⟩ : ∃ u1, u1 = u0 ++ nm := ⟨_, rfl⟩
    have l0 : u0.length = sy.length + 2 := by rw [hu0, List.length_append]; rfl
    have l1 : u1.length = u0.length + nm.length := by rw [hu1, List.length_append]
    have hfin : u1 ++ [62] = sy ++ endE n := by rw [hu1, hu0, hle]; simp
    have c0 : astr .add (tx sy) ⟨#[60, 47]⟩ = some (.string (tx u0)) := addX (b := [60, 47]) hu0.symm (by omega)
    have c1 : astr .add (tx u0) (tx nm) = some (.string (tx u1)) := addX hu1.symm (by omega)
    have c2 : astr .add (tx u1) ⟨#[62]⟩ = some (.string (tx (sy ++ endE n))) := addX (b := [62]) hfin (by rw [List.length_append]; omega)
    rw [← List.append_assoc, ← hsy] at hk
    simp -implicitDefEqProofs only [go_sem, ↓aj, ↓ah, ak, Nat.reduceBEq, ↓reduceIte, reduceCtorEq, Nat.reduceEqDiff, Nat.reduceAdd, Nat.reduceLeDiff, Int.reduceEq, Int.reduceLT, Int.reduceLE, Int.reduceAdd, Int.reduceToNat, Int.reduceNeg, Nat.reduceMul, Nat.reduceSub, Int.reduceBNe, Int.reduceBEq, h1, h2, h5, h6, h10, hcn, hcd, f3, f4, c0, Int.ofNat_lt, Nat.lt_irrefl, decide_false, bq, bC, Tryz.underlying22, aB, asz9, eT, dQ, Tryz.underlying55, Tryz.underlying9, List.getElem?_cons_zero]
    refine au.enter Tryz.func33 rfl (by kernel_rfl) (mM s n.pre n.loc (by omega) _ _ ?_)
    rw [hnm]
    simp -implicitDefEqProofs only [go_sem, ↓aj, ↓ah, ak, Nat.reduceBEq, ↓reduceIte, reduceCtorEq, Nat.reduceEqDiff, Nat.reduceAdd, Nat.reduceLeDiff, Int.reduceEq, Int.reduceLT, Int.reduceLE, Int.reduceAdd, Int.reduceToNat, Int.reduceNeg, Nat.reduceMul, Nat.reduceSub, Int.reduceBNe, Int.reduceBEq, c0, c1, c2]
    exact hk _ ho.tail.tail
  obtain ⟨m, hm⟩ : ∃ m, ns[j]? = some m := ⟨ns[j], List.getElem?_eq_getElem hjl⟩
  obtain ⟨x', o', sp', c', ccs', ty', own', kv', av', dv', hvx, hmem', hcut', hget', hnr'⟩ := hD.at hm
  injection hvx with hvx _ hvc
  injection hvx with hvx
  injection hvx with e1 e2 e3
  subst e1 e2 e3 hvc
  have hcx := ho.get (List.mem_cons_of_mem _ (List.mem_cons_of_mem _ hmem'))
  have q1 := hget' 1 (by decide)
  change ccs'[o + j * 9 + 1]? = some (.int .i64 m.par) at q1
  have hli : ((j : Int) < (ns.length : Int)) = True := eq_true (by omega)
  have hge : ((0 : Int) ≤ (j : Int)) = True := eq_true (by omega)
  have w1 : IntKind.i64.wrap ((j : Int) + 1) = ((j + 1 : Nat) : Int) := by rw [bL (by have := hbn.1; omega)]; omega
  have hsucc : aR ns (j + 1) (i : Int) = if m.par = i then aR ns j (i : Int) ++ [(j : Int)] else aR ns j (i : Int) := by
    rw [dL, hm]
    dsimp only
    by_cases hp : m.par = i
    · rw [if_pos ⟨by omega, hp⟩, if_pos hp]
    · rw [if_neg (fun h => hp h.2), if_neg hp]
  obtain ⟨sy, hsy⟩ : ∃ sy, sy = stx ++ (aR ns j (i : Int)).flatMap (aQ ns f) := ⟨_, rfl⟩
  rw [← hsy] at h6
  have hij' : i < j + 1 := by omega
  have hjl' : j + 1 ≤ ns.length := hjl
  by_cases hp : m.par = i
  · rw [if_pos hp] at hsucc
    have tp : (m.par == (i : Int)) = true := by rw [beq_iff_eq]; exact hp
    have hnext : stx ++ (aR ns (j + 1) (i : Int)).flatMap (aQ ns f) = sy ++ aQ ns f (j : Int) := by rw [hsucc, hsy, List.flatMap_append]; simp
    have hmono := uW ns (aQ ns f) (i : Int) (j + 1) (ns.length - (j + 1))
    rw [show j + 1 + (ns.length - (j + 1)) = ns.length by omega, show aR ns ns.length (i : Int) = n.kids from hkk.symm] at hmono
    have hl2 := congrArg List.length hnext
    simp only [List.length_append] at hl2
    have ca : astr .add (tx sy) (tx (aQ ns f (j : Int))) = some (.string (tx (sy ++ aQ ns f (j : Int)))) := addX rfl (by rw [List.length_append]; omega)
    have hcl' : cut [Value.slice (some ⟨x, o, sp⟩) ns.length c] 0 1 = some [Value.slice (some ⟨x, o, sp⟩) ns.length c] := rfl
    have hD' : DocX ((bn, Ob.cells nd 55 true) :: (bd, .cells [.slice (some ⟨x, o, sp⟩) ns.length c] 24 true) :: r) (.slice (some ⟨x, o, sp⟩) ns.length c) ns := hD.sub fun e he => List.mem_cons_of_mem _ (List.mem_cons_of_mem _ he)
    simp -implicitDefEqProofs only [go_sem, ↓aj, ↓ah, ak, Nat.reduceBEq, ↓reduceIte, reduceCtorEq, Nat.reduceEqDiff, Nat.reduceAdd, Nat.reduceLeDiff, Int.reduceEq, Int.reduceLT, Int.reduceLE, Int.reduceAdd, Int.reduceToNat, Int.reduceNeg, Nat.reduceMul, Nat.reduceSub, Int.reduceBNe, Int.reduceBEq, h1, h2, h5, h6, h10, hcn, hcd, hcx, q1, tp, hli, hge, hcl', and_self, true_and, decide_true, Int.toNat_natCast, eZ, bq, aB, asz3, bC, bA, Tryz.underlying24, Tryz.underlying22, Tryz.underlying55, Tryz.underlying3, List.getElem?_cons_zero, Option.map_some]
    refine au.enter Tryz.func11 rfl (by kernel_rfl) (ih j s _ _ (by omega) hjl (by omega) hD' ho _ _ fun s6 ho6 => ?_)
    simp -implicitDefEqProofs only [go_sem, ↓aj, ↓ah, ak, Nat.reduceBEq, ↓reduceIte, reduceCtorEq, Nat.reduceEqDiff, Nat.reduceAdd, Nat.reduceLeDiff, Int.reduceEq, Int.reduceLT, Int.reduceLE, Int.reduceAdd, Int.reduceToNat, Int.reduceNeg, Nat.reduceMul, Nat.reduceSub, Int.reduceBNe, Int.reduceBEq, h1, h2, h5, h6, h10, ca, w1]
    refine ⟨ns.length - (j + 1), by omega, j + 1, ?_⟩
    rw [hnext]
    (repeat' first | assumption | exact rfl | apply And.intro)
  · rw [if_neg hp] at hsucc
    have tp : (m.par == (i : Int)) = false := beq_eq_false_iff_ne.2 hp
    have hnext : stx ++ (aR ns (j + 1) (i : Int)).flatMap (aQ ns f) = sy := by rw [hsucc, hsy]
    simp -implicitDefEqProofs only [go_sem, ↓aj, ↓ah, ak, Nat.reduceBEq, ↓reduceIte, reduceCtorEq, Nat.reduceEqDiff, Nat.reduceAdd, Nat.reduceLeDiff, Int.reduceEq, Int.reduceLT, Int.reduceLE, Int.reduceAdd, Int.reduceToNat, Int.reduceNeg, Nat.reduceMul, Nat.reduceSub, Int.reduceBNe, Int.reduceBEq, h1, h2, h5, h6, h10, hcn, hcd, hcx, q1, tp, hli, hge, w1, and_self, true_and, decide_true, Int.toNat_natCast, eZ, bq, aB, asz3, bC, bA, Tryz.underlying24, Tryz.underlying22, Tryz.underlying55, Tryz.underlying3, List.getElem?_cons_zero]
    refine ⟨ns.length - (j + 1), by omega, j + 1, ?_⟩
    rw [hnext]
    (repeat' first | assumption | exact rfl | apply And.intro)
end Go.Proofs.YtigjbehgfjjlkaaGreatDoor
