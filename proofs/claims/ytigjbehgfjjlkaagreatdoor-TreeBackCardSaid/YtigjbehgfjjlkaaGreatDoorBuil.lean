/- A strings.Builder of the call's own. No conditions. -/
import Derived.Test.YtigjbehgfjjlkaaGreatDoorAbsT
import Derived.Test.YtigjbehgfjjlkaaGreatDoorAbsS
import Derived.Test.YtigjbehgfjjlkaaGreatDoorAbsQ
import Derived.Test.YtigjbehgfjjlkaaGreatDoorAbsJ
set_option linter.unusedVariables false
set_option linter.unusedSimpArgs false
namespace Go.Proofs.YtigjbehgfjjlkaaGreatDoor
open Go Go.Abs Go.RowKit
variable {base : Nat} {w0 : World} {G : Nat}
def okP (b : Nat) (p : Value) : Prop := p = .pointer none ∨ p = .pointer (some ⟨b, 0, none⟩)
theorem toUP {st : St} {b : Nat} {p v : Value} (hc : st.H b = some (.cells [p, v] 64 true)) : dL Tryz.prog st 62 114 (.pointer (some ⟨b, 0, none⟩)) = some (.pointer (some ⟨b, 0, none⟩), st) := by
  simp [dL, Tryz.underlying62, Tryz.underlying114, hc, wR]
theorem ofUP {st : St} {b : Nat} {p v : Value} (hc : st.H b = some (.cells [p, v] 64 true)) : dL Tryz.prog st 114 62 (.pointer (some ⟨b, 0, none⟩)) = some (.pointer (some ⟨b, 0, none⟩), st) := by
  simp [dL, Tryz.underlying62, Tryz.underlying114, hc, wR]
set_option maxRecDepth 10000 in
theorem mq (st : St) (r : Hp) (b : Nat) (p v : Value) (hp : okP b p) (hO : Own st ((b, .cells [p, v] 64 true) :: r)) (k q : Value → St → Prop)
    (hk : ∀ st', Own st' ((b, .cells [.pointer (some ⟨b, 0, none⟩), v] 64 true) :: r) → k (.tuple #[]) st') :
    ay (C base w0 G) 64 [.pointer (some ⟨b, 0, none⟩)] st k q := by
  refine ay.of (cx := C base w0 G) mixed Tryz.func64 rfl (by kernel_rfl) (by simp [Tryz.ntmps64]) ?_
  simp only [Tryz.results64]
  have hc := hO.head
  rcases hp with rfl | rfl
  · simp -implicitDefEqProofs only [go_sem, ↓aj, ↓ah, astr, ak, Nat.reduceBEq, ↓reduceIte, reduceCtorEq, Nat.reduceEqDiff, Nat.reduceAdd, Nat.reduceLeDiff, Int.reduceEq, Int.reduceLT, Int.reduceLE, Int.reduceAdd, Int.reduceToNat, Int.reduceNeg, Nat.reduceMul, Nat.reduceSub, Int.reduceBNe, Int.reduceBEq, hc, yQ, HV, Tryz.underlying62, toUP hc]
    refine au.same Tryz.func86 (by kernel_rfl) rfl (by kernel_rfl) (by kernel_rfl) ?_
    simp -implicitDefEqProofs only [go_sem, ↓aj, ↓ah, astr, ak, Nat.reduceBEq, ↓reduceIte, reduceCtorEq, Nat.reduceEqDiff, Nat.reduceAdd, Nat.reduceLeDiff, Int.reduceEq, Int.reduceLT, Int.reduceLE, Int.reduceAdd, Int.reduceToNat, Int.reduceNeg, Nat.reduceMul, Nat.reduceSub, Int.reduceBNe, Int.reduceBEq, hc, yQ, HV, Tryz.underlying62, ofUP hc, wR]
    exact hk _ (hO.set rfl (.cells [.pointer (some ⟨b, 0, none⟩), v] 64 true) rfl)
  · simp -implicitDefEqProofs only [go_sem, ↓aj, ↓ah, astr, ak, Nat.reduceBEq, ↓reduceIte, reduceCtorEq, Nat.reduceEqDiff, Nat.reduceAdd, Nat.reduceLeDiff, Int.reduceEq, Int.reduceLT, Int.reduceLE, Int.reduceAdd, Int.reduceToNat, Int.reduceNeg, Nat.reduceMul, Nat.reduceSub, Int.reduceBNe, Int.reduceBEq, hc, yQ, HV, Tryz.underlying62, wR]
    exact hk _ hO
def Bld (b : Nat) (l : List Nat) (h : Hp) : Prop := ∃ p v hg, h = (b, Ob.cells [p, v] 64 true) :: hg ∧ GV v (nl l) l.length 1 5 hg ∧ (l = [] → v = .slice none 0 0) ∧ okP b p ∧ ∀ d ∈ l, d < 256
theorem Bld.new (b : Nat) : Bld b [] [(b, .cells [.pointer none, .slice none 0 0] 64 true)] := ⟨_, _, [], rfl, GV.nil, fun _ => rfl, .inl rfl, fun d hd => by simp at hd⟩
set_option maxRecDepth 10000 in
theorem uK (st : St) (r h : Hp) (b c : Nat) (l : List Nat) (hb : Bld b l h) (hc : c < 256) (hl : l.length ≤ 100000000000000) (hO : Own st (h ++ r)) (k q : Value → St → Prop)
    (hk : ∀ h' st', Bld b (l ++ [c]) h' → Own st' (h' ++ r) → k .nilIface st') :
    ay (C base w0 G) 87 [.pointer (some ⟨b, 0, none⟩), .int .u8 c] st k q := by
  obtain ⟨p, v, hg, rfl, hG, hv0, hp, hd⟩ := hb
  refine ay.of (cx := C base w0 G) mixed Tryz.func87 rfl (by kernel_rfl) (by simp [Tryz.ntmps87]) ?_
  simp only [Tryz.results87]
  simp -implicitDefEqProofs only [go_sem, ↓aj, ↓ah, astr, ak, Nat.reduceBEq, ↓reduceIte, reduceCtorEq, Nat.reduceEqDiff, Nat.reduceAdd, Nat.reduceLeDiff, Int.reduceEq, Int.reduceLT, Int.reduceLE, Int.reduceAdd, Int.reduceToNat, Int.reduceNeg, Nat.reduceMul, Nat.reduceSub, Int.reduceBNe, Int.reduceBEq]
  refine au.enter Tryz.func64 rfl (by kernel_rfl) (mq st _ b p v hp hO _ _ fun s1 hO1 => ?_)
  have hc1 := hO1.head
  simp -implicitDefEqProofs only [go_sem, ↓aj, ↓ah, astr, ak, Nat.reduceBEq, ↓reduceIte, reduceCtorEq, Nat.reduceEqDiff, Nat.reduceAdd, Nat.reduceLeDiff, Int.reduceEq, Int.reduceLT, Int.reduceLE, Int.reduceAdd, Int.reduceToNat, Int.reduceNeg, Nat.reduceMul, Nat.reduceSub, Int.reduceBNe, Int.reduceBEq, hc1, mY, wQ, Tryz.underlying31, aI (st := s1) (v := .int .u8 c) Tryz.underlying31 asz5 azc5 rfl rfl rfl (by decide)]
  have hO2 : Own s1 (hg ++ ((b, Ob.cells [.pointer (some ⟨b, 0, none⟩), v] 64 true) :: r)) := hO1.perm (aJ hg _ r).symm
  refine GV.fC Tryz.underlying31 (by rw [Tryz.underlying31]; rfl) asz5 azc5 (c := [.int .u8 c]) aby5 hG hO2 rfl rfl (by omega) fun v' h' s' hG' hs' => ?_
  have hO3 := hs'.perm (aJ h' _ r)
  have hc3 := hO3.head
  obtain ⟨a', rfl⟩ := hG'.isSlice
  simp -implicitDefEqProofs only [go_sem, ↓aj, ↓ah, astr, ak, Nat.reduceBEq, ↓reduceIte, reduceCtorEq, Nat.reduceEqDiff, Nat.reduceAdd, Nat.reduceLeDiff, Int.reduceEq, Int.reduceLT, Int.reduceLE, Int.reduceAdd, Int.reduceToNat, Int.reduceNeg, Nat.reduceMul, Nat.reduceSub, Int.reduceBNe, Int.reduceBEq, hc3, mY, wQ, wR, Tryz.underlying31, List.all_cons, List.all_nil, Bool.and_true, List.toList_toArray, List.size_toArray, List.length_cons, List.length_nil, and_self, true_and]
  refine hk _ _ ⟨_, _, h', rfl, ?_, fun e => absurd e (by simp), .inr rfl, ?_⟩ (hO3.set rfl (.cells [.pointer (some ⟨b, 0, none⟩), .slice a' (l.length + 1) (l.length + 1)] 64 true) rfl)
  · rw [wL, List.length_append]; exact hG'
  · intro d hd'
    rcases List.mem_append.1 hd' with h | h
    · exact hd d h
    · rw [List.mem_singleton.1 h]; exact hc
theorem HZ (st : St) (m : List Nat) (hm : ∀ d ∈ m, d < 256) : asrc st 1 (.string (str m)) = some (m.length, nl m) := by
  simp only [asrc, if_true, kF]
  congr 2
  rw [Hu, b8, List.map_map]
  unfold nl bl
  rw [List.map_map]
  apply List.map_congr_left
  intro x hx
  have := hm x hx
  simp; omega
theorem GV.JJ {P : Program} {st : St} {t t' e : TypeId} {n sz b m : Nat} {z cs Cs : List Value} {x v : Value} {hg r : Hp} {f : Value → St → Prop}
    (hu : P.underlying t = some (.slice e)) (hi : bK (P.underlying t') = some false) (hn : asz P e = some (sz + 1)) (hz : azc P e = some z) (hb : bq P e = some (b + 1))
    (hG : GV v cs n (sz + 1) e hg) (hO : Own st (hg ++ r)) (hs : asrc st (sz + 1) x = some (m, Cs)) (hl : Cs.length = m * (sz + 1)) (ho : Cs.all one = true) (hlim : (n + m) * (b + 1) ≤ 140737488355328)
    (k : ∀ v' hg' st', GV v' (cs ++ Cs) (n + m) (sz + 1) e hg' → (v = .slice none 0 0 → m = 0 → v' = .slice none 0 0) → Own st' (hg' ++ r) → f v' st') : alet (bM P st #[t, t'] v x) (stop f .mk) := by
  by_cases hm : m = 0
  · subst hm
    have hC : Cs = [] := List.eq_nil_of_length_eq_zero (by simpa using hl)
    subst hC
    rcases hG with ⟨rfl, rfl, rfl, rfl⟩ | ⟨B, rfl, rfl, hcl⟩
    · rw [kY hu hi hn hz hb hs ho]
      exact k _ [] _ .nil (fun _ _ => rfl) hO
    · have hcut : cut cs 0 (n * (sz + 1)) = some cs := by rw [← hcl]; exact iI cs
      rw [gQ hu hi hn hz hb hs ho hO.head hcut hlim]
      refine k _ [(st.n, .cells (cs ++ []) e true)] _ (.inr ⟨st.n, rfl, rfl, by simpa using hcl⟩) (fun e => by cases e) ?_
      exact (hO.kill rfl).new (.cells (cs ++ []) e true)
  · exact GV.append hu hi hn hz hb hG hO hs hm hl ho hlim fun v' hg' st' h1 h2 => k v' hg' st' h1 (fun _ h => absurd h hm) h2
set_option maxRecDepth 10000 in
theorem kI (st : St) (r h : Hp) (b : Nat) (l m : List Nat) (hb : Bld b l h) (hm : ∀ d ∈ m, d < 256) (hl : l.length + m.length ≤ 100000000000000) (hO : Own st (h ++ r)) (k q : Value → St → Prop)
    (hk : ∀ h' st', Bld b (l ++ m) h' → Own st' (h' ++ r) → k (.tuple #[.int .i64 (m.length : Nat), .nilIface]) st') :
    ay (C base w0 G) 48 [.pointer (some ⟨b, 0, none⟩), .string (str m)] st k q := by
  obtain ⟨p, v, hg, rfl, hG, hv0, hp, hd⟩ := hb
  refine ay.of (cx := C base w0 G) mixed Tryz.func48 rfl (by kernel_rfl) (by simp [Tryz.ntmps48]) ?_
  simp only [Tryz.results48]
  simp -implicitDefEqProofs only [go_sem, ↓aj, ↓ah, astr, ak, Nat.reduceBEq, ↓reduceIte, reduceCtorEq, Nat.reduceEqDiff, Nat.reduceAdd, Nat.reduceLeDiff, Int.reduceEq, Int.reduceLT, Int.reduceLE, Int.reduceAdd, Int.reduceToNat, Int.reduceNeg, Nat.reduceMul, Nat.reduceSub, Int.reduceBNe, Int.reduceBEq]
  refine au.enter Tryz.func64 rfl (by kernel_rfl) (mq st _ b p v hp hO _ _ fun s1 hO1 => ?_)
  have hc1 := hO1.head
  simp -implicitDefEqProofs only [go_sem, ↓aj, ↓ah, astr, ak, Nat.reduceBEq, ↓reduceIte, reduceCtorEq, Nat.reduceEqDiff, Nat.reduceAdd, Nat.reduceLeDiff, Int.reduceEq, Int.reduceLT, Int.reduceLE, Int.reduceAdd, Int.reduceToNat, Int.reduceNeg, Nat.reduceMul, Nat.reduceSub, Int.reduceBNe, Int.reduceBEq, hc1, mY, wQ, Tryz.underlying31]
  have hO2 : Own s1 (hg ++ ((b, Ob.cells [.pointer (some ⟨b, 0, none⟩), v] 64 true) :: r)) := hO1.perm (aJ hg _ r).symm
  refine GV.JJ (t := 31) (t' := 9) Tryz.underlying31 (by rw [Tryz.underlying9]; rfl) asz5 azc5 aby5 hG hO2 (HZ s1 m hm) (by rw [wK]; exact (Nat.mul_one _).symm) (K5 m) (by omega) fun v' h' s' hG' hnil hs' => ?_
  have hO3 := hs'.perm (aJ h' _ r)
  have hc3 := hO3.head
  obtain ⟨a', rfl⟩ := hG'.isSlice
  simp -implicitDefEqProofs only [go_sem, ↓aj, ↓ah, astr, ak, Nat.reduceBEq, ↓reduceIte, reduceCtorEq, Nat.reduceEqDiff, Nat.reduceAdd, Nat.reduceLeDiff, Int.reduceEq, Int.reduceLT, Int.reduceLE, Int.reduceAdd, Int.reduceToNat, Int.reduceNeg, Nat.reduceMul, Nat.reduceSub, Int.reduceBNe, Int.reduceBEq, hc3, mY, wQ, wR, Tryz.underlying31, Tryz.underlying9, List.length_cons, List.length_nil, kF]
  refine hk _ _ ⟨_, _, h', rfl, ?_, fun e => ?_, .inr rfl, ?_⟩ (hO3.set rfl (.cells [.pointer (some ⟨b, 0, none⟩), .slice a' (l.length + m.length) (l.length + m.length)] 64 true) rfl)
  · rw [wL, List.length_append]; exact hG'
  · obtain ⟨rfl, rfl⟩ := List.append_eq_nil_iff.1 e
    exact hnil (hv0 rfl) rfl
  · intro d hd'
    rcases List.mem_append.1 hd' with h | h
    · exact hd d h
    · exact hm d h
theorem sw {b o n c : Nat} {sp : Option Nat} : iA (.slice (some ⟨b, o, sp⟩) (n + 1) c) = some (.pointer (some ⟨b, o, none⟩)) := rfl
theorem uL : iA (.slice none 0 0) = some (.pointer none) := rfl
theorem uM {P : Program} {st : St} {tys : Array TypeId} : jv P st tys (.pointer none) (.int .i64 0) = some (.string ⟨#[]⟩, st) := rfl
theorem wm {P : Program} {st : St} {pt it e : TypeId} {b n : Nat} {D : List Value} {l : List Nat} (hB : st.H b = some (.cells D e true)) (hp : P.underlying pt = some (.pointer e)) (hc : P.cellsOf e = 1) (hn : n + 1 ≤ 9223372036854775807) (hcut : cut D 0 (n + 1) = some (nl l)) :
    jv P st #[pt, it] (.pointer (some ⟨b, 0, none⟩)) (.int .i64 ((n + 1 : Nat) : Int)) = some (.string (str l), st.set b none) := by
  show (match st.H b, (#[pt, it] : Array TypeId)[0]? with
    | some (.cells cs ty true), some pt => match P.underlying pt with
      | some (.pointer e) => if P.cellsOf ty = 1 ∧ e = ty ∧ n + 1 ≤ 9223372036854775807 then match cut cs 0 (n + 1) with
          | some Cs => (u8s Cs).map fun ns => (Value.string (Go.Abs.strOf ns), st.set b none)
          | none => none
        else none
      | _ => none
    | _, _ => none) = _
  rw [hB]
  simp only [List.getElem?_toArray, List.getElem?_cons_zero, hp, hc, hn, hcut, true_and, if_true]
  rw [show u8s (nl l) = some (l.map fun n : Nat => (n : Int)) from CP _, ← wM]
  rfl
set_option maxRecDepth 10000 in
theorem rQ (st : St) (r h : Hp) (b : Nat) (l : List Nat) (hb : Bld b l h) (hl : l.length ≤ 100000000000000) (hO : Own st (h ++ r)) (k q : Value → St → Prop)
    (hk : ∀ st', Own st' r → k (.string (str l)) st') :
    ay (C base w0 G) 31 [.pointer (some ⟨b, 0, none⟩)] st k q := by
  obtain ⟨p, v, hg, rfl, hG, hv0, hp, hd⟩ := hb
  refine ay.of (cx := C base w0 G) mixed Tryz.func31 rfl (by kernel_rfl) (by simp [Tryz.ntmps31]) ?_
  simp only [Tryz.results31]
  have hc := hO.head
  simp -implicitDefEqProofs only [go_sem, ↓aj, ↓ah, astr, ak, Nat.reduceBEq, ↓reduceIte, reduceCtorEq, Nat.reduceEqDiff, Nat.reduceAdd, Nat.reduceLeDiff, Int.reduceEq, Int.reduceLT, Int.reduceLE, Int.reduceAdd, Int.reduceToNat, Int.reduceNeg, Nat.reduceMul, Nat.reduceSub, Int.reduceBNe, Int.reduceBEq]
  cases l with
  | nil =>
    obtain rfl := hv0 rfl
    refine bG.of [(0, false, []), (1, false, []), (2, false, []), (3, false, []), (5, false, []), (6, false, []), (7, false, []), (8, true, []), (9, true, []), (4, false, [8, 9]), (10, false, []), (11, false, [])] [8, 9] [(8, 4), (9, 4)] (by kernel_rfl) ?_
    simp -implicitDefEqProofs only [go_sem, ↓aj, ↓ah, astr, ak, Nat.reduceBEq, ↓reduceIte, reduceCtorEq, Nat.reduceEqDiff, Nat.reduceAdd, Nat.reduceLeDiff, Int.reduceEq, Int.reduceLT, Int.reduceLE, Int.reduceAdd, Int.reduceToNat, Int.reduceNeg, Nat.reduceMul, Nat.reduceSub, Int.reduceBNe, Int.reduceBEq, hc, mY, wQ, Tryz.underlying31, uL, uM]
    exact hk st hO.right
  | cons d0 l0 =>
    rcases hG with ⟨rfl, h2, h3, rfl⟩ | ⟨B, rfl, rfl, h3⟩
    · simp at h2
    have hcb := hO.get (b := B) (o := .cells (nl (d0 :: l0)) 5 true) (by simp)
    have hcut := iI (nl (d0 :: l0))
    rw [wK, List.length_cons] at hcut
    have hlen : (d0 :: l0).length = l0.length + 1 := rfl
    refine bG.of [(0, false, []), (1, false, []), (2, false, []), (3, false, []), (5, false, []), (6, false, []), (7, false, []), (8, true, []), (9, true, []), (4, false, [8, 9]), (10, false, []), (11, false, [])] [8, 9] [(8, 4), (9, 4)] (by kernel_rfl) ?_
    simp -implicitDefEqProofs only [go_sem, ↓aj, ↓ah, astr, ak, Nat.reduceBEq, ↓reduceIte, reduceCtorEq, Nat.reduceEqDiff, Nat.reduceAdd, Nat.reduceLeDiff, Int.reduceEq, Int.reduceLT, Int.reduceLE, Int.reduceAdd, Int.reduceToNat, Int.reduceNeg, Nat.reduceMul, Nat.reduceSub, Int.reduceBNe, Int.reduceBEq, hc, hcb, hlen, mY, wQ, Tryz.underlying31, sw, wm hcb Tryz.underlying88 cof5 (show l0.length + 1 ≤ 9223372036854775807 by rw [List.length_cons] at hl; omega) hcut]
    exact hk _ ((hO.perm (List.Perm.swap _ _ _)).kill rfl).tail
end Go.Proofs.YtigjbehgfjjlkaaGreatDoor
