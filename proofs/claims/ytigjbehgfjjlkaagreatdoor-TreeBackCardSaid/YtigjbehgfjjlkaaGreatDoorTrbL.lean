/- The walk of TreeBack. No conditions but on the library's tables. -/
import Derived.Test.YtigjbehgfjjlkaaGreatDoorTrHB
import Derived.Test.YtigjbehgfjjlkaaGreatDoorTrGE
import Derived.Test.YtigjbehgfjjlkaaGreatDoorXnlL
set_option linter.unusedVariables false
set_option linter.unusedSimpArgs false
namespace Go.Proofs.YtigjbehgfjjlkaaGreatDoor
open Go Go.Abs Go.RowKit Go.Xml
variable {base : Nat} {w0 : World} {G : Nat}
theorem BO (H : Hp) : DocX H (.slice none 0 0) [] := ⟨[], rfl, .inl ⟨rfl, .inl rfl⟩, fun i n hi => by simp at hi⟩
theorem EP : BndX [] := ⟨Nat.zero_le _, fun n hn => by cases hn⟩
theorem Back.bnd {ns : List Nd} (h : Back ns) : BndX (ns.map Nd.up) ∧ (∀ n ∈ ns.map Nd.up, SzX n) ∧ ∀ n ∈ ns.map Nd.up, (ns.map Nd.up).length * ownE n ≤ 100000000000000 := by
  have hm := h.many
  refine ⟨⟨by rw [List.length_map]; omega, fun n hn => ?_⟩, fun n hn => ?_, fun n hn => ?_⟩
  · obtain ⟨m, hm', rfl⟩ := List.mem_map.1 hn
    have h1 := (h.sz m hm').1
    have h2 := h.kids m hm'
    refine ⟨h1.atts, h1.dcls, ?_⟩
    show (m.kids.map _).length ≤ _
    rw [List.length_map]; omega
  · obtain ⟨m, hm', rfl⟩ := List.mem_map.1 hn
    exact (h.sz m hm').1
  · obtain ⟨m, hm', rfl⟩ := List.mem_map.1 hn
    rw [List.length_map]
    exact Nat.le_trans (Nat.mul_le_mul hm (h.sz m hm').2) (by decide)
theorem Back.small {ns : List Nd} (h : Back ns) : Small ns := ⟨by have := h.many; omega, fun n hn => ⟨by have := h.kids n hn; omega, (h.sz n hn).1.atts, (h.sz n hn).1.dcls⟩⟩
set_option maxRecDepth 10000 in
theorem Ea (st : St) (r : Hp) (X : Value) (l : Tx) (hM : eG w0) (hT : dw w0) (hX : Nb r X (nb8 l)) (hS : Sl Tryz.prog r X 1) (hO : Own st r) (k q : Value → St → Prop) (hk : ∀ st', k (.bool true) st') : ay (C base w0 3) 4 [X] st k q := by
  obtain ⟨xa, xc, hxs⟩ := hX.isSlice
  rw [aF] at hxs
  refine ay.of (cx := C base w0 3) mixed Tryz.func4 rfl (by kernel_rfl) (by simp [Tryz.ntmps4]) ?_
  simp only [Tryz.results4]
  simp -implicitDefEqProofs only [go_sem, ↓aj, ↓ah, ak, Nat.reduceBEq, ↓reduceIte, reduceCtorEq, Nat.reduceEqDiff, Nat.reduceAdd, Nat.reduceLeDiff, Int.reduceEq, Int.reduceLT, Int.reduceLE, Int.reduceAdd, Int.reduceToNat, Int.reduceNeg, Nat.reduceMul, Nat.reduceSub, Int.reduceBNe, Int.reduceBEq]
  refine au.enter Tryz.func7 rfl (by kernel_rfl) (rX _ _ hM hT hO _ _ fun s1 ho1 => ?_)
  by_cases hl : l.length > 5000
  · have tl : ((l.length : Int) > 5000) = True := eq_true (by omega)
    simp -implicitDefEqProofs only [go_sem, ↓aj, ↓ah, ak, Nat.reduceBEq, ↓reduceIte, reduceCtorEq, Nat.reduceEqDiff, Nat.reduceAdd, Nat.reduceLeDiff, Int.reduceEq, Int.reduceLT, Int.reduceLE, Int.reduceAdd, Int.reduceToNat, Int.reduceNeg, Nat.reduceMul, Nat.reduceSub, Int.reduceBNe, Int.reduceBEq, hxs, tl, decide_true, Tryz.underlying31]
    refine au.enter Tryz.func7 rfl (by kernel_rfl) (rX _ _ hM hT ho1 _ _ fun s3 ho3 => ?_)
    simp -implicitDefEqProofs only [go_sem, ↓aj, ↓ah, ak, Nat.reduceBEq, ↓reduceIte, reduceCtorEq, Nat.reduceEqDiff, Nat.reduceAdd, Nat.reduceLeDiff, Int.reduceEq, Int.reduceLT, Int.reduceLE, Int.reduceAdd, Int.reduceToNat, Int.reduceNeg, Nat.reduceMul, Nat.reduceSub, Int.reduceBNe, Int.reduceBEq]
    exact hk _
  have tl : ((l.length : Int) > 5000) = False := eq_false (by omega)
  simp -implicitDefEqProofs only [go_sem, ↓aj, ↓ah, ak, Nat.reduceBEq, ↓reduceIte, reduceCtorEq, Nat.reduceEqDiff, Nat.reduceAdd, Nat.reduceLeDiff, Int.reduceEq, Int.reduceLT, Int.reduceLE, Int.reduceAdd, Int.reduceToNat, Int.reduceNeg, Nat.reduceMul, Nat.reduceSub, Int.reduceBNe, Int.reduceBEq, hxs, tl, decide_false, Tryz.underlying31]
  rw [← hxs]
  refine au.enter Tryz.func12 rfl (by kernel_rfl) (mH s1 r X l hM hT hX hS (by omega) ho1 _ _ (fun ns v h st' hp hD hO2 => ?_) (fun e st' hp hO2 => ?_))
  rotate_left
  · have he0 := D9 hp
    have hne : (e != 0) = true := by rw [bne_iff_ne]; exact he0
    have ho3 := (hO2.new (.cells [.slice none 0 0] 24 true)).set rfl (.cells [.slice none 0 0] 24 true) rfl
    have hcl : cut [Value.slice none 0 0] 0 1 = some [Value.slice none 0 0] := rfl
    simp -implicitDefEqProofs only [go_sem, ↓aj, ↓ah, ak, Nat.reduceBEq, ↓reduceIte, reduceCtorEq, Nat.reduceEqDiff, Nat.reduceAdd, Nat.reduceLeDiff, Int.reduceEq, Int.reduceLT, Int.reduceLE, Int.reduceAdd, Int.reduceToNat, Int.reduceNeg, Nat.reduceMul, Nat.reduceSub, Int.reduceBNe, Int.reduceBEq, hne, bB, mh, gT, Tryz.underlying24, Tryz.underlying27, cut1, hcl, List.length_cons, List.length_nil, List.set_cons_zero, List.getElem?_cons_succ, List.getElem?_cons_zero, Option.map_some]
    refine au.enter Tryz.func13 rfl (by kernel_rfl) (vo _ _ _ [] (BO _) EP ho3 _ _ fun s4 ho4 => ?_)
    rw [show bP [] = false from rfl]
    simp -implicitDefEqProofs only [go_sem, ↓aj, ↓ah, ak, Nat.reduceBEq, ↓reduceIte, reduceCtorEq, Nat.reduceEqDiff, Nat.reduceAdd, Nat.reduceLeDiff, Int.reduceEq, Int.reduceLT, Int.reduceLE, Int.reduceAdd, Int.reduceToNat, Int.reduceNeg, Nat.reduceMul, Nat.reduceSub, Int.reduceBNe, Int.reduceBEq]
    exact hk _
  have hB := back (by omega) hp
  obtain ⟨hb1, hb2, hb3⟩ := hB.bnd
  have hview := hD.view
  have hDX := hview.docX
  obtain ⟨va, vc, hva⟩ := hDX.isSlice
  subst hva
  have hcl : cut [Value.slice va (ns.map Nd.up).length vc] 0 1 = some [Value.slice va (ns.map Nd.up).length vc] := rfl
  have ho3 := (hO2.new (.cells [.slice none 0 0] 24 true)).set rfl (.cells [.slice va (ns.map Nd.up).length vc] 24 true) rfl
  simp -implicitDefEqProofs only [go_sem, ↓aj, ↓ah, ak, Nat.reduceBEq, ↓reduceIte, reduceCtorEq, Nat.reduceEqDiff, Nat.reduceAdd, Nat.reduceLeDiff, Int.reduceEq, Int.reduceLT, Int.reduceLE, Int.reduceAdd, Int.reduceToNat, Int.reduceNeg, Nat.reduceMul, Nat.reduceSub, Int.reduceBNe, Int.reduceBEq, bB, mh, gT, Tryz.underlying24, Tryz.underlying27, cut1, hcl, List.length_cons, List.length_nil, List.set_cons_zero, List.getElem?_cons_succ, List.getElem?_cons_zero, Option.map_some]
  generalize hS3 : (St.set (St.new st' _) _ _) = S3 at *
  generalize hb3' : st'.n = b3 at *
  have hD3 := hDX.sub (H' := (b3, Ob.cells [.slice va (ns.map Nd.up).length vc] 24 true) :: (h ++ r)) fun e he => List.mem_cons_of_mem _ (List.mem_append_left _ he)
  refine au.enter Tryz.func9 rfl (by kernel_rfl) (jV _ _ _ _ hD3 hb1 hb2 hb3 ho3 _ _ fun s4 ho4 => ?_)
  rw [hB.right, if_pos rfl]
  obtain ⟨W, hW⟩ : ∃ W, W = bg (ns.map Nd.up) (ns.map Nd.up).length 0 := ⟨_, rfl⟩
  have hWl := hB.len
  have hag := hB.again
  rw [← hW] at hWl hag
  rw [← hW]
  have ho5 := ho4.new (.cells (nl (nb8 W)) 5 true)
  obtain ⟨n1, n2⟩ := uG W s4.n _ (List.mem_cons_self (l := (b3, Ob.cells [.slice va (ns.map Nd.up).length vc] 24 true) :: (h ++ r)))
  simp -implicitDefEqProofs only [go_sem, ↓aj, ↓ah, ak, Nat.reduceBEq, ↓reduceIte, reduceCtorEq, Nat.reduceEqDiff, Nat.reduceAdd, Nat.reduceLeDiff, Int.reduceEq, Int.reduceLT, Int.reduceLE, Int.reduceAdd, Int.reduceToNat, Int.reduceNeg, Nat.reduceMul, Nat.reduceSub, Int.reduceBNe, Int.reduceBEq, jy Tryz.underlying9 Tryz.underlying31 Tryz.underlying5 asz5, List.getElem?_cons_succ, List.getElem?_cons_zero]
  generalize hS5 : (St.new s4 _) = S5 at *
  generalize hb5' : s4.n = b5 at *
  refine au.enter Tryz.func12 rfl (by kernel_rfl) (mH _ _ _ W hM hT n1 n2 hWl ho5 _ _ (fun ns2 v2 h2 st2 hp2 hD2 ho6 => ?_) (fun e2 st2 hp2 ho6 => ?_))
  rotate_left
  · have he2 : e2 = 12 := by
      rcases hag with g | g
      · rw [g] at hp2; cases hp2
      · rw [g] at hp2; injection hp2 with hp2; exact hp2.symm
    subst he2
    have ho7 := (ho6.new (.cells [.slice none 0 0] 24 true)).set rfl (.cells [.slice none 0 0] 24 true) rfl
    have hcl0 : cut [Value.slice none 0 0] 0 1 = some [Value.slice none 0 0] := rfl
    simp -implicitDefEqProofs only [go_sem, ↓aj, ↓ah, ak, Nat.reduceBEq, ↓reduceIte, reduceCtorEq, Nat.reduceEqDiff, Nat.reduceAdd, Nat.reduceLeDiff, Int.reduceEq, Int.reduceLT, Int.reduceLE, Int.reduceAdd, Int.reduceToNat, Int.reduceNeg, Nat.reduceMul, Nat.reduceSub, Int.reduceBNe, Int.reduceBEq, bB, mh, gT, Tryz.underlying24, Tryz.underlying27, cut1, hcl0, List.length_cons, List.length_nil, List.set_cons_zero, List.getElem?_cons_succ, List.getElem?_cons_zero, Option.map_some]
    refine au.enter Tryz.func9 rfl (by kernel_rfl) (jV _ _ _ [] (BO _) EP (fun n hn => by cases hn) (fun n hn => by cases hn) ho7 _ _ fun s8 ho8 => ?_)
    rw [show bP [] = false from rfl, if_neg (by decide)]
    simp -implicitDefEqProofs only [go_sem, ↓aj, ↓ah, ak, Nat.reduceBEq, ↓reduceIte, reduceCtorEq, Nat.reduceEqDiff, Nat.reduceAdd, Nat.reduceLeDiff, Int.reduceEq, Int.reduceLT, Int.reduceLE, Int.reduceAdd, Int.reduceToNat, Int.reduceNeg, Nat.reduceMul, Nat.reduceSub, Int.reduceBNe, Int.reduceBEq, Tryz.underlying27, List.getElem?_cons_succ, List.getElem?_cons_zero]
    exact hk _
  have he2 : ns2 = ns := by
    rcases hag with g | g
    · rw [g] at hp2; injection hp2 with hp2; exact hp2.symm
    · rw [g] at hp2; cases hp2
  subst he2
  have hview2 := hD2.view
  have hDX2 := hview2.docX
  obtain ⟨va2, vc2, hva2⟩ := hDX2.isSlice
  subst hva2
  have hcl2 : cut [Value.slice va2 (ns2.map Nd.up).length vc2] 0 1 = some [Value.slice va2 (ns2.map Nd.up).length vc2] := rfl
  have ho7 := (ho6.new (.cells [.slice none 0 0] 24 true)).set rfl (.cells [.slice va2 (ns2.map Nd.up).length vc2] 24 true) rfl
  simp -implicitDefEqProofs only [go_sem, ↓aj, ↓ah, ak, Nat.reduceBEq, ↓reduceIte, reduceCtorEq, Nat.reduceEqDiff, Nat.reduceAdd, Nat.reduceLeDiff, Int.reduceEq, Int.reduceLT, Int.reduceLE, Int.reduceAdd, Int.reduceToNat, Int.reduceNeg, Nat.reduceMul, Nat.reduceSub, Int.reduceBNe, Int.reduceBEq, bB, mh, gT, Tryz.underlying24, Tryz.underlying27, cut1, hcl2, List.length_cons, List.length_nil, List.set_cons_zero, List.getElem?_cons_succ, List.getElem?_cons_zero, Option.map_some]
  generalize hS7 : (St.set (St.new st2 _) _ _) = S7 at *
  generalize hb7' : st2.n = b7 at *
  have hD7 := hDX2.sub (H' := (b7, Ob.cells [.slice va2 (ns2.map Nd.up).length vc2] 24 true) :: (h2 ++ ((b5, .cells (nl (nb8 W)) 5 true) :: (b3, Ob.cells [.slice va (ns2.map Nd.up).length vc] 24 true) :: (h ++ r)))) fun e he => List.mem_cons_of_mem _ (List.mem_append_left _ he)
  refine au.enter Tryz.func9 rfl (by kernel_rfl) (jV _ _ _ _ hD7 hb1 hb2 hb3 ho7 _ _ fun s8 ho8 => ?_)
  rw [hB.right, if_pos rfl, ← hW]
  have hc7 := ho8.head
  have hc3 := ho8.get (b := b3) (o := .cells [.slice va (ns2.map Nd.up).length vc] 24 true) (by simp)
  simp -implicitDefEqProofs only [go_sem, ↓aj, ↓ah, ak, Nat.reduceBEq, ↓reduceIte, reduceCtorEq, Nat.reduceEqDiff, Nat.reduceAdd, Nat.reduceLeDiff, Int.reduceEq, Int.reduceLT, Int.reduceLE, Int.reduceAdd, Int.reduceToNat, Int.reduceNeg, Nat.reduceMul, Nat.reduceSub, Int.reduceBNe, Int.reduceBEq, hc7, hc3, jg, eT, gT, Tryz.underlying24, Tryz.underlying22, Tryz.underlying27, List.getElem?_cons_succ, List.getElem?_cons_zero]
  have v1 := hview.sub (H' := (b7, Ob.cells [.slice va2 (ns2.map Nd.up).length vc2] 24 true) :: (h2 ++ ((b5, .cells (nl (nb8 W)) 5 true) :: (b3, Ob.cells [.slice va (ns2.map Nd.up).length vc] 24 true) :: (h ++ r)))) fun e he => List.mem_cons_of_mem _ (List.mem_append_right _ (List.mem_cons_of_mem _ (List.mem_cons_of_mem _ (List.mem_append_left _ he))))
  have v2 := hview2.sub (H' := (b7, Ob.cells [.slice va2 (ns2.map Nd.up).length vc2] 24 true) :: (h2 ++ ((b5, .cells (nl (nb8 W)) 5 true) :: (b3, Ob.cells [.slice va (ns2.map Nd.up).length vc] 24 true) :: (h ++ r)))) fun e he => List.mem_cons_of_mem _ (List.mem_append_left _ he)
  refine au.enter Tryz.func14 rfl (by kernel_rfl) (Dy _ _ _ _ ns2 v1 v2 hB.small ho8 _ _ fun s9 ho9 => ?_)
  simp -implicitDefEqProofs only [go_sem, ↓aj, ↓ah, ak, Nat.reduceBEq, ↓reduceIte, reduceCtorEq, Nat.reduceEqDiff, Nat.reduceAdd, Nat.reduceLeDiff, Int.reduceEq, Int.reduceLT, Int.reduceLE, Int.reduceAdd, Int.reduceToNat, Int.reduceNeg, Nat.reduceMul, Nat.reduceSub, Int.reduceBNe, Int.reduceBEq, aA, decide_true]
  exact hk _
end Go.Proofs.YtigjbehgfjjlkaaGreatDoor
