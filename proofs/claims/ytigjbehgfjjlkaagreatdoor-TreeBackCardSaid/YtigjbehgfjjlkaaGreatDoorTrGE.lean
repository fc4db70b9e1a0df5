/- The document's example; what is small. No conditions but on the library's tables. -/
import Derived.Test.YtigjbehgfjjlkaaGreatDoorXmGE
import Derived.Test.YtigjbehgfjjlkaaGreatDoorTrGD
set_option linter.unusedVariables false
set_option linter.unusedSimpArgs false
namespace Go.Proofs.YtigjbehgfjjlkaaGreatDoor
open Go Go.Abs Go.RowKit Go.Xml
variable {base : Nat} {w0 : World} {G : Nat}
theorem DocV.docX {H : Hp} {v : Value} {ns : List Nd} (h : DocV H v ns) : DocX H v (ns.map Nd.up) := by
  obtain ⟨cs, h1, h2, h3⟩ := h
  refine ⟨cs, by rw [h1, List.length_map], h2, fun i n hi => ?_⟩
  rw [List.getElem?_map] at hi
  cases hn : ns[i]? with
  | none => rw [hn] at hi; cases hi
  | some m =>
    rw [hn] at hi
    injection hi with hi
    subst hi
    obtain ⟨kv, av, dv, a, b⟩ := h3 i m hn
    exact ⟨kv, av, dv, a, ⟨by
      have := b.kid
      unfold Nd.up
      rw [List.map_map]
      exact this, b.att, b.dcl⟩⟩
def taTx : Tx := [60, 97, 32, 120, 61, 39, 49, 39, 47, 62]
def taNs : List Nd := [⟨1, -1, [], [], [97], [], [⟨[], [120], [], [49]⟩], [], []⟩]
def KF : Tx := [60, 97, 32, 120, 61, 34, 49, 34, 62, 60, 47, 97, 62]
theorem BM : gW taTx = .ok taNs := by kernel_rfl
theorem IZ : bP (taNs.map Nd.up) = true := by kernel_rfl
theorem I4 : bg (taNs.map Nd.up) (taNs.map Nd.up).length 0 = KF := by kernel_rfl
theorem taSz : ∀ n ∈ taNs.map Nd.up, SzX n := by
  intro n hn
  simp only [taNs, List.map_cons, List.map_nil, List.mem_singleton] at hn
  subst hn
  refine ⟨by decide, by decide, by decide, by decide, by decide, fun a ha => ?_, fun d hd => by cases hd⟩
  simp only [Nd.up, List.mem_singleton] at ha
  subst ha
  decide
theorem Mi : ∀ n ∈ taNs.map Nd.up, (taNs.map Nd.up).length * ownE n ≤ 100000000000000 := by
  intro n hn
  simp only [taNs, List.map_cons, List.map_nil, List.mem_singleton] at hn
  subst hn
  decide
theorem Mj : BndX (taNs.map Nd.up) := by
  refine ⟨by decide, fun n hn => ?_⟩
  simp only [taNs, List.map_cons, List.map_nil, List.mem_singleton] at hn
  subst hn
  decide
set_option maxRecDepth 10000 in
theorem taB {st : St} : aL Tryz.prog st 31 10 [(0, .int .u8 60), (1, .int .u8 97), (2, .int .u8 32), (3, .int .u8 120), (4, .int .u8 61), (5, .int .u8 39), (6, .int .u8 49), (7, .int .u8 39), (8, .int .u8 47), (9, .int .u8 62)] = some (.slice (some ⟨st.n, 0, none⟩) 10 10, st.new (.cells (nl (nb8 taTx)) 5 true)) := by
  simp [aL, Tryz.underlying31, asz5, azc5, jd, zeros, isTuple, Value.cells, setL, List.replicate, nl, nb8, taTx]
  try rfl
set_option maxRecDepth 10000 in
theorem rX (st : St) (r : Hp) (hM : eG w0) (hT : dw w0) (hO : Own st r) (k q : Value → St → Prop) (hk : ∀ st', Own st' r → k (.bool true) st') : ay (C base w0 3) 7 [] st k q := by
  refine ay.of (cx := C base w0 3) mixed Tryz.func7 rfl (by kernel_rfl) (by simp [Tryz.ntmps7]) ?_
  simp only [Tryz.results7]
  simp -implicitDefEqProofs only [go_sem, ↓aj, ↓ah, ak, Nat.reduceBEq, ↓reduceIte, reduceCtorEq, Nat.reduceEqDiff, Nat.reduceAdd, Nat.reduceLeDiff, Int.reduceEq, Int.reduceLT, Int.reduceLE, Int.reduceAdd, Int.reduceToNat, Int.reduceNeg, Nat.reduceMul, Nat.reduceSub, Int.reduceBNe, Int.reduceBEq, asz5, azc5, Tryz.underlying31, Tryz.underlying5, taB]
  have ho1 := hO.new (.cells (nl (nb8 taTx)) 5 true)
  have hlen : taTx.length = 10 := rfl
  have hX : Nb ((st.n, Ob.cells (nl (nb8 taTx)) 5 true) :: r) (.slice (some ⟨st.n, 0, none⟩) 10 10) (nb8 taTx) := ⟨by
    have := Bs.whole (c := 10) (sp := none) (l := (nb8 taTx).map fun n : Nat => (n : Int)) (List.mem_cons_self (a := (st.n, Ob.cells (nl (nb8 taTx)) 5 true)) (l := r))
    exact this, nU taTx⟩
  have hS : Sl Tryz.prog ((st.n, Ob.cells (nl (nb8 taTx)) 5 true) :: r) (.slice (some ⟨st.n, 0, none⟩) 10 10) 1 := .inr ⟨st.n, 0, none, 10, 10, rfl, Nat.le_refl _, .inl rfl⟩
  simp -implicitDefEqProofs only [go_sem, ↓aj, ↓ah, ak, Nat.reduceBEq, ↓reduceIte, reduceCtorEq, Nat.reduceEqDiff, Nat.reduceAdd, Nat.reduceLeDiff, Int.reduceEq, Int.reduceLT, Int.reduceLE, Int.reduceAdd, Int.reduceToNat, Int.reduceNeg, Nat.reduceMul, Nat.reduceSub, Int.reduceBNe, Int.reduceBEq, Du (o := 0) (n := 10) (c := 10) (sp := none) ho1.head (by decide)]
  refine au.enter Tryz.func12 rfl (by kernel_rfl) (mH _ _ _ taTx hM hT hX hS (by rw [hlen]; decide) ho1 _ _ (fun ns v h st' hp hD hO2 => ?_) (fun e st' hp hO2 => ?_))
  rotate_left
  · rw [BM] at hp; cases hp
  rw [BM] at hp
  injection hp with hp
  subst hp
  have hV := hD.view.docX
  obtain ⟨va, vc, hva⟩ := hV.isSlice
  subst hva
  have ho3 := (hO2.new (.cells [.slice none 0 0] 24 true)).set rfl (.cells [.slice va (taNs.map Nd.up).length vc] 24 true) rfl
  have hcl : cut [Value.slice va (taNs.map Nd.up).length vc] 0 1 = some [Value.slice va (taNs.map Nd.up).length vc] := rfl
  have hD3 := hV.sub (H' := (st'.n, Ob.cells [.slice va (taNs.map Nd.up).length vc] 24 true) :: (h ++ ((st.n, Ob.cells (nl (nb8 taTx)) 5 true) :: r))) fun e he => List.mem_cons_of_mem _ (List.mem_append_left _ he)
  simp -implicitDefEqProofs only [go_sem, ↓aj, ↓ah, ak, Nat.reduceBEq, ↓reduceIte, reduceCtorEq, Nat.reduceEqDiff, Nat.reduceAdd, Nat.reduceLeDiff, Int.reduceEq, Int.reduceLT, Int.reduceLE, Int.reduceAdd, Int.reduceToNat, Int.reduceNeg, Nat.reduceMul, Nat.reduceSub, Int.reduceBNe, Int.reduceBEq, bB, mh, gT, Tryz.underlying24, Tryz.underlying27, cut1, hcl, List.length_cons, List.length_nil, List.set_cons_zero, Option.map_some]
  refine au.enter Tryz.func9 rfl (by kernel_rfl) (jV _ _ _ _ hD3 Mj taSz Mi ho3 _ _ fun s4 ho4 => ?_)
  rw [IZ, if_pos rfl, I4]
  have e0 : (⟨#[60, 97, 32, 120, 61, 34, 49, 34, 62, 60, 47, 97, 62]⟩ : ByteArray) = tx KF := rfl
  simp -implicitDefEqProofs only [go_sem, ↓aj, ↓ah, ak, Nat.reduceBEq, ↓reduceIte, reduceCtorEq, Nat.reduceEqDiff, Nat.reduceAdd, Nat.reduceLeDiff, Int.reduceEq, Int.reduceLT, Int.reduceLE, Int.reduceAdd, Int.reduceToNat, Int.reduceNeg, Nat.reduceMul, Nat.reduceSub, Int.reduceBNe, Int.reduceBEq, e0, aA, decide_true, Tryz.underlying27, List.getElem?_cons_succ, List.getElem?_cons_zero]
  exact hk _ ho4.tail.right.tail
end Go.Proofs.YtigjbehgfjjlkaaGreatDoor
set_option linter.unusedVariables false
set_option linter.unusedSimpArgs false
namespace Go.Proofs.YtigjbehgfjjlkaaGreatDoor
open Go Go.Abs Go.RowKit Go.Xml
variable {base : Nat} {w0 : World} {G : Nat}
end Go.Proofs.YtigjbehgfjjlkaaGreatDoor
set_option linter.unusedVariables false
set_option linter.unusedSimpArgs false
namespace Go.Proofs.YtigjbehgfjjlkaaGreatDoor
open Go Go.Abs Go.RowKit Go.Xml
variable {base : Nat} {w0 : World} {G : Nat}
end Go.Proofs.YtigjbehgfjjlkaaGreatDoor
