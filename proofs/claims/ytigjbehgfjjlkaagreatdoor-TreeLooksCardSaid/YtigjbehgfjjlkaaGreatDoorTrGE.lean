/- The document's example; what is small. No conditions but on the library's tables. -/
import Derived.Test.YtigjbehgfjjlkaaGreatDoorXmGE
import Derived.Test.YtigjbehgfjjlkaaGreatDoorTrGD
set_option linter.unusedVariables false
set_option linter.unusedSimpArgs false
namespace Go.Proofs.YtigjbehgfjjlkaaGreatDoor
open Go Go.Abs Go.RowKit Go.Xml
variable {base : Nat} {w0 : World} {G : Nat}
theorem DocV.docX {H : Hp} {v : Value} {ns : List Nd} (h : DocV H v ns) : DocX H v (ns.map Nd.up) := by
  obtain ⟨cs, h1, h2, h3⟩ := h
  refine ⟨cs, by rw [h1, List.length_map], h2, fun i n hi => ?_⟩
  rw [List.getElem?_map] at hi
  cases hn : ns[i]? with
  | none => rw [hn] at hi; cases hi
  | some m =>
    rw [hn] at hi
    injection hi with hi
    subst hi
    obtain ⟨kv, av, dv, a, b⟩ := h3 i m hn
    exact ⟨kv, av, dv, a, ⟨by
      have := b.kid
      unfold Nd.up
      rw [List.map_map]
      exact this, b.att, b.dcl⟩⟩
def taTx : Tx := [60, 97, 32, 120, 61, 39, 49, 39, 47, 62]
def taNs : List Nd := [⟨1, -1, [], [], [97], [], [⟨[], [120], [], [49]⟩], [], []⟩]
def H6 : Tx := [60, 97, 32, 120, 61, 34, 49, 34, 62, 60, 47, 97, 62]
theorem zQ : wX taTx = .ok taNs := by kernel_rfl
theorem FJ : aH (taNs.map Nd.up) = true := by kernel_rfl
theorem FK : bV (taNs.map Nd.up) (taNs.map Nd.up).length 0 = H6 := by kernel_rfl
theorem taSz : ∀ n ∈ taNs.map Nd.up, SzX n := by
  intro n hn
  simp only [taNs, List.map_cons, List.map_nil, List.mem_singleton] at hn
  subst hn
  refine ⟨by decide, by decide, by decide, by decide, by decide, fun a ha => ?_, fun d hd => by cases hd⟩
  simp only [Nd.up, List.mem_singleton] at ha
  subst ha
  decide
theorem Ju : ∀ n ∈ taNs.map Nd.up, (taNs.map Nd.up).length * ownE n ≤ 100000000000000 := by
  intro n hn
  simp only [taNs, List.map_cons, List.map_nil, List.mem_singleton] at hn
  subst hn
  decide
theorem Jv : BndX (taNs.map Nd.up) := by
  refine ⟨by decide, fun n hn => ?_⟩
  simp only [taNs, List.map_cons, List.map_nil, List.mem_singleton] at hn
  subst hn
  decide
set_option maxRecDepth 10000 in
theorem taB {st : St} : aP Tryz.prog st 31 10 [(0, .int .u8 60), (1, .int .u8 97), (2, .int .u8 32), (3, .int .u8 120), (4, .int .u8 61), (5, .int .u8 39), (6, .int .u8 49), (7, .int .u8 39), (8, .int .u8 47), (9, .int .u8 62)] = some (.slice (some ⟨st.n, 0, none⟩) 10 10, st.new (.cells (nl (nb8 taTx)) 5 true)) := by
  simp [aP, Tryz.underlying31, asz5, azc5, iH, zeros, isTuple, Value.cells, setL, List.replicate, nl, nb8, taTx]
  try rfl
set_option maxRecDepth 10000 in
theorem qJ (st : St) (r : Hp) (hM : eH w0) (hT : dG w0) (hO : Own st r) (k q : Value → St → Prop) (hk : ∀ st', Own st' r → k (.bool true) st') : aA (C base w0 3) 7 [] st k q := by
  refine aA.of (cx := C base w0 3) mixed Tryz.func7 rfl (by kernel_rfl) (by simp [Tryz.ntmps7]) ?_
  simp only [Tryz.results7]
  simp -implicitDefEqProofs only [go_sem, ↓aj, ↓ah, ak, Nat.reduceBEq, ↓reduceIte, reduceCtorEq, Nat.reduceEqDiff, Nat.reduceAdd, Nat.reduceLeDiff, Int.reduceEq, Int.reduceLT, Int.reduceLE, Int.reduceAdd, Int.reduceToNat, Int.reduceNeg, Nat.reduceMul, Nat.reduceSub, Int.reduceBNe, Int.reduceBEq, asz5, azc5, Tryz.underlying31, Tryz.underlying5, taB]
  have ho1 := hO.new (.cells (nl (nb8 taTx)) 5 true)
  have hlen : taTx.length = 10 := rfl
  have hX : Nb ((st.n, Ob.cells (nl (nb8 taTx)) 5 true) :: r) (.slice (some ⟨st.n, 0, none⟩) 10 10) (nb8 taTx) := ⟨by
    have := Bs.whole (c := 10) (sp := none) (l := (nb8 taTx).map fun n : Nat => (n : Int)) (List.mem_cons_self (a := (st.n, Ob.cells (nl (nb8 taTx)) 5 true)) (l := r))
    exact this, pE taTx⟩
  have hS : Sl Tryz.prog ((st.n, Ob.cells (nl (nb8 taTx)) 5 true) :: r) (.slice (some ⟨st.n, 0, none⟩) 10 10) 1 := .inr ⟨st.n, 0, none, 10, 10, rfl, Nat.le_refl _, .inl rfl⟩
  simp -implicitDefEqProofs only [go_sem, ↓aj, ↓ah, ak, Nat.reduceBEq, ↓reduceIte, reduceCtorEq, Nat.reduceEqDiff, Nat.reduceAdd, Nat.reduceLeDiff, Int.reduceEq, Int.reduceLT, Int.reduceLE, Int.reduceAdd, Int.reduceToNat, Int.reduceNeg, Nat.reduceMul, Nat.reduceSub, Int.reduceBNe, Int.reduceBEq, BM (o := 0) (n := 10) (c := 10) (sp := none) ho1.head (by decide)]
  refine ay.enter Tryz.func12 rfl (by kernel_rfl) (zN _ _ _ taTx hM hT hX hS (by rw [hlen]; decide) ho1 _ _ (fun ns v h st' hp hD hO2 => ?_) (fun e st' hp hO2 => ?_))
  rotate_left
  · rw [zQ] at hp; cases hp
  rw [zQ] at hp
  injection hp with hp
  subst hp
  have hV := hD.view.docX
  obtain ⟨va, vc, hva⟩ := hV.isSlice
  subst hva
  have ho3 := (hO2.new (.cells [.slice none 0 0] 24 true)).set rfl (.cells [.slice va (taNs.map Nd.up).length vc] 24 true) rfl
  have hcl : cut [Value.slice va (taNs.map Nd.up).length vc] 0 1 = some [Value.slice va (taNs.map Nd.up).length vc] := rfl
  have hD3 := hV.sub (H' := (st'.n, Ob.cells [.slice va (taNs.map Nd.up).length vc] 24 true) :: (h ++ ((st.n, Ob.cells (nl (nb8 taTx)) 5 true) :: r))) fun e he => List.mem_cons_of_mem _ (List.mem_append_left _ he)
  simp -implicitDefEqProofs only [go_sem, ↓aj, ↓ah, ak, Nat.reduceBEq, ↓reduceIte, reduceCtorEq, Nat.reduceEqDiff, Nat.reduceAdd, Nat.reduceLeDiff, Int.reduceEq, Int.reduceLT, Int.reduceLE, Int.reduceAdd, Int.reduceToNat, Int.reduceNeg, Nat.reduceMul, Nat.reduceSub, Int.reduceBNe, Int.reduceBEq, bB, sj, bW, Tryz.underlying24, Tryz.underlying27, cut1, hcl, List.length_cons, List.length_nil, List.set_cons_zero, Option.map_some]
  refine ay.enter Tryz.func9 rfl (by kernel_rfl) (zF _ _ _ _ hD3 Jv taSz Ju ho3 _ _ fun s4 ho4 => ?_)
  rw [FJ, if_pos rfl, FK]
  have e0 : (⟨#[60, 97, 32, 120, 61, 34, 49, 34, 62, 60, 47, 97, 62]⟩ : ByteArray) = tx H6 := rfl
  simp -implicitDefEqProofs only [go_sem, ↓aj, ↓ah, ak, Nat.reduceBEq, ↓reduceIte, reduceCtorEq, Nat.reduceEqDiff, Nat.reduceAdd, Nat.reduceLeDiff, Int.reduceEq, Int.reduceLT, Int.reduceLE, Int.reduceAdd, Int.reduceToNat, Int.reduceNeg, Nat.reduceMul, Nat.reduceSub, Int.reduceBNe, Int.reduceBEq, e0, aB, decide_true, Tryz.underlying27, List.getElem?_cons_succ, List.getElem?_cons_zero]
  exact hk _ ho4.tail.right.tail
end Go.Proofs.YtigjbehgfjjlkaaGreatDoor
set_option linter.unusedVariables false
set_option linter.unusedSimpArgs false
namespace Go.Proofs.YtigjbehgfjjlkaaGreatDoor
open Go Go.Abs Go.RowKit Go.Xml
variable {base : Nat} {w0 : World} {G : Nat}
def attS (a : Att) : Bool := decide (a.val.length ≤ 300 ∧ a.loc.length ≤ 100 ∧ a.pre.length ≤ 100)
def dclS (d : Dcl) : Bool := decide (d.uri.length ≤ 300 ∧ d.pre.length ≤ 100)
def ko (n : Nx) : Bool := decide (n.kids.length ≤ 60 ∧ n.atts.length ≤ 10 ∧ n.dcls.length ≤ 10 ∧ n.val.length ≤ 300 ∧ n.loc.length ≤ 100 ∧ n.pre.length ≤ 100) && (n.atts.all attS && n.dcls.all dclS)
def dI (ns : List Nx) : Bool := decide (ns.length ≤ 40) && ns.all ko
theorem dY {ns : List Nx} {n : Nx} (h : n ∈ ns) (hn : ko n = false) : dI ns = false := by
  unfold dI
  rw [Bool.and_eq_false_iff]
  exact .inr (List.all_eq_false.2 ⟨n, h, by rw [hn]; decide⟩)
theorem kr {n : Nx} (h : ¬ (n.kids.length ≤ 60 ∧ n.atts.length ≤ 10 ∧ n.dcls.length ≤ 10 ∧ n.val.length ≤ 300 ∧ n.loc.length ≤ 100 ∧ n.pre.length ≤ 100)) : ko n = false := by
  unfold ko; rw [decide_eq_false h]; rfl
theorem pX {n : Nx} {a : Att} (ha : a ∈ n.atts) (h : attS a = false) : ko n = false := by
  have : n.atts.all attS = false := List.all_eq_false.2 ⟨a, ha, by rw [h]; decide⟩
  unfold ko; rw [this]; simp
theorem vN {n : Nx} {a : Dcl} (ha : a ∈ n.dcls) (h : dclS a = false) : ko n = false := by
  have : n.dcls.all dclS = false := List.all_eq_false.2 ⟨a, ha, by rw [h]; decide⟩
  unfold ko; rw [this]; simp
set_option maxRecDepth 10000 in
theorem zR (st : St) (r : Hp) (v : Value) (ns : List Nx) (hD : DocX r v ns) (hO : Own st r) (k q : Value → St → Prop) (hk : ∀ st', Own st' r → k (.bool (dI ns)) st') : aA (C base w0 G) 8 [.agg #[v]] st k q := by
  obtain ⟨va, vc, hva⟩ := hD.isSlice
  subst hva
  refine aA.of (cx := C base w0 G) mixed Tryz.func8 rfl (by kernel_rfl) (by simp [Tryz.ntmps8]) ?_
  simp only [Tryz.results8]
  have ho1 := hO.new (.cells [.slice va ns.length vc] 24 true)
  have hc1 := ho1.head
  by_cases hlen : ns.length ≤ 40
  case neg =>
    have hs : dI ns = false := by unfold dI; rw [decide_eq_false hlen]; rfl
    rw [hs] at hk
    have tl : ((ns.length : Int) > 40) = True := eq_true (by omega)
    simp -implicitDefEqProofs only [go_sem, ↓aj, ↓ah, ak, Nat.reduceBEq, ↓reduceIte, reduceCtorEq, Nat.reduceEqDiff, Nat.reduceAdd, Nat.reduceLeDiff, Int.reduceEq, Int.reduceLT, Int.reduceLE, Int.reduceAdd, Int.reduceToNat, Int.reduceNeg, Nat.reduceMul, Nat.reduceSub, Int.reduceBNe, Int.reduceBEq, abox, tl, hc1, decide_true, aQ, aU, Tryz.underlying22, List.getElem?_cons_zero]
    exact hk _ ho1.tail
  have tl : ((ns.length : Int) > 40) = False := eq_false (by omega)
  simp -implicitDefEqProofs only [go_sem, ↓aj, ↓ah, ak, Nat.reduceBEq, ↓reduceIte, reduceCtorEq, Nat.reduceEqDiff, Nat.reduceAdd, Nat.reduceLeDiff, Int.reduceEq, Int.reduceLT, Int.reduceLE, Int.reduceAdd, Int.reduceToNat, Int.reduceNeg, Nat.reduceMul, Nat.reduceSub, Int.reduceBNe, Int.reduceBEq, abox, tl, hc1, decide_false, aQ, aU, Tryz.underlying22, List.getElem?_cons_zero]
  generalize hs1 : St.new st _ = s1 at *
  generalize hb1 : st.n = b1 at *
  refine ⟨fun m ρ s => ∃ i : Nat, m = ns.length - i ∧ i ≤ ns.length ∧ ρ 1 = .pointer (some ⟨b1, 0, none⟩) ∧ ρ 3 = .int .i64 (i : Nat) ∧ Own s ((b1, .cells [.slice va ns.length vc] 24 true) :: r) ∧ ∀ (j : Nat) (n : Nx), j < i → ns[j]? = some n → ko n = true,
    ⟨_, 0, rfl, Nat.zero_le _, rfl, rfl, ho1, fun j n h => by omega⟩, ?_⟩
  clear hc1 ho1
  rintro _ ρ s ⟨i, rfl, hi, h1, h3, ho, hall⟩
  have hc1 := ho.head
  by_cases hil : i < ns.length
  case neg =>
    obtain rfl : i = ns.length := by omega
    have hs : dI ns = true := by
      unfold dI
      rw [decide_eq_true hlen, Bool.true_and, List.all_eq_true]
      intro n hn
      obtain ⟨j, hj, rfl⟩ := List.getElem_of_mem hn
      exact hall j _ hj (List.getElem?_eq_getElem hj)
    rw [hs] at hk
    simp -implicitDefEqProofs only [go_sem, ↓aj, ↓ah, ak, Nat.reduceBEq, ↓reduceIte, reduceCtorEq, Nat.reduceEqDiff, Nat.reduceAdd, Nat.reduceLeDiff, Int.reduceEq, Int.reduceLT, Int.reduceLE, Int.reduceAdd, Int.reduceToNat, Int.reduceNeg, Nat.reduceMul, Nat.reduceSub, Int.reduceBNe, Int.reduceBEq, h1, h3, hc1, Int.ofNat_lt, Nat.lt_irrefl, decide_false, aQ, aU, Tryz.underlying22, List.getElem?_cons_zero]
    exact hk _ ho.tail
  obtain ⟨n, hn⟩ : ∃ n, ns[i]? = some n := ⟨ns[i], List.getElem?_eq_getElem hil⟩
  have hnm := List.mem_of_getElem? hn
  obtain ⟨x, o, sp, c, ccs, ty, own, kv, av, dv, hvx, hmem, hcut, hget, hnr⟩ := hD.at hn
  injection hvx with hvx _ hvc
  subst hvx hvc
  have hcx := ho.get (List.mem_cons_of_mem _ hmem)
  have hnx : ¬ x = s.n := ho.fresh (List.mem_cons_of_mem _ hmem)
  have hli : ((i : Int) < (ns.length : Int)) = True := eq_true (by omega)
  have hge : ((0 : Int) ≤ (i : Int)) = True := eq_true (by omega)
  have hon := (ho.new (.cells [.int .i64 0, .int .i64 0, .slice none 0 0, .string ⟨#[]⟩, .string ⟨#[]⟩, .string ⟨#[]⟩, .slice none 0 0, .slice none 0 0, .string ⟨#[]⟩] 55 true)).set rfl (.cells (ndX n kv av dv) 55 true) rfl
  have hsetN : setL [.int .i64 0, .int .i64 0, .slice none 0 0, .string ⟨#[]⟩, .string ⟨#[]⟩, .string ⟨#[]⟩, .slice none 0 0, .slice none 0 0, .string ⟨#[]⟩] 0 (ndX n kv av dv) = ndX n kv av dv := rfl
  have hall' : ko n = true → ∀ (j : Nat) (m : Nx), j < i + 1 → ns[j]? = some m → ko m = true := fun g j m hj hm => by
    by_cases hji : j = i
    · subst hji
      rw [hn] at hm
      injection hm with hm
      rw [← hm]; exact g
    · exact hall j m (by omega) hm
  have w1 : IntKind.i64.wrap ((i : Int) + 1) = ((i + 1 : Nat) : Int) := by rw [bH (by omega)]; omega
  simp -implicitDefEqProofs only [go_sem, Nat.reduceBEq, ↓reduceIte, reduceCtorEq, Nat.reduceEqDiff, Nat.reduceAdd, Nat.reduceLeDiff, Int.reduceEq, Int.reduceLT, Int.reduceLE, Int.reduceAdd, Int.reduceToNat, Int.reduceNeg, Nat.reduceMul, Nat.reduceSub, Int.reduceBNe, Int.reduceBEq]
  rw [aj, aj]
  simp -implicitDefEqProofs only [go_sem, Nat.reduceBEq, ↓reduceIte, reduceCtorEq, Nat.reduceEqDiff, Nat.reduceAdd, Nat.reduceLeDiff, Int.reduceEq, Int.reduceLT, Int.reduceLE, Int.reduceAdd, Int.reduceToNat, Int.reduceNeg, Nat.reduceMul, Nat.reduceSub, Int.reduceBNe, Int.reduceBEq, h1, h3, hc1, hli, decide_true, aQ, aU, Tryz.underlying22, List.getElem?_cons_zero]
  rw [aj, ah, aj]
  simp -implicitDefEqProofs only [go_sem, Nat.reduceBEq, ↓reduceIte, reduceCtorEq, Nat.reduceEqDiff, Nat.reduceAdd, Nat.reduceLeDiff, Int.reduceEq, Int.reduceLT, Int.reduceLE, Int.reduceAdd, Int.reduceToNat, Int.reduceNeg, Nat.reduceMul, Nat.reduceSub, Int.reduceBNe, Int.reduceBEq, h1, h3, hc1, hcx, hcut, hnx, hli, hge, and_self, true_and, decide_true, Int.toNat_natCast, aU, aC, jZ, bB, hsetN, aQ, Tryz.underlying22, Tryz.underlying55, List.getElem?_cons_zero]
  generalize hb5 : s.n = b5 at *
  obtain ⟨ka, kc, hkv1, _⟩ := hnr.kid.isSlice
  obtain ⟨aa, ac, hav1, _⟩ := hnr.att.isSlice
  obtain ⟨da, dc, hdv1, _⟩ := hnr.dcl.isSlice
  refine ⟨⟨rfl, by rw [hkv1, hav1, hdv1]; rfl⟩, ?_⟩
  generalize hs5 : (s.new _).set _ _ = s5 at *
  have hA : Rws r av 4 (n.atts.map attC) := hnr.att
  have hDc : Rws r dv 2 (n.dcls.map dclC) := hnr.dcl
  subst hkv1 hav1 hdv1
  simp only [List.length_map] at *
  generalize hnd : ndX n (.slice ka n.kids.length kc) (.slice aa n.atts.length ac) (.slice da n.dcls.length dc) = nd at *
  have hcn := hon.head
  have f2 : nd[2]? = some (.slice ka n.kids.length kc) := by rw [← hnd]; rfl
  have f3 : nd[3]? = some (.string (tx n.pre)) := by rw [← hnd]; rfl
  have f4 : nd[4]? = some (.string (tx n.loc)) := by rw [← hnd]; rfl
  have f6 : nd[6]? = some (.slice aa n.atts.length ac) := by rw [← hnd]; rfl
  have f7 : nd[7]? = some (.slice da n.dcls.length dc) := by rw [← hnd]; rfl
  have f8 : nd[8]? = some (.string (tx n.val)) := by rw [← hnd]; rfl
  by_cases z0 : n.kids.length ≤ 60
  case neg =>
    have hs : dI ns = false := dY hnm (kr (by omega))
    rw [hs] at hk
    have t0 : ((n.kids.length : Nat) : Int) > 60 := by omega
    simp -implicitDefEqProofs only [go_sem, ↓aj, ↓ah, ak, Nat.reduceBEq, ↓reduceIte, reduceCtorEq, Nat.reduceEqDiff, Nat.reduceAdd, Nat.reduceLeDiff, Int.reduceEq, Int.reduceLT, Int.reduceLE, Int.reduceAdd, Int.reduceToNat, Int.reduceNeg, Nat.reduceMul, Nat.reduceSub, Int.reduceBNe, Int.reduceBEq, t0, h1, h3, hcn, f2, f3, f4, f6, f7, f8, aF, dR, gP, bX, aS, aZ, eD, aC, bK, bL, bZ, asz9, Tryz.underlying55, Tryz.underlying47, Tryz.underlying52, Tryz.underlying53, Tryz.underlying9, decide_true, decide_false]
    exact hk _ hon.tail.tail
  have t0 : (((n.kids.length : Nat) : Int) > 60) = False := eq_false (by omega)
  by_cases z1 : n.atts.length ≤ 10
  case neg =>
    have hs : dI ns = false := dY hnm (kr (by omega))
    rw [hs] at hk
    have t1 : ((n.atts.length : Nat) : Int) > 10 := by omega
    simp -implicitDefEqProofs only [go_sem, ↓aj, ↓ah, ak, Nat.reduceBEq, ↓reduceIte, reduceCtorEq, Nat.reduceEqDiff, Nat.reduceAdd, Nat.reduceLeDiff, Int.reduceEq, Int.reduceLT, Int.reduceLE, Int.reduceAdd, Int.reduceToNat, Int.reduceNeg, Nat.reduceMul, Nat.reduceSub, Int.reduceBNe, Int.reduceBEq, t0, t1, h1, h3, hcn, f2, f3, f4, f6, f7, f8, aF, dR, gP, bX, aS, aZ, eD, aC, bK, bL, bZ, asz9, Tryz.underlying55, Tryz.underlying47, Tryz.underlying52, Tryz.underlying53, Tryz.underlying9, decide_true, decide_false]
    exact hk _ hon.tail.tail
  have t1 : (((n.atts.length : Nat) : Int) > 10) = False := eq_false (by omega)
  by_cases z2 : n.dcls.length ≤ 10
  case neg =>
    have hs : dI ns = false := dY hnm (kr (by omega))
    rw [hs] at hk
    have t2 : ((n.dcls.length : Nat) : Int) > 10 := by omega
    simp -implicitDefEqProofs only [go_sem, ↓aj, ↓ah, ak, Nat.reduceBEq, ↓reduceIte, reduceCtorEq, Nat.reduceEqDiff, Nat.reduceAdd, Nat.reduceLeDiff, Int.reduceEq, Int.reduceLT, Int.reduceLE, Int.reduceAdd, Int.reduceToNat, Int.reduceNeg, Nat.reduceMul, Nat.reduceSub, Int.reduceBNe, Int.reduceBEq, t0, t1, t2, h1, h3, hcn, f2, f3, f4, f6, f7, f8, aF, dR, gP, bX, aS, aZ, eD, aC, bK, bL, bZ, asz9, Tryz.underlying55, Tryz.underlying47, Tryz.underlying52, Tryz.underlying53, Tryz.underlying9, decide_true, decide_false]
    exact hk _ hon.tail.tail
  have t2 : (((n.dcls.length : Nat) : Int) > 10) = False := eq_false (by omega)
  by_cases z3 : n.val.length ≤ 300
  case neg =>
    have hs : dI ns = false := dY hnm (kr (by omega))
    rw [hs] at hk
    have t3 : ((n.val.length : Nat) : Int) > 300 := by omega
    simp -implicitDefEqProofs only [go_sem, ↓aj, ↓ah, ak, Nat.reduceBEq, ↓reduceIte, reduceCtorEq, Nat.reduceEqDiff, Nat.reduceAdd, Nat.reduceLeDiff, Int.reduceEq, Int.reduceLT, Int.reduceLE, Int.reduceAdd, Int.reduceToNat, Int.reduceNeg, Nat.reduceMul, Nat.reduceSub, Int.reduceBNe, Int.reduceBEq, t0, t1, t2, t3, h1, h3, hcn, f2, f3, f4, f6, f7, f8, aF, dR, gP, bX, aS, aZ, eD, aC, bK, bL, bZ, asz9, Tryz.underlying55, Tryz.underlying47, Tryz.underlying52, Tryz.underlying53, Tryz.underlying9, decide_true, decide_false]
    exact hk _ hon.tail.tail
  have t3 : (((n.val.length : Nat) : Int) > 300) = False := eq_false (by omega)
  by_cases z4 : n.loc.length ≤ 100
  case neg =>
    have hs : dI ns = false := dY hnm (kr (by omega))
    rw [hs] at hk
    have t4 : ((n.loc.length : Nat) : Int) > 100 := by omega
    simp -implicitDefEqProofs only [go_sem, ↓aj, ↓ah, ak, Nat.reduceBEq, ↓reduceIte, reduceCtorEq, Nat.reduceEqDiff, Nat.reduceAdd, Nat.reduceLeDiff, Int.reduceEq, Int.reduceLT, Int.reduceLE, Int.reduceAdd, Int.reduceToNat, Int.reduceNeg, Nat.reduceMul, Nat.reduceSub, Int.reduceBNe, Int.reduceBEq, t0, t1, t2, t3, t4, h1, h3, hcn, f2, f3, f4, f6, f7, f8, aF, dR, gP, bX, aS, aZ, eD, aC, bK, bL, bZ, asz9, Tryz.underlying55, Tryz.underlying47, Tryz.underlying52, Tryz.underlying53, Tryz.underlying9, decide_true, decide_false]
    exact hk _ hon.tail.tail
  have t4 : (((n.loc.length : Nat) : Int) > 100) = False := eq_false (by omega)
  by_cases z5 : n.pre.length ≤ 100
  case neg =>
    have hs : dI ns = false := dY hnm (kr (by omega))
    rw [hs] at hk
    have t5 : ((n.pre.length : Nat) : Int) > 100 := by omega
    simp -implicitDefEqProofs only [go_sem, ↓aj, ↓ah, ak, Nat.reduceBEq, ↓reduceIte, reduceCtorEq, Nat.reduceEqDiff, Nat.reduceAdd, Nat.reduceLeDiff, Int.reduceEq, Int.reduceLT, Int.reduceLE, Int.reduceAdd, Int.reduceToNat, Int.reduceNeg, Nat.reduceMul, Nat.reduceSub, Int.reduceBNe, Int.reduceBEq, t0, t1, t2, t3, t4, t5, h1, h3, hcn, f2, f3, f4, f6, f7, f8, aF, dR, gP, bX, aS, aZ, eD, aC, bK, bL, bZ, asz9, Tryz.underlying55, Tryz.underlying47, Tryz.underlying52, Tryz.underlying53, Tryz.underlying9, decide_true, decide_false]
    exact hk _ hon.tail.tail
  have t5 : (((n.pre.length : Nat) : Int) > 100) = False := eq_false (by omega)
  simp -implicitDefEqProofs only [go_sem, ↓aj, ↓ah, ak, Nat.reduceBEq, ↓reduceIte, reduceCtorEq, Nat.reduceEqDiff, Nat.reduceAdd, Nat.reduceLeDiff, Int.reduceEq, Int.reduceLT, Int.reduceLE, Int.reduceAdd, Int.reduceToNat, Int.reduceNeg, Nat.reduceMul, Nat.reduceSub, Int.reduceBNe, Int.reduceBEq, t0, t1, t2, t3, t4, t5, h1, h3, hcn, f2, f3, f4, f6, f7, f8, aF, dR, gP, bX, aS, aZ, eD, aC, bK, bL, bZ, asz9, Tryz.underlying55, Tryz.underlying47, Tryz.underlying52, Tryz.underlying53, Tryz.underlying9, decide_true, decide_false]
  refine ⟨fun m ρ s => ∃ j : Nat, m = n.atts.length - j ∧ j ≤ n.atts.length ∧ ρ 1 = .pointer (some ⟨b1, 0, none⟩) ∧ ρ 3 = .int .i64 (i : Nat) ∧ ρ 4 = .pointer (some ⟨b5, 0, none⟩) ∧ ρ 5 = .int .i64 (j : Nat) ∧ Own s ((b5, .cells nd 55 true) :: (b1, .cells [.slice (some ⟨x, o, sp⟩) ns.length vc] 24 true) :: r) ∧ ∀ (t : Nat) (a : Att), t < j → n.atts[t]? = some a → attS a = true,
    ⟨_, 0, rfl, Nat.zero_le _, h1, h3, rfl, rfl, hon, fun t a h => by omega⟩, ?_⟩
  clear h1 h3 hon hcn
  rintro _ ρ s ⟨j, rfl, hj, h1, h3, h4, h5, hon, hatt⟩
  have hcn := hon.head
  have w2 : IntKind.i64.wrap ((j : Int) + 1) = ((j + 1 : Nat) : Int) := by rw [bH (by omega)]; omega
  by_cases hjl : j < n.atts.length
  · obtain ⟨a, ha⟩ : ∃ a, n.atts[j]? = some a := ⟨n.atts[j], List.getElem?_eq_getElem hjl⟩
    have ham := List.mem_of_getElem? ha
    obtain ⟨y, yo, ysp, yc, ycs, yty, yown, hvy, hmy, hcy⟩ := hA.mem (i := j) (l := attC a) (by simp [ha])
    rw [List.length_map] at hvy
    injection hvy with hvy _ hvyc
    subst hvy hvyc
    have hcy' := hon.get (List.mem_cons_of_mem _ (List.mem_cons_of_mem _ hmy))
    have hlj : ((j : Int) < (n.atts.length : Int)) = True := eq_true (by omega)
    have hgj : ((0 : Int) ≤ (j : Int)) = True := eq_true (by omega)
    have g0 := bq hcy (j := 0) (by decide)
    have g1 := bq hcy (j := 1) (by decide)
    have g3 := bq hcy (j := 3) (by decide)
    rw [Nat.add_zero] at g0
    change _ = some (Value.string (tx a.pre)) at g0
    change _ = some (Value.string (tx a.loc)) at g1
    change _ = some (Value.string (tx a.val)) at g3
    by_cases y0 : a.val.length ≤ 300
    case neg =>
      have hs : dI ns = false := dY hnm (pX ham (by unfold attS; rw [decide_eq_false (by omega)]))
      rw [hs] at hk
      have u0 : ((a.val.length : Nat) : Int) > 300 := by omega
      simp -implicitDefEqProofs only [go_sem, ↓aj, ↓ah, ak, Nat.reduceBEq, ↓reduceIte, reduceCtorEq, Nat.reduceEqDiff, Nat.reduceAdd, Nat.reduceLeDiff, Int.reduceEq, Int.reduceLT, Int.reduceLE, Int.reduceAdd, Int.reduceToNat, Int.reduceNeg, Nat.reduceMul, Nat.reduceSub, Int.reduceBNe, Int.reduceBEq, u0, h1, h3, h4, h5, hcn, f6, hlj, hgj, hcy', g0, g1, g3, aF, and_self, true_and, decide_true, decide_false, Int.toNat_natCast, Nat.add_zero, dS, fB, fH, aS, aC, dL, bL, asz9, Tryz.underlying55, Tryz.underlying59, Tryz.underlying52, Tryz.underlying9]
      exact hk _ hon.tail.tail
    have u0 : (((a.val.length : Nat) : Int) > 300) = False := eq_false (by omega)
    by_cases y1 : a.loc.length ≤ 100
    case neg =>
      have hs : dI ns = false := dY hnm (pX ham (by unfold attS; rw [decide_eq_false (by omega)]))
      rw [hs] at hk
      have u1 : ((a.loc.length : Nat) : Int) > 100 := by omega
      simp -implicitDefEqProofs only [go_sem, ↓aj, ↓ah, ak, Nat.reduceBEq, ↓reduceIte, reduceCtorEq, Nat.reduceEqDiff, Nat.reduceAdd, Nat.reduceLeDiff, Int.reduceEq, Int.reduceLT, Int.reduceLE, Int.reduceAdd, Int.reduceToNat, Int.reduceNeg, Nat.reduceMul, Nat.reduceSub, Int.reduceBNe, Int.reduceBEq, u0, u1, h1, h3, h4, h5, hcn, f6, hlj, hgj, hcy', g0, g1, g3, aF, and_self, true_and, decide_true, decide_false, Int.toNat_natCast, Nat.add_zero, dS, fB, fH, aS, aC, dL, bL, asz9, Tryz.underlying55, Tryz.underlying59, Tryz.underlying52, Tryz.underlying9]
      exact hk _ hon.tail.tail
    have u1 : (((a.loc.length : Nat) : Int) > 100) = False := eq_false (by omega)
    by_cases y2 : a.pre.length ≤ 100
    case neg =>
      have hs : dI ns = false := dY hnm (pX ham (by unfold attS; rw [decide_eq_false (by omega)]))
      rw [hs] at hk
      have u2 : ((a.pre.length : Nat) : Int) > 100 := by omega
      simp -implicitDefEqProofs only [go_sem, ↓aj, ↓ah, ak, Nat.reduceBEq, ↓reduceIte, reduceCtorEq, Nat.reduceEqDiff, Nat.reduceAdd, Nat.reduceLeDiff, Int.reduceEq, Int.reduceLT, Int.reduceLE, Int.reduceAdd, Int.reduceToNat, Int.reduceNeg, Nat.reduceMul, Nat.reduceSub, Int.reduceBNe, Int.reduceBEq, u0, u1, u2, h1, h3, h4, h5, hcn, f6, hlj, hgj, hcy', g0, g1, g3, aF, and_self, true_and, decide_true, decide_false, Int.toNat_natCast, Nat.add_zero, dS, fB, fH, aS, aC, dL, bL, asz9, Tryz.underlying55, Tryz.underlying59, Tryz.underlying52, Tryz.underlying9]
      exact hk _ hon.tail.tail
    have u2 : (((a.pre.length : Nat) : Int) > 100) = False := eq_false (by omega)
    have hatt' : ∀ (t : Nat) (b : Att), t < j + 1 → n.atts[t]? = some b → attS b = true := fun t b ht hb => by
      by_cases htj : t = j
      · subst htj
        rw [ha] at hb
        injection hb with hb
        rw [← hb]; unfold attS; rw [decide_eq_true (by omega)]
      · exact hatt t b (by omega) hb
    have hjl' : j + 1 ≤ n.atts.length := hjl
    simp -implicitDefEqProofs only [go_sem, ↓aj, ↓ah, ak, Nat.reduceBEq, ↓reduceIte, reduceCtorEq, Nat.reduceEqDiff, Nat.reduceAdd, Nat.reduceLeDiff, Int.reduceEq, Int.reduceLT, Int.reduceLE, Int.reduceAdd, Int.reduceToNat, Int.reduceNeg, Nat.reduceMul, Nat.reduceSub, Int.reduceBNe, Int.reduceBEq, w2, u0, u1, u2, h1, h3, h4, h5, hcn, f6, hlj, hgj, hcy', g0, g1, g3, aF, and_self, true_and, decide_true, decide_false, Int.toNat_natCast, Nat.add_zero, dS, fB, fH, aS, aC, dL, bL, asz9, Tryz.underlying55, Tryz.underlying59, Tryz.underlying52, Tryz.underlying9]
    refine ⟨n.atts.length - (j + 1), by omega, j + 1, ?_⟩
    (repeat' first | assumption | exact rfl | apply And.intro)
  obtain rfl : j = n.atts.length := by omega
  simp -implicitDefEqProofs only [go_sem, ↓aj, ↓ah, ak, Nat.reduceBEq, ↓reduceIte, reduceCtorEq, Nat.reduceEqDiff, Nat.reduceAdd, Nat.reduceLeDiff, Int.reduceEq, Int.reduceLT, Int.reduceLE, Int.reduceAdd, Int.reduceToNat, Int.reduceNeg, Nat.reduceMul, Nat.reduceSub, Int.reduceBNe, Int.reduceBEq, h1, h3, h4, h5, hcn, f6, Int.ofNat_lt, Nat.lt_irrefl, decide_false, aS, bL, Tryz.underlying52]
  refine ⟨fun m ρ s => ∃ j : Nat, m = n.dcls.length - j ∧ j ≤ n.dcls.length ∧ ρ 1 = .pointer (some ⟨b1, 0, none⟩) ∧ ρ 3 = .int .i64 (i : Nat) ∧ ρ 4 = .pointer (some ⟨b5, 0, none⟩) ∧ ρ 6 = .int .i64 (j : Nat) ∧ Own s ((b5, .cells nd 55 true) :: (b1, .cells [.slice (some ⟨x, o, sp⟩) ns.length vc] 24 true) :: r) ∧ ∀ (t : Nat) (a : Dcl), t < j → n.dcls[t]? = some a → dclS a = true,
    ⟨_, 0, rfl, Nat.zero_le _, h1, h3, h4, rfl, hon, fun t a h => by omega⟩, ?_⟩
  clear h1 h3 h4 h5 hon hcn
  rintro _ ρ s ⟨j, rfl, hj, h1, h3, h4, h6, hon, hdcl⟩
  have hcn := hon.head
  have w2 : IntKind.i64.wrap ((j : Int) + 1) = ((j + 1 : Nat) : Int) := by rw [bH (by omega)]; omega
  by_cases hjl : j < n.dcls.length
  · obtain ⟨a, ha⟩ : ∃ a, n.dcls[j]? = some a := ⟨n.dcls[j], List.getElem?_eq_getElem hjl⟩
    have ham := List.mem_of_getElem? ha
    obtain ⟨y, yo, ysp, yc, ycs, yty, yown, hvy, hmy, hcy⟩ := hDc.mem (i := j) (l := dclC a) (by simp [ha])
    rw [List.length_map] at hvy
    injection hvy with hvy _ hvyc
    subst hvy hvyc
    have hcy' := hon.get (List.mem_cons_of_mem _ (List.mem_cons_of_mem _ hmy))
    have hlj : ((j : Int) < (n.dcls.length : Int)) = True := eq_true (by omega)
    have hgj : ((0 : Int) ≤ (j : Int)) = True := eq_true (by omega)
    have g0 := bq hcy (j := 0) (by decide)
    have g1 := bq hcy (j := 1) (by decide)
    rw [Nat.add_zero] at g0
    change _ = some (Value.string (tx a.pre)) at g0
    change _ = some (Value.string (tx a.uri)) at g1
    by_cases y0 : a.uri.length ≤ 300
    case neg =>
      have hs : dI ns = false := dY hnm (vN ham (by unfold dclS; rw [decide_eq_false (by omega)]))
      rw [hs] at hk
      have u0 : ((a.uri.length : Nat) : Int) > 300 := by omega
      simp -implicitDefEqProofs only [go_sem, ↓aj, ↓ah, ak, Nat.reduceBEq, ↓reduceIte, reduceCtorEq, Nat.reduceEqDiff, Nat.reduceAdd, Nat.reduceLeDiff, Int.reduceEq, Int.reduceLT, Int.reduceLE, Int.reduceAdd, Int.reduceToNat, Int.reduceNeg, Nat.reduceMul, Nat.reduceSub, Int.reduceBNe, Int.reduceBEq, u0, h1, h3, h4, h6, hcn, f7, hlj, hgj, hcy', g0, g1, aF, and_self, true_and, decide_true, decide_false, Int.toNat_natCast, Nat.add_zero, jC, jD, aZ, aC, iM, bZ, asz9, Tryz.underlying55, Tryz.underlying61, Tryz.underlying53, Tryz.underlying9]
      exact hk _ hon.tail.tail
    have u0 : (((a.uri.length : Nat) : Int) > 300) = False := eq_false (by omega)
    by_cases y1 : a.pre.length ≤ 100
    case neg =>
      have hs : dI ns = false := dY hnm (vN ham (by unfold dclS; rw [decide_eq_false (by omega)]))
      rw [hs] at hk
      have u1 : ((a.pre.length : Nat) : Int) > 100 := by omega
      simp -implicitDefEqProofs only [go_sem, ↓aj, ↓ah, ak, Nat.reduceBEq, ↓reduceIte, reduceCtorEq, Nat.reduceEqDiff, Nat.reduceAdd, Nat.reduceLeDiff, Int.reduceEq, Int.reduceLT, Int.reduceLE, Int.reduceAdd, Int.reduceToNat, Int.reduceNeg, Nat.reduceMul, Nat.reduceSub, Int.reduceBNe, Int.reduceBEq, u0, u1, h1, h3, h4, h6, hcn, f7, hlj, hgj, hcy', g0, g1, aF, and_self, true_and, decide_true, decide_false, Int.toNat_natCast, Nat.add_zero, jC, jD, aZ, aC, iM, bZ, asz9, Tryz.underlying55, Tryz.underlying61, Tryz.underlying53, Tryz.underlying9]
      exact hk _ hon.tail.tail
    have u1 : (((a.pre.length : Nat) : Int) > 100) = False := eq_false (by omega)
    have hdcl' : ∀ (t : Nat) (b : Dcl), t < j + 1 → n.dcls[t]? = some b → dclS b = true := fun t b ht hb => by
      by_cases htj : t = j
      · subst htj
        rw [ha] at hb
        injection hb with hb
        rw [← hb]; unfold dclS; rw [decide_eq_true (by omega)]
      · exact hdcl t b (by omega) hb
    have hjl' : j + 1 ≤ n.dcls.length := hjl
    simp -implicitDefEqProofs only [go_sem, ↓aj, ↓ah, ak, Nat.reduceBEq, ↓reduceIte, reduceCtorEq, Nat.reduceEqDiff, Nat.reduceAdd, Nat.reduceLeDiff, Int.reduceEq, Int.reduceLT, Int.reduceLE, Int.reduceAdd, Int.reduceToNat, Int.reduceNeg, Nat.reduceMul, Nat.reduceSub, Int.reduceBNe, Int.reduceBEq, w2, u0, u1, h1, h3, h4, h6, hcn, f7, hlj, hgj, hcy', g0, g1, aF, and_self, true_and, decide_true, decide_false, Int.toNat_natCast, Nat.add_zero, jC, jD, aZ, aC, iM, bZ, asz9, Tryz.underlying55, Tryz.underlying61, Tryz.underlying53, Tryz.underlying9]
    refine ⟨n.dcls.length - (j + 1), by omega, j + 1, ?_⟩
    (repeat' first | assumption | exact rfl | apply And.intro)
  obtain rfl : j = n.dcls.length := by omega
  simp -implicitDefEqProofs only [go_sem, ↓aj, ↓ah, ak, Nat.reduceBEq, ↓reduceIte, reduceCtorEq, Nat.reduceEqDiff, Nat.reduceAdd, Nat.reduceLeDiff, Int.reduceEq, Int.reduceLT, Int.reduceLE, Int.reduceAdd, Int.reduceToNat, Int.reduceNeg, Nat.reduceMul, Nat.reduceSub, Int.reduceBNe, Int.reduceBEq, h1, h3, h4, h6, hcn, f7, w1, Int.ofNat_lt, Nat.lt_irrefl, decide_false, aZ, bZ, Tryz.underlying53]
  have hfin := hall' (by
    unfold ko
    rw [decide_eq_true ⟨z0, z1, z2, z3, z4, z5⟩, Bool.true_and, Bool.and_eq_true, List.all_eq_true, List.all_eq_true]
    refine ⟨fun a ha => ?_, fun d hd => ?_⟩
    · obtain ⟨t, ht, rfl⟩ := List.getElem_of_mem ha
      exact hatt t _ ht (List.getElem?_eq_getElem ht)
    · obtain ⟨t, ht, rfl⟩ := List.getElem_of_mem hd
      exact hdcl t _ ht (List.getElem?_eq_getElem ht))
  have ho9 := hon.tail
  have hil' : i + 1 ≤ ns.length := hil
  refine ⟨ns.length - (i + 1), by omega, i + 1, ?_⟩
  (repeat' first | assumption | exact rfl | apply And.intro)
end Go.Proofs.YtigjbehgfjjlkaaGreatDoor
set_option linter.unusedVariables false
set_option linter.unusedSimpArgs false
namespace Go.Proofs.YtigjbehgfjjlkaaGreatDoor
open Go Go.Abs Go.RowKit Go.Xml
variable {base : Nat} {w0 : World} {G : Nat}
theorem zS {ns : List Nx} (h : dI ns = true) : ns.length ≤ 40 ∧ ∀ n ∈ ns, n.kids.length ≤ 60 ∧ SzX n ∧ ownE n ≤ 100000 := by
  unfold dI at h
  rw [Bool.and_eq_true, decide_eq_true_eq, List.all_eq_true] at h
  refine ⟨h.1, fun n hn => ?_⟩
  have h2 := h.2 n hn
  unfold ko at h2
  rw [Bool.and_eq_true, Bool.and_eq_true, decide_eq_true_eq, List.all_eq_true, List.all_eq_true] at h2
  obtain ⟨⟨k, a, d, v, l, p⟩, ha, hd⟩ := h2
  have ha' : ∀ x ∈ n.atts, x.pre.length ≤ 300 ∧ x.loc.length ≤ 300 ∧ x.val.length ≤ 300 := fun x hx => by
    have := ha x hx
    unfold attS at this
    rw [decide_eq_true_eq] at this
    omega
  have hd' : ∀ x ∈ n.dcls, x.pre.length ≤ 300 ∧ x.uri.length ≤ 300 := fun x hx => by
    have := hd x hx
    unfold dclS at this
    rw [decide_eq_true_eq] at this
    omega
  have := GH (n := n) (m := 300) (c := 10) ⟨by omega, by omega, v⟩ ⟨a, d⟩ ha' hd'
  exact ⟨k, ⟨by omega, by omega, by omega, by omega, by omega, fun x hx => by have := ha' x hx; omega, fun x hx => by have := hd' x hx; omega⟩, by omega⟩
theorem D9 {ns : List Nx} (h : dI ns = true) : BndX ns := by
  obtain ⟨h1, h2⟩ := zS h
  exact ⟨by omega, fun n hn => by
    obtain ⟨k1, k2, _⟩ := h2 n hn
    have a1 := k2.atts
    have a2 := k2.dcls
    omega⟩
end Go.Proofs.YtigjbehgfjjlkaaGreatDoor
