/- Does a node fit a name (tree.fits)? No conditions. -/
import Derived.Test.YtigjbehgfjjlkaaGreatDoorTrGA
import Derived.Test.YtigjbehgfjjlkaaGreatDoorTrGF
set_option linter.unusedVariables false
set_option linter.unusedSimpArgs false
namespace Go.Proofs.YtigjbehgfjjlkaaGreatDoor
open Go Go.Abs Go.RowKit Go.Xml
variable {base : Nat} {w0 : World} {G : Nat}
set_option maxRecDepth 10000 in
theorem Ea (st : St) (r : Hp) (n : Nx) (kv av dv : Value) (sp lo : Tx) (hN : NdX r n kv av dv) (hO : Own st r) (k q : Value → St → Prop) (hk : ∀ st', Own st' r → k (.bool (gX n sp lo)) st') : aA (C base w0 G) 47 [.agg (ndX n kv av dv).toArray, .string (tx sp), .string (tx lo)] st k q := by
  obtain ⟨ka, kc, hkv1, _⟩ := hN.kid.isSlice
  obtain ⟨aa, ac, hav1, _⟩ := hN.att.isSlice
  obtain ⟨da, dc, hdv1, _⟩ := hN.dcl.isSlice
  subst hkv1 hav1 hdv1
  refine aA.of (cx := C base w0 G) mixed Tryz.func47 rfl (by kernel_rfl) (by simp [Tryz.ntmps47]) ?_
  simp only [Tryz.results47]
  have ho1 := hO.new (.cells (ndX n (.slice ka (n.kids.map fun k => [Value.int .i64 k]).length kc) (.slice aa (n.atts.map attC).length ac) (.slice da (n.dcls.map dclC).length dc)) 55 true)
  simp only [List.length_map] at ho1 ⊢
  have f0 : (ndX n (.slice ka n.kids.length kc) (.slice aa n.atts.length ac) (.slice da n.dcls.length dc))[0]? = some (.int .i64 n.kind) := rfl
  have f4 : (ndX n (.slice ka n.kids.length kc) (.slice aa n.atts.length ac) (.slice da n.dcls.length dc))[4]? = some (.string (tx n.loc)) := rfl
  have f5 : (ndX n (.slice ka n.kids.length kc) (.slice aa n.atts.length ac) (.slice da n.dcls.length dc))[5]? = some (.string (tx n.spc)) := rfl
  by_cases hk1 : n.kind = 1
  case neg =>
    have hf : gX n sp lo = false := by unfold gX; rw [decide_eq_false hk1]; rfl
    have t1 : (n.kind == 1) = false := beq_eq_false_iff_ne.2 hk1
    rw [hf] at hk
    simp -implicitDefEqProofs only [go_sem, ↓aj, ↓ah, ak, Nat.reduceBEq, ↓reduceIte, reduceCtorEq, Nat.reduceEqDiff, Nat.reduceAdd, Nat.reduceLeDiff, Int.reduceEq, Int.reduceLT, Int.reduceLE, Int.reduceAdd, Int.reduceToNat, Int.reduceNeg, Nat.reduceMul, Nat.reduceSub, Int.reduceBNe, Int.reduceBEq, t1, abox, f0, f4, f5, aC, asz3, asz9, aN, bX, gQ, Tryz.underlying55, Tryz.underlying3, Tryz.underlying9, Option.map_some]
    exact hk _ ho1.tail
  have t1 : (n.kind == 1) = true := by rw [hk1]; rfl
  have heT := aB n.spc sp
  have heN : astr .eql (tx lo) ⟨#[]⟩ = some (.bool (decide (lo = []))) := aB lo []
  have heL := aB n.loc lo
  by_cases hs : n.spc = sp
  case neg =>
    have hf : gX n sp lo = false := by unfold gX; rw [decide_eq_false hs]; simp
    rw [hf] at hk
    rw [decide_eq_false hs] at heT
    simp -implicitDefEqProofs only [go_sem, ↓aj, ↓ah, ak, Nat.reduceBEq, ↓reduceIte, reduceCtorEq, Nat.reduceEqDiff, Nat.reduceAdd, Nat.reduceLeDiff, Int.reduceEq, Int.reduceLT, Int.reduceLE, Int.reduceAdd, Int.reduceToNat, Int.reduceNeg, Nat.reduceMul, Nat.reduceSub, Int.reduceBNe, Int.reduceBEq, abox, t1, f0, f4, f5, heT, aC, asz3, asz9, aN, bX, gQ, Tryz.underlying55, Tryz.underlying3, Tryz.underlying9, Option.map_some]
    exact hk _ ho1.tail
  rw [decide_eq_true hs] at heT
  by_cases hl : lo = []
  · have hf : gX n sp lo = true := by unfold gX; rw [decide_eq_true hs, decide_eq_true hl, decide_eq_true hk1]; rfl
    rw [hf] at hk
    rw [decide_eq_true hl] at heN
    simp -implicitDefEqProofs only [go_sem, ↓aj, ↓ah, ak, Nat.reduceBEq, ↓reduceIte, reduceCtorEq, Nat.reduceEqDiff, Nat.reduceAdd, Nat.reduceLeDiff, Int.reduceEq, Int.reduceLT, Int.reduceLE, Int.reduceAdd, Int.reduceToNat, Int.reduceNeg, Nat.reduceMul, Nat.reduceSub, Int.reduceBNe, Int.reduceBEq, heN, abox, t1, f0, f4, f5, heT, aC, asz3, asz9, aN, bX, gQ, Tryz.underlying55, Tryz.underlying3, Tryz.underlying9, Option.map_some]
    exact hk _ ho1.tail
  have hf : gX n sp lo = decide (n.loc = lo) := by unfold gX; rw [decide_eq_true hs, decide_eq_false hl, decide_eq_true hk1]; rfl
  rw [hf] at hk
  rw [decide_eq_false hl] at heN
  simp -implicitDefEqProofs only [go_sem, ↓aj, ↓ah, ak, Nat.reduceBEq, ↓reduceIte, reduceCtorEq, Nat.reduceEqDiff, Nat.reduceAdd, Nat.reduceLeDiff, Int.reduceEq, Int.reduceLT, Int.reduceLE, Int.reduceAdd, Int.reduceToNat, Int.reduceNeg, Nat.reduceMul, Nat.reduceSub, Int.reduceBNe, Int.reduceBEq, heN, heL, abox, t1, f0, f4, f5, heT, aC, asz3, asz9, aN, bX, gQ, Tryz.underlying55, Tryz.underlying3, Tryz.underlying9, Option.map_some]
  exact hk _ ho1.tail
end Go.Proofs.YtigjbehgfjjlkaaGreatDoor
set_option linter.unusedVariables false
set_option linter.unusedSimpArgs false
namespace Go.Proofs.YtigjbehgfjjlkaaGreatDoor
open Go Go.Abs Go.RowKit Go.Xml
variable {base : Nat} {w0 : World} {G : Nat}
def eO (l : List Int) : List Value := l.map fun k => Value.int .i64 k
theorem ku (l : List Int) : (eO l).length = l.length := List.length_map _
theorem vP (l : List Int) : (eO l).all Go.Abs.one = true := by
  rw [List.all_eq_true]
  intro x hx
  obtain ⟨k, _, rfl⟩ := List.mem_map.1 hx
  rfl
theorem Eb {cs : List Value} {o : Nat} {l : List Int} (h : ∀ (i : Nat) (x : List Value), (aV l)[i]? = some x → cut cs (o + i * 1) 1 = some x) (hne : l ≠ []) : cut cs o (l.length * 1) = some (eO l) := by
  have hget : ∀ i, i < l.length → cs[o + i]? = (eO l)[i]? := by
    intro i hi
    have := bq (h i [.int .i64 l[i]] (by simp [aV, hi])) (j := 0) (by decide)
    rw [Nat.mul_one, Nat.add_zero] at this
    rw [this]
    simp [eO, hi]
  have hpos : 0 < l.length := List.length_pos_iff.2 hne
  have hlen : o + l.length ≤ cs.length := by
    have h5 := hget (l.length - 1) (by omega)
    have hb : l.length - 1 < (eO l).length := by rw [ku]; omega
    rw [List.getElem?_eq_getElem hb] at h5
    have := (List.getElem?_eq_some_iff.1 h5).1
    omega
  unfold cut
  rw [Nat.mul_one, if_pos hlen]
  congr 1
  apply List.ext_getElem?
  intro i
  by_cases hi : i < l.length
  · rw [List.getElem?_take, if_pos hi, List.getElem?_drop, hget i hi]
  · rw [List.getElem?_eq_none (by simp; omega), List.getElem?_eq_none (by rw [ku]; omega)]
theorem zU {cs : List Value} {i : Nat} {x : Value} (h : cs[i]? = some x) : cut cs i 1 = some [x] := by
  have hi := (List.getElem?_eq_some_iff.1 h).1
  unfold cut
  rw [if_pos (by omega), List.drop_eq_getElem_cons hi]
  simp only [List.take_succ_cons, List.take_zero]
  rw [(List.getElem?_eq_some_iff.1 h).2]
set_option maxRecDepth 10000 in
theorem BR (st : St) (r : Hp) (v : Value) (l : List Int) (hL : Rws r v 1 (aV l)) (hl : l.length ≤ 1000000) (hO : Own st r) (k q : Value → St → Prop) (hk : ∀ v' h' st', GVx v' (eO l) l.length 1 3 h' → (l ≠ [] → GV v' (eO l) l.length 1 3 h') → Own st' (h' ++ r) → k v' st') : aA (C base w0 G) 45 [v] st k q := by
  refine aA.of (cx := C base w0 G) mixed Tryz.func45 rfl (by kernel_rfl) (by simp [Tryz.ntmps45]) ?_
  simp only [Tryz.results45]
  have hcase : (v = .slice none 0 0 ∧ l = []) ∨ ∃ x o sp c, v = .slice (some ⟨x, o, sp⟩) l.length c ∧ asrc (st.new (.cells [] 3 true)) 1 v = some (l.length, eO l) := by
    have hz : ∀ (x o c : Nat) (sp : Option Nat), asrc (st.new (.cells [] 3 true)) 1 (.slice (some ⟨x, o, sp⟩) 0 c) = some (0, []) := fun x o c sp => by
      simp only [asrc, acut, Nat.zero_mul]
      split
      · rename_i l' hl'
        split at hl'
        · simp only [cut, Nat.add_zero, List.take_zero] at hl'
          split at hl'
          · injection hl' with hl'; rw [← hl']
          · cases hl'
        · cases hl'
      · rfl
    rcases hL with ⟨h1, h2 | ⟨x, o, sp, c, h2⟩⟩ | ⟨x, o, sp, c, cs, ty, own, h1, h2, h3⟩
    · exact .inl ⟨h2, by simpa [aV] using h1⟩
    · obtain rfl : l = [] := by simpa [aV] using h1
      exact .inr ⟨x, o, sp, c, h2, by rw [h2]; exact hz x o c sp⟩
    · rw [aV, List.length_map] at h1
      refine .inr ⟨x, o, sp, c, h1, ?_⟩
      by_cases hne : l = []
      · subst hne
        rw [h1]
        exact hz x o c sp
      · have hc := (hO.new (.cells [] 3 true)).get (List.mem_cons_of_mem _ h2)
        rw [h1]
        simp only [asrc, acut, hc, Eb h3 hne]
  rcases hcase with ⟨rfl, rfl⟩ | ⟨x, o, sp, c, rfl, hs⟩
  · simp -implicitDefEqProofs only [go_sem, ↓aj, ↓ah, ak, Nat.reduceBEq, ↓reduceIte, reduceCtorEq, Nat.reduceEqDiff, Nat.reduceAdd, Nat.reduceLeDiff, Int.reduceEq, Int.reduceLT, Int.reduceLE, Int.reduceAdd, Int.reduceToNat, Int.reduceNeg, Nat.reduceMul, Nat.reduceSub, Int.reduceBNe, Int.reduceBEq, Tryz.underlying47]
    exact hk _ [] _ GVx.nil (fun h => absurd rfl h) hO
  · simp -implicitDefEqProofs only [go_sem, ↓aj, ↓ah, ak, Nat.reduceBEq, ↓reduceIte, reduceCtorEq, Nat.reduceEqDiff, Nat.reduceAdd, Nat.reduceLeDiff, Int.reduceEq, Int.reduceLT, Int.reduceLE, Int.reduceAdd, Int.reduceToNat, Int.reduceNeg, Nat.reduceMul, Nat.reduceSub, Int.reduceBNe, Int.reduceBEq, pz (st := st) Tryz.underlying47 asz3 azc3, Tryz.underlying47]
    by_cases hne : l = []
    · refine GVx.append (t := 47) (t' := 47) (r := r) Tryz.underlying47 (by rw [Tryz.underlying47]; rfl) asz3 azc3 aby3 GVx.empty (hO.new (.cells [] 3 true)) hs (by rw [ku, Nat.mul_one]) (vP l) (by omega) fun v' h' st' hG hO' => ?_
      rw [List.nil_append, Nat.zero_add] at hG
      simp -implicitDefEqProofs only [go_sem, ↓aj, ↓ah, ak, Nat.reduceBEq, ↓reduceIte, reduceCtorEq, Nat.reduceEqDiff, Nat.reduceAdd, Nat.reduceLeDiff, Int.reduceEq, Int.reduceLT, Int.reduceLE, Int.reduceAdd, Int.reduceToNat, Int.reduceNeg, Nat.reduceMul, Nat.reduceSub, Int.reduceBNe, Int.reduceBEq]
      exact hk _ _ _ hG (fun h => absurd hne h) hO'
    · refine GVx.lW (t := 47) (t' := 47) (r := r) Tryz.underlying47 (by rw [Tryz.underlying47]; rfl) asz3 azc3 aby3 GVx.empty (hO.new (.cells [] 3 true)) hs (fun h => hne (List.eq_nil_of_length_eq_zero h)) (by rw [ku, Nat.mul_one]) (vP l) (by omega) fun v' h' st' hG hO' => ?_
      rw [List.nil_append, Nat.zero_add] at hG
      simp -implicitDefEqProofs only [go_sem, ↓aj, ↓ah, ak, Nat.reduceBEq, ↓reduceIte, reduceCtorEq, Nat.reduceEqDiff, Nat.reduceAdd, Nat.reduceLeDiff, Int.reduceEq, Int.reduceLT, Int.reduceLE, Int.reduceAdd, Int.reduceToNat, Int.reduceNeg, Nat.reduceMul, Nat.reduceSub, Int.reduceBNe, Int.reduceBEq]
      exact hk _ _ _ hG.x (fun _ => hG) hO'
set_option maxRecDepth 10000 in
theorem BS (st : St) (r : Hp) (v : Value) (l : List Int) (n : Nat) (caps : List Value) (ok : Int → Prop) (p : Int → Bool) (hP : iP (C base w0 G) n caps r (fun a : Int => .int .i64 a) ok p) (hL : Rws r v 1 (aV l)) (hok : ∀ a ∈ l, ok a) (hl : l.length ≤ 1000000) (hO : Own st r) (k q : Value → St → Prop)
    (hk : ∀ (z : Int) st', ((z = -1 ∧ ∀ a ∈ l, p a = false) ∨ ∃ (i : Nat) (a : Int), z = i ∧ l[i]? = some a ∧ p a = true ∧ ∀ b ∈ l.take i, p b = false) → Own st' r → k (.int .i64 z) st') : aA (C base w0 G) 63 [v, .func (.func n) #[] caps.toArray] st k q := by
  obtain ⟨a, cp, hls, _⟩ := hL.isSlice
  rw [aV, List.length_map] at hls
  refine aA.of (cx := C base w0 G) mixed Tryz.func63 rfl (by kernel_rfl) (by simp [Tryz.ntmps63]) ?_
  simp only [Tryz.results63]
  simp -implicitDefEqProofs only [go_sem, ↓aj, ↓ah, ak, Nat.reduceBEq, ↓reduceIte, reduceCtorEq, Nat.reduceEqDiff, Nat.reduceAdd, Nat.reduceLeDiff, Int.reduceEq, Int.reduceLT, Int.reduceLE, Int.reduceAdd, Int.reduceToNat, Int.reduceNeg, Nat.reduceMul, Nat.reduceSub, Int.reduceBNe, Int.reduceBEq, hls, Tryz.underlying47]
  refine ⟨fun m ρ s => ∃ i : Nat, m = l.length - i ∧ i ≤ l.length ∧ ρ 0 = v ∧ ρ 1 = .func (.func n) #[] caps.toArray ∧ ρ 7 = .int .i64 l.length ∧ ρ 8 = .int .i64 i ∧ (∀ a ∈ l.take i, p a = false) ∧ Own s r,
    ⟨_, 0, rfl, Nat.zero_le _, hls.symm, rfl, rfl, rfl, fun a ha => by simp at ha, hO⟩, ?_⟩
  rintro _ ρ s ⟨i, rfl, hi, h0, h1, h7, h8, hno, hs⟩
  by_cases him : i < l.length
  case neg =>
    obtain rfl : i = l.length := by omega
    rw [List.take_length] at hno
    simp -implicitDefEqProofs only [go_sem, ↓aj, ↓ah, ak, Nat.reduceBEq, ↓reduceIte, reduceCtorEq, Nat.reduceEqDiff, Nat.reduceAdd, Nat.reduceLeDiff, Int.reduceEq, Int.reduceLT, Int.reduceLE, Int.reduceAdd, Int.reduceToNat, Int.reduceNeg, Nat.reduceMul, Nat.reduceSub, Int.reduceBNe, Int.reduceBEq, h0, h1, h7, h8, Int.ofNat_lt, Nat.lt_irrefl, decide_false]
    exact hk (-1) _ (.inl ⟨rfl, hno⟩) hs
  obtain ⟨b, hb⟩ : ∃ b, l[i]? = some b := ⟨l[i], List.getElem?_eq_getElem him⟩
  obtain ⟨x, o, sp, c', cs, ty, own, hvx, hmem, hcut⟩ := hL.mem (i := i) (l := [.int .i64 b]) (by simp [aV, hb])
  rw [aV, List.length_map] at hvx
  have hcx := hs.get hmem
  have q0 := bq hcut (show 0 < 1 by decide)
  simp only [Nat.mul_one, Nat.add_zero, List.getElem?_cons_zero] at q0
  have hli : ((i : Int) < (l.length : Int)) = True := eq_true (by omega)
  have hge : ((0 : Int) ≤ (i : Int)) = True := eq_true (by omega)
  have w1 : IntKind.i64.wrap ((i : Int) + 1) = ((i + 1 : Nat) : Int) := by rw [bH (by omega)]; rfl
  simp -implicitDefEqProofs only [go_sem, ↓aj, ↓ah, ak, Nat.reduceBEq, ↓reduceIte, reduceCtorEq, Nat.reduceEqDiff, Nat.reduceAdd, Nat.reduceLeDiff, Int.reduceEq, Int.reduceLT, Int.reduceLE, Int.reduceAdd, Int.reduceToNat, Int.reduceNeg, Nat.reduceMul, Nat.reduceSub, Int.reduceBNe, Int.reduceBEq, h0, h1, h7, h8, hvx, hli, hge, hcx, q0, decide_true, and_self, true_and, Int.toNat_natCast, Nat.mul_one, bK, asz3, Tryz.underlying47, Tryz.underlying3]
  rw [gB]
  refine hP b s r _ _ (hok b (List.mem_of_getElem? hb)) (fun e he => he) hs fun s1 hs1 => ?_
  cases hp : p b with
  | true =>
    simp -implicitDefEqProofs only [go_sem, ↓aj, ↓ah, ak, Nat.reduceBEq, ↓reduceIte, reduceCtorEq, Nat.reduceEqDiff, Nat.reduceAdd, Nat.reduceLeDiff, Int.reduceEq, Int.reduceLT, Int.reduceLE, Int.reduceAdd, Int.reduceToNat, Int.reduceNeg, Nat.reduceMul, Nat.reduceSub, Int.reduceBNe, Int.reduceBEq, h0, h1, h7, h8]
    exact hk i _ (.inr ⟨i, b, rfl, hb, hp, hno⟩) hs1
  | false =>
    simp -implicitDefEqProofs only [go_sem, ↓aj, ↓ah, ak, Nat.reduceBEq, ↓reduceIte, reduceCtorEq, Nat.reduceEqDiff, Nat.reduceAdd, Nat.reduceLeDiff, Int.reduceEq, Int.reduceLT, Int.reduceLE, Int.reduceAdd, Int.reduceToNat, Int.reduceNeg, Nat.reduceMul, Nat.reduceSub, Int.reduceBNe, Int.reduceBEq, h0, h1, h7, h8, w1]
    refine ⟨l.length - (i + 1), by omega, i + 1, rfl, by omega, rfl, fun a ha => ?_, hs1⟩
    rw [List.take_add_one, hb] at ha
    rcases List.mem_append.1 ha with ha | ha
    · exact hno a ha
    · simp at ha; rw [ha]; exact hp
theorem GVx.IY {v : Value} {l : List Int} {hg : Hp} (h : GVx v (eO l) l.length 1 3 hg) : Rws hg v 1 (aV l) := by
  rcases h with ⟨rfl, h2, _, _⟩ | ⟨b, rfl, h2, _, _⟩ | ⟨b, c, D, rfl, rfl, hc⟩
  · obtain rfl := List.eq_nil_of_length_eq_zero h2
    exact .inl ⟨rfl, .inl rfl⟩
  · obtain rfl := List.eq_nil_of_length_eq_zero h2
    exact .inl ⟨rfl, .inr ⟨b, 0, none, 0, rfl⟩⟩
  · refine .inr ⟨b, 0, some 0, c, D, 3, true, by rw [aV, List.length_map], List.mem_singleton.2 rfl, fun i x hx => ?_⟩
    rw [aV, List.getElem?_map] at hx
    cases ha : l[i]? with
    | none => rw [ha] at hx; cases hx
    | some a =>
      rw [ha] at hx
      injection hx with hx
      subst hx
      have hi := (List.getElem?_eq_some_iff.1 ha).1
      have hg := bq hc (j := i) (by omega)
      have : (eO l)[i]? = some (.int .i64 a) := by simp [eO, ha]
      rw [this, Nat.zero_add] at hg
      rw [Nat.mul_one, Nat.zero_add]
      exact zU hg
def jc (p : Int → Bool) (l : List Int) (j : Nat) : List Int := (l.take j).filter fun a => !p a
set_option maxRecDepth 10000 in
theorem zV (st : St) (r hg : Hp) (v : Value) (l : List Int) (n : Nat) (caps : List Value) (ok : Int → Prop) (p : Int → Bool) (hP : iP (C base w0 G) n caps r (fun a : Int => .int .i64 a) ok p) (hL : GVx v (eO l) l.length 1 3 hg) (hL2 : l ≠ [] → GV v (eO l) l.length 1 3 hg) (hok : ∀ a ∈ l, ok a) (hl : l.length ≤ 1000000) (hO : Own st (hg ++ r)) (k q : Value → St → Prop)
    (hk : ∀ v' h' st', Rws h' v' 1 (aV (l.filter fun a => !p a)) → Own st' (h' ++ r) → k v' st') : aA (C base w0 G) 44 [v, .func (.func n) #[] caps.toArray] st k q := by
  have hR := GVx.IY hL
  refine aA.of (cx := C base w0 G) mixed Tryz.func44 rfl (by kernel_rfl) (by simp [Tryz.ntmps44]) ?_
  simp only [Tryz.results44]
  simp -implicitDefEqProofs only [go_sem, ↓aj, ↓ah, ak, Nat.reduceBEq, ↓reduceIte, reduceCtorEq, Nat.reduceEqDiff, Nat.reduceAdd, Nat.reduceLeDiff, Int.reduceEq, Int.reduceLT, Int.reduceLE, Int.reduceAdd, Int.reduceToNat, Int.reduceNeg, Nat.reduceMul, Nat.reduceSub, Int.reduceBNe, Int.reduceBEq]
  have hP2 : iP (C base w0 G) n caps (hg ++ r) (fun a : Int => .int .i64 a) ok p := fun a st X k q h1 h2 h3 h4 => hP a st X k q h1 (fun e he => h2 e (List.mem_append_right _ he)) h3 h4
  refine ay.enter Tryz.func63 rfl (by kernel_rfl) (BS _ _ v l n caps ok p hP2 (hR.sub fun e he => List.mem_append_left _ he) hok hl hO _ _ fun z s1 hz ho => ?_)
  rcases hz with ⟨rfl, hall⟩ | ⟨i0, a0, rfl, ha0, hp0, hno⟩
  · simp -implicitDefEqProofs only [go_sem, ↓aj, ↓ah, ak, Nat.reduceBEq, ↓reduceIte, reduceCtorEq, Nat.reduceEqDiff, Nat.reduceAdd, Nat.reduceLeDiff, Int.reduceEq, Int.reduceLT, Int.reduceLE, Int.reduceAdd, Int.reduceToNat, Int.reduceNeg, Nat.reduceMul, Nat.reduceSub, Int.reduceBNe, Int.reduceBEq]
    have : (l.filter fun a => !p a) = l := by
      rw [List.filter_eq_self]
      intro a ha
      rw [hall a ha]; rfl
    exact hk v hg s1 (by rw [this]; exact hR) ho
  have hi0 := (List.getElem?_eq_some_iff.1 ha0).1
  rcases hL2 (fun h => by rw [h] at hi0; exact absurd hi0 (by simp)) with ⟨_, h2, _, _⟩ | ⟨b, rfl, rfl, _⟩
  · omega
  have hkept : jc p l (i0 + 1) = l.take i0 := by
    unfold jc
    rw [List.take_add_one, ha0, List.filter_append, Option.toList_some, List.filter_cons, if_neg (by rw [hp0]; decide), List.filter_nil, List.append_nil, List.filter_eq_self]
    intro a ha
    rw [hno a ha]; rfl
  have nm1 : (((i0 : Nat) : Int) == -1) = false := beq_eq_false_iff_ne.2 (by omega)
  have w0' : IntKind.i64.wrap ((i0 : Int) + 1) = ((i0 + 1 : Nat) : Int) := by rw [bH (by omega)]; rfl
  simp -implicitDefEqProofs only [go_sem, ↓aj, ↓ah, ak, Nat.reduceBEq, ↓reduceIte, reduceCtorEq, Nat.reduceEqDiff, Nat.reduceAdd, Nat.reduceLeDiff, Int.reduceEq, Int.reduceLT, Int.reduceLE, Int.reduceAdd, Int.reduceToNat, Int.reduceNeg, Nat.reduceMul, Nat.reduceSub, Int.reduceBNe, Int.reduceBEq, nm1, w0']
  refine ⟨fun m ρ s => ∃ (j : Nat) (D' : List Value), m = l.length - j ∧ j ≤ l.length ∧ ρ 0 = .slice (some ⟨b, 0, some 0⟩) l.length l.length ∧ ρ 1 = .func (.func n) #[] caps.toArray ∧ ρ 5 = .int .i64 ((jc p l j).length : Nat) ∧ ρ 6 = .int .i64 (j : Nat) ∧ D'.length = l.length ∧ (jc p l j).length < j ∧ (∀ t, t < (jc p l j).length → D'[t]? = (eO (jc p l j))[t]?) ∧ (∀ t, j ≤ t → t < l.length → D'[t]? = (eO l)[t]?) ∧ Own s ([(b, .cells D' 3 true)] ++ r),
    ⟨_, i0 + 1, eO l, rfl, hi0, rfl, rfl, by rw [hkept, List.length_take, Nat.min_eq_left (by omega)]; rfl, rfl, ku l, by rw [hkept, List.length_take]; omega, fun t ht => ?_, fun t ht1 ht2 => ?_, ho⟩, ?_⟩
  · rw [hkept] at ht ⊢
    rw [List.length_take] at ht
    simp [eO, List.getElem?_take, show t < i0 by omega]
  · rfl
  rintro _ ρ s ⟨j, D', rfl, hj, h0, h1, h5, h6, hDl', hkj, hlow, hhigh, ho⟩
  have hcb := ho.head
  by_cases hjl : j < l.length
  case neg =>
    obtain rfl : j = l.length := by omega
    have hkf : jc p l l.length = l.filter fun a => !p a := by unfold jc; rw [List.take_length]
    rw [hkf] at h5 hkj hlow
    generalize (l.filter fun a => !p a) = kf at *
    obtain ⟨d, hd⟩ : ∃ d, l.length - kf.length = d + 1 := ⟨l.length - kf.length - 1, by omega⟩
    have s1 : aslice Tryz.prog s 47 (.slice (some ⟨b, 0, some 0⟩) l.length l.length) (some (.int .i64 (kf.length : Nat))) none none = some (.slice (some ⟨b, kf.length, some 0⟩) (d + 1) (d + 1)) := by
      rw [jV Tryz.underlying47 asz3 (iL hcb asz3) (mR (by omega) (Nat.le_refl _)), Nat.mul_one, Nat.zero_add, hd]
    have hzl : (zeros [Value.int .i64 0] (d + 1)).length = d + 1 := by rw [pU, List.length_replicate]
    have s2 : oU Tryz.prog s 47 (.slice (some ⟨b, kf.length, some 0⟩) (d + 1) (d + 1)) = some (s.set b (some (.cells (setL D' kf.length (zeros [.int .i64 0] (d + 1))) 3 true))) := by
      have hc1 : kf.length + (d + 1) * 1 ≤ D'.length := by omega
      have hc2 : ([Value.int IntKind.i64 0].all Go.Abs.one) = true := rfl
      simp only [oU, Tryz.underlying47, azc3, hcb, hc2, List.length_cons, List.length_nil, Nat.zero_add, hc1, and_self, if_true]
    have hE := dx (zeros [Value.int .i64 0] (d + 1)) D' kf.length (by omega)
    have ho5 := ho.set rfl (.cells (setL D' kf.length (zeros [.int .i64 0] (d + 1))) 3 true) rfl
    generalize setL D' kf.length (zeros [Value.int .i64 0] (d + 1)) = E at *
    have hEt : ∀ t, t < kf.length → E[t]? = (eO kf)[t]? := fun t ht => by
      rw [hE, List.append_assoc, List.getElem?_append_left (by rw [List.length_take]; omega), List.getElem?_take, if_pos ht]
      exact hlow t ht
    have hcb5 := ho5.head
    have s3 : aslice Tryz.prog (s.set b (some (.cells E 3 true))) 47 (.slice (some ⟨b, 0, some 0⟩) l.length l.length) none (some (.int .i64 (kf.length : Nat))) none = some (.slice (some ⟨b, 0, some 0⟩) kf.length l.length) := by
      rw [jV Tryz.underlying47 asz3 (iL hcb5 asz3) (kK (by omega)), Nat.mul_one, Nat.zero_add, Nat.sub_zero, Nat.sub_zero]
    simp -implicitDefEqProofs only [go_sem, ↓aj, ↓ah, ak, Nat.reduceBEq, ↓reduceIte, reduceCtorEq, Nat.reduceEqDiff, Nat.reduceAdd, Nat.reduceLeDiff, Int.reduceEq, Int.reduceLT, Int.reduceLE, Int.reduceAdd, Int.reduceToNat, Int.reduceNeg, Nat.reduceMul, Nat.reduceSub, Int.reduceBNe, Int.reduceBEq, s1, s2, s3, h0, h1, h5, h6, Int.ofNat_lt, Nat.lt_irrefl, decide_false, Tryz.underlying47]
    refine hk _ [(b, .cells E 3 true)] _ (.inr ⟨b, 0, some 0, l.length, E, 3, true, by rw [aV, List.length_map], List.mem_singleton.2 rfl, fun t x hx => ?_⟩) ho5
    rw [aV, List.getElem?_map] at hx
    cases ha : kf[t]? with
    | none => rw [ha] at hx; cases hx
    | some a =>
      rw [ha] at hx
      injection hx with hx
      subst hx
      have := hEt t (List.getElem?_eq_some_iff.1 ha).1
      rw [show (eO kf)[t]? = some (.int .i64 a) by simp [eO, ha]] at this
      rw [Nat.mul_one, Nat.zero_add]
      exact zU this
  obtain ⟨a, ha⟩ : ∃ a, l[j]? = some a := ⟨l[j], List.getElem?_eq_getElem hjl⟩
  have q0 : D'[j]? = some (.int .i64 a) := by rw [hhigh j (Nat.le_refl _) hjl]; simp [eO, ha]
  have hlj : ((j : Int) < (l.length : Int)) = True := eq_true (by omega)
  have hge : ((0 : Int) ≤ (j : Int)) = True := eq_true (by omega)
  have w1 : IntKind.i64.wrap ((j : Int) + 1) = ((j + 1 : Nat) : Int) := by rw [bH (by omega)]; rfl
  have w2 : IntKind.i64.wrap (((jc p l j).length : Int) + 1) = (((jc p l j).length + 1 : Nat) : Int) := by rw [bH (by omega)]; rfl
  have hjl' : j + 1 ≤ l.length := hjl
  have hsucc : jc p l (j + 1) = if p a then jc p l j else jc p l j ++ [a] := by
    unfold jc
    rw [List.take_add_one, ha, List.filter_append, Option.toList_some]
    cases hp : p a with
    | true => simp [hp]
    | false => simp [hp]
  simp -implicitDefEqProofs only [go_sem, ↓aj, ↓ah, ak, Nat.reduceBEq, ↓reduceIte, reduceCtorEq, Nat.reduceEqDiff, Nat.reduceAdd, Nat.reduceLeDiff, Int.reduceEq, Int.reduceLT, Int.reduceLE, Int.reduceAdd, Int.reduceToNat, Int.reduceNeg, Nat.reduceMul, Nat.reduceSub, Int.reduceBNe, Int.reduceBEq, h0, h1, h5, h6, hlj, hge, hcb, q0, decide_true, and_self, true_and, Int.toNat_natCast, Nat.zero_add, Nat.mul_one, bK, asz3, Tryz.underlying47, Tryz.underlying3]
  rw [gB]
  refine hP a s _ _ _ (hok a (List.mem_of_getElem? ha)) (fun e he => List.mem_append_right _ he) ho fun s1 ho1 => ?_
  have hcb1 := ho1.head
  cases hp : p a with
  | true =>
    rw [hp, if_pos rfl] at hsucc
    simp -implicitDefEqProofs only [go_sem, ↓aj, ↓ah, ak, Nat.reduceBEq, ↓reduceIte, reduceCtorEq, Nat.reduceEqDiff, Nat.reduceAdd, Nat.reduceLeDiff, Int.reduceEq, Int.reduceLT, Int.reduceLE, Int.reduceAdd, Int.reduceToNat, Int.reduceNeg, Nat.reduceMul, Nat.reduceSub, Int.reduceBNe, Int.reduceBEq, h0, h1, h5, h6, w1]
    refine ⟨l.length - (j + 1), by omega, j + 1, D', rfl, hjl', by rw [hsucc], rfl, hDl', by rw [hsucc]; omega, fun t ht => ?_, fun t h1 h2 => hhigh t (by omega) h2, ho1⟩
    rw [hsucc] at ht ⊢
    exact hlow t ht
  | false =>
    rw [hp, if_neg (by decide)] at hsucc
    generalize hkp : jc p l j = kp at *
    have hst : setL D' kp.length [Value.int .i64 a] = D'.set kp.length (.int .i64 a) := rfl
    have lk : (((kp.length : Nat) : Int) < (l.length : Int)) = True := eq_true (by omega)
    have lz : ((0 : Int) ≤ ((kp.length : Nat) : Int)) = True := eq_true (by omega)
    have hkd : (kp.length < D'.length) = True := eq_true (by omega)
    have hkd1 : (kp.length + 1 ≤ D'.length) = True := eq_true (by omega)
    have ho2 := ho1.set rfl (.cells (D'.set kp.length (Value.int .i64 a)) 3 true) rfl
    simp -implicitDefEqProofs only [go_sem, ↓aj, ↓ah, ak, Nat.reduceBEq, ↓reduceIte, reduceCtorEq, Nat.reduceEqDiff, Nat.reduceAdd, Nat.reduceLeDiff, Int.reduceEq, Int.reduceLT, Int.reduceLE, Int.reduceAdd, Int.reduceToNat, Int.reduceNeg, Nat.reduceMul, Nat.reduceSub, Int.reduceBNe, Int.reduceBEq, h0, h1, h5, h6, w1, w2, lk, lz, hkd, hkd1, hcb1, and_self, true_and, Int.toNat_natCast, Nat.zero_add, Nat.mul_one, bK, asz3, Tryz.underlying47, Tryz.underlying3]
    have hE1 : D'.set kp.length (Value.int .i64 a) = D'.take kp.length ++ [Value.int .i64 a] ++ D'.drop (kp.length + 1) := dx [Value.int .i64 a] D' kp.length (by simp; omega)
    have hEl : (D'.set kp.length (Value.int .i64 a)).length = l.length := by rw [List.length_set]; exact hDl'
    generalize D'.set kp.length (Value.int .i64 a) = E at *
    have hsl : (jc p l (j + 1)).length = kp.length + 1 := by rw [hsucc, List.length_append]; rfl
    refine ⟨l.length - (j + 1), by omega, j + 1, E, rfl, hjl', by rw [hsl], rfl, hEl, by rw [hsl]; omega, fun t ht => ?_, fun t ht1 ht2 => ?_, ho2⟩
    · rw [hsl] at ht
      rw [hsucc, hE1, List.append_assoc]
      by_cases htk : t < kp.length
      · rw [List.getElem?_append_left (by rw [List.length_take]; omega), List.getElem?_take, if_pos htk, hlow t htk]
        unfold eO
        rw [List.map_append, List.getElem?_append_left (by rw [List.length_map]; exact htk)]
      · obtain rfl : t = kp.length := by omega
        have e1 : (D'.take kp.length).length = kp.length := by rw [List.length_take]; omega
        rw [List.getElem?_append_right (by omega), e1, Nat.sub_self]
        simp [eO]
    · rw [hE1, List.getElem?_append_right (by simp; omega), List.getElem?_drop]
      rw [← hhigh t (by omega) ht2]
      congr 1
      simp only [List.length_append, List.length_take, List.length_cons, List.length_nil]
      omega
end Go.Proofs.YtigjbehgfjjlkaaGreatDoor
set_option linter.unusedVariables false
set_option linter.unusedSimpArgs false
namespace Go.Proofs.YtigjbehgfjjlkaaGreatDoor
open Go Go.Abs Go.RowKit Go.Xml
variable {base : Nat} {w0 : World} {G : Nat}
def outX (ns : List Nx) (sp lo : Tx) (k : Int) : Bool := !(match nodeAt ns k with | some m => gX m sp lo | none => false)
theorem FM (ns : List Nx) (n : Nx) (sp lo : Tx) : n.kids.filter (fun a => !outX ns sp lo a) = Fq ns n sp lo := by
  unfold Fq outX
  congr 1
  funext a
  rw [Bool.not_not]
  cases nodeAt ns a <;> rfl
set_option maxRecDepth 10000 in
theorem BU (st : St) (X : Hp) (b1 b2 b3 j : Nat) (v : Value) (ns : List Nx) (n : Nx) (sp lo : Tx) (hD : DocX X v ns) (hn : ns[j]? = some n) (h1 : (b1, Ob.cells [v] 24 true) ∈ X) (h2 : (b2, Ob.cells [.string (tx sp)] 9 true) ∈ X) (h3 : (b3, Ob.cells [.string (tx lo)] 9 true) ∈ X) (hO : Own st X) (k q : Value → St → Prop)
    (hk : ∀ st', Own st' X → k (.bool (outX ns sp lo (j : Nat))) st') : aA (C base w0 G) 46 [.int .i64 (j : Nat), .pointer (some ⟨b1, 0, none⟩), .pointer (some ⟨b2, 0, none⟩), .pointer (some ⟨b3, 0, none⟩)] st k q := by
  obtain ⟨x, o, sp', c, ccs, ty, own, kv, av, dv, hvx, hmem, hcut, hget, hnr⟩ := hD.at hn
  subst hvx
  have hjl := (List.getElem?_eq_some_iff.1 hn).1
  have hc1 := hO.get h1
  have hc2 := hO.get h2
  have hc3 := hO.get h3
  have hcx := hO.get hmem
  have hlj : ((j : Int) < (ns.length : Int)) = True := eq_true (by omega)
  have hge : ((0 : Int) ≤ (j : Int)) = True := eq_true (by omega)
  have hout : outX ns sp lo (j : Nat) = !gX n sp lo := by unfold outX; rw [bO, hn]
  rw [hout] at hk
  refine aA.of (cx := C base w0 G) mixed Tryz.func46 rfl (by kernel_rfl) (by simp [Tryz.ntmps46]) ?_
  simp only [Tryz.results46]
  simp -implicitDefEqProofs only [go_sem, ↓aj, ↓ah, ak, Nat.reduceBEq, ↓reduceIte, reduceCtorEq, Nat.reduceEqDiff, Nat.reduceAdd, Nat.reduceLeDiff, Int.reduceEq, Int.reduceLT, Int.reduceLE, Int.reduceAdd, Int.reduceToNat, Int.reduceNeg, Nat.reduceMul, Nat.reduceSub, Int.reduceBNe, Int.reduceBEq]
  refine bG.of [(0, false, []), (1, false, []), (2, false, []), (3, false, []), (4, false, []), (5, false, []), (6, false, []), (7, false, []), (8, false, []), (9, false, [])] [] [] (by kernel_rfl) ?_
  simp -implicitDefEqProofs only [go_sem, ↓aj, ↓ah, ak, Nat.reduceBEq, ↓reduceIte, reduceCtorEq, Nat.reduceEqDiff, Nat.reduceAdd, Nat.reduceLeDiff, Int.reduceEq, Int.reduceLT, Int.reduceLE, Int.reduceAdd, Int.reduceToNat, Int.reduceNeg, Nat.reduceMul, Nat.reduceSub, Int.reduceBNe, Int.reduceBEq, hc1, hc2, hc3, hcx, hcut, hlj, hge, and_self, true_and, decide_true, Int.toNat_natCast, aQ, asz9, aU, aC, Tryz.underlying22, Tryz.underlying55, Tryz.underlying9, List.getElem?_cons_zero, Option.map_some]
  refine ay.enter Tryz.func47 rfl (by kernel_rfl) (Ea _ _ n kv av dv sp lo hnr hO _ _ fun s1 ho1 => ?_)
  simp -implicitDefEqProofs only [go_sem, ↓aj, ↓ah, ak, Nat.reduceBEq, ↓reduceIte, reduceCtorEq, Nat.reduceEqDiff, Nat.reduceAdd, Nat.reduceLeDiff, Int.reduceEq, Int.reduceLT, Int.reduceLE, Int.reduceAdd, Int.reduceToNat, Int.reduceNeg, Nat.reduceMul, Nat.reduceSub, Int.reduceBNe, Int.reduceBEq]
  exact hk _ ho1
def lC (ns : List Nx) (i : Int) (sp lo : Tx) : List Int := if bg ns i && aH ns then (match nodeAt ns i with | some n => Fq ns n sp lo | none => []) else []
set_option maxRecDepth 10000 in
theorem vQ (st : St) (r : Hp) (v : Value) (ns : List Nx) (i : Int) (sp lo : Tx) (hD : DocX r v ns) (hb : BndX ns) (hO : Own st r) (k q : Value → St → Prop)
    (hk : ∀ v' h' st', Rws h' v' 1 (aV (lC ns i sp lo)) → Own st' (h' ++ r) → k v' st') : aA (C base w0 G) 22 [.agg #[v], .int .i64 i, .string (tx sp), .string (tx lo)] st k q := by
  obtain ⟨va, vc, hva⟩ := hD.isSlice
  subst hva
  refine aA.of (cx := C base w0 G) mixed Tryz.func22 rfl (by kernel_rfl) (by simp [Tryz.ntmps22]) ?_
  simp only [Tryz.results22]
  have ho1 := ((hO.new (.cells [.slice va ns.length vc] 24 true)).new (.cells [.string (tx sp)] 9 true)).new (.cells [.string (tx lo)] 9 true)
  rw [rZ, rZ] at ho1
  have hD1 := hD.sub (H' := (st.n + 1 + 1, Ob.cells [.string (tx lo)] 9 true) :: (st.n + 1, Ob.cells [.string (tx sp)] 9 true) :: (st.n, Ob.cells [.slice va ns.length vc] 24 true) :: r) fun e he => List.mem_cons_of_mem _ (List.mem_cons_of_mem _ (List.mem_cons_of_mem _ he))
  have hcl : cut [Value.slice va ns.length vc] 0 1 = some [Value.slice va ns.length vc] := rfl
  rw [aj]
  simp -implicitDefEqProofs only [go_sem, Nat.reduceBEq, ↓reduceIte, reduceCtorEq, Nat.reduceEqDiff, Nat.reduceAdd, Nat.reduceLeDiff, Int.reduceEq, Int.reduceLT, Int.reduceLE, Int.reduceAdd, Int.reduceToNat, Int.reduceNeg, Nat.reduceMul, Nat.reduceSub, Int.reduceBNe, Int.reduceBEq, abox]
  generalize hS1 : (St.new (St.new (St.new st _) _) _) = S1 at *
  generalize hb3 : st.n + 1 + 1 = b3 at *
  generalize hb2 : st.n + 1 = b2 at *
  generalize hb1 : st.n = b1 at *
  have hc1 := ho1.tail.tail.head
  simp -implicitDefEqProofs only [go_sem, ↓aj, ↓ah, ak, Nat.reduceBEq, ↓reduceIte, reduceCtorEq, Nat.reduceEqDiff, Nat.reduceAdd, Nat.reduceLeDiff, Int.reduceEq, Int.reduceLT, Int.reduceLE, Int.reduceAdd, Int.reduceToNat, Int.reduceNeg, Nat.reduceMul, Nat.reduceSub, Int.reduceBNe, Int.reduceBEq, hc1, hcl, bW, Tryz.underlying24, Option.map_some]
  refine ay.enter Tryz.func42 rfl (by kernel_rfl) (q8 _ _ _ ns i hD1 hb ho1 _ _ fun s1 ho => ?_)
  clear hc1 ho1
  have hc1 := ho.tail.tail.head
  cases hat : bg ns i && aH ns with
  | false =>
    have hkr : lC ns i sp lo = [] := by unfold lC; rw [hat]; rfl
    rw [hkr] at hk
    simp -implicitDefEqProofs only [go_sem, ↓aj, ↓ah, ak, Nat.reduceBEq, ↓reduceIte, reduceCtorEq, Nat.reduceEqDiff, Nat.reduceAdd, Nat.reduceLeDiff, Int.reduceEq, Int.reduceLT, Int.reduceLE, Int.reduceAdd, Int.reduceToNat, Int.reduceNeg, Nat.reduceMul, Nat.reduceSub, Int.reduceBNe, Int.reduceBEq]
    exact hk _ [] _ (.inl ⟨rfl, .inl rfl⟩) ho.tail.tail.tail
  | true =>
  obtain ⟨j, n, rfl, hn, _⟩ := oK ((Bool.and_eq_true _ _).mp hat).1
  have hR := RtX.of ((Bool.and_eq_true _ _).mp hat).2
  have hkr : lC ns (j : Int) sp lo = n.kids.filter fun a => !outX ns sp lo a := by unfold lC; rw [hat, if_pos rfl, bO, hn, FM]
  rw [hkr] at hk
  obtain ⟨x, o, sp', c, ccs, ty, own, kv, av, dv, hvx, hmem, hcut, hget, hnr⟩ := hD.at hn
  injection hvx with hvx _ hvc
  subst hvx hvc
  have hjl := (List.getElem?_eq_some_iff.1 hn).1
  have hcx := ho.get (List.mem_cons_of_mem _ (List.mem_cons_of_mem _ (List.mem_cons_of_mem _ hmem)))
  have q2 := hget 2 (by decide)
  change ccs[o + j * 9 + 2]? = some kv at q2
  have hlj : ((j : Int) < (ns.length : Int)) = True := eq_true (by omega)
  have hge : ((0 : Int) ≤ (j : Int)) = True := eq_true (by omega)
  obtain ⟨ka, kc, hkv1, _⟩ := hnr.kid.isSlice
  have hKR : Rws r kv 1 (aV n.kids) := hnr.kid
  subst hkv1
  have hbk := (hb.2 n (List.mem_of_getElem? hn)).2.2
  simp -implicitDefEqProofs only [go_sem, ↓aj, ↓ah, ak, Nat.reduceBEq, ↓reduceIte, reduceCtorEq, Nat.reduceEqDiff, Nat.reduceAdd, Nat.reduceLeDiff, Int.reduceEq, Int.reduceLT, Int.reduceLE, Int.reduceAdd, Int.reduceToNat, Int.reduceNeg, Nat.reduceMul, Nat.reduceSub, Int.reduceBNe, Int.reduceBEq, hc1, hcx, q2, hlj, hge, and_self, true_and, decide_true, Int.toNat_natCast, aQ, dR, aU, aC, bK, Tryz.underlying22, Tryz.underlying55, Tryz.underlying47, List.getElem?_cons_zero]
  refine ay.enter Tryz.func45 rfl (by kernel_rfl) (BR _ _ _ n.kids (hKR.sub fun e he => List.mem_cons_of_mem _ (List.mem_cons_of_mem _ (List.mem_cons_of_mem _ he))) hbk ho _ _ fun v' h' s2 hG hG2 ho2 => ?_)
  simp -implicitDefEqProofs only [go_sem, ↓aj, ↓ah, ak, Nat.reduceBEq, ↓reduceIte, reduceCtorEq, Nat.reduceEqDiff, Nat.reduceAdd, Nat.reduceLeDiff, Int.reduceEq, Int.reduceLT, Int.reduceLE, Int.reduceAdd, Int.reduceToNat, Int.reduceNeg, Nat.reduceMul, Nat.reduceSub, Int.reduceBNe, Int.reduceBEq, List.map_toArray]
  have hP : iP (C base w0 G) 46 [.pointer (some ⟨b1, 0, none⟩), .pointer (some ⟨b2, 0, none⟩), .pointer (some ⟨b3, 0, none⟩)] ((b3, Ob.cells [.string (tx lo)] 9 true) :: (b2, Ob.cells [.string (tx sp)] 9 true) :: (b1, Ob.cells [.slice (some ⟨x, o, sp'⟩) ns.length vc] 24 true) :: r) (fun a : Int => .int .i64 a) (fun a => ∃ (t : Nat) (m : Nx), a = t ∧ ns[t]? = some m) (outX ns sp lo) := fun a st X k q hok hX hOX hkX => by
    obtain ⟨t, m, rfl, hm⟩ := hok
    exact ay.enter Tryz.func46 rfl (by kernel_rfl) (BU st X b1 b2 b3 t _ ns m sp lo (hD1.sub hX) hm (hX _ (by simp)) (hX _ (by simp)) (hX _ (by simp)) hOX _ _ hkX)
  have hoks : ∀ a ∈ n.kids, ∃ (t : Nat) (m : Nx), a = t ∧ ns[t]? = some m := fun a ha => by
    obtain ⟨t, m, h1, _, _, h2, _⟩ := hR.tQ hn ha
    exact ⟨t, m, h1, h2⟩
  refine ay.enter Tryz.func44 rfl (by kernel_rfl) (zV _ _ h' v' n.kids 46 _ _ _ hP hG hG2 hoks hbk ho2 _ _ fun v2 h2 s3 hR3 ho3 => ?_)
  simp -implicitDefEqProofs only [go_sem, ↓aj, ↓ah, ak, Nat.reduceBEq, ↓reduceIte, reduceCtorEq, Nat.reduceEqDiff, Nat.reduceAdd, Nat.reduceLeDiff, Int.reduceEq, Int.reduceLT, Int.reduceLE, Int.reduceAdd, Int.reduceToNat, Int.reduceNeg, Nat.reduceMul, Nat.reduceSub, Int.reduceBNe, Int.reduceBEq]
  exact hk v2 h2 s3 hR3 (ho3.sub (List.Sublist.append_left ((((List.Sublist.refl r).cons _).cons _).cons _) h2))
set_option maxRecDepth 10000 in
theorem FN (st : St) (r : Hp) (v : Value) (ns : List Nx) (i : Int) (sp lo : Tx) (hD : DocX r v ns) (hb : BndX ns) (hO : Own st r) (k q : Value → St → Prop)
    (hk : ∀ st', Own st' r → k (if bg ns i && aH ns then oJ (lC ns i sp lo) else .tuple #[.int .i64 0, .int .i64 2]) st') : aA (C base w0 G) 23 [.agg #[v], .int .i64 i, .string (tx sp), .string (tx lo)] st k q := by
  obtain ⟨va, vc, hva⟩ := hD.isSlice
  subst hva
  refine aA.of (cx := C base w0 G) mixed Tryz.func23 rfl (by kernel_rfl) (by simp [Tryz.ntmps23]) ?_
  simp only [Tryz.results23]
  have ho1 := hO.new (.cells [.slice va ns.length vc] 24 true)
  have hD1 := hD.sub (H' := (st.n, Ob.cells [.slice va ns.length vc] 24 true) :: r) fun e he => List.mem_cons_of_mem _ he
  have hcl : cut [Value.slice va ns.length vc] 0 1 = some [Value.slice va ns.length vc] := rfl
  simp -implicitDefEqProofs only [go_sem, ↓aj, ↓ah, ak, Nat.reduceBEq, ↓reduceIte, reduceCtorEq, Nat.reduceEqDiff, Nat.reduceAdd, Nat.reduceLeDiff, Int.reduceEq, Int.reduceLT, Int.reduceLE, Int.reduceAdd, Int.reduceToNat, Int.reduceNeg, Nat.reduceMul, Nat.reduceSub, Int.reduceBNe, Int.reduceBEq, abox, hcl, bW, Tryz.underlying24, Option.map_some]
  refine ay.enter Tryz.func42 rfl (by kernel_rfl) (q8 _ _ _ ns i hD1 hb ho1 _ _ fun s1 ho => ?_)
  have hc1 := ho.head
  generalize hb1 : st.n = b1 at *
  cases hat : bg ns i && aH ns with
  | false =>
    rw [hat, if_neg (by decide)] at hk
    simp -implicitDefEqProofs only [go_sem, ↓aj, ↓ah, ak, Nat.reduceBEq, ↓reduceIte, reduceCtorEq, Nat.reduceEqDiff, Nat.reduceAdd, Nat.reduceLeDiff, Int.reduceEq, Int.reduceLT, Int.reduceLE, Int.reduceAdd, Int.reduceToNat, Int.reduceNeg, Nat.reduceMul, Nat.reduceSub, Int.reduceBNe, Int.reduceBEq]
    exact hk _ ho.tail
  | true =>
  rw [hat, if_pos rfl] at hk
  simp -implicitDefEqProofs only [go_sem, ↓aj, ↓ah, ak, Nat.reduceBEq, ↓reduceIte, reduceCtorEq, Nat.reduceEqDiff, Nat.reduceAdd, Nat.reduceLeDiff, Int.reduceEq, Int.reduceLT, Int.reduceLE, Int.reduceAdd, Int.reduceToNat, Int.reduceNeg, Nat.reduceMul, Nat.reduceSub, Int.reduceBNe, Int.reduceBEq, hc1, hcl, bW, Tryz.underlying24, Option.map_some]
  refine ay.enter Tryz.func22 rfl (by kernel_rfl) (vQ _ _ _ ns i sp lo hD1 hb ho _ _ fun v' h' s2 hR ho2 => ?_)
  have ho3 := ho2.right.tail
  obtain ⟨a', c', hv', _⟩ := hR.isSlice
  rw [aV, List.length_map] at hv'
  cases hh : lC ns i sp lo with
  | nil =>
    rw [hh] at hk hv'
    subst hv'
    simp -implicitDefEqProofs only [go_sem, ↓aj, ↓ah, ak, Nat.reduceBEq, ↓reduceIte, reduceCtorEq, Nat.reduceEqDiff, Nat.reduceAdd, Nat.reduceLeDiff, Int.reduceEq, Int.reduceLT, Int.reduceLE, Int.reduceAdd, Int.reduceToNat, Int.reduceNeg, Nat.reduceMul, Nat.reduceSub, Int.reduceBNe, Int.reduceBEq, List.length_nil, Tryz.underlying47]
    exact hk _ ho3
  | cons z zs =>
    cases zs with
    | nil =>
      rw [hh] at hk hv' hR
      obtain ⟨x, o, sp', c, ccs, ty, own, hvx, hmem, hcut⟩ := hR.mem (i := 0) (l := [.int .i64 z]) rfl
      rw [aV, List.length_map] at hvx
      subst hvx
      have hcx := ho2.get (List.mem_append_left _ hmem)
      have q0 := bq hcut (show 0 < 1 by decide)
      simp only [Nat.zero_mul, Nat.add_zero, List.getElem?_cons_zero] at q0
      simp -implicitDefEqProofs only [go_sem, ↓aj, ↓ah, ak, Nat.reduceBEq, ↓reduceIte, reduceCtorEq, Nat.reduceEqDiff, Nat.reduceAdd, Nat.reduceLeDiff, Int.reduceEq, Int.reduceLT, Int.reduceLE, Int.reduceAdd, Int.reduceToNat, Int.reduceNeg, Nat.reduceMul, Nat.reduceSub, Int.reduceBNe, Int.reduceBEq, hcx, q0, List.length_cons, List.length_nil, Nat.add_zero, bK, asz3, Tryz.underlying47, Tryz.underlying3]
      exact hk _ ho3
    | cons z' zs =>
      have n0 : (((zs.length + 2 : Nat) : Int) == 0) = false := beq_eq_false_iff_ne.2 (by omega)
      have n1 : (((zs.length + 2 : Nat) : Int) == 1) = false := beq_eq_false_iff_ne.2 (by omega)
      rw [hh] at hk hv'
      have e1 : (z :: z' :: zs).length = zs.length + 2 := rfl
      rw [e1] at hv'
      subst hv'
      simp -implicitDefEqProofs only [go_sem, ↓aj, ↓ah, ak, Nat.reduceBEq, ↓reduceIte, reduceCtorEq, Nat.reduceEqDiff, Nat.reduceAdd, Nat.reduceLeDiff, Int.reduceEq, Int.reduceLT, Int.reduceLE, Int.reduceAdd, Int.reduceToNat, Int.reduceNeg, Nat.reduceMul, Nat.reduceSub, Int.reduceBNe, Int.reduceBEq, n0, n1, Tryz.underlying47]
      exact hk _ ho3
end Go.Proofs.YtigjbehgfjjlkaaGreatDoor
