/- The start of an element, plainly (plain Lean; no conditions). -/
import Derived.Test.YtigjbehgfjjlkaaGreatDoorXmGD
import Derived.Lib.TrimAscii
import Derived.Test.YtigjbehgfjjlkaaGreatDoorXmGE
import Derived.Lib.ReplaceLaws
import Derived.Lib.DecodeN
set_option linter.unusedVariables false
set_option linter.unusedSimpArgs false
namespace Go.Proofs.YtigjbehgfjjlkaaGreatDoor
open Go Go.Abs Go.RowKit Go.Xml
end Go.Proofs.YtigjbehgfjjlkaaGreatDoor
set_option linter.unusedVariables false
set_option linter.unusedSimpArgs false
namespace Go.Proofs.YtigjbehgfjjlkaaGreatDoor
open Go Go.Abs Go.RowKit Go.Xml
theorem Iw {w s t : Tx} (h : w.length ≤ s.length) : w.isPrefixOf (s ++ t) = w.isPrefixOf s := by
  rw [Bool.eq_iff_iff, List.isPrefixOf_iff_prefix, List.isPrefixOf_iff_prefix]
  exact ⟨fun hp => List.prefix_of_prefix_length_le hp (List.prefix_append s t) h, fun hp => hp.trans (List.prefix_append s t)⟩
end Go.Proofs.YtigjbehgfjjlkaaGreatDoor
set_option linter.unusedVariables false
set_option linter.unusedSimpArgs false
namespace Go.Proofs.YtigjbehgfjjlkaaGreatDoor
open Go Go.Abs Go.RowKit Go.Xml
end Go.Proofs.YtigjbehgfjjlkaaGreatDoor
set_option linter.unusedVariables false
set_option linter.unusedSimpArgs false
namespace Go.Proofs.YtigjbehgfjjlkaaGreatDoor
open Go Go.Abs Go.RowKit Go.Xml
inductive Steps : RS → RS → Prop
  | refl (r : RS) : Steps r r
  | step {r r1 r2 : RS} (hs : r.s ≠ []) (h : aX r = .ok r1) (t : Steps r1 r2) : Steps r r2
theorem Steps.trans {a b c : RS} (h : Steps a b) (h2 : Steps b c) : Steps a c := by
  induction h with
  | refl => exact h2
  | step hs h _ ih => exact .step hs h (ih h2)
theorem uY : ∀ (f : Nat) {r r' : RS}, allR f r = .ok r' → r'.s = [] ∧ Steps r r'
  | 0, r, r', h => by
    unfold allR at h
    split at h
    · rename_i hs
      injection h with h; subst h
      exact ⟨hs, .refl _⟩
    · cases h
  | f + 1, r, r', h => by
    unfold allR at h
    split at h
    · rename_i hs
      injection h with h; subst h
      exact ⟨hs, .refl _⟩
    · rename_i hs
      cases hx : aX r with
      | error e => rw [hx] at h; cases h
      | ok r1 =>
        rw [hx] at h
        obtain ⟨h1, h2⟩ := uY f h
        exact ⟨h1, .step hs hx h2⟩
theorem Steps.run {r r' : RS} (h : Steps r r') : ∀ (f : Nat), RI r → r.s.length ≤ f → ∃ f', r'.s.length ≤ f' ∧ allR f r = allR f' r' ∧ RI r' := by
  induction h with
  | refl r => exact fun f hI hf => ⟨f, hf, rfl, hI⟩
  | @step r r1 r2 hs h _ ih =>
    intro f hI hf
    obtain ⟨hI1, hl⟩ := Bg hI hs h
    obtain ⟨f0, rfl⟩ : ∃ f0, f = f0 + 1 := ⟨f - 1, by have := List.length_pos_iff.2 hs; omega⟩
    obtain ⟨f', h1, h2, h3⟩ := ih f0 hI1 (by omega)
    refine ⟨f', h1, ?_, h3⟩
    rw [← h2]
    show (if r.s = [] then (Except.ok r : Ex RS) else _) = _
    rw [if_neg hs, h]
theorem F9 {f : Nat} {r : RS} (h : r.s = []) : allR f r = .ok r := by
  cases f <;> (unfold allR; rw [if_pos h])
theorem Steps.end {r r' : RS} (h : Steps r r') (hI : RI r) (he : r'.s = []) {f : Nat} (hf : r.s.length ≤ f) : allR f r = .ok r' := by
  obtain ⟨f', h1, h2, _⟩ := h.run f hI hf
  rw [h2, F9 he]
def shN (a : Nat) (n : Nd) : Nd := { n with par := if n.par < 0 then 0 else n.par + a, kids := n.kids.map (· + a) }
def shK (a : Nat) (l : List (Nat × Tx)) : List (Nat × Tx) := l.map fun x => (x.1 + a, x.2)
structure Zed (k : Nat) (P : List Nd) : Prop where
  head : ∃ n0 rest, P = n0 :: rest ∧ n0.dcls = []
  kinds : ∀ (i : Nat) (n : Nd), k ≤ i → P[i]? = some n → n.kind ≠ 1
  len : k ≤ P.length
theorem jJ (P L : List Nd) (i : Nat) (f : Nd → Nd) : (P ++ L).modify (i + P.length) f = P ++ L.modify i f := by
  induction P with
  | nil => simp
  | cons p P ih =>
    rw [List.cons_append, List.length_cons, ← Nat.add_assoc, List.modify_succ_cons, ih]
    rfl
theorem kg (a : Nat) (f g : Nd → Nd) (h : ∀ n, g (shN a n) = shN a (f n)) : ∀ (L : List Nd) (i : Nat), (L.map (shN a)).modify i g = (L.modify i f).map (shN a)
  | [], i => by simp
  | n :: L, 0 => by simp [h]
  | n :: L, i + 1 => by
    rw [List.map_cons, List.modify_succ_cons, List.modify_succ_cons, List.map_cons, kg a f g h L i]
theorem Iy (P L : List Nd) (p c : Nat) : aB (P ++ L.map (shN P.length)) (p + P.length) (c + P.length) = P ++ (aB L p c).map (shN P.length) := by
  unfold aB
  rw [jJ, kg P.length (fun n => { n with kids := n.kids ++ [c] })]
  intro n
  simp [shN]
theorem Bp (n0 : Nd) (P X : List Nd) (c : Nat) : aB (n0 :: P ++ X) 0 c = aB (n0 :: P) 0 c ++ X := by
  simp [aB]
theorem Dz (P L : List Nd) (i : Nat) : (P ++ L.map (shN P.length))[i + P.length]? = (L[i]?).map (shN P.length) := by
  rw [List.getElem?_append_right (by omega), Nat.add_sub_cancel, List.getElem?_map]
theorem Bq (a : Nat) (x : Nat × Tx) (l : List (Nat × Tx)) (h : l ≠ []) : (x :: shK a l).getLast? = (l.getLast?).map fun x => (x.1 + a, x.2) := by
  unfold shK
  rw [List.getLast?_cons, List.getLast?_map]
  cases hl : l.getLast? with
  | none => exact absurd (List.getLast?_eq_none_iff.1 hl) h
  | some y => rfl
structure In2 (k : Nat) (zn : Tx) (P : List Nd) (r r2 : RS) : Prop where
  s : r2.s = r.s
  done2 : r2.done = true
  zed : Zed k P
  stk0 : r.stk ≠ []
  done : r.done = true
  stk : r2.stk = (0, zn) :: shK P.length r.stk
  ns : r2.ns = P ++ r.ns.map (shN P.length)
  kid : ∃ n0, P[0]? = some n0 ∧ n0.kids.getLast? = some P.length
  root : ∃ n, r.ns[0]? = some n ∧ n.kind = 1
theorem In2.less {k : Nat} {zn : Tx} {P : List Nd} {r r2 : RS} (h : In2 k zn P r r2) (x : Tx) : In2 k zn P { r with s := x } { r2 with s := x } := ⟨rfl, h.done2, h.zed, h.stk0, h.done, h.stk, h.ns, h.kid, h.root⟩
theorem In2.last {k : Nat} {zn : Tx} {P : List Nd} {r r2 : RS} (h : In2 k zn P r r2) : r2.stk.getLast? = (r.stk.getLast?).map fun x => (x.1 + P.length, x.2) := by rw [h.stk, Bq _ _ _ h.stk0]
theorem In2.space {k : Nat} {zn : Tx} {P : List Nd} {r r2 : RS} (h : In2 k zn P r r2) (p : Tx) (ds : List Dcl) : aM r2 p ds = aM r p ds := by
  have ho : ∀ l : List (Nat × Tx), outer r2.ns p (shK P.length l ++ [(0, zn)]) = outer r.ns p l := by
    intro l
    induction l with
    | nil =>
      obtain ⟨n0, rest, hP, hd⟩ := h.zed.head
      show (match findD p ((r2.ns[0]?.map (·.dcls)).getD []) with | some u => some u | none => none) = none
      rw [h.ns, hP]
      show (match findD p n0.dcls with | some u => some u | none => none) = none
      rw [hd]
      rfl
    | cons x l ih =>
      obtain ⟨a, nm⟩ := x
      show (match findD p ((r2.ns[a + P.length]?.map (·.dcls)).getD []) with | some u => some u | none => outer r2.ns p (shK P.length l ++ [(0, zn)])) = (match findD p ((r.ns[a]?.map (·.dcls)).getD []) with | some u => some u | none => outer r.ns p l)
      rw [ih, h.ns, Dz]
      cases r.ns[a]? <;> rfl
  have hr : r2.stk.reverse = shK P.length r.stk.reverse ++ [(0, zn)] := by
    rw [h.stk, List.reverse_cons]
    unfold shK
    rw [List.map_reverse]
  unfold aM
  rw [hr, ho]
theorem uZ {r r2 : RS} (h : ∀ p ds, aM r2 p ds = aM r p ds) (ds : List Dcl) : ∀ (l acc : List Att), fO r2 ds acc l = fO r ds acc l
  | [], acc => rfl
  | a :: l, acc => by
    unfold fO
    rw [h, uZ h ds l, uZ h ds l]
theorem oh {r r2 : RS} (h : ∀ p ds, aM r2 p ds = aM r p ds) (n : Nd) : bH r2 n = bH r n := by
  unfold bH
  rw [h, uZ h]
theorem DC {ns : List Nd} {p c : Nat} {m : Nd} (h : ∃ n, ns[0]? = some n ∧ n.kind = 1) : ∃ n, (aB ns p c ++ [m])[0]? = some n ∧ n.kind = 1 := by
  obtain ⟨n, h1, h2⟩ := h
  obtain ⟨n', g1, g2, _, _⟩ := Ext.aB ns p c m 0 n h1
  exact ⟨n', g1, by rw [g2]; exact h2⟩
theorem In2.add {k : Nat} {zn : Tx} {P : List Nd} {r r2 r' : RS} {n : Nd} {i : Nat} (h : In2 k zn P r r2) (hn : n.kids = []) (ha : addF n r = .ok (i, r')) :
    addF n r2 = .error 33 ∨ ∃ r2', addF n r2 = .ok (i + P.length, r2') ∧ In2 k zn P r' r2' := by
  obtain ⟨p, nm, hl⟩ := dY h.stk0
  obtain ⟨rfl, rfl⟩ := ny hl ha
  have hl2 : r2.stk.getLast? = some (p + P.length, nm) := by rw [h.last, hl]; rfl
  have hlen : r2.ns.length = r.ns.length + P.length := by rw [h.ns, List.length_append, List.length_map]; omega
  unfold addF
  rw [hl2]
  by_cases h4 : r2.ns.length = 4096
  · left; rw [if_pos h4]
  · right
    rw [if_neg h4]
    refine ⟨{ r2 with ns := aB r2.ns (p + P.length) r2.ns.length ++ [{ n with par := ((p + P.length : Nat) : Int) }] }, by rw [hlen], ⟨h.s, h.done2, h.zed, h.stk0, h.done, h.stk, ?_, h.kid, DC h.root⟩⟩
    show aB r2.ns (p + P.length) r2.ns.length ++ [{ n with par := ((p + P.length : Nat) : Int) }] = P ++ (aB r.ns p r.ns.length ++ [{ n with par := ((p : Nat) : Int) }]).map (shN P.length)
    rw [hlen, h.ns, Iy, List.map_append, List.append_assoc]
    congr 3
    simp only [List.map_cons, List.map_nil, shN, hn]
    rw [if_neg (by omega)]
    simp
theorem Br (P L : List Nd) (p : Nat) : aR (P ++ L.map (shN P.length)) (p + P.length) = (aR L p).map (· + P.length) := by
  unfold aR
  rw [Dz]
  cases hp : L[p]? with
  | none => rfl
  | some n =>
    show (match (n.kids.map (· + P.length)).getLast? with | some c => _ | none => _) = _
    rw [List.getLast?_map]
    show _ = Option.map _ (match n.kids.getLast? with | some c => _ | none => _)
    cases hc : n.kids.getLast? with
    | none => rfl
    | some c =>
      show (if ((P ++ L.map (shN P.length))[c + P.length]?.map (·.kind)) = some 2 then some (c + P.length) else none) = Option.map _ (if (L[c]?.map (·.kind)) = some 2 then some c else none)
      rw [Dz]
      have e : ((L[c]?.map (shN P.length)).map (·.kind)) = L[c]?.map (·.kind) := by cases L[c]? <;> rfl
      rw [e]
      split <;> rfl
theorem In2.text {k : Nat} {zn : Tx} {P : List Nd} {r r2 r' : RS} {t : Tx} (h : In2 k zn P r r2) (ha : aW t r = .ok r') : aW t r2 = .error 33 ∨ ∃ r2', aW t r2 = .ok r2' ∧ In2 k zn P r' r2' := by
  obtain ⟨p, nm, hl⟩ := dY h.stk0
  have hl2 : r2.stk.getLast? = some (p + P.length, nm) := by rw [h.last, hl]; rfl
  unfold aW at ha ⊢
  split at ha
  · rename_i h0
    injection ha with ha; subst ha
    right
    rw [if_pos h0]
    exact ⟨_, rfl, h⟩
  rename_i h0
  rw [if_neg h0, hl2]
  rw [hl] at ha
  dsimp only at ha ⊢
  rw [h.ns, Br]
  cases hx : aR r.ns p with
  | some c =>
    rw [hx] at ha
    injection ha with ha; subst ha
    right
    refine ⟨_, rfl, ⟨h.s, h.done2, h.zed, h.stk0, h.done, h.stk, ?_, h.kid, ?_⟩⟩
    · show ((P ++ r.ns.map (shN P.length)).modify (c + P.length) fun n => { n with val := n.val ++ t }) = P ++ (r.ns.modify c fun n => { n with val := n.val ++ t }).map (shN P.length)
      rw [jJ, kg P.length (fun n => { n with val := n.val ++ t })]
      intro n; rfl
    · obtain ⟨n, h1, h2⟩ := h.root
      show ∃ m, (r.ns.modify c fun n => { n with val := n.val ++ t })[0]? = some m ∧ m.kind = 1
      rw [List.getElem?_modify, h1]
      exact ⟨_, rfl, by dsimp only; split <;> exact h2⟩
  | none =>
    rw [hx] at ha
    cases hd : addF { nd0 with kind := 2, val := t } r with
    | error e => rw [hd] at ha; cases ha
    | ok y =>
      obtain ⟨i, r1⟩ := y
      rw [hd] at ha
      injection ha with ha; subst ha
      rcases h.add (by rfl) hd with h1 | ⟨r2', h1, h2⟩
      · left
        show (match addF { nd0 with kind := 2, val := t } r2 with | .ok (_, r') => (.ok r' : Ex RS) | .error e => .error e) = _
        rw [h1]
      · right
        refine ⟨r2', ?_, h2⟩
        show (match addF { nd0 with kind := 2, val := t } r2 with | .ok (_, r') => (.ok r' : Ex RS) | .error e => .error e) = _
        rw [h1]
end Go.Proofs.YtigjbehgfjjlkaaGreatDoor
set_option linter.unusedVariables false
set_option linter.unusedSimpArgs false
namespace Go.Proofs.YtigjbehgfjjlkaaGreatDoor
open Go Go.Abs Go.RowKit Go.Xml
def iV (x : Ex RS) : Prop := x = .error 32 ∨ x = .error 33
structure Out3 (k a : Nat) (zn : Tx) (r r2 : RS) : Prop where
  s : r2.s = r.s
  done2 : r2.done = true
  stk0 : r.stk = []
  done : r.done = true
  stk : r2.stk = [(0, zn)]
  ns : ∃ P T, Zed k P ∧ P.length = a ∧ r2.ns = P ++ (r.ns.map (shN a) ++ T) ∧ ∃ n0 c, P[0]? = some n0 ∧ n0.kids.getLast? = some c ∧ (c = a ∨ a + r.ns.length ≤ c)
  root : ∃ n, r.ns[0]? = some n ∧ n.kind = 1
structure In1 (k : Nat) (zn : Tx) (r r2 : RS) : Prop where
  s : r2.s = r.s
  done2 : r2.done = true
  stk0 : r.stk = []
  done : r.done = false
  ns : r.ns = []
  stk : r2.stk = [(0, zn)]
  zed : Zed k r2.ns
theorem ji {w s : Tx} (h : (hasF w s).1 = true) : s = w ++ (hasF w s).2 := by
  unfold hasF at h ⊢
  split at h
  · rename_i hp
    rw [if_pos hp]
    obtain ⟨t, rfl⟩ := List.isPrefixOf_iff_prefix.1 hp
    simp
  · cases h
theorem Ga {k : Nat} {zn : Tx} {P : List Nd} {r r2 : RS} (h : In2 k zn P r r2) : ∃ p nm, r.stk.getLast? = some (p, nm) ∧ r2.stk.getLast? = some (p + P.length, nm) := by
  obtain ⟨p, nm, hl⟩ := dY h.stk0
  exact ⟨p, nm, hl, by rw [h.last, hl]; rfl⟩
theorem In2.stk2 {k : Nat} {zn : Tx} {P : List Nd} {r r2 : RS} (h : In2 k zn P r r2) : r2.stk ≠ [] := by rw [h.stk]; simp
theorem In2.start {k : Nat} {zn : Tx} {P : List Nd} {r r2 r' : RS} (h : In2 k zn P r r2) (ha : bI r = .ok r') : iV (bI r2) ∨ ∃ r2', bI r2 = .ok r2' ∧ In2 k zn P r' r2' := by
  unfold bI at ha ⊢
  rw [if_neg (by simp [h.stk0])] at ha
  rw [if_neg (by simp [h.stk2]), h.s]
  cases hn : dF r.s with
  | error e => rw [hn] at ha; cases ha
  | ok x =>
    obtain ⟨nm, s1⟩ := x
    rw [hn] at ha
    dsimp only at ha ⊢
    cases hat : bC (s1.length + 1) [] (cZ nm) s1 with
    | error e => rw [hat] at ha; cases ha
    | ok y =>
      obtain ⟨nms, n, s2⟩ := y
      rw [hat] at ha
      dsimp only at ha ⊢
      split at ha
      · cases ha
      rename_i h1
      rw [if_neg h1]
      split at ha
      · cases ha
      rename_i h2
      rw [if_neg h2]
      split at ha
      · cases ha
      rename_i h3
      rw [if_neg h3, oh h.space]
      cases hs : bH r n with
      | error e => rw [hs] at ha; cases ha
      | ok n' =>
        rw [hs] at ha
        dsimp only at ha ⊢
        split at ha
        · cases ha
        rename_i h4
        have hl : r2.stk.length = r.stk.length + 1 := by rw [h.stk]; simp [shK]
        by_cases h5 : r2.stk.length = 32
        · left; rw [if_pos h5]; exact .inl rfl
        rw [if_neg h5]
        cases hd : addF n' { r with s := (hasF [62] (hasF [47] s2).2).2 } with
        | error e => rw [hd] at ha; cases ha
        | ok z =>
          obtain ⟨a, r1⟩ := z
          rw [hd] at ha
          dsimp only at ha
          injection ha with ha
          have hkids : n'.kids = [] := by
            obtain ⟨_, _, _, _, g⟩ := lJ hs
            obtain ⟨g4, _⟩ := g
            rw [g4]
            obtain ⟨_, _, _, g5⟩ := jS _ hat
            rw [g5]
            exact (mI hn).2.2
          rcases (h.less (hasF [62] (hasF [47] s2).2).2).add hkids hd with g | ⟨r2', g1, g2⟩
          · left; right
            rw [g]
          · right
            rw [g1]
            refine ⟨_, rfl, ?_⟩
            rw [← ha]
            refine ⟨g2.s, rfl, g2.zed, ?_, rfl, ?_, g2.ns, g2.kid, g2.root⟩
            · dsimp only
              split
              · exact g2.stk0
              · simp
            · dsimp only
              split
              · exact g2.stk
              · rw [g2.stk]
                simp [shK]
theorem In2.leaf {k : Nat} {zn : Tx} {P : List Nd} {r r2 r' : RS} {n : Nd} {x : Tx} (h : In2 k zn P r r2) (hn : n.kids = []) (ha : (if r.stk = [] then (.ok { r with s := x } : Ex RS) else match addF n { r with s := x } with | .error e => .error e | .ok (_, r') => .ok r') = .ok r') :
    iV (if r2.stk = [] then (.ok { r2 with s := x } : Ex RS) else match addF n { r2 with s := x } with | .error e => .error e | .ok (_, r') => .ok r') ∨ ∃ r2', (if r2.stk = [] then (.ok { r2 with s := x } : Ex RS) else match addF n { r2 with s := x } with | .error e => .error e | .ok (_, r') => .ok r') = .ok r2' ∧ In2 k zn P r' r2' := by
  rw [if_neg h.stk0] at ha
  rw [if_neg h.stk2]
  cases hd : addF n { r with s := x } with
  | error e => rw [hd] at ha; cases ha
  | ok z =>
    obtain ⟨a, r1⟩ := z
    rw [hd] at ha
    injection ha with ha; subst ha
    rcases (h.less x).add hn hd with g | ⟨r2', g1, g2⟩
    · left; right; rw [g]
    · right; rw [g1]; exact ⟨_, rfl, g2⟩
theorem In2.comment {k : Nat} {zn : Tx} {P : List Nd} {r r2 r' : RS} (h : In2 k zn P r r2) (ha : aS r = .ok r') : iV (aS r2) ∨ ∃ r2', aS r2 = .ok r2' ∧ In2 k zn P r' r2' := by
  unfold aS at ha ⊢
  rw [h.s]
  cases hu : aZ [45, 45] r.s with
  | error e => rw [hu] at ha; cases ha
  | ok z =>
    obtain ⟨v, s1⟩ := z
    rw [hu] at ha
    dsimp only at ha ⊢
    split at ha
    · rename_i h1
      rw [if_pos h1]
      exact h.leaf rfl ha
    · cases ha
theorem In2.proc {k : Nat} {zn : Tx} {P : List Nd} {r r2 r' : RS} (h : In2 k zn P r r2) (ha : dS r = .ok r') : iV (dS r2) ∨ ∃ r2', dS r2 = .ok r2' ∧ In2 k zn P r' r2' := by
  unfold dS at ha ⊢
  rw [h.s]
  cases hn : dF r.s with
  | error e => rw [hn] at ha; cases ha
  | ok y =>
    obtain ⟨nm, s1⟩ := y
    rw [hn] at ha
    dsimp only at ha ⊢
    split at ha
    · cases ha
    rename_i h1
    rw [if_neg h1]
    split at ha
    · rename_i h2
      rw [if_pos h2]
      exact h.leaf rfl ha
    · rename_i h2
      rw [if_neg h2]
      split at ha
      · rename_i h3
        rw [if_pos h3]
        cases hu : aZ [63, 62] (aD s1).2 with
        | error e => rw [hu] at ha; cases ha
        | ok z =>
          obtain ⟨v, s2⟩ := z
          rw [hu] at ha
          exact h.leaf rfl ha
      · cases ha
theorem In2.endT {k : Nat} {zn : Tx} {P : List Nd} {r r2 r' : RS} (h : In2 k zn P r r2) (ha : endF r = .ok r') : ∃ r2', endF r2 = .ok r2' ∧ (In2 k zn P r' r2' ∨ Out3 k P.length zn r' r2') := by
  obtain ⟨p, nm, hl, hl2⟩ := Ga h
  unfold endF at ha ⊢
  rw [hl] at ha
  rw [hl2, h.s]
  dsimp only at ha ⊢
  cases hn : dF r.s with
  | error e => rw [hn] at ha; cases ha
  | ok y =>
    obtain ⟨z, s1⟩ := y
    rw [hn] at ha
    dsimp only at ha ⊢
    split at ha
    · rename_i h1
      rw [if_pos h1]
      refine ⟨_, rfl, ?_⟩
      injection ha with ha; subst ha
      by_cases h2 : r.stk.dropLast = []
      · right
        refine ⟨rfl, h.done2, h2, h.done, ?_, ⟨P, [], h.zed, rfl, by rw [List.append_nil]; exact h.ns, ?_⟩, h.root⟩
        · show r2.stk.dropLast = _
          rw [h.stk]
          unfold shK
          have h3 : r.stk.length = 1 := by
            have := congrArg List.length h2
            rw [List.length_dropLast] at this
            have h4 := List.length_pos_iff.2 h.stk0
            simp at this; omega
          obtain ⟨x, hx⟩ := List.length_eq_one_iff.1 h3
          rw [hx]; rfl
        · obtain ⟨n0, g1, g2⟩ := h.kid
          exact ⟨n0, _, g1, g2, .inl rfl⟩
      · left
        refine ⟨rfl, h.done2, h.zed, h2, h.done, ?_, h.ns, h.kid, h.root⟩
        show r2.stk.dropLast = _
        rw [h.stk]
        unfold shK
        rw [List.map_dropLast, List.dropLast_cons_of_ne_nil (by simp [h.stk0])]
    · cases ha
theorem In2.step {k : Nat} {zn : Tx} {P : List Nd} {r r2 r' : RS} (h : In2 k zn P r r2) (ha : aX r = .ok r') : iV (aX r2) ∨ ∃ r2', aX r2 = .ok r2' ∧ (In2 k zn P r' r2' ∨ Out3 k P.length zn r' r2') := by
  have lift : ∀ {x : Ex RS}, (iV x ∨ ∃ r2', x = .ok r2' ∧ In2 k zn P r' r2') → (iV x ∨ ∃ r2', x = .ok r2' ∧ (In2 k zn P r' r2' ∨ Out3 k P.length zn r' r2')) := fun hx => by
    rcases hx with g | ⟨r2', g1, g2⟩
    · exact .inl g
    · exact .inr ⟨r2', g1, .inl g2⟩
  have text : ∀ {t x : Tx}, aW t { r with s := x } = .ok r' → (iV (aW t { r2 with s := x }) ∨ ∃ r2', aW t { r2 with s := x } = .ok r2' ∧ In2 k zn P r' r2') := fun hx => by
    rcases (h.less _).text hx with g | ⟨r2', g1, g2⟩
    · exact .inl (.inr g)
    · exact .inr ⟨r2', g1, g2⟩
  unfold aX at ha ⊢
  rw [h.s]
  split at ha
  · rename_i h1
    rw [if_pos h1]
    unfold iy at ha ⊢
    rw [h.s]
    split at ha
    · rename_i g1
      rw [if_pos g1]
      exact lift ((h.less _).comment ha)
    rename_i g1
    rw [if_neg g1, if_neg (by simp [h.stk2])]
    rw [if_neg (by simp [h.stk0])] at ha
    split at ha
    · rename_i g2
      rw [if_pos ⟨h.stk2, g2.2⟩]
      cases hu : aZ [93, 93, 62] (hasF iR r.s).2 with
      | error e => rw [hu] at ha; cases ha
      | ok z =>
        obtain ⟨v, s1⟩ := z
        rw [hu] at ha
        exact lift (text ha)
    rename_i g2
    rw [if_neg (fun g => g2 ⟨h.stk0, g.2⟩)]
    split at ha
    · rename_i g3
      rw [if_pos g3]
      exact lift ((h.less _).proc ha)
    rename_i g3
    rw [if_neg g3]
    split at ha
    · rename_i g4
      rw [if_pos g4]
      exact .inr ((h.less _).endT ha)
    rename_i g4
    rw [if_neg g4]
    split at ha
    · rename_i g5
      rw [if_pos g5]
      exact lift ((h.less _).start ha)
    · rename_i g5
      rw [if_neg g5]
      injection ha with ha; subst ha
      exact .inr ⟨_, rfl, .inl h⟩
  rename_i h1
  rw [if_neg h1]
  split at ha
  · rename_i h2
    rw [if_pos ⟨h.stk2, h2.2⟩]
    cases hx : refF (hasF [38] r.s).2 with
    | error e => rw [hx] at ha; cases ha
    | ok z =>
      obtain ⟨v, s1⟩ := z
      rw [hx] at ha
      exact lift (text ha)
  rename_i h2
  rw [if_neg (fun g => h2 ⟨h.stk0, g.2⟩)]
  split at ha
  · cases ha
  rename_i h3
  rw [if_neg h3]
  unfold gu at ha ⊢
  rw [if_neg h.stk0] at ha
  rw [if_neg h.stk2, h.s]
  split at ha
  · cases ha
  rename_i h4
  rw [if_neg h4]
  cases hx : aW (r.s.take (upTo r.s [60, 38])) r with
  | error e => rw [hx] at ha; cases ha
  | ok r1 =>
    rw [hx] at ha
    injection ha with ha; subst ha
    rcases h.text hx with g | ⟨r2', g1, g2⟩
    · left; right; rw [g]
    · right
      rw [g1]
      exact ⟨_, rfl, .inl (g2.less _)⟩
end Go.Proofs.YtigjbehgfjjlkaaGreatDoor
set_option linter.unusedVariables false
set_option linter.unusedSimpArgs false
namespace Go.Proofs.YtigjbehgfjjlkaaGreatDoor
open Go Go.Abs Go.RowKit Go.Xml
theorem Zed.kid {k : Nat} {P : List Nd} (h : Zed k P) (c : Nat) : Zed k (aB P 0 c) := by
  obtain ⟨n0, rest, rfl, hd⟩ := h.head
  refine ⟨⟨_, _, rfl, hd⟩, fun i n hi hn => ?_, by rw [aQ]; exact h.len⟩
  rw [gG] at hn
  cases hx : (n0 :: rest)[i]? with
  | none => rw [hx] at hn; cases hn
  | some m =>
    rw [hx] at hn
    have := h.kinds i m hi hx
    simp only [Option.map_some, Option.some.injEq] at hn
    rw [← hn]
    split <;> exact this
theorem Zed.snoc {k : Nat} {P : List Nd} (h : Zed k P) {m : Nd} (hm : m.kind ≠ 1) : Zed k (P ++ [m]) := by
  obtain ⟨n0, rest, rfl, hd⟩ := h.head
  refine ⟨⟨n0, rest ++ [m], rfl, hd⟩, fun i n hi hn => ?_, by rw [List.length_append]; have := h.len; omega⟩
  by_cases hl : i < (n0 :: rest).length
  · rw [List.getElem?_append_left hl] at hn
    exact h.kinds i n hi hn
  · rw [List.getElem?_append_right (by omega)] at hn
    have := List.mem_of_getElem? hn
    rw [List.mem_singleton.1 this]
    exact hm
theorem Zed.mod {k : Nat} {P : List Nd} (h : Zed k P) (c : Nat) (t : Tx) : Zed k (P.modify c fun n => { n with val := n.val ++ t }) := by
  obtain ⟨n0, rest, rfl, hd⟩ := h.head
  refine ⟨?_, fun i n hi hn => ?_, by rw [List.length_modify]; exact h.len⟩
  · cases c with
    | zero => exact ⟨_, _, rfl, hd⟩
    | succ c => exact ⟨_, _, by rw [List.modify_succ_cons], hd⟩
  · rw [List.getElem?_modify] at hn
    cases hx : (n0 :: rest)[i]? with
    | none => rw [hx] at hn; cases hn
    | some m =>
      rw [hx] at hn
      have := h.kinds i m hi hx
      change some _ = some n at hn
      injection hn with hn
      rw [← hn]
      split <;> exact this
theorem addZ {r2 : RS} {zn : Tx} (n : Nd) (hs : r2.stk = [(0, zn)]) : addF n r2 = .error 33 ∨ addF n r2 = .ok (r2.ns.length, { r2 with ns := aB r2.ns 0 r2.ns.length ++ [{ n with par := ((0 : Nat) : Int) }] }) := by
  unfold addF
  by_cases h4 : r2.ns.length = 4096
  · left; rw [if_pos h4]
  · right; rw [if_neg h4, hs]; rfl
theorem In1.put {k : Nat} {zn : Tx} {r r2 : RS} (h : In1 k zn r r2) {m : Nd} (hm : m.kind ≠ 1) (x : Tx) (c : Nat) : In1 k zn { r with s := x } { r2 with s := x, ns := aB r2.ns 0 c ++ [m] } :=
  ⟨rfl, h.done2, h.stk0, h.done, h.ns, h.stk, (h.zed.kid c).snoc hm⟩
theorem In1.less {k : Nat} {zn : Tx} {r r2 : RS} (h : In1 k zn r r2) (x : Tx) : In1 k zn { r with s := x } { r2 with s := x } := ⟨rfl, h.done2, h.stk0, h.done, h.ns, h.stk, h.zed⟩
theorem Out3.less {k a : Nat} {zn : Tx} {r r2 : RS} (h : Out3 k a zn r r2) (x : Tx) : Out3 k a zn { r with s := x } { r2 with s := x } := ⟨rfl, h.done2, h.stk0, h.done, h.stk, h.ns, h.root⟩
theorem Out3.put {k a : Nat} {zn : Tx} {r r2 : RS} (h : Out3 k a zn r r2) (m : Nd) (x : Tx) : Out3 k a zn { r with s := x } { r2 with s := x, ns := aB r2.ns 0 r2.ns.length ++ [m] } := by
  obtain ⟨P, T, hZ, hP, hN, n0, c, h0, hc, hc2⟩ := h.ns
  obtain ⟨m0, rest, hm, hd⟩ := hZ.head
  refine ⟨rfl, h.done2, h.stk0, h.done, h.stk, ⟨aB P 0 r2.ns.length, T ++ [m], hZ.kid _, by rw [aQ]; exact hP, ?_, { m0 with kids := m0.kids ++ [r2.ns.length] }, r2.ns.length, ?_, ?_, .inr ?_⟩, h.root⟩
  · show aB r2.ns 0 r2.ns.length ++ [m] = _
    rw [hN, hm, Bp, List.append_assoc, List.append_assoc]
  · rw [hm]; rfl
  · simp
  · rw [hN, List.length_append, List.length_append, List.length_map]; dsimp only; omega
theorem Bu {ns : List Nd} {c : Nat} (h : aR ns 0 = some c) : ∃ n0 n, ns[0]? = some n0 ∧ n0.kids.getLast? = some c ∧ ns[c]? = some n ∧ n.kind = 2 := by
  unfold aR at h
  cases h0 : ns[0]? with
  | none => rw [h0] at h; cases h
  | some n0 =>
    rw [h0] at h
    change (match n0.kids.getLast? with | some c => (if ((ns[c]?).map (·.kind)) = some 2 then some c else none) | none => none) = some c at h
    cases h1 : n0.kids.getLast? with
    | none => rw [h1] at h; cases h
    | some d =>
      rw [h1] at h
      dsimp only at h
      split at h
      · rename_i h2
        injection h with h; subst h
        cases h3 : ns[d]? with
        | none => rw [h3] at h2; cases h2
        | some n =>
          rw [h3] at h2
          simp at h2
          exact ⟨n0, n, rfl, h1, rfl, h2⟩
      · cases h
theorem Ky {r2 : RS} {zn t : Tx} (hs : r2.stk = [(0, zn)]) (ht : t ≠ []) : aW t r2 = .error 33 ∨ (∃ c, aR r2.ns 0 = some c ∧ aW t r2 = .ok { r2 with ns := r2.ns.modify c fun n => { n with val := n.val ++ t } }) ∨
    aW t r2 = .ok { r2 with ns := aB r2.ns 0 r2.ns.length ++ [{ nd0 with kind := 2, val := t, par := ((0 : Nat) : Int) }] } := by
  unfold aW
  rw [if_neg ht, hs]
  dsimp only [List.getLast?_singleton]
  cases hx : aR r2.ns 0 with
  | some c => exact .inr (.inl ⟨c, rfl, rfl⟩)
  | none =>
    rcases addZ { nd0 with kind := 2, val := t } hs with g | g
    · left
      show (match addF { nd0 with kind := 2, val := t } r2 with | .ok (_, r') => (.ok r' : Ex RS) | .error e => .error e) = _
      rw [g]
    · right; right
      show (match addF { nd0 with kind := 2, val := t } r2 with | .ok (_, r') => (.ok r' : Ex RS) | .error e => .error e) = _
      rw [g]
      dsimp only
      rw [hs]
theorem In1.text {k : Nat} {zn t : Tx} {r r2 : RS} (h : In1 k zn r r2) (ht : t ≠ []) : aW t r2 = .error 33 ∨ ∃ r2', aW t r2 = .ok r2' ∧ In1 k zn r r2' := by
  rcases Ky h.stk ht with g | ⟨c, _, g⟩ | g
  · exact .inl g
  · exact .inr ⟨_, g, h.s, h.done2, h.stk0, h.done, h.ns, h.stk, h.zed.mod c t⟩
  · exact .inr ⟨_, g, h.s, h.done2, h.stk0, h.done, h.ns, h.stk, (h.zed.kid _).snoc (show (2 : Int) ≠ 1 by decide)⟩
theorem Out3.text {k a : Nat} {zn t : Tx} {r r2 : RS} (h : Out3 k a zn r r2) (ht : t ≠ []) : aW t r2 = .error 33 ∨ ∃ r2', aW t r2 = .ok r2' ∧ Out3 k a zn r r2' := by
  rcases Ky h.stk ht with g | ⟨c, hc, g⟩ | g
  · exact .inl g
  · right
    refine ⟨_, g, h.s, h.done2, h.stk0, h.done, h.stk, ?_, h.root⟩
    obtain ⟨P, T, hZ, hP, hN, n0, c0, h0, hc0, hc2⟩ := h.ns
    obtain ⟨m0, m, g0, g1, g2, g3⟩ := Bu hc
    obtain ⟨rn, hr, hr1⟩ := h.root
    have hpos : 0 < P.length := by obtain ⟨_, _, e, _⟩ := hZ.head; rw [e]; simp
    have e0 : r2.ns[0]? = some n0 := by rw [hN, List.getElem?_append_left hpos]; exact h0
    rw [e0] at g0
    injection g0 with g0; subst g0
    rw [hc0] at g1
    injection g1 with g1; subst g1
    have hge : a + r.ns.length ≤ c0 := by
      rcases hc2 with rfl | hge
      · exfalso
        have hrl := (List.getElem?_eq_some_iff.1 hr).1
        rw [hN, List.getElem?_append_right (by omega), hP, Nat.sub_self, List.getElem?_append_left (by rw [List.length_map]; omega), List.getElem?_map, hr] at g2
        injection g2 with g2
        rw [← g2] at g3
        simp [shN, hr1] at g3
      · exact hge
    refine ⟨P, T.modify (c0 - a - r.ns.length) fun n => { n with val := n.val ++ t }, hZ, hP, ?_, n0, c0, h0, hc0, .inr hge⟩
    show (r2.ns.modify c0 fun n => { n with val := n.val ++ t }) = _
    rw [hN]
    have e1 : c0 = (c0 - a - r.ns.length + (r.ns.map (shN a)).length) + P.length := by rw [List.length_map, hP]; omega
    conv => lhs; rw [e1]
    rw [jJ, jJ]
  · exact .inr ⟨_, g, by
      have := h.put { nd0 with kind := 2, val := t, par := ((0 : Nat) : Int) } r.s
      exact ⟨h.s, this.done2, this.stk0, this.done, this.stk, this.ns, this.root⟩⟩
theorem Iz {r2 : RS} {zn x : Tx} (n : Nd) (hs : r2.stk = [(0, zn)]) :
    iV (if r2.stk = [] then (.ok { r2 with s := x } : Ex RS) else match addF n { r2 with s := x } with | .error e => .error e | .ok (_, r') => .ok r') ∨
    (if r2.stk = [] then (.ok { r2 with s := x } : Ex RS) else match addF n { r2 with s := x } with | .error e => .error e | .ok (_, r') => .ok r') = .ok { r2 with s := x, ns := aB r2.ns 0 r2.ns.length ++ [{ n with par := ((0 : Nat) : Int) }] } := by
  rw [if_neg (by simp [hs])]
  rcases addZ (r2 := { r2 with s := x }) n hs with g | g
  · left; right; rw [g]
  · right; rw [g]
theorem IB {r r2 r' : RS} {zn : Tx} (hs2 : r2.s = r.s) (hs : r2.stk = [(0, zn)]) (h0 : r.stk = []) (ha : aS r = .ok r') :
    iV (aS r2) ∨ ∃ x m, r' = { r with s := x } ∧ m.kind ≠ 1 ∧ aS r2 = .ok { r2 with s := x, ns := aB r2.ns 0 r2.ns.length ++ [m] } := by
  unfold aS at ha ⊢
  rw [hs2]
  cases hu : aZ [45, 45] r.s with
  | error e => rw [hu] at ha; cases ha
  | ok z =>
    obtain ⟨v, s1⟩ := z
    rw [hu] at ha
    dsimp only at ha ⊢
    split at ha
    · rename_i h1
      rw [if_pos h1]
      try rw [if_pos h0] at ha
      injection ha with ha
      rcases Iz (x := (hasF [62] s1).2) { nd0 with kind := 3, val := v } hs with g | g
      · exact .inl g
      · exact .inr ⟨_, _, ha.symm, by simp [nd0], g⟩
    · cases ha
theorem Mf {r r2 r' : RS} {zn : Tx} (hs2 : r2.s = r.s) (hs : r2.stk = [(0, zn)]) (h0 : r.stk = []) (ha : dS r = .ok r') :
    iV (dS r2) ∨ ∃ x m, r' = { r with s := x } ∧ m.kind ≠ 1 ∧ dS r2 = .ok { r2 with s := x, ns := aB r2.ns 0 r2.ns.length ++ [m] } := by
  unfold dS at ha ⊢
  rw [hs2]
  cases hn : dF r.s with
  | error e => rw [hn] at ha; cases ha
  | ok y =>
    obtain ⟨nm, s1⟩ := y
    rw [hn] at ha
    dsimp only at ha ⊢
    split at ha
    · cases ha
    rename_i h1
    rw [if_neg h1]
    split at ha
    · rename_i h2
      rw [if_pos h2]
      try rw [if_pos h0] at ha
      injection ha with ha
      rcases Iz (x := (hasF [63, 62] s1).2) { nd0 with kind := 4, loc := nm, val := [] } hs with g | g
      · exact .inl g
      · exact .inr ⟨_, _, ha.symm, by simp [nd0], g⟩
    · rename_i h2
      rw [if_neg h2]
      split at ha
      · rename_i h3
        rw [if_pos h3]
        cases hu : aZ [63, 62] (aD s1).2 with
        | error e => rw [hu] at ha; cases ha
        | ok z =>
          obtain ⟨v, s2⟩ := z
          rw [hu] at ha
          dsimp only at ha ⊢
          try rw [if_pos h0] at ha
          injection ha with ha
          rcases Iz (x := s2) { nd0 with kind := 4, loc := nm, val := v } hs with g | g
          · exact .inl g
          · exact .inr ⟨_, _, ha.symm, by simp [nd0], g⟩
      · cases ha
theorem xk {p : UInt8 → Bool} : ∀ {l : Tx}, l.dropWhile p = [] → ∀ c ∈ l, p c = true
  | [], _, c, hc => by cases hc
  | d :: l, h, c, hc => by
    by_cases hp : p d = true
    · rw [List.dropWhile_cons_of_pos hp] at h
      rcases List.mem_cons.1 hc with rfl | hc
      · exact hp
      · exact xk h c hc
    · rw [List.dropWhile_cons_of_neg hp] at h; cases h
theorem Gb {l : Tx} (h : Lib.trimS l blanks = []) : ∀ c ∈ l, blanks.contains c = true := by
  unfold Lib.trimS Lib.trimLeftS Lib.trimRightS at h
  intro c hc
  have h1 : ∀ d ∈ (l.reverse.dropWhile (blanks.contains ·)).reverse, blanks.contains d = true := by
    intro d hd
    exact xk h d hd
  have h2 : c ∈ l.reverse.takeWhile (blanks.contains ·) ++ l.reverse.dropWhile (blanks.contains ·) := by
    rw [List.takeWhile_append_dropWhile]; exact List.mem_reverse.2 hc
  rcases List.mem_append.1 h2 with h3 | h3
  · have := List.all_takeWhile (p := (blanks.contains ·)) (l := l.reverse)
    exact List.all_eq_true.1 this c h3
  · exact h1 c (List.mem_reverse.2 h3)
theorem index_none {s : Tx} {o : UInt8} {t : Tx} (h : o ∉ s) : Lib.index s (o :: t) = -1 := by
  induction s with
  | nil => rfl
  | cons b s ih =>
    have hb : ¬ o = b := fun e => h (by rw [e]; exact List.mem_cons_self ..)
    have hs : o ∉ s := fun e => h (List.mem_cons_of_mem _ e)
    unfold Lib.index
    rw [if_neg (by rw [List.isPrefixOf_cons_cons]; simp [hb]), ih hs]
    rfl
theorem DF {l : Tx} (h : Lib.trimS l blanks = []) : Lib.contains l [93, 93, 62] = false := by
  unfold Lib.contains
  rw [index_none (fun hm => by have := Gb h 93 hm; revert this; decide)]
  rfl
theorem Kz {r r2 r' : RS} {zn : Tx} (hs2 : r2.s = r.s) (hs : r2.stk = [(0, zn)]) (hne : r.s ≠ []) (h0 : r.stk = []) (ha : aX r = .ok r') :
    iV (aX r2) ∨ (∃ x m, r' = { r with s := x } ∧ m.kind ≠ 1 ∧ aX r2 = .ok { r2 with s := x, ns := aB r2.ns 0 r2.ns.length ++ [m] }) ∨
    (∃ t x, t ≠ [] ∧ r' = { r with s := x } ∧ aX r2 = (match aW t r2 with | .error e => .error e | .ok r'' => .ok { r'' with s := x })) ∨
    (bI { r with s := (hasF [60] r.s).2 } = .ok r' ∧ aX r2 = bI { r2 with s := (hasF [60] r.s).2 }) := by
  have hn2 : r2.stk ≠ [] := by rw [hs]; simp
  unfold aX at ha ⊢
  rw [hs2]
  split at ha
  · rename_i h1
    rw [if_pos h1]
    unfold iy at ha ⊢
    rw [hs2]
    split at ha
    · rename_i g1
      rw [if_pos g1]
      rcases IB (r := { r with s := (hasF [60, 33, 45, 45] r.s).2 }) (r2 := { r2 with s := (hasF [60, 33, 45, 45] r.s).2 }) rfl hs h0 ha with g | ⟨x, m, a1, a2, a3⟩
      · exact .inl g
      · exact .inr (.inl ⟨x, m, a1, a2, a3⟩)
    rename_i g1
    rw [if_neg g1, if_neg (by simp [hn2])]
    split at ha
    · cases ha
    rename_i g1'
    rw [if_neg (by simp [h0])] at ha
    by_cases g2 : (hasF iR r.s).1 = true
    · exfalso
      have e := ji g2
      generalize (hasF iR r.s).2 = y at e
      rw [e] at ha
      change bI { r with s := 33 :: 91 :: 67 :: 68 :: 65 :: 84 :: 65 :: 91 :: y } = .ok r' at ha
      unfold bI at ha
      split at ha
      · cases ha
      · have hnm : dF (33 :: 91 :: 67 :: 68 :: 65 :: 84 :: 65 :: 91 :: y) = .error 10 := rfl
        dsimp only at ha
        rw [hnm] at ha
        cases ha
    rw [if_neg (fun g => g2 g.2)]
    split at ha
    · rename_i g3
      rw [if_pos g3]
      rcases Mf (r := { r with s := (hasF [60, 63] r.s).2 }) (r2 := { r2 with s := (hasF [60, 63] r.s).2 }) rfl hs h0 ha with g | ⟨x, m, a1, a2, a3⟩
      · exact .inl g
      · exact .inr (.inl ⟨x, m, a1, a2, a3⟩)
    rename_i g3
    rw [if_neg g3]
    split at ha
    · rename_i g4
      exfalso
      unfold endF at ha
      dsimp only at ha
      rw [h0] at ha
      cases ha
    rename_i g4
    rw [if_neg g4]
    split at ha
    · rename_i g5
      rw [if_pos g5]
      exact .inr (.inr (.inr ⟨ha, rfl⟩))
    · rename_i g5
      exfalso
      apply g5
      cases hr : r.s with
      | nil => exact absurd hr hne
      | cons c s => rw [hr] at h1; simp at h1; subst h1; simp [hasF]
  rename_i h1
  rw [if_neg h1]
  rw [if_neg (by simp [h0])] at ha
  split at ha
  · cases ha
  rename_i h3
  have h38 : (hasF [38] r.s).1 = false := by
    cases hr : r.s with
    | nil => exact absurd hr hne
    | cons c s =>
      rw [hr] at h3
      simp at h3
      simp [hasF, List.isPrefixOf, Ne.symm h3]
  rw [if_neg (fun g => by rw [h38] at g; exact absurd g.2 (by decide)), if_neg h3]
  unfold gu at ha ⊢
  rw [if_pos h0] at ha
  rw [if_neg hn2, hs2]
  split at ha
  · rename_i h4
    injection ha with ha
    rw [if_neg (by rw [DF h4]; decide)]
    refine .inr (.inr (.inl ⟨_, _, ?_, ha.symm, rfl⟩))
    intro e
    obtain ⟨c, s, hr⟩ := List.exists_cons_of_ne_nil hne
    have hp : 0 < upTo r.s [60, 38] := Bf (c := c) (by rw [hr]; rfl) (by
      rw [hr] at h1 h3
      simp at h1 h3
      simp [h1, h3])
    have := congrArg List.length e
    rw [List.length_take, hr] at this
    rw [hr] at hp
    simp at this
    omega
  · cases ha
theorem Out3.step {k a : Nat} {zn : Tx} {r r2 r' : RS} (h : Out3 k a zn r r2) (hne : r.s ≠ []) (ha : aX r = .ok r') : iV (aX r2) ∨ ∃ r2', aX r2 = .ok r2' ∧ Out3 k a zn r' r2' := by
  rcases Kz h.s h.stk hne h.stk0 ha with g | ⟨x, m, rfl, hm, g⟩ | ⟨t, x, ht, rfl, g⟩ | ⟨g, _⟩
  · exact .inl g
  · exact .inr ⟨_, g, h.put m x⟩
  · rw [g]
    rcases h.text ht with g1 | ⟨r2', g1, g2⟩
    · left; right; rw [g1]
    · right; rw [g1]; exact ⟨_, rfl, g2.less x⟩
  · exfalso
    unfold bI at g
    rw [if_pos ⟨h.stk0, h.done⟩] at g
    cases g
theorem In1.start {k : Nat} {zn : Tx} {r r2 r' : RS} (h : In1 k zn r r2) (ha : bI r = .ok r') : iV (bI r2) ∨ ∃ r2', bI r2 = .ok r2' ∧ ((∃ P, In2 k zn P r' r2') ∨ ∃ a, Out3 k a zn r' r2') := by
  have hn2 : r2.stk ≠ [] := by rw [h.stk]; simp
  have hsp : ∀ p ds, aM r2 p ds = aM r p ds := by
    intro p ds
    obtain ⟨n0, rest, hP, hd⟩ := h.zed.head
    unfold aM
    rw [h.stk, h.stk0, hP]
    show _ = (if p = [120, 109, 108] then (gV, true) else match findD p ds with | some u => (u, true) | none => ([], decide (p = [])))
    show (if p = [120, 109, 108] then (gV, true) else match findD p ds with | some u => (u, true) | none => (match (match findD p n0.dcls with | some u => some u | none => none) with | some u => (u, true) | none => ([], decide (p = [])))) = _
    rw [hd]
    rfl
  unfold bI at ha ⊢
  rw [if_neg (by simp [h.done])] at ha
  rw [if_neg (by simp [hn2]), h.s]
  cases hn : dF r.s with
  | error e => rw [hn] at ha; cases ha
  | ok x =>
    obtain ⟨nm, s1⟩ := x
    rw [hn] at ha
    dsimp only at ha ⊢
    cases hat : bC (s1.length + 1) [] (cZ nm) s1 with
    | error e => rw [hat] at ha; cases ha
    | ok y =>
      obtain ⟨nms, n, s2⟩ := y
      rw [hat] at ha
      dsimp only at ha ⊢
      split at ha
      · cases ha
      rename_i h1
      rw [if_neg h1]
      split at ha
      · cases ha
      rename_i h2
      rw [if_neg h2]
      split at ha
      · cases ha
      rename_i h3
      rw [if_neg h3, oh hsp]
      cases hs : bH r n with
      | error e => rw [hs] at ha; cases ha
      | ok n' =>
        rw [hs] at ha
        dsimp only at ha ⊢
        split at ha
        · cases ha
        rename_i h4
        rw [if_neg (by rw [h.stk]; simp)]
        cases hd : addF n' { r with s := (hasF [62] (hasF [47] s2).2).2 } with
        | error e => rw [hd] at ha; cases ha
        | ok z =>
          obtain ⟨a, r1⟩ := z
          rw [hd] at ha
          dsimp only at ha
          injection ha with ha
          obtain ⟨_, hk1, _, _, hkk, _⟩ := lJ hs
          obtain ⟨a1, _, _, a4⟩ := jS _ hat
          have hkids : n'.kids = [] := by rw [hkk, a4]; exact (mI hn).2.2
          have hkind : n'.kind = 1 := by rw [hk1, a1]; exact (mI hn).1
          obtain ⟨rfl, rfl⟩ := xg (r := { r with s := (hasF [62] (hasF [47] s2).2).2 }) h.stk0 hd
          rcases addZ (r2 := { r2 with s := (hasF [62] (hasF [47] s2).2).2 }) n' h.stk with g | g
          · left; right; rw [g]
          right
          rw [g]
          refine ⟨_, rfl, ?_⟩
          have hz := h.zed.kid r2.ns.length
          have hlen : (aB r2.ns 0 r2.ns.length).length = r2.ns.length := aQ ..
          obtain ⟨m0, rest, hm, _⟩ := h.zed.head
          have hsh : aB r2.ns 0 r2.ns.length ++ [{ n' with par := ((0 : Nat) : Int) }] = aB r2.ns 0 r2.ns.length ++ (r.ns ++ [{ n' with par := -1 }]).map (shN (aB r2.ns 0 r2.ns.length).length) := by
            rw [h.ns]
            simp [shN, hkids]
          have hlast : ∃ n0, (aB r2.ns 0 r2.ns.length)[0]? = some n0 ∧ n0.kids.getLast? = some (aB r2.ns 0 r2.ns.length).length := by
            rw [hlen]
            refine ⟨{ m0 with kids := m0.kids ++ [r2.ns.length] }, ?_, by simp⟩
            rw [hm]; rfl
          have hroot : ∃ n, (r.ns ++ [{ n' with par := -1 }])[0]? = some n ∧ n.kind = 1 := by rw [h.ns]; exact ⟨_, rfl, hkind⟩
          rw [← ha]
          dsimp only
          cases hcl : (hasF [47] s2).1 with
          | true =>
            right
            refine ⟨(aB r2.ns 0 r2.ns.length).length, rfl, rfl, h.stk0, rfl, h.stk, ⟨_, [], hz, rfl, ?_, ?_⟩, hroot⟩
            · rw [List.append_nil]; exact hsh
            · obtain ⟨n0, g1, g2⟩ := hlast
              exact ⟨n0, _, g1, g2, .inl rfl⟩
          | false =>
            left
            refine ⟨aB r2.ns 0 r2.ns.length, rfl, rfl, hz, ?_, rfl, ?_, hsh, hlast, hroot⟩
            · rw [h.stk0]; simp
            · rw [h.stk, h.stk0, h.ns, hlen]
              simp [shK]
theorem In1.step {k : Nat} {zn : Tx} {r r2 r' : RS} (h : In1 k zn r r2) (hne : r.s ≠ []) (ha : aX r = .ok r') : iV (aX r2) ∨ ∃ r2', aX r2 = .ok r2' ∧ (In1 k zn r' r2' ∨ (∃ P, In2 k zn P r' r2') ∨ ∃ a, Out3 k a zn r' r2') := by
  rcases Kz h.s h.stk hne h.stk0 ha with g | ⟨x, m, rfl, hm, g⟩ | ⟨t, x, ht, rfl, g⟩ | ⟨g, g'⟩
  · exact .inl g
  · exact .inr ⟨_, g, .inl (h.put hm x _)⟩
  · rw [g]
    rcases h.text ht with g1 | ⟨r2', g1, g2⟩
    · left; right; rw [g1]
    · right; rw [g1]; exact ⟨_, rfl, .inl (g2.less x)⟩
  · rw [g']
    rcases (h.less _).start g with g1 | ⟨r2', g1, g2⟩
    · exact .inl g1
    · exact .inr ⟨r2', g1, .inr g2⟩
def WW (k : Nat) (zn : Tx) (r r2 : RS) : Prop := In1 k zn r r2 ∨ (∃ P, In2 k zn P r r2) ∨ ∃ a, Out3 k a zn r r2
theorem WW.s {k : Nat} {zn : Tx} {r r2 : RS} (h : WW k zn r r2) : r2.s = r.s := by
  rcases h with h | ⟨P, h⟩ | ⟨a, h⟩ <;> exact h.s
theorem WW.step {k : Nat} {zn : Tx} {r r2 r' : RS} (h : WW k zn r r2) (hne : r.s ≠ []) (ha : aX r = .ok r') : iV (aX r2) ∨ ∃ r2', aX r2 = .ok r2' ∧ WW k zn r' r2' := by
  rcases h with h | ⟨P, h⟩ | ⟨a, h⟩
  · exact h.step hne ha
  · rcases h.step ha with g | ⟨r2', g1, g2 | g2⟩
    · exact .inl g
    · exact .inr ⟨r2', g1, .inr (.inl ⟨P, g2⟩)⟩
    · exact .inr ⟨r2', g1, .inr (.inr ⟨_, g2⟩)⟩
  · rcases h.step hne ha with g | ⟨r2', g1, g2⟩
    · exact .inl g
    · exact .inr ⟨r2', g1, .inr (.inr ⟨a, g2⟩)⟩
theorem WW.steps {k : Nat} {zn : Tx} {r r' : RS} (hs : Steps r r') : ∀ {r2 : RS}, WW k zn r r2 → (∃ r3, Steps r2 r3 ∧ r3.s ≠ [] ∧ iV (aX r3)) ∨ ∃ r2', Steps r2 r2' ∧ WW k zn r' r2' := by
  induction hs with
  | refl => exact fun h => .inr ⟨_, .refl _, h⟩
  | step hs hx _ ih =>
    intro r2 h
    have hs2 : r2.s ≠ [] := by rw [h.s]; exact hs
    rcases h.step hs hx with g | ⟨r2', g1, g2⟩
    · exact .inl ⟨r2, .refl _, hs2, g⟩
    · rcases ih g2 with ⟨r3, a1, a2, a3⟩ | ⟨r3, a1, a2⟩
      · exact .inl ⟨r3, .step hs2 g1 a1, a2, a3⟩
      · exact .inr ⟨r3, .step hs2 g1 a1, a2⟩
end Go.Proofs.YtigjbehgfjjlkaaGreatDoor
set_option linter.unusedVariables false
set_option linter.unusedSimpArgs false
namespace Go.Proofs.YtigjbehgfjjlkaaGreatDoor
open Go Go.Abs Go.RowKit Go.Xml
def fq (old new s : Tx) : Tx := Lib.replaceK old new (Lib.count s old) s
theorem xq {old new s : Tx} (h : (old == new) = false) : Lib.replaceAll s old new = fq old new s := by
  unfold Lib.replaceAll Lib.replace fq Lib.replaceNum
  rw [h, if_neg (by decide), if_pos (.inl (by decide))]
theorem om {old new : Tx} (ho : old ≠ []) {s : Tx} {i : Nat} (h : Lib.index s old = i) : fq old new s = s.take i ++ new ++ fq old new (s.drop (i + old.length)) := by
  have hc : Lib.count s old = Lib.count (s.drop (i + old.length)) old + 1 := by
    have := Lib.count_hit (s := s) (sub := old) ho h
    omega
  unfold fq
  rw [hc, Lib.replaceK_hit old new _ s i h]
theorem mJ {old new s : Tx} (h : Lib.index s old = -1) : fq old new s = s := by
  unfold fq
  rw [Lib.count_miss h]
  rfl
theorem mK {old new : Tx} (ho : old ≠ []) (c : UInt8) (l : Tx) : fq old new (c :: l) = if old.isPrefixOf (c :: l) then new ++ fq old new ((c :: l).drop old.length) else c :: fq old new l := by
  by_cases hp : old.isPrefixOf (c :: l) = true
  · have hi : Lib.index (c :: l) old = ((0 : Nat) : Int) := by
      unfold Lib.index
      rw [if_pos hp]; rfl
    rw [if_pos hp, om ho hi, Nat.zero_add]
    rfl
  · rw [if_neg hp]
    have hg := Lib.index_ge l old
    by_cases hm : Lib.index l old = -1
    · have hi : Lib.index (c :: l) old = -1 := by
        unfold Lib.index
        rw [if_neg hp, hm]; rfl
      rw [mJ hi, mJ hm]
    · obtain ⟨i, hi⟩ : ∃ i : Nat, Lib.index l old = i := ⟨(Lib.index l old).toNat, by omega⟩
      have hi2 : Lib.index (c :: l) old = ((i + 1 : Nat) : Int) := by
        unfold Lib.index
        rw [if_neg hp, if_neg (by rw [hi]; simp), hi]
        rfl
      rw [om ho hi, om ho hi2, show i + 1 + old.length = (i + old.length) + 1 by omega]
      rfl
theorem lK {old new : Tx} (ho : old ≠ []) : fq old new [] = [] := by
  refine mJ ?_
  cases old with
  | nil => exact absurd rfl ho
  | cons c o => rfl
def dK : Tx → Tx
  | [] => []
  | c :: l => if c = 13 then (if l.head? = some 10 then dK l else 10 :: dK l) else c :: dK l
theorem gH {c : UInt8} (h : c ≠ 13) (l : Tx) : dK (c :: l) = c :: dK l := by
  conv => lhs; unfold dK
  rw [if_neg h]
theorem kK (l : Tx) : dK (13 :: l) = if l.head? = some 10 then dK l else 10 :: dK l := by
  conv => lhs; unfold dK
  rw [if_pos rfl]
theorem JZ (n : Nat) : ∀ l : Tx, l.length ≤ n → fq [13] [10] (fq [13, 10] [10] l) = dK l := by
  induction n with
  | zero =>
    intro l h
    rw [List.eq_nil_of_length_eq_zero (by omega : l.length = 0), lK (by simp), lK (by simp)]
    rfl
  | succ n ih =>
    intro l h
    cases l with
    | nil => rw [lK (by simp), lK (by simp)]; rfl
    | cons c l =>
      rw [mK (by simp)]
      by_cases hp : ([13, 10] : Tx).isPrefixOf (c :: l) = true
      · rw [if_pos hp]
        obtain ⟨t, ht⟩ := List.isPrefixOf_iff_prefix.1 hp
        rw [← ht] at h ⊢
        show fq [13] [10] (10 :: fq [13, 10] [10] t) = dK (13 :: 10 :: t)
        rw [mK (by simp), if_neg (by simp [List.isPrefixOf]), ih t (by simp at h; omega), kK, if_pos (show (10 :: t).head? = some 10 from rfl), gH (by decide)]
      · rw [if_neg hp, mK (by simp)]
        by_cases hc : c = 13
        · subst hc
          rw [if_pos (by simp [List.isPrefixOf])]
          show 10 :: fq [13] [10] (fq [13, 10] [10] l) = _
          rw [ih l (by simp at h; omega), kK, if_neg]
          intro e
          apply hp
          cases l with
          | nil => cases e
          | cons d l => simp at e; subst e; simp [List.isPrefixOf]
        · rw [if_neg (by simp [List.isPrefixOf, Ne.symm hc]), ih l (by simp at h; omega), gH hc]
theorem Bv (l : Tx) : lines l = dK l := by
  unfold lines
  rw [xq (by decide), xq (by decide)]
  exact JZ l.length l (Nat.le_refl _)
theorem oo : ∀ {a : Tx}, (∀ c ∈ a, c ≠ 13) → ∀ l, dK (a ++ l) = a ++ dK l
  | [], _, l => rfl
  | c :: a, h, l => by
    rw [List.cons_append, gH (h c (List.mem_cons_self ..)), oo (fun d hd => h d (List.mem_cons_of_mem _ hd))]
    rfl
theorem Ll (c : Nat) : 1 ≤ (utf8 c).length ∧ (utf8 c).length ≤ 4 := by
  unfold utf8
  split
  · simp
  split
  · simp
  split <;> simp
set_option maxHeartbeats 1000000 in
theorem Bw {c : Nat} (h : c < 0x110000) (hs : ¬ (0xD800 ≤ c ∧ c ≤ 0xDFFF)) (t : Tx) : Lib.decodeL (utf8 c ++ t) = (c, (utf8 c).length) := by
  rw [Lib.decodeL_N]
  unfold utf8
  split
  · simp only [List.cons_append, List.nil_append, List.getD_cons_zero, UInt8.toNat_ofNat', List.length_cons, List.length_nil]
    unfold Lib.decodeN
    rw [if_pos (by omega)]
    simp; omega
  split
  · simp only [List.cons_append, List.nil_append, List.getD_cons_zero, List.getD_cons_succ, UInt8.toNat_ofNat', List.length_cons, List.length_nil]
    unfold Lib.decodeN
    rw [if_neg (by omega), if_pos (by omega), if_pos (by omega)]
    simp; omega
  split
  · simp only [List.cons_append, List.nil_append, List.getD_cons_zero, List.getD_cons_succ, UInt8.toNat_ofNat', List.length_cons, List.length_nil]
    unfold Lib.decodeN
    rw [if_neg (by omega), if_neg (by omega), if_pos (by omega), if_pos (by omega)]
    simp; omega
  · simp only [List.cons_append, List.nil_append, List.getD_cons_zero, List.getD_cons_succ, UInt8.toNat_ofNat', List.length_cons, List.length_nil]
    unfold Lib.decodeN
    rw [if_neg (by omega), if_neg (by omega), if_neg (by omega), if_pos (by omega), if_pos (by omega)]
    simp; omega
theorem len4 : ∀ {l : Tx}, 3 < l.length → ∃ x y z v t, l = x :: y :: z :: v :: t
  | [], h => by simp at h
  | [_], h => by simp at h
  | [_, _], h => by simp at h
  | [_, _, _], h => by simp at h
  | x :: y :: z :: v :: t, _ => ⟨x, y, z, v, t, rfl⟩
theorem kL {x : UInt8} {n : Nat} (h : x.toNat = n) : UInt8.ofNat n = x := by subst h; simp
set_option maxRecDepth 10000 in
set_option maxHeartbeats 2000000 in
theorem Bz {l : Tx} (hl : l ≠ []) (h : ¬ ((Lib.decodeL l).1 = 65533 ∧ (Lib.decodeL l).2 < 3)) : l = utf8 (Lib.decodeL l).1 ++ l.drop (Lib.decodeL l).2 := by
  have h0 : (l.getD 0 0).toNat < 256 := UInt8.toNat_lt _
  have h1 : (l.getD 1 0).toNat < 256 := UInt8.toNat_lt _
  have h2 : (l.getD 2 0).toNat < 256 := UInt8.toNat_lt _
  have h3 : (l.getD 3 0).toNat < 256 := UInt8.toNat_lt _
  rw [Lib.decodeL_N] at h ⊢
  unfold Lib.decodeN at h ⊢
  split
  · rename_i g
    obtain ⟨x, t, rfl⟩ := List.exists_cons_of_ne_nil hl
    simp only [List.getD_cons_zero] at g ⊢
    unfold utf8
    rw [if_pos g, kL rfl]
    rfl
  rename_i g0
  rw [if_neg g0] at h
  split
  · rename_i g
    rw [if_pos g] at h
    split
    · rename_i g1
      rw [if_pos g1] at h
      match l, g with
      | x :: y :: t, g =>
        simp only [List.getD_cons_zero, List.getD_cons_succ] at g g1 h0 h1 ⊢
        unfold utf8
        rw [if_neg (by omega), if_pos (by omega), kL (x := x) (by omega), kL (x := y) (by omega)]
        rfl
    · rename_i g1
      rw [if_neg g1] at h
      exact absurd ⟨rfl, by decide⟩ h
  rename_i g2
  rw [if_neg g2] at h
  split
  · rename_i g
    rw [if_pos g] at h
    split
    · rename_i g1
      rw [if_pos g1] at h
      match l, g with
      | x :: y :: z :: t, g =>
        simp only [List.getD_cons_zero, List.getD_cons_succ] at g g1 h0 h1 h2 ⊢
        unfold utf8
        rw [if_neg (by omega), if_neg (by omega), if_pos (by omega), kL (x := x) (by omega), kL (x := y) (by omega), kL (x := z) (by omega)]
        rfl
    · rename_i g1
      rw [if_neg g1] at h
      exact absurd ⟨rfl, by decide⟩ h
  rename_i g3
  rw [if_neg g3] at h
  split
  · rename_i g
    rw [if_pos g] at h
    split
    · rename_i g1
      rw [if_pos g1] at h
      obtain ⟨x, y, z, v, t, rfl⟩ := len4 g.2.2.2.1
      simp only [List.getD_cons_zero, List.getD_cons_succ] at g g1 h0 h1 h2 h3 ⊢
      unfold utf8
      rw [if_neg (by omega), if_neg (by omega), if_neg (by omega), kL (x := x) (by omega), kL (x := y) (by omega), kL (x := z) (by omega), kL (x := v) (by omega)]
      rfl
    · rename_i g1
      rw [if_neg g1] at h
      exact absurd ⟨rfl, by decide⟩ h
  · rename_i g
    rw [if_neg g] at h
    exact absurd ⟨rfl, by decide⟩ h
inductive Good : Tx → Prop
  | nil : Good []
  | cons {c : Nat} {l : Tx} (hc : dJ c = true) (h : Good l) : Good (utf8 c ++ l)
theorem xu {c : Nat} (h : dJ c = true) : c < 0x110000 ∧ ¬ (0xD800 ≤ c ∧ c ≤ 0xDFFF) := by
  unfold dJ at h
  simp only [Bool.or_eq_true, Bool.and_eq_true, decide_eq_true_eq] at h
  omega
theorem Good.append {a b : Tx} (ha : Good a) (hb : Good b) : Good (a ++ b) := by
  induction ha with
  | nil => exact hb
  | cons hc _ ih => rw [List.append_assoc]; exact .cons hc ih
theorem Good.ascii : ∀ {a : Tx}, (∀ c ∈ a, c.toNat < 128 ∧ dJ c.toNat = true) → Good a
  | [], _ => .nil
  | c :: a, h => by
    obtain ⟨h1, h2⟩ := h c (List.mem_cons_self ..)
    have := Good.cons h2 (Good.ascii (a := a) fun d hd => h d (List.mem_cons_of_mem _ hd))
    unfold utf8 at this
    rw [if_pos h1, kL rfl] at this
    exact this
theorem Good.ok {l : Tx} (h : Good l) : ∀ (f a : Nat), badF f l a = none := by
  induction h with
  | nil => exact fun f a => AP f a
  | @cons c l hc _ ih =>
    intro f a
    cases f with
    | zero => rfl
    | succ f =>
      obtain ⟨h1, h2⟩ := xu hc
      have hd := Bw h1 h2 l
      have hl := Ll c
      rw [qP f _ a (by intro e; have := congrArg List.length e; rw [List.length_append, List.length_nil] at this; omega), hd]
      dsimp only
      rw [if_neg, List.drop_left, ih]
      intro g
      rcases g with ⟨g1, g2⟩ | g
      · subst g1
        exact absurd g2 (by decide)
      · rw [hc] at g; cases g
theorem Good.EH : ∀ (f a : Nat) {l : Tx}, l.length < f → badF f l a = none → Good l
  | 0, a, l, hl, h => by omega
  | f + 1, a, l, hl, h => by
    by_cases hne : l = []
    · subst hne; exact .nil
    · rw [qP f l a hne] at h
      split at h
      · cases h
      rename_i g
      have hw := qO l
      have e := Bz hne fun x => g (.inl x)
      have hrec := Good.EH f _ (l := l.drop (Lib.decodeL l).2) (by rw [List.length_drop]; have := List.length_pos_iff.2 hne; omega) h
      rw [e]
      refine .cons ?_ hrec
      cases hc : dJ (Lib.decodeL l).1 with
      | true => rfl
      | false => exact absurd (.inr hc) g
theorem u6 (l : Tx) : bad l = none ↔ Good l := ⟨fun h => Good.EH (l.length + 1) 0 (Nat.lt_succ_self _) h, fun h => h.ok (l.length + 1) 0⟩
end Go.Proofs.YtigjbehgfjjlkaaGreatDoor
set_option linter.unusedVariables false
set_option linter.unusedSimpArgs false
namespace Go.Proofs.YtigjbehgfjjlkaaGreatDoor
open Go Go.Abs Go.RowKit Go.Xml
end Go.Proofs.YtigjbehgfjjlkaaGreatDoor
