/- The start of an element, plainly (plain Lean; no conditions). -/
import Derived.Test.YtohgmkjhbacmpaaGreatDoorXmGD
import Derived.Lib.TrimAscii
import Derived.Test.YtohgmkjhbacmpaaGreatDoorXmGF
import Derived.Lib.ReplaceLaws
import Derived.Lib.DecodeN
set_option linter.unusedVariables false
set_option linter.unusedSimpArgs false
namespace Go.Proofs.YtohgmkjhbacmpaaGreatDoor
open Go Go.Abs Go.RowKit Go.Xml
theorem skip_none {c : UInt8} {t : Tx} (h : c ≠ 32 ∧ c ≠ 9 ∧ c ≠ 10) : aD (c :: t) = (false, c :: t) := by
  have e : Lib.trimLeftS (c :: t) blanks = c :: t := by
    unfold Lib.trimLeftS
    rw [List.dropWhile_cons_of_neg]
    obtain ⟨a, b, d⟩ := h
    simp [blanks, a, b, d]
  unfold aD
  rw [e, decide_eq_false (Nat.lt_irrefl _)]
end Go.Proofs.YtohgmkjhbacmpaaGreatDoor
set_option linter.unusedVariables false
set_option linter.unusedSimpArgs false
namespace Go.Proofs.YtohgmkjhbacmpaaGreatDoor
open Go Go.Abs Go.RowKit Go.Xml
def Stp (t : Tx) : Prop := t = [] ∨ t.head? = some 60
theorem Stp.KV {t : Tx} (h : Stp t) {p : UInt8 → Bool} (hp : p 60 = false) : t.takeWhile p = [] := by
  rcases h with rfl | h
  · rfl
  · cases t with
    | nil => rfl
    | cons c t => simp at h; subst h; simp [hp]
theorem qU {w s : Tx} (h : w.isPrefixOf s = true) : w.length ≤ s.length := (List.isPrefixOf_iff_prefix.1 h).length_le
theorem Du {w s t : Tx} (h : w.isPrefixOf (s ++ t) = w.isPrefixOf s) : hasF w (s ++ t) = ((hasF w s).1, (hasF w s).2 ++ t) := by
  unfold hasF
  rw [h]
  split
  · rename_i hp
    rw [List.drop_append_of_le_length (qU hp)]
  · rfl
theorem vU {s w : Tx} (h : 0 ≤ Lib.index s w) : (Lib.index s w).toNat + w.length ≤ s.length := by
  induction s with
  | nil =>
    unfold Lib.index at h ⊢
    cases w with
    | nil => simp
    | cons c w => simp at h
  | cons b s ih =>
    unfold Lib.index at h ⊢
    split at h
    · rename_i hp
      rw [if_pos hp]
      simpa using qU hp
    · rename_i hp
      rw [if_neg hp]
      split at h
      · omega
      · rename_i hn
        rw [if_neg hn]
        have hg := Lib.index_ge s w
        have hne : Lib.index s w ≠ -1 := fun e => hn (by rw [e]; rfl)
        have := ih (by omega)
        rw [List.length_cons]
        omega
theorem jE {w s t : Tx} (h : w.length ≤ s.length) : w.isPrefixOf (s ++ t) = w.isPrefixOf s := by
  rw [Bool.eq_iff_iff, List.isPrefixOf_iff_prefix, List.isPrefixOf_iff_prefix]
  exact ⟨fun hp => List.prefix_of_prefix_length_le hp (List.prefix_append s t) h, fun hp => hp.trans (List.prefix_append s t)⟩
theorem EX {s w : Tx} (t : Tx) (h : 0 ≤ Lib.index s w) : Lib.index (s ++ t) w = Lib.index s w := by
  induction s with
  | nil =>
    unfold Lib.index at h
    cases w with
    | nil => cases t <;> simp [Lib.index]
    | cons c w => simp at h
  | cons b s ih =>
    have hl := vU h
    unfold Lib.index at h
    rw [List.cons_append]
    unfold Lib.index
    rw [← List.cons_append, jE (by omega)]
    split at h
    · rename_i hp
      rw [if_pos hp, if_pos hp]
    · rename_i hp
      rw [if_neg hp, if_neg hp]
      split at h
      · omega
      · rename_i hn
        have hg := Lib.index_ge s w
        have hne : Lib.index s w ≠ -1 := fun e => hn (by rw [e]; rfl)
        rw [ih (by omega)]
theorem uX {s : Tx} {c : UInt8} (t : Tx) (h : 0 ≤ Lib.indexByte s c) : Lib.indexByte (s ++ t) c = Lib.indexByte s c ∧ (Lib.indexByte s c).toNat + 1 ≤ s.length := by
  induction s with
  | nil => exact absurd h (by unfold Lib.indexByte; decide)
  | cons b s ih =>
    rw [List.cons_append]
    unfold Lib.indexByte at h ⊢
    split at h
    · rename_i hp
      rw [if_pos hp, if_pos hp]
      exact ⟨rfl, by simp⟩
    · rename_i hp
      rw [if_neg hp, if_neg hp]
      split at h
      · omega
      · rename_i hn
        have hg := Lib.indexByte_ge s c
        have hne : Lib.indexByte s c ≠ -1 := fun e => hn (by rw [e]; rfl)
        obtain ⟨h1, h2⟩ := ih (by omega)
        rw [h1, if_neg hn]
        exact ⟨rfl, by rw [List.length_cons]; omega⟩
theorem mI {w s v s' : Tx} (t : Tx) (h : aQ w s = .ok (v, s')) : aQ w (s ++ t) = .ok (v, s' ++ t) := by
  unfold aQ Lib.cut at h ⊢
  by_cases hi : 0 ≤ Lib.index s w
  · have hl := vU hi
    rw [if_pos hi] at h
    rw [EX t hi, if_pos hi]
    simp only [if_true] at h ⊢
    injection h with h
    injection h with h1 h2
    rw [← h1, ← h2, List.take_append_of_le_length (by omega), List.drop_append_of_le_length (by omega)]
  · rw [if_neg hi] at h
    simp at h
theorem Aq {s v s' : Tx} (t : Tx) (h : refF s = .ok (v, s')) : refF (s ++ t) = .ok (v, s' ++ t) := by
  unfold refF at h ⊢
  by_cases hi : Lib.indexByte s 59 < 0
  · rw [if_pos hi] at h; cases h
  · obtain ⟨h1, h2⟩ := uX t (s := s) (c := 59) (by omega)
    rw [if_neg hi] at h
    rw [h1, if_neg hi, List.take_append_of_le_length (by omega), List.drop_append_of_le_length h2]
    cases hx : refX (s.take (Lib.indexByte s 59).toNat) with
    | error e => rw [hx] at h; cases h
    | ok y =>
      rw [hx] at h
      injection h with h
      injection h with h3 h4
      show Except.ok (y, _) = _
      rw [h3, h4]
theorem GU {s t : Tx} {i : Nat} (h : i < s.length) (d : UInt8) : (s ++ t).getD i d = s.getD i d := by
  rw [List.getD_eq_getElem?_getD, List.getD_eq_getElem?_getD, List.getElem?_append_left h]
end Go.Proofs.YtohgmkjhbacmpaaGreatDoor
set_option linter.unusedVariables false
set_option linter.unusedSimpArgs false
namespace Go.Proofs.YtohgmkjhbacmpaaGreatDoor
open Go Go.Abs Go.RowKit Go.Xml
theorem vV {r r' : RS} {n : Nd} {i : Nat} (h : addF n r = .ok (i, r')) : r'.s = r.s := by
  unfold addF at h
  split at h
  · cases h
  · split at h <;> (injection h with h; injection h with _ h; rw [← h])
theorem Dv {r r' : RS} {n : Nd} {i : Nat} {x : Tx} (y : Tx) (h : addF n { r with s := x } = .ok (i, r')) : addF n { r with s := y } = .ok (i, { r' with s := y }) := GD (r := { r with s := x }) y h
theorem Cw {r r' : RS} {t : Tx} (h : aR t r = .ok r') : r'.s = r.s := by
  have h1 := nV r.s h
  have e : ({ r with s := r.s } : RS) = r := rfl
  rw [e, h] at h1
  injection h1 with h1
  rw [h1]
theorem pG {r r' : RS} {n : Nd} {s t : Tx} (h : (if r.stk = [] then (.ok { r with s := s } : Ex RS) else match addF n { r with s := s } with | .error e => .error e | .ok (_, r') => .ok r') = .ok r') :
    (if r.stk = [] then (.ok { r with s := s ++ t } : Ex RS) else match addF n { r with s := s ++ t } with | .error e => .error e | .ok (_, r') => .ok r') = .ok { r' with s := r'.s ++ t } := by
  split at h
  · rename_i h1
    rw [if_pos h1]
    injection h with h
    rw [← h]
  · rename_i h1
    rw [if_neg h1]
    cases hd : addF n { r with s := s } with
    | error e => rw [hd] at h; cases h
    | ok z =>
      obtain ⟨a, r1⟩ := z
      rw [hd] at h
      rw [Dv (s ++ t) hd]
      have hk := vV hd
      dsimp only at h hk ⊢
      injection h with h
      rw [← h, hk]
theorem vW {r r' : RS} {s t v : Tx} (h : aR v { r with s := s } = .ok r') : aR v { r with s := s ++ t } = .ok { r' with s := r'.s ++ t } := by
  have h1 := nV (s ++ t) h
  have h2 := Cw h
  dsimp only at h1 h2
  rw [h1, h2]
end Go.Proofs.YtohgmkjhbacmpaaGreatDoor
set_option linter.unusedVariables false
set_option linter.unusedSimpArgs false
namespace Go.Proofs.YtohgmkjhbacmpaaGreatDoor
open Go Go.Abs Go.RowKit Go.Xml
inductive Steps : RS → RS → Prop
  | refl (r : RS) : Steps r r
  | step {r r1 r2 : RS} (hs : r.s ≠ []) (h : aP r = .ok r1) (t : Steps r1 r2) : Steps r r2
theorem Steps.trans {a b c : RS} (h : Steps a b) (h2 : Steps b c) : Steps a c := by
  induction h with
  | refl => exact h2
  | step hs h _ ih => exact .step hs h (ih h2)
theorem tJ : ∀ (f : Nat) {r r' : RS}, allR f r = .ok r' → r'.s = [] ∧ Steps r r'
  | 0, r, r', h => by
    unfold allR at h
    split at h
    · rename_i hs
      injection h with h; subst h
      exact ⟨hs, .refl _⟩
    · cases h
  | f + 1, r, r', h => by
    unfold allR at h
    split at h
    · rename_i hs
      injection h with h; subst h
      exact ⟨hs, .refl _⟩
    · rename_i hs
      cases hx : aP r with
      | error e => rw [hx] at h; cases h
      | ok r1 =>
        rw [hx] at h
        obtain ⟨h1, h2⟩ := tJ f h
        exact ⟨h1, .step hs hx h2⟩
theorem Steps.run {r r' : RS} (h : Steps r r') : ∀ (f : Nat), RI r → r.s.length ≤ f → ∃ f', r'.s.length ≤ f' ∧ allR f r = allR f' r' ∧ RI r' := by
  induction h with
  | refl r => exact fun f hI hf => ⟨f, hf, rfl, hI⟩
  | @step r r1 r2 hs h _ ih =>
    intro f hI hf
    obtain ⟨hI1, hl⟩ := kM hI hs h
    obtain ⟨f0, rfl⟩ : ∃ f0, f = f0 + 1 := ⟨f - 1, by have := List.length_pos_iff.2 hs; omega⟩
    obtain ⟨f', h1, h2, h3⟩ := ih f0 hI1 (by omega)
    refine ⟨f', h1, ?_, h3⟩
    rw [← h2]
    show (if r.s = [] then (Except.ok r : Ex RS) else _) = _
    rw [if_neg hs, h]
theorem iD {f : Nat} {r : RS} (h : r.s = []) : allR f r = .ok r := by
  cases f <;> (unfold allR; rw [if_pos h])
def shN (a : Nat) (n : Nd) : Nd := { n with par := if n.par < 0 then 0 else n.par + a, kids := n.kids.map (· + a) }
def shK (a : Nat) (l : List (Nat × Tx)) : List (Nat × Tx) := l.map fun x => (x.1 + a, x.2)
structure Zed (k : Nat) (P : List Nd) : Prop where
  head : ∃ n0 rest, P = n0 :: rest ∧ n0.dcls = []
  kinds : ∀ (i : Nat) (n : Nd), k ≤ i → P[i]? = some n → n.kind ≠ 1
  len : k ≤ P.length
theorem jZ (P L : List Nd) (i : Nat) (f : Nd → Nd) : (P ++ L).modify (i + P.length) f = P ++ L.modify i f := by
  induction P with
  | nil => simp
  | cons p P ih =>
    rw [List.cons_append, List.length_cons, ← Nat.add_assoc, List.modify_succ_cons, ih]
    rfl
theorem jo (a : Nat) (f g : Nd → Nd) (h : ∀ n, g (shN a n) = shN a (f n)) : ∀ (L : List Nd) (i : Nat), (L.map (shN a)).modify i g = (L.modify i f).map (shN a)
  | [], i => by simp
  | n :: L, 0 => by simp [h]
  | n :: L, i + 1 => by
    rw [List.map_cons, List.modify_succ_cons, List.modify_succ_cons, List.map_cons, jo a f g h L i]
theorem GX (P L : List Nd) (p c : Nat) : aJ (P ++ L.map (shN P.length)) (p + P.length) (c + P.length) = P ++ (aJ L p c).map (shN P.length) := by
  unfold aJ
  rw [jZ, jo P.length (fun n => { n with kids := n.kids ++ [c] })]
  intro n
  simp [shN]
theorem Ar (n0 : Nd) (P X : List Nd) (c : Nat) : aJ (n0 :: P ++ X) 0 c = aJ (n0 :: P) 0 c ++ X := by
  simp [aJ]
theorem Cy (P L : List Nd) (i : Nat) : (P ++ L.map (shN P.length))[i + P.length]? = (L[i]?).map (shN P.length) := by
  rw [List.getElem?_append_right (by omega), Nat.add_sub_cancel, List.getElem?_map]
theorem Au (a : Nat) (x : Nat × Tx) (l : List (Nat × Tx)) (h : l ≠ []) : (x :: shK a l).getLast? = (l.getLast?).map fun x => (x.1 + a, x.2) := by
  unfold shK
  rw [List.getLast?_cons, List.getLast?_map]
  cases hl : l.getLast? with
  | none => exact absurd (List.getLast?_eq_none_iff.1 hl) h
  | some y => rfl
structure In2 (k : Nat) (zn : Tx) (P : List Nd) (r r2 : RS) : Prop where
  s : r2.s = r.s
  done2 : r2.done = true
  zed : Zed k P
  stk0 : r.stk ≠ []
  done : r.done = true
  stk : r2.stk = (0, zn) :: shK P.length r.stk
  ns : r2.ns = P ++ r.ns.map (shN P.length)
  kid : ∃ n0, P[0]? = some n0 ∧ n0.kids.getLast? = some P.length
  root : ∃ n, r.ns[0]? = some n ∧ n.kind = 1
theorem In2.less {k : Nat} {zn : Tx} {P : List Nd} {r r2 : RS} (h : In2 k zn P r r2) (x : Tx) : In2 k zn P { r with s := x } { r2 with s := x } := ⟨rfl, h.done2, h.zed, h.stk0, h.done, h.stk, h.ns, h.kid, h.root⟩
theorem In2.last {k : Nat} {zn : Tx} {P : List Nd} {r r2 : RS} (h : In2 k zn P r r2) : r2.stk.getLast? = (r.stk.getLast?).map fun x => (x.1 + P.length, x.2) := by rw [h.stk, Au _ _ _ h.stk0]
theorem In2.space {k : Nat} {zn : Tx} {P : List Nd} {r r2 : RS} (h : In2 k zn P r r2) (p : Tx) (ds : List Dcl) : aK r2 p ds = aK r p ds := by
  have ho : ∀ l : List (Nat × Tx), outer r2.ns p (shK P.length l ++ [(0, zn)]) = outer r.ns p l := by
    intro l
    induction l with
    | nil =>
      obtain ⟨n0, rest, hP, hd⟩ := h.zed.head
      show (match findD p ((r2.ns[0]?.map (·.dcls)).getD []) with | some u => some u | none => none) = none
      rw [h.ns, hP]
      show (match findD p n0.dcls with | some u => some u | none => none) = none
      rw [hd]
      rfl
    | cons x l ih =>
      obtain ⟨a, nm⟩ := x
      show (match findD p ((r2.ns[a + P.length]?.map (·.dcls)).getD []) with | some u => some u | none => outer r2.ns p (shK P.length l ++ [(0, zn)])) = (match findD p ((r.ns[a]?.map (·.dcls)).getD []) with | some u => some u | none => outer r.ns p l)
      rw [ih, h.ns, Cy]
      cases r.ns[a]? <;> rfl
  have hr : r2.stk.reverse = shK P.length r.stk.reverse ++ [(0, zn)] := by
    rw [h.stk, List.reverse_cons]
    unfold shK
    rw [List.map_reverse]
  unfold aK
  rw [hr, ho]
theorem tK {r r2 : RS} (h : ∀ p ds, aK r2 p ds = aK r p ds) (ds : List Dcl) : ∀ (l acc : List Att), eZ r2 ds acc l = eZ r ds acc l
  | [], acc => rfl
  | a :: l, acc => by
    unfold eZ
    rw [h, tK h ds l, tK h ds l]
theorem tL {r r2 : RS} (h : ∀ p ds, aK r2 p ds = aK r p ds) (n : Nd) : bg r2 n = bg r n := by
  unfold bg
  rw [h, tK h]
theorem Cz {ns : List Nd} {p c : Nat} {m : Nd} (h : ∃ n, ns[0]? = some n ∧ n.kind = 1) : ∃ n, (aJ ns p c ++ [m])[0]? = some n ∧ n.kind = 1 := by
  obtain ⟨n, h1, h2⟩ := h
  obtain ⟨n', g1, g2, _, _⟩ := Ext.aJ ns p c m 0 n h1
  exact ⟨n', g1, by rw [g2]; exact h2⟩
theorem In2.add {k : Nat} {zn : Tx} {P : List Nd} {r r2 r' : RS} {n : Nd} {i : Nat} (h : In2 k zn P r r2) (hn : n.kids = []) (ha : addF n r = .ok (i, r')) :
    addF n r2 = .error 33 ∨ ∃ r2', addF n r2 = .ok (i + P.length, r2') ∧ In2 k zn P r' r2' := by
  obtain ⟨p, nm, hl⟩ := fF h.stk0
  obtain ⟨rfl, rfl⟩ := lG hl ha
  have hl2 : r2.stk.getLast? = some (p + P.length, nm) := by rw [h.last, hl]; rfl
  have hlen : r2.ns.length = r.ns.length + P.length := by rw [h.ns, List.length_append, List.length_map]; omega
  unfold addF
  rw [hl2]
  by_cases h4 : r2.ns.length = 4096
  · left; rw [if_pos h4]
  · right
    rw [if_neg h4]
    refine ⟨{ r2 with ns := aJ r2.ns (p + P.length) r2.ns.length ++ [{ n with par := ((p + P.length : Nat) : Int) }] }, by rw [hlen], ⟨h.s, h.done2, h.zed, h.stk0, h.done, h.stk, ?_, h.kid, Cz h.root⟩⟩
    show aJ r2.ns (p + P.length) r2.ns.length ++ [{ n with par := ((p + P.length : Nat) : Int) }] = P ++ (aJ r.ns p r.ns.length ++ [{ n with par := ((p : Nat) : Int) }]).map (shN P.length)
    rw [hlen, h.ns, GX, List.map_append, List.append_assoc]
    congr 3
    simp only [List.map_cons, List.map_nil, shN, hn]
    rw [if_neg (by omega)]
    simp
theorem Av (P L : List Nd) (p : Nat) : bK (P ++ L.map (shN P.length)) (p + P.length) = (bK L p).map (· + P.length) := by
  unfold bK
  rw [Cy]
  cases hp : L[p]? with
  | none => rfl
  | some n =>
    show (match (n.kids.map (· + P.length)).getLast? with | some c => _ | none => _) = _
    rw [List.getLast?_map]
    show _ = Option.map _ (match n.kids.getLast? with | some c => _ | none => _)
    cases hc : n.kids.getLast? with
    | none => rfl
    | some c =>
      show (if ((P ++ L.map (shN P.length))[c + P.length]?.map (·.kind)) = some 2 then some (c + P.length) else none) = Option.map _ (if (L[c]?.map (·.kind)) = some 2 then some c else none)
      rw [Cy]
      have e : ((L[c]?.map (shN P.length)).map (·.kind)) = L[c]?.map (·.kind) := by cases L[c]? <;> rfl
      rw [e]
      split <;> rfl
theorem In2.text {k : Nat} {zn : Tx} {P : List Nd} {r r2 r' : RS} {t : Tx} (h : In2 k zn P r r2) (ha : aR t r = .ok r') : aR t r2 = .error 33 ∨ ∃ r2', aR t r2 = .ok r2' ∧ In2 k zn P r' r2' := by
  obtain ⟨p, nm, hl⟩ := fF h.stk0
  have hl2 : r2.stk.getLast? = some (p + P.length, nm) := by rw [h.last, hl]; rfl
  unfold aR at ha ⊢
  split at ha
  · rename_i h0
    injection ha with ha; subst ha
    right
    rw [if_pos h0]
    exact ⟨_, rfl, h⟩
  rename_i h0
  rw [if_neg h0, hl2]
  rw [hl] at ha
  dsimp only at ha ⊢
  rw [h.ns, Av]
  cases hx : bK r.ns p with
  | some c =>
    rw [hx] at ha
    injection ha with ha; subst ha
    right
    refine ⟨_, rfl, ⟨h.s, h.done2, h.zed, h.stk0, h.done, h.stk, ?_, h.kid, ?_⟩⟩
    · show ((P ++ r.ns.map (shN P.length)).modify (c + P.length) fun n => { n with val := n.val ++ t }) = P ++ (r.ns.modify c fun n => { n with val := n.val ++ t }).map (shN P.length)
      rw [jZ, jo P.length (fun n => { n with val := n.val ++ t })]
      intro n; rfl
    · obtain ⟨n, h1, h2⟩ := h.root
      show ∃ m, (r.ns.modify c fun n => { n with val := n.val ++ t })[0]? = some m ∧ m.kind = 1
      rw [List.getElem?_modify, h1]
      exact ⟨_, rfl, by dsimp only; split <;> exact h2⟩
  | none =>
    rw [hx] at ha
    cases hd : addF { nd0 with kind := 2, val := t } r with
    | error e => rw [hd] at ha; cases ha
    | ok y =>
      obtain ⟨i, r1⟩ := y
      rw [hd] at ha
      injection ha with ha; subst ha
      rcases h.add (by rfl) hd with h1 | ⟨r2', h1, h2⟩
      · left
        show (match addF { nd0 with kind := 2, val := t } r2 with | .ok (_, r') => (.ok r' : Ex RS) | .error e => .error e) = _
        rw [h1]
      · right
        refine ⟨r2', ?_, h2⟩
        show (match addF { nd0 with kind := 2, val := t } r2 with | .ok (_, r') => (.ok r' : Ex RS) | .error e => .error e) = _
        rw [h1]
end Go.Proofs.YtohgmkjhbacmpaaGreatDoor
set_option linter.unusedVariables false
set_option linter.unusedSimpArgs false
namespace Go.Proofs.YtohgmkjhbacmpaaGreatDoor
open Go Go.Abs Go.RowKit Go.Xml
def gZ (x : Ex RS) : Prop := x = .error 32 ∨ x = .error 33
structure Out3 (k a : Nat) (zn : Tx) (r r2 : RS) : Prop where
  s : r2.s = r.s
  done2 : r2.done = true
  stk0 : r.stk = []
  done : r.done = true
  stk : r2.stk = [(0, zn)]
  ns : ∃ P T, Zed k P ∧ P.length = a ∧ r2.ns = P ++ (r.ns.map (shN a) ++ T) ∧ ∃ n0 c, P[0]? = some n0 ∧ n0.kids.getLast? = some c ∧ (c = a ∨ a + r.ns.length ≤ c)
  root : ∃ n, r.ns[0]? = some n ∧ n.kind = 1
structure In1 (k : Nat) (zn : Tx) (r r2 : RS) : Prop where
  s : r2.s = r.s
  done2 : r2.done = true
  stk0 : r.stk = []
  done : r.done = false
  ns : r.ns = []
  stk : r2.stk = [(0, zn)]
  zed : Zed k r2.ns
theorem qV {w s : Tx} (h : (hasF w s).1 = true) : s = w ++ (hasF w s).2 := by
  unfold hasF at h ⊢
  split at h
  · rename_i hp
    rw [if_pos hp]
    obtain ⟨t, rfl⟩ := List.isPrefixOf_iff_prefix.1 hp
    simp
  · cases h
theorem EY {k : Nat} {zn : Tx} {P : List Nd} {r r2 : RS} (h : In2 k zn P r r2) : ∃ p nm, r.stk.getLast? = some (p, nm) ∧ r2.stk.getLast? = some (p + P.length, nm) := by
  obtain ⟨p, nm, hl⟩ := fF h.stk0
  exact ⟨p, nm, hl, by rw [h.last, hl]; rfl⟩
theorem In2.stk2 {k : Nat} {zn : Tx} {P : List Nd} {r r2 : RS} (h : In2 k zn P r r2) : r2.stk ≠ [] := by rw [h.stk]; simp
theorem In2.start {k : Nat} {zn : Tx} {P : List Nd} {r r2 r' : RS} (h : In2 k zn P r r2) (ha : aZ r = .ok r') : gZ (aZ r2) ∨ ∃ r2', aZ r2 = .ok r2' ∧ In2 k zn P r' r2' := by
  unfold aZ at ha ⊢
  rw [if_neg (by simp [h.stk0])] at ha
  rw [if_neg (by simp [h.stk2]), h.s]
  cases hn : bC r.s with
  | error e => rw [hn] at ha; cases ha
  | ok x =>
    obtain ⟨nm, s1⟩ := x
    rw [hn] at ha
    dsimp only at ha ⊢
    cases hat : bE (s1.length + 1) [] (dF nm) s1 with
    | error e => rw [hat] at ha; cases ha
    | ok y =>
      obtain ⟨nms, n, s2⟩ := y
      rw [hat] at ha
      dsimp only at ha ⊢
      split at ha
      · cases ha
      rename_i h1
      rw [if_neg h1]
      split at ha
      · cases ha
      rename_i h2
      rw [if_neg h2]
      split at ha
      · cases ha
      rename_i h3
      rw [if_neg h3, tL h.space]
      cases hs : bg r n with
      | error e => rw [hs] at ha; cases ha
      | ok n' =>
        rw [hs] at ha
        dsimp only at ha ⊢
        split at ha
        · cases ha
        rename_i h4
        have hl : r2.stk.length = r.stk.length + 1 := by rw [h.stk]; simp [shK]
        by_cases h5 : r2.stk.length = 32
        · left; rw [if_pos h5]; exact .inl rfl
        rw [if_neg h5]
        cases hd : addF n' { r with s := (hasF [62] (hasF [47] s2).2).2 } with
        | error e => rw [hd] at ha; cases ha
        | ok z =>
          obtain ⟨a, r1⟩ := z
          rw [hd] at ha
          dsimp only at ha
          injection ha with ha
          have hkids : n'.kids = [] := by
            obtain ⟨_, _, _, _, g⟩ := mH hs
            obtain ⟨g4, _⟩ := g
            rw [g4]
            obtain ⟨_, _, _, g5⟩ := jf _ hat
            rw [g5]
            exact (oo hn).2.2
          rcases (h.less (hasF [62] (hasF [47] s2).2).2).add hkids hd with g | ⟨r2', g1, g2⟩
          · left; right
            rw [g]
          · right
            rw [g1]
            refine ⟨_, rfl, ?_⟩
            rw [← ha]
            refine ⟨g2.s, rfl, g2.zed, ?_, rfl, ?_, g2.ns, g2.kid, g2.root⟩
            · dsimp only
              split
              · exact g2.stk0
              · simp
            · dsimp only
              split
              · exact g2.stk
              · rw [g2.stk]
                simp [shK]
theorem In2.leaf {k : Nat} {zn : Tx} {P : List Nd} {r r2 r' : RS} {n : Nd} {x : Tx} (h : In2 k zn P r r2) (hn : n.kids = []) (ha : (if r.stk = [] then (.ok { r with s := x } : Ex RS) else match addF n { r with s := x } with | .error e => .error e | .ok (_, r') => .ok r') = .ok r') :
    gZ (if r2.stk = [] then (.ok { r2 with s := x } : Ex RS) else match addF n { r2 with s := x } with | .error e => .error e | .ok (_, r') => .ok r') ∨ ∃ r2', (if r2.stk = [] then (.ok { r2 with s := x } : Ex RS) else match addF n { r2 with s := x } with | .error e => .error e | .ok (_, r') => .ok r') = .ok r2' ∧ In2 k zn P r' r2' := by
  rw [if_neg h.stk0] at ha
  rw [if_neg h.stk2]
  cases hd : addF n { r with s := x } with
  | error e => rw [hd] at ha; cases ha
  | ok z =>
    obtain ⟨a, r1⟩ := z
    rw [hd] at ha
    injection ha with ha; subst ha
    rcases (h.less x).add hn hd with g | ⟨r2', g1, g2⟩
    · left; right; rw [g]
    · right; rw [g1]; exact ⟨_, rfl, g2⟩
theorem In2.comment {k : Nat} {zn : Tx} {P : List Nd} {r r2 r' : RS} (h : In2 k zn P r r2) (ha : aO r = .ok r') : gZ (aO r2) ∨ ∃ r2', aO r2 = .ok r2' ∧ In2 k zn P r' r2' := by
  unfold aO at ha ⊢
  rw [h.s]
  cases hu : aQ [45, 45] r.s with
  | error e => rw [hu] at ha; cases ha
  | ok z =>
    obtain ⟨v, s1⟩ := z
    rw [hu] at ha
    dsimp only at ha ⊢
    split at ha
    · rename_i h1
      rw [if_pos h1]
      exact h.leaf rfl ha
    · cases ha
theorem In2.proc {k : Nat} {zn : Tx} {P : List Nd} {r r2 r' : RS} (h : In2 k zn P r r2) (ha : dx r = .ok r') : gZ (dx r2) ∨ ∃ r2', dx r2 = .ok r2' ∧ In2 k zn P r' r2' := by
  unfold dx at ha ⊢
  rw [h.s]
  cases hn : bC r.s with
  | error e => rw [hn] at ha; cases ha
  | ok y =>
    obtain ⟨nm, s1⟩ := y
    rw [hn] at ha
    dsimp only at ha ⊢
    split at ha
    · cases ha
    rename_i h1
    rw [if_neg h1]
    split at ha
    · rename_i h2
      rw [if_pos h2]
      exact h.leaf rfl ha
    · rename_i h2
      rw [if_neg h2]
      split at ha
      · rename_i h3
        rw [if_pos h3]
        cases hu : aQ [63, 62] (aD s1).2 with
        | error e => rw [hu] at ha; cases ha
        | ok z =>
          obtain ⟨v, s2⟩ := z
          rw [hu] at ha
          exact h.leaf rfl ha
      · cases ha
theorem In2.endT {k : Nat} {zn : Tx} {P : List Nd} {r r2 r' : RS} (h : In2 k zn P r r2) (ha : endF r = .ok r') : ∃ r2', endF r2 = .ok r2' ∧ (In2 k zn P r' r2' ∨ Out3 k P.length zn r' r2') := by
  obtain ⟨p, nm, hl, hl2⟩ := EY h
  unfold endF at ha ⊢
  rw [hl] at ha
  rw [hl2, h.s]
  dsimp only at ha ⊢
  cases hn : bC r.s with
  | error e => rw [hn] at ha; cases ha
  | ok y =>
    obtain ⟨z, s1⟩ := y
    rw [hn] at ha
    dsimp only at ha ⊢
    split at ha
    · rename_i h1
      rw [if_pos h1]
      refine ⟨_, rfl, ?_⟩
      injection ha with ha; subst ha
      by_cases h2 : r.stk.dropLast = []
      · right
        refine ⟨rfl, h.done2, h2, h.done, ?_, ⟨P, [], h.zed, rfl, by rw [List.append_nil]; exact h.ns, ?_⟩, h.root⟩
        · show r2.stk.dropLast = _
          rw [h.stk]
          unfold shK
          have h3 : r.stk.length = 1 := by
            have := congrArg List.length h2
            rw [List.length_dropLast] at this
            have h4 := List.length_pos_iff.2 h.stk0
            simp at this; omega
          obtain ⟨x, hx⟩ := List.length_eq_one_iff.1 h3
          rw [hx]; rfl
        · obtain ⟨n0, g1, g2⟩ := h.kid
          exact ⟨n0, _, g1, g2, .inl rfl⟩
      · left
        refine ⟨rfl, h.done2, h.zed, h2, h.done, ?_, h.ns, h.kid, h.root⟩
        show r2.stk.dropLast = _
        rw [h.stk]
        unfold shK
        rw [List.map_dropLast, List.dropLast_cons_of_ne_nil (by simp [h.stk0])]
    · cases ha
theorem In2.step {k : Nat} {zn : Tx} {P : List Nd} {r r2 r' : RS} (h : In2 k zn P r r2) (ha : aP r = .ok r') : gZ (aP r2) ∨ ∃ r2', aP r2 = .ok r2' ∧ (In2 k zn P r' r2' ∨ Out3 k P.length zn r' r2') := by
  have lift : ∀ {x : Ex RS}, (gZ x ∨ ∃ r2', x = .ok r2' ∧ In2 k zn P r' r2') → (gZ x ∨ ∃ r2', x = .ok r2' ∧ (In2 k zn P r' r2' ∨ Out3 k P.length zn r' r2')) := fun hx => by
    rcases hx with g | ⟨r2', g1, g2⟩
    · exact .inl g
    · exact .inr ⟨r2', g1, .inl g2⟩
  have text : ∀ {t x : Tx}, aR t { r with s := x } = .ok r' → (gZ (aR t { r2 with s := x }) ∨ ∃ r2', aR t { r2 with s := x } = .ok r2' ∧ In2 k zn P r' r2') := fun hx => by
    rcases (h.less _).text hx with g | ⟨r2', g1, g2⟩
    · exact .inl (.inr g)
    · exact .inr ⟨r2', g1, g2⟩
  unfold aP at ha ⊢
  rw [h.s]
  split at ha
  · rename_i h1
    rw [if_pos h1]
    unfold gq at ha ⊢
    rw [h.s]
    split at ha
    · rename_i g1
      rw [if_pos g1]
      exact lift ((h.less _).comment ha)
    rename_i g1
    rw [if_neg g1, if_neg (by simp [h.stk2])]
    rw [if_neg (by simp [h.stk0])] at ha
    split at ha
    · rename_i g2
      rw [if_pos ⟨h.stk2, g2.2⟩]
      cases hu : aQ [93, 93, 62] (hasF fI r.s).2 with
      | error e => rw [hu] at ha; cases ha
      | ok z =>
        obtain ⟨v, s1⟩ := z
        rw [hu] at ha
        exact lift (text ha)
    rename_i g2
    rw [if_neg (fun g => g2 ⟨h.stk0, g.2⟩)]
    split at ha
    · rename_i g3
      rw [if_pos g3]
      exact lift ((h.less _).proc ha)
    rename_i g3
    rw [if_neg g3]
    split at ha
    · rename_i g4
      rw [if_pos g4]
      exact .inr ((h.less _).endT ha)
    rename_i g4
    rw [if_neg g4]
    split at ha
    · rename_i g5
      rw [if_pos g5]
      exact lift ((h.less _).start ha)
    · rename_i g5
      rw [if_neg g5]
      injection ha with ha; subst ha
      exact .inr ⟨_, rfl, .inl h⟩
  rename_i h1
  rw [if_neg h1]
  split at ha
  · rename_i h2
    rw [if_pos ⟨h.stk2, h2.2⟩]
    cases hx : refF (hasF [38] r.s).2 with
    | error e => rw [hx] at ha; cases ha
    | ok z =>
      obtain ⟨v, s1⟩ := z
      rw [hx] at ha
      exact lift (text ha)
  rename_i h2
  rw [if_neg (fun g => h2 ⟨h.stk0, g.2⟩)]
  split at ha
  · cases ha
  rename_i h3
  rw [if_neg h3]
  unfold dw at ha ⊢
  rw [if_neg h.stk0] at ha
  rw [if_neg h.stk2, h.s]
  split at ha
  · cases ha
  rename_i h4
  rw [if_neg h4]
  cases hx : aR (r.s.take (upTo r.s [60, 38])) r with
  | error e => rw [hx] at ha; cases ha
  | ok r1 =>
    rw [hx] at ha
    injection ha with ha; subst ha
    rcases h.text hx with g | ⟨r2', g1, g2⟩
    · left; right; rw [g]
    · right
      rw [g1]
      exact ⟨_, rfl, .inl (g2.less _)⟩
end Go.Proofs.YtohgmkjhbacmpaaGreatDoor
set_option linter.unusedVariables false
set_option linter.unusedSimpArgs false
namespace Go.Proofs.YtohgmkjhbacmpaaGreatDoor
open Go Go.Abs Go.RowKit Go.Xml
theorem Zed.kid {k : Nat} {P : List Nd} (h : Zed k P) (c : Nat) : Zed k (aJ P 0 c) := by
  obtain ⟨n0, rest, rfl, hd⟩ := h.head
  refine ⟨⟨_, _, rfl, hd⟩, fun i n hi hn => ?_, by rw [bU]; exact h.len⟩
  rw [pE] at hn
  cases hx : (n0 :: rest)[i]? with
  | none => rw [hx] at hn; cases hn
  | some m =>
    rw [hx] at hn
    have := h.kinds i m hi hx
    simp only [Option.map_some, Option.some.injEq] at hn
    rw [← hn]
    split <;> exact this
theorem Zed.snoc {k : Nat} {P : List Nd} (h : Zed k P) {m : Nd} (hm : m.kind ≠ 1) : Zed k (P ++ [m]) := by
  obtain ⟨n0, rest, rfl, hd⟩ := h.head
  refine ⟨⟨n0, rest ++ [m], rfl, hd⟩, fun i n hi hn => ?_, by rw [List.length_append]; have := h.len; omega⟩
  by_cases hl : i < (n0 :: rest).length
  · rw [List.getElem?_append_left hl] at hn
    exact h.kinds i n hi hn
  · rw [List.getElem?_append_right (by omega)] at hn
    have := List.mem_of_getElem? hn
    rw [List.mem_singleton.1 this]
    exact hm
theorem Zed.mod {k : Nat} {P : List Nd} (h : Zed k P) (c : Nat) (t : Tx) : Zed k (P.modify c fun n => { n with val := n.val ++ t }) := by
  obtain ⟨n0, rest, rfl, hd⟩ := h.head
  refine ⟨?_, fun i n hi hn => ?_, by rw [List.length_modify]; exact h.len⟩
  · cases c with
    | zero => exact ⟨_, _, rfl, hd⟩
    | succ c => exact ⟨_, _, by rw [List.modify_succ_cons], hd⟩
  · rw [List.getElem?_modify] at hn
    cases hx : (n0 :: rest)[i]? with
    | none => rw [hx] at hn; cases hn
    | some m =>
      rw [hx] at hn
      have := h.kinds i m hi hx
      change some _ = some n at hn
      injection hn with hn
      rw [← hn]
      split <;> exact this
theorem addZ {r2 : RS} {zn : Tx} (n : Nd) (hs : r2.stk = [(0, zn)]) : addF n r2 = .error 33 ∨ addF n r2 = .ok (r2.ns.length, { r2 with ns := aJ r2.ns 0 r2.ns.length ++ [{ n with par := ((0 : Nat) : Int) }] }) := by
  unfold addF
  by_cases h4 : r2.ns.length = 4096
  · left; rw [if_pos h4]
  · right; rw [if_neg h4, hs]; rfl
theorem In1.put {k : Nat} {zn : Tx} {r r2 : RS} (h : In1 k zn r r2) {m : Nd} (hm : m.kind ≠ 1) (x : Tx) (c : Nat) : In1 k zn { r with s := x } { r2 with s := x, ns := aJ r2.ns 0 c ++ [m] } :=
  ⟨rfl, h.done2, h.stk0, h.done, h.ns, h.stk, (h.zed.kid c).snoc hm⟩
theorem In1.less {k : Nat} {zn : Tx} {r r2 : RS} (h : In1 k zn r r2) (x : Tx) : In1 k zn { r with s := x } { r2 with s := x } := ⟨rfl, h.done2, h.stk0, h.done, h.ns, h.stk, h.zed⟩
theorem Out3.less {k a : Nat} {zn : Tx} {r r2 : RS} (h : Out3 k a zn r r2) (x : Tx) : Out3 k a zn { r with s := x } { r2 with s := x } := ⟨rfl, h.done2, h.stk0, h.done, h.stk, h.ns, h.root⟩
theorem Out3.put {k a : Nat} {zn : Tx} {r r2 : RS} (h : Out3 k a zn r r2) (m : Nd) (x : Tx) : Out3 k a zn { r with s := x } { r2 with s := x, ns := aJ r2.ns 0 r2.ns.length ++ [m] } := by
  obtain ⟨P, T, hZ, hP, hN, n0, c, h0, hc, hc2⟩ := h.ns
  obtain ⟨m0, rest, hm, hd⟩ := hZ.head
  refine ⟨rfl, h.done2, h.stk0, h.done, h.stk, ⟨aJ P 0 r2.ns.length, T ++ [m], hZ.kid _, by rw [bU]; exact hP, ?_, { m0 with kids := m0.kids ++ [r2.ns.length] }, r2.ns.length, ?_, ?_, .inr ?_⟩, h.root⟩
  · show aJ r2.ns 0 r2.ns.length ++ [m] = _
    rw [hN, hm, Ar, List.append_assoc, List.append_assoc]
  · rw [hm]; rfl
  · simp
  · rw [hN, List.length_append, List.length_append, List.length_map]; dsimp only; omega
theorem Aw {ns : List Nd} {c : Nat} (h : bK ns 0 = some c) : ∃ n0 n, ns[0]? = some n0 ∧ n0.kids.getLast? = some c ∧ ns[c]? = some n ∧ n.kind = 2 := by
  unfold bK at h
  cases h0 : ns[0]? with
  | none => rw [h0] at h; cases h
  | some n0 =>
    rw [h0] at h
    change (match n0.kids.getLast? with | some c => (if ((ns[c]?).map (·.kind)) = some 2 then some c else none) | none => none) = some c at h
    cases h1 : n0.kids.getLast? with
    | none => rw [h1] at h; cases h
    | some d =>
      rw [h1] at h
      dsimp only at h
      split at h
      · rename_i h2
        injection h with h; subst h
        cases h3 : ns[d]? with
        | none => rw [h3] at h2; cases h2
        | some n =>
          rw [h3] at h2
          simp at h2
          exact ⟨n0, n, rfl, h1, rfl, h2⟩
      · cases h
theorem JC {r2 : RS} {zn t : Tx} (hs : r2.stk = [(0, zn)]) (ht : t ≠ []) : aR t r2 = .error 33 ∨ (∃ c, bK r2.ns 0 = some c ∧ aR t r2 = .ok { r2 with ns := r2.ns.modify c fun n => { n with val := n.val ++ t } }) ∨
    aR t r2 = .ok { r2 with ns := aJ r2.ns 0 r2.ns.length ++ [{ nd0 with kind := 2, val := t, par := ((0 : Nat) : Int) }] } := by
  unfold aR
  rw [if_neg ht, hs]
  dsimp only [List.getLast?_singleton]
  cases hx : bK r2.ns 0 with
  | some c => exact .inr (.inl ⟨c, rfl, rfl⟩)
  | none =>
    rcases addZ { nd0 with kind := 2, val := t } hs with g | g
    · left
      show (match addF { nd0 with kind := 2, val := t } r2 with | .ok (_, r') => (.ok r' : Ex RS) | .error e => .error e) = _
      rw [g]
    · right; right
      show (match addF { nd0 with kind := 2, val := t } r2 with | .ok (_, r') => (.ok r' : Ex RS) | .error e => .error e) = _
      rw [g]
      dsimp only
      rw [hs]
theorem In1.text {k : Nat} {zn t : Tx} {r r2 : RS} (h : In1 k zn r r2) (ht : t ≠ []) : aR t r2 = .error 33 ∨ ∃ r2', aR t r2 = .ok r2' ∧ In1 k zn r r2' := by
  rcases JC h.stk ht with g | ⟨c, _, g⟩ | g
  · exact .inl g
  · exact .inr ⟨_, g, h.s, h.done2, h.stk0, h.done, h.ns, h.stk, h.zed.mod c t⟩
  · exact .inr ⟨_, g, h.s, h.done2, h.stk0, h.done, h.ns, h.stk, (h.zed.kid _).snoc (show (2 : Int) ≠ 1 by decide)⟩
theorem Out3.text {k a : Nat} {zn t : Tx} {r r2 : RS} (h : Out3 k a zn r r2) (ht : t ≠ []) : aR t r2 = .error 33 ∨ ∃ r2', aR t r2 = .ok r2' ∧ Out3 k a zn r r2' := by
  rcases JC h.stk ht with g | ⟨c, hc, g⟩ | g
  · exact .inl g
  · right
    refine ⟨_, g, h.s, h.done2, h.stk0, h.done, h.stk, ?_, h.root⟩
    obtain ⟨P, T, hZ, hP, hN, n0, c0, h0, hc0, hc2⟩ := h.ns
    obtain ⟨m0, m, g0, g1, g2, g3⟩ := Aw hc
    obtain ⟨rn, hr, hr1⟩ := h.root
    have hpos : 0 < P.length := by obtain ⟨_, _, e, _⟩ := hZ.head; rw [e]; simp
    have e0 : r2.ns[0]? = some n0 := by rw [hN, List.getElem?_append_left hpos]; exact h0
    rw [e0] at g0
    injection g0 with g0; subst g0
    rw [hc0] at g1
    injection g1 with g1; subst g1
    have hge : a + r.ns.length ≤ c0 := by
      rcases hc2 with rfl | hge
      · exfalso
        have hrl := (List.getElem?_eq_some_iff.1 hr).1
        rw [hN, List.getElem?_append_right (by omega), hP, Nat.sub_self, List.getElem?_append_left (by rw [List.length_map]; omega), List.getElem?_map, hr] at g2
        injection g2 with g2
        rw [← g2] at g3
        simp [shN, hr1] at g3
      · exact hge
    refine ⟨P, T.modify (c0 - a - r.ns.length) fun n => { n with val := n.val ++ t }, hZ, hP, ?_, n0, c0, h0, hc0, .inr hge⟩
    show (r2.ns.modify c0 fun n => { n with val := n.val ++ t }) = _
    rw [hN]
    have e1 : c0 = (c0 - a - r.ns.length + (r.ns.map (shN a)).length) + P.length := by rw [List.length_map, hP]; omega
    conv => lhs; rw [e1]
    rw [jZ, jZ]
  · exact .inr ⟨_, g, by
      have := h.put { nd0 with kind := 2, val := t, par := ((0 : Nat) : Int) } r.s
      exact ⟨h.s, this.done2, this.stk0, this.done, this.stk, this.ns, this.root⟩⟩
theorem GY {r2 : RS} {zn x : Tx} (n : Nd) (hs : r2.stk = [(0, zn)]) :
    gZ (if r2.stk = [] then (.ok { r2 with s := x } : Ex RS) else match addF n { r2 with s := x } with | .error e => .error e | .ok (_, r') => .ok r') ∨
    (if r2.stk = [] then (.ok { r2 with s := x } : Ex RS) else match addF n { r2 with s := x } with | .error e => .error e | .ok (_, r') => .ok r') = .ok { r2 with s := x, ns := aJ r2.ns 0 r2.ns.length ++ [{ n with par := ((0 : Nat) : Int) }] } := by
  rw [if_neg (by simp [hs])]
  rcases addZ (r2 := { r2 with s := x }) n hs with g | g
  · left; right; rw [g]
  · right; rw [g]
theorem GZ {r r2 r' : RS} {zn : Tx} (hs2 : r2.s = r.s) (hs : r2.stk = [(0, zn)]) (h0 : r.stk = []) (ha : aO r = .ok r') :
    gZ (aO r2) ∨ ∃ x m, r' = { r with s := x } ∧ m.kind ≠ 1 ∧ aO r2 = .ok { r2 with s := x, ns := aJ r2.ns 0 r2.ns.length ++ [m] } := by
  unfold aO at ha ⊢
  rw [hs2]
  cases hu : aQ [45, 45] r.s with
  | error e => rw [hu] at ha; cases ha
  | ok z =>
    obtain ⟨v, s1⟩ := z
    rw [hu] at ha
    dsimp only at ha ⊢
    split at ha
    · rename_i h1
      rw [if_pos h1]
      try rw [if_pos h0] at ha
      injection ha with ha
      rcases GY (x := (hasF [62] s1).2) { nd0 with kind := 3, val := v } hs with g | g
      · exact .inl g
      · exact .inr ⟨_, _, ha.symm, by simp [nd0], g⟩
    · cases ha
theorem KW {r r2 r' : RS} {zn : Tx} (hs2 : r2.s = r.s) (hs : r2.stk = [(0, zn)]) (h0 : r.stk = []) (ha : dx r = .ok r') :
    gZ (dx r2) ∨ ∃ x m, r' = { r with s := x } ∧ m.kind ≠ 1 ∧ dx r2 = .ok { r2 with s := x, ns := aJ r2.ns 0 r2.ns.length ++ [m] } := by
  unfold dx at ha ⊢
  rw [hs2]
  cases hn : bC r.s with
  | error e => rw [hn] at ha; cases ha
  | ok y =>
    obtain ⟨nm, s1⟩ := y
    rw [hn] at ha
    dsimp only at ha ⊢
    split at ha
    · cases ha
    rename_i h1
    rw [if_neg h1]
    split at ha
    · rename_i h2
      rw [if_pos h2]
      try rw [if_pos h0] at ha
      injection ha with ha
      rcases GY (x := (hasF [63, 62] s1).2) { nd0 with kind := 4, loc := nm, val := [] } hs with g | g
      · exact .inl g
      · exact .inr ⟨_, _, ha.symm, by simp [nd0], g⟩
    · rename_i h2
      rw [if_neg h2]
      split at ha
      · rename_i h3
        rw [if_pos h3]
        cases hu : aQ [63, 62] (aD s1).2 with
        | error e => rw [hu] at ha; cases ha
        | ok z =>
          obtain ⟨v, s2⟩ := z
          rw [hu] at ha
          dsimp only at ha ⊢
          try rw [if_pos h0] at ha
          injection ha with ha
          rcases GY (x := s2) { nd0 with kind := 4, loc := nm, val := v } hs with g | g
          · exact .inl g
          · exact .inr ⟨_, _, ha.symm, by simp [nd0], g⟩
      · cases ha
theorem vX {p : UInt8 → Bool} : ∀ {l : Tx}, l.dropWhile p = [] → ∀ c ∈ l, p c = true
  | [], _, c, hc => by cases hc
  | d :: l, h, c, hc => by
    by_cases hp : p d = true
    · rw [List.dropWhile_cons_of_pos hp] at h
      rcases List.mem_cons.1 hc with rfl | hc
      · exact hp
      · exact vX h c hc
    · rw [List.dropWhile_cons_of_neg hp] at h; cases h
theorem vY {l : Tx} (h : Lib.trimS l blanks = []) : ∀ c ∈ l, blanks.contains c = true := by
  unfold Lib.trimS Lib.trimLeftS Lib.trimRightS at h
  intro c hc
  have h1 : ∀ d ∈ (l.reverse.dropWhile (blanks.contains ·)).reverse, blanks.contains d = true := by
    intro d hd
    exact vX h d hd
  have h2 : c ∈ l.reverse.takeWhile (blanks.contains ·) ++ l.reverse.dropWhile (blanks.contains ·) := by
    rw [List.takeWhile_append_dropWhile]; exact List.mem_reverse.2 hc
  rcases List.mem_append.1 h2 with h3 | h3
  · have := List.all_takeWhile (p := (blanks.contains ·)) (l := l.reverse)
    exact List.all_eq_true.1 this c h3
  · exact h1 c (List.mem_reverse.2 h3)
theorem index_none {s : Tx} {o : UInt8} {t : Tx} (h : o ∉ s) : Lib.index s (o :: t) = -1 := by
  induction s with
  | nil => rfl
  | cons b s ih =>
    have hb : ¬ o = b := fun e => h (by rw [e]; exact List.mem_cons_self ..)
    have hs : o ∉ s := fun e => h (List.mem_cons_of_mem _ e)
    unfold Lib.index
    rw [if_neg (by rw [List.isPrefixOf_cons_cons]; simp [hb]), ih hs]
    rfl
theorem CB {l : Tx} (h : Lib.trimS l blanks = []) : Lib.contains l [93, 93, 62] = false := by
  unfold Lib.contains
  rw [index_none (fun hm => by have := vY h 93 hm; revert this; decide)]
  rfl
theorem JD {r r2 r' : RS} {zn : Tx} (hs2 : r2.s = r.s) (hs : r2.stk = [(0, zn)]) (hne : r.s ≠ []) (h0 : r.stk = []) (ha : aP r = .ok r') :
    gZ (aP r2) ∨ (∃ x m, r' = { r with s := x } ∧ m.kind ≠ 1 ∧ aP r2 = .ok { r2 with s := x, ns := aJ r2.ns 0 r2.ns.length ++ [m] }) ∨
    (∃ t x, t ≠ [] ∧ r' = { r with s := x } ∧ aP r2 = (match aR t r2 with | .error e => .error e | .ok r'' => .ok { r'' with s := x })) ∨
    (aZ { r with s := (hasF [60] r.s).2 } = .ok r' ∧ aP r2 = aZ { r2 with s := (hasF [60] r.s).2 }) := by
  have hn2 : r2.stk ≠ [] := by rw [hs]; simp
  unfold aP at ha ⊢
  rw [hs2]
  split at ha
  · rename_i h1
    rw [if_pos h1]
    unfold gq at ha ⊢
    rw [hs2]
    split at ha
    · rename_i g1
      rw [if_pos g1]
      rcases GZ (r := { r with s := (hasF [60, 33, 45, 45] r.s).2 }) (r2 := { r2 with s := (hasF [60, 33, 45, 45] r.s).2 }) rfl hs h0 ha with g | ⟨x, m, a1, a2, a3⟩
      · exact .inl g
      · exact .inr (.inl ⟨x, m, a1, a2, a3⟩)
    rename_i g1
    rw [if_neg g1, if_neg (by simp [hn2])]
    split at ha
    · cases ha
    rename_i g1'
    rw [if_neg (by simp [h0])] at ha
    by_cases g2 : (hasF fI r.s).1 = true
    · exfalso
      have e := qV g2
      generalize (hasF fI r.s).2 = y at e
      rw [e] at ha
      change aZ { r with s := 33 :: 91 :: 67 :: 68 :: 65 :: 84 :: 65 :: 91 :: y } = .ok r' at ha
      unfold aZ at ha
      split at ha
      · cases ha
      · have hnm : bC (33 :: 91 :: 67 :: 68 :: 65 :: 84 :: 65 :: 91 :: y) = .error 10 := rfl
        dsimp only at ha
        rw [hnm] at ha
        cases ha
    rw [if_neg (fun g => g2 g.2)]
    split at ha
    · rename_i g3
      rw [if_pos g3]
      rcases KW (r := { r with s := (hasF [60, 63] r.s).2 }) (r2 := { r2 with s := (hasF [60, 63] r.s).2 }) rfl hs h0 ha with g | ⟨x, m, a1, a2, a3⟩
      · exact .inl g
      · exact .inr (.inl ⟨x, m, a1, a2, a3⟩)
    rename_i g3
    rw [if_neg g3]
    split at ha
    · rename_i g4
      exfalso
      unfold endF at ha
      dsimp only at ha
      rw [h0] at ha
      cases ha
    rename_i g4
    rw [if_neg g4]
    split at ha
    · rename_i g5
      rw [if_pos g5]
      exact .inr (.inr (.inr ⟨ha, rfl⟩))
    · rename_i g5
      exfalso
      apply g5
      cases hr : r.s with
      | nil => exact absurd hr hne
      | cons c s => rw [hr] at h1; simp at h1; subst h1; simp [hasF]
  rename_i h1
  rw [if_neg h1]
  rw [if_neg (by simp [h0])] at ha
  split at ha
  · cases ha
  rename_i h3
  have h38 : (hasF [38] r.s).1 = false := by
    cases hr : r.s with
    | nil => exact absurd hr hne
    | cons c s =>
      rw [hr] at h3
      simp at h3
      simp [hasF, List.isPrefixOf, Ne.symm h3]
  rw [if_neg (fun g => by rw [h38] at g; exact absurd g.2 (by decide)), if_neg h3]
  unfold dw at ha ⊢
  rw [if_pos h0] at ha
  rw [if_neg hn2, hs2]
  split at ha
  · rename_i h4
    injection ha with ha
    rw [if_neg (by rw [CB h4]; decide)]
    refine .inr (.inr (.inl ⟨_, _, ?_, ha.symm, rfl⟩))
    intro e
    obtain ⟨c, s, hr⟩ := List.exists_cons_of_ne_nil hne
    have hp : 0 < upTo r.s [60, 38] := Af (c := c) (by rw [hr]; rfl) (by
      rw [hr] at h1 h3
      simp at h1 h3
      simp [h1, h3])
    have := congrArg List.length e
    rw [List.length_take, hr] at this
    rw [hr] at hp
    simp at this
    omega
  · cases ha
theorem Out3.step {k a : Nat} {zn : Tx} {r r2 r' : RS} (h : Out3 k a zn r r2) (hne : r.s ≠ []) (ha : aP r = .ok r') : gZ (aP r2) ∨ ∃ r2', aP r2 = .ok r2' ∧ Out3 k a zn r' r2' := by
  rcases JD h.s h.stk hne h.stk0 ha with g | ⟨x, m, rfl, hm, g⟩ | ⟨t, x, ht, rfl, g⟩ | ⟨g, _⟩
  · exact .inl g
  · exact .inr ⟨_, g, h.put m x⟩
  · rw [g]
    rcases h.text ht with g1 | ⟨r2', g1, g2⟩
    · left; right; rw [g1]
    · right; rw [g1]; exact ⟨_, rfl, g2.less x⟩
  · exfalso
    unfold aZ at g
    rw [if_pos ⟨h.stk0, h.done⟩] at g
    cases g
theorem In1.start {k : Nat} {zn : Tx} {r r2 r' : RS} (h : In1 k zn r r2) (ha : aZ r = .ok r') : gZ (aZ r2) ∨ ∃ r2', aZ r2 = .ok r2' ∧ ((∃ P, In2 k zn P r' r2') ∨ ∃ a, Out3 k a zn r' r2') := by
  have hn2 : r2.stk ≠ [] := by rw [h.stk]; simp
  have hsp : ∀ p ds, aK r2 p ds = aK r p ds := by
    intro p ds
    obtain ⟨n0, rest, hP, hd⟩ := h.zed.head
    unfold aK
    rw [h.stk, h.stk0, hP]
    show _ = (if p = [120, 109, 108] then (fZ, true) else match findD p ds with | some u => (u, true) | none => ([], decide (p = [])))
    show (if p = [120, 109, 108] then (fZ, true) else match findD p ds with | some u => (u, true) | none => (match (match findD p n0.dcls with | some u => some u | none => none) with | some u => (u, true) | none => ([], decide (p = [])))) = _
    rw [hd]
    rfl
  unfold aZ at ha ⊢
  rw [if_neg (by simp [h.done])] at ha
  rw [if_neg (by simp [hn2]), h.s]
  cases hn : bC r.s with
  | error e => rw [hn] at ha; cases ha
  | ok x =>
    obtain ⟨nm, s1⟩ := x
    rw [hn] at ha
    dsimp only at ha ⊢
    cases hat : bE (s1.length + 1) [] (dF nm) s1 with
    | error e => rw [hat] at ha; cases ha
    | ok y =>
      obtain ⟨nms, n, s2⟩ := y
      rw [hat] at ha
      dsimp only at ha ⊢
      split at ha
      · cases ha
      rename_i h1
      rw [if_neg h1]
      split at ha
      · cases ha
      rename_i h2
      rw [if_neg h2]
      split at ha
      · cases ha
      rename_i h3
      rw [if_neg h3, tL hsp]
      cases hs : bg r n with
      | error e => rw [hs] at ha; cases ha
      | ok n' =>
        rw [hs] at ha
        dsimp only at ha ⊢
        split at ha
        · cases ha
        rename_i h4
        rw [if_neg (by rw [h.stk]; simp)]
        cases hd : addF n' { r with s := (hasF [62] (hasF [47] s2).2).2 } with
        | error e => rw [hd] at ha; cases ha
        | ok z =>
          obtain ⟨a, r1⟩ := z
          rw [hd] at ha
          dsimp only at ha
          injection ha with ha
          obtain ⟨_, hk1, _, _, hkk, _⟩ := mH hs
          obtain ⟨a1, _, _, a4⟩ := jf _ hat
          have hkids : n'.kids = [] := by rw [hkk, a4]; exact (oo hn).2.2
          have hkind : n'.kind = 1 := by rw [hk1, a1]; exact (oo hn).1
          obtain ⟨rfl, rfl⟩ := vQ (r := { r with s := (hasF [62] (hasF [47] s2).2).2 }) h.stk0 hd
          rcases addZ (r2 := { r2 with s := (hasF [62] (hasF [47] s2).2).2 }) n' h.stk with g | g
          · left; right; rw [g]
          right
          rw [g]
          refine ⟨_, rfl, ?_⟩
          have hz := h.zed.kid r2.ns.length
          have hlen : (aJ r2.ns 0 r2.ns.length).length = r2.ns.length := bU ..
          obtain ⟨m0, rest, hm, _⟩ := h.zed.head
          have hsh : aJ r2.ns 0 r2.ns.length ++ [{ n' with par := ((0 : Nat) : Int) }] = aJ r2.ns 0 r2.ns.length ++ (r.ns ++ [{ n' with par := -1 }]).map (shN (aJ r2.ns 0 r2.ns.length).length) := by
            rw [h.ns]
            simp [shN, hkids]
          have hlast : ∃ n0, (aJ r2.ns 0 r2.ns.length)[0]? = some n0 ∧ n0.kids.getLast? = some (aJ r2.ns 0 r2.ns.length).length := by
            rw [hlen]
            refine ⟨{ m0 with kids := m0.kids ++ [r2.ns.length] }, ?_, by simp⟩
            rw [hm]; rfl
          have hroot : ∃ n, (r.ns ++ [{ n' with par := -1 }])[0]? = some n ∧ n.kind = 1 := by rw [h.ns]; exact ⟨_, rfl, hkind⟩
          rw [← ha]
          dsimp only
          cases hcl : (hasF [47] s2).1 with
          | true =>
            right
            refine ⟨(aJ r2.ns 0 r2.ns.length).length, rfl, rfl, h.stk0, rfl, h.stk, ⟨_, [], hz, rfl, ?_, ?_⟩, hroot⟩
            · rw [List.append_nil]; exact hsh
            · obtain ⟨n0, g1, g2⟩ := hlast
              exact ⟨n0, _, g1, g2, .inl rfl⟩
          | false =>
            left
            refine ⟨aJ r2.ns 0 r2.ns.length, rfl, rfl, hz, ?_, rfl, ?_, hsh, hlast, hroot⟩
            · rw [h.stk0]; simp
            · rw [h.stk, h.stk0, h.ns, hlen]
              simp [shK]
theorem In1.step {k : Nat} {zn : Tx} {r r2 r' : RS} (h : In1 k zn r r2) (hne : r.s ≠ []) (ha : aP r = .ok r') : gZ (aP r2) ∨ ∃ r2', aP r2 = .ok r2' ∧ (In1 k zn r' r2' ∨ (∃ P, In2 k zn P r' r2') ∨ ∃ a, Out3 k a zn r' r2') := by
  rcases JD h.s h.stk hne h.stk0 ha with g | ⟨x, m, rfl, hm, g⟩ | ⟨t, x, ht, rfl, g⟩ | ⟨g, g'⟩
  · exact .inl g
  · exact .inr ⟨_, g, .inl (h.put hm x _)⟩
  · rw [g]
    rcases h.text ht with g1 | ⟨r2', g1, g2⟩
    · left; right; rw [g1]
    · right; rw [g1]; exact ⟨_, rfl, .inl (g2.less x)⟩
  · rw [g']
    rcases (h.less _).start g with g1 | ⟨r2', g1, g2⟩
    · exact .inl g1
    · exact .inr ⟨r2', g1, .inr g2⟩
def WW (k : Nat) (zn : Tx) (r r2 : RS) : Prop := In1 k zn r r2 ∨ (∃ P, In2 k zn P r r2) ∨ ∃ a, Out3 k a zn r r2
theorem WW.s {k : Nat} {zn : Tx} {r r2 : RS} (h : WW k zn r r2) : r2.s = r.s := by
  rcases h with h | ⟨P, h⟩ | ⟨a, h⟩ <;> exact h.s
theorem WW.step {k : Nat} {zn : Tx} {r r2 r' : RS} (h : WW k zn r r2) (hne : r.s ≠ []) (ha : aP r = .ok r') : gZ (aP r2) ∨ ∃ r2', aP r2 = .ok r2' ∧ WW k zn r' r2' := by
  rcases h with h | ⟨P, h⟩ | ⟨a, h⟩
  · exact h.step hne ha
  · rcases h.step ha with g | ⟨r2', g1, g2 | g2⟩
    · exact .inl g
    · exact .inr ⟨r2', g1, .inr (.inl ⟨P, g2⟩)⟩
    · exact .inr ⟨r2', g1, .inr (.inr ⟨_, g2⟩)⟩
  · rcases h.step hne ha with g | ⟨r2', g1, g2⟩
    · exact .inl g
    · exact .inr ⟨r2', g1, .inr (.inr ⟨a, g2⟩)⟩
end Go.Proofs.YtohgmkjhbacmpaaGreatDoor
set_option linter.unusedVariables false
set_option linter.unusedSimpArgs false
namespace Go.Proofs.YtohgmkjhbacmpaaGreatDoor
open Go Go.Abs Go.RowKit Go.Xml
def d9 (old new s : Tx) : Tx := Lib.replaceK old new (Lib.count s old) s
theorem vZ {old new s : Tx} (h : (old == new) = false) : Lib.replaceAll s old new = d9 old new s := by
  unfold Lib.replaceAll Lib.replace d9 Lib.replaceNum
  rw [h, if_neg (by decide), if_pos (.inl (by decide))]
theorem mJ {old new : Tx} (ho : old ≠ []) {s : Tx} {i : Nat} (h : Lib.index s old = i) : d9 old new s = s.take i ++ new ++ d9 old new (s.drop (i + old.length)) := by
  have hc : Lib.count s old = Lib.count (s.drop (i + old.length)) old + 1 := by
    have := Lib.count_hit (s := s) (sub := old) ho h
    omega
  unfold d9
  rw [hc, Lib.replaceK_hit old new _ s i h]
theorem kR {old new s : Tx} (h : Lib.index s old = -1) : d9 old new s = s := by
  unfold d9
  rw [Lib.count_miss h]
  rfl
theorem kS {old new : Tx} (ho : old ≠ []) (c : UInt8) (l : Tx) : d9 old new (c :: l) = if old.isPrefixOf (c :: l) then new ++ d9 old new ((c :: l).drop old.length) else c :: d9 old new l := by
  by_cases hp : old.isPrefixOf (c :: l) = true
  · have hi : Lib.index (c :: l) old = ((0 : Nat) : Int) := by
      unfold Lib.index
      rw [if_pos hp]; rfl
    rw [if_pos hp, mJ ho hi, Nat.zero_add]
    rfl
  · rw [if_neg hp]
    have hg := Lib.index_ge l old
    by_cases hm : Lib.index l old = -1
    · have hi : Lib.index (c :: l) old = -1 := by
        unfold Lib.index
        rw [if_neg hp, hm]; rfl
      rw [kR hi, kR hm]
    · obtain ⟨i, hi⟩ : ∃ i : Nat, Lib.index l old = i := ⟨(Lib.index l old).toNat, by omega⟩
      have hi2 : Lib.index (c :: l) old = ((i + 1 : Nat) : Int) := by
        unfold Lib.index
        rw [if_neg hp, if_neg (by rw [hi]; simp), hi]
        rfl
      rw [mJ ho hi, mJ ho hi2, show i + 1 + old.length = (i + old.length) + 1 by omega]
      rfl
theorem j3 {old new : Tx} (ho : old ≠ []) : d9 old new [] = [] := by
  refine kR ?_
  cases old with
  | nil => exact absurd rfl ho
  | cons c o => rfl
def aN : Tx → Tx
  | [] => []
  | c :: l => if c = 13 then (if l.head? = some 10 then aN l else 10 :: aN l) else c :: aN l
theorem bN {c : UInt8} (h : c ≠ 13) (l : Tx) : aN (c :: l) = c :: aN l := by
  conv => lhs; unfold aN
  rw [if_neg h]
theorem fK (l : Tx) : aN (13 :: l) = if l.head? = some 10 then aN l else 10 :: aN l := by
  conv => lhs; unfold aN
  rw [if_pos rfl]
theorem I4 (n : Nat) : ∀ l : Tx, l.length ≤ n → d9 [13] [10] (d9 [13, 10] [10] l) = aN l := by
  induction n with
  | zero =>
    intro l h
    rw [List.eq_nil_of_length_eq_zero (by omega : l.length = 0), j3 (by simp), j3 (by simp)]
    rfl
  | succ n ih =>
    intro l h
    cases l with
    | nil => rw [j3 (by simp), j3 (by simp)]; rfl
    | cons c l =>
      rw [kS (by simp)]
      by_cases hp : ([13, 10] : Tx).isPrefixOf (c :: l) = true
      · rw [if_pos hp]
        obtain ⟨t, ht⟩ := List.isPrefixOf_iff_prefix.1 hp
        rw [← ht] at h ⊢
        show d9 [13] [10] (10 :: d9 [13, 10] [10] t) = aN (13 :: 10 :: t)
        rw [kS (by simp), if_neg (by simp [List.isPrefixOf]), ih t (by simp at h; omega), fK, if_pos (show (10 :: t).head? = some 10 from rfl), bN (by decide)]
      · rw [if_neg hp, kS (by simp)]
        by_cases hc : c = 13
        · subst hc
          rw [if_pos (by simp [List.isPrefixOf])]
          show 10 :: d9 [13] [10] (d9 [13, 10] [10] l) = _
          rw [ih l (by simp at h; omega), fK, if_neg]
          intro e
          apply hp
          cases l with
          | nil => cases e
          | cons d l => simp at e; subst e; simp [List.isPrefixOf]
        · rw [if_neg (by simp [List.isPrefixOf, Ne.symm hc]), ih l (by simp at h; omega), bN hc]
theorem tN (l : Tx) : lines l = aN l := by
  unfold lines
  rw [vZ (by decide), vZ (by decide)]
  exact I4 l.length l (Nat.le_refl _)
theorem j4 : ∀ {a : Tx}, (∀ c ∈ a, c ≠ 13) → ∀ l, aN (a ++ l) = a ++ aN l
  | [], _, l => rfl
  | c :: a, h, l => by
    rw [List.cons_append, bN (h c (List.mem_cons_self ..)), j4 (fun d hd => h d (List.mem_cons_of_mem _ hd))]
    rfl
theorem qz {t : Tx} (ht : t.head? ≠ some 10) : ∀ l : Tx, aN (l ++ t) = aN l ++ aN t
  | [] => rfl
  | c :: l => by
    have ih := qz ht l
    rw [List.cons_append]
    by_cases hc : c = 13
    · subst hc
      rw [fK, fK, ih]
      cases l with
      | nil =>
        rw [List.nil_append, if_neg ht, if_neg (by simp)]
        rfl
      | cons d l =>
        rw [show (d :: l ++ t).head? = (d :: l).head? from rfl]
        split <;> rfl
    · rw [bN hc, bN hc, ih]
      rfl
theorem tO : ∀ {w : Tx}, (∀ c ∈ w, c ≠ 10 ∧ c ≠ 13) → ∀ {l : Tx}, w.isPrefixOf (aN l) = true → w.isPrefixOf l = true
  | [], _, l, _ => by simp
  | c :: w, h, [], hp => by simp [aN] at hp
  | c :: w, h, d :: l, hp => by
    obtain ⟨h1, h2⟩ := h c (List.mem_cons_self ..)
    by_cases hd : d = 13
    · exfalso
      subst hd
      have : (aN (13 :: l)).head? = some 10 := by
        rw [fK]
        split
        · rename_i e
          cases l with
          | nil => cases e
          | cons d l => simp at e; subst e; rw [bN (by decide)]; rfl
        · rfl
      obtain ⟨t, ht⟩ := List.isPrefixOf_iff_prefix.1 hp
      rw [← ht] at this
      simp at this
      exact h1 this
    · rw [bN hd, List.isPrefixOf_cons_cons] at hp
      rw [List.isPrefixOf_cons_cons]
      simp only [Bool.and_eq_true] at hp ⊢
      exact ⟨hp.1, tO (fun e he => h e (List.mem_cons_of_mem _ he)) hp.2⟩
theorem Kl (c : Nat) : 1 ≤ (utf8 c).length ∧ (utf8 c).length ≤ 4 := by
  unfold utf8
  split
  · simp
  split
  · simp
  split <;> simp
set_option maxHeartbeats 1000000 in
theorem Ay {c : Nat} (h : c < 0x110000) (hs : ¬ (0xD800 ≤ c ∧ c ≤ 0xDFFF)) (t : Tx) : Lib.decodeL (utf8 c ++ t) = (c, (utf8 c).length) := by
  rw [Lib.decodeL_N]
  unfold utf8
  split
  · simp only [List.cons_append, List.nil_append, List.getD_cons_zero, UInt8.toNat_ofNat', List.length_cons, List.length_nil]
    unfold Lib.decodeN
    rw [if_pos (by omega)]
    simp; omega
  split
  · simp only [List.cons_append, List.nil_append, List.getD_cons_zero, List.getD_cons_succ, UInt8.toNat_ofNat', List.length_cons, List.length_nil]
    unfold Lib.decodeN
    rw [if_neg (by omega), if_pos (by omega), if_pos (by omega)]
    simp; omega
  split
  · simp only [List.cons_append, List.nil_append, List.getD_cons_zero, List.getD_cons_succ, UInt8.toNat_ofNat', List.length_cons, List.length_nil]
    unfold Lib.decodeN
    rw [if_neg (by omega), if_neg (by omega), if_pos (by omega), if_pos (by omega)]
    simp; omega
  · simp only [List.cons_append, List.nil_append, List.getD_cons_zero, List.getD_cons_succ, UInt8.toNat_ofNat', List.length_cons, List.length_nil]
    unfold Lib.decodeN
    rw [if_neg (by omega), if_neg (by omega), if_neg (by omega), if_pos (by omega), if_pos (by omega)]
    simp; omega
theorem len4 : ∀ {l : Tx}, 3 < l.length → ∃ x y z v t, l = x :: y :: z :: v :: t
  | [], h => by simp at h
  | [_], h => by simp at h
  | [_, _], h => by simp at h
  | [_, _, _], h => by simp at h
  | x :: y :: z :: v :: t, _ => ⟨x, y, z, v, t, rfl⟩
theorem kT {x : UInt8} {n : Nat} (h : x.toNat = n) : UInt8.ofNat n = x := by subst h; simp
set_option maxRecDepth 10000 in
set_option maxHeartbeats 2000000 in
theorem Az {l : Tx} (hl : l ≠ []) (h : ¬ ((Lib.decodeL l).1 = 65533 ∧ (Lib.decodeL l).2 < 3)) : l = utf8 (Lib.decodeL l).1 ++ l.drop (Lib.decodeL l).2 := by
  have h0 : (l.getD 0 0).toNat < 256 := UInt8.toNat_lt _
  have h1 : (l.getD 1 0).toNat < 256 := UInt8.toNat_lt _
  have h2 : (l.getD 2 0).toNat < 256 := UInt8.toNat_lt _
  have h3 : (l.getD 3 0).toNat < 256 := UInt8.toNat_lt _
  rw [Lib.decodeL_N] at h ⊢
  unfold Lib.decodeN at h ⊢
  split
  · rename_i g
    obtain ⟨x, t, rfl⟩ := List.exists_cons_of_ne_nil hl
    simp only [List.getD_cons_zero] at g ⊢
    unfold utf8
    rw [if_pos g, kT rfl]
    rfl
  rename_i g0
  rw [if_neg g0] at h
  split
  · rename_i g
    rw [if_pos g] at h
    split
    · rename_i g1
      rw [if_pos g1] at h
      match l, g with
      | x :: y :: t, g =>
        simp only [List.getD_cons_zero, List.getD_cons_succ] at g g1 h0 h1 ⊢
        unfold utf8
        rw [if_neg (by omega), if_pos (by omega), kT (x := x) (by omega), kT (x := y) (by omega)]
        rfl
    · rename_i g1
      rw [if_neg g1] at h
      exact absurd ⟨rfl, by decide⟩ h
  rename_i g2
  rw [if_neg g2] at h
  split
  · rename_i g
    rw [if_pos g] at h
    split
    · rename_i g1
      rw [if_pos g1] at h
      match l, g with
      | x :: y :: z :: t, g =>
        simp only [List.getD_cons_zero, List.getD_cons_succ] at g g1 h0 h1 h2 ⊢
        unfold utf8
        rw [if_neg (by omega), if_neg (by omega), if_pos (by omega), kT (x := x) (by omega), kT (x := y) (by omega), kT (x := z) (by omega)]
        rfl
    · rename_i g1
      rw [if_neg g1] at h
      exact absurd ⟨rfl, by decide⟩ h
  rename_i g3
  rw [if_neg g3] at h
  split
  · rename_i g
    rw [if_pos g] at h
    split
    · rename_i g1
      rw [if_pos g1] at h
      obtain ⟨x, y, z, v, t, rfl⟩ := len4 g.2.2.2.1
      simp only [List.getD_cons_zero, List.getD_cons_succ] at g g1 h0 h1 h2 h3 ⊢
      unfold utf8
      rw [if_neg (by omega), if_neg (by omega), if_neg (by omega), kT (x := x) (by omega), kT (x := y) (by omega), kT (x := z) (by omega), kT (x := v) (by omega)]
      rfl
    · rename_i g1
      rw [if_neg g1] at h
      exact absurd ⟨rfl, by decide⟩ h
  · rename_i g
    rw [if_neg g] at h
    exact absurd ⟨rfl, by decide⟩ h
inductive Good : Tx → Prop
  | nil : Good []
  | cons {c : Nat} {l : Tx} (hc : cK c = true) (h : Good l) : Good (utf8 c ++ l)
theorem wh {c : Nat} (h : cK c = true) : c < 0x110000 ∧ ¬ (0xD800 ≤ c ∧ c ≤ 0xDFFF) := by
  unfold cK at h
  simp only [Bool.or_eq_true, Bool.and_eq_true, decide_eq_true_eq] at h
  omega
theorem Good.append {a b : Tx} (ha : Good a) (hb : Good b) : Good (a ++ b) := by
  induction ha with
  | nil => exact hb
  | cons hc _ ih => rw [List.append_assoc]; exact .cons hc ih
theorem Good.ascii : ∀ {a : Tx}, (∀ c ∈ a, c.toNat < 128 ∧ cK c.toNat = true) → Good a
  | [], _ => .nil
  | c :: a, h => by
    obtain ⟨h1, h2⟩ := h c (List.mem_cons_self ..)
    have := Good.cons h2 (Good.ascii (a := a) fun d hd => h d (List.mem_cons_of_mem _ hd))
    unfold utf8 at this
    rw [if_pos h1, kT rfl] at this
    exact this
theorem Good.ok {l : Tx} (h : Good l) : ∀ (f a : Nat), badF f l a = none := by
  induction h with
  | nil => exact fun f a => sG f a
  | @cons c l hc _ ih =>
    intro f a
    cases f with
    | zero => rfl
    | succ f =>
      obtain ⟨h1, h2⟩ := wh hc
      have hd := Ay h1 h2 l
      have hl := Kl c
      rw [lq f _ a (by intro e; have := congrArg List.length e; rw [List.length_append, List.length_nil] at this; omega), hd]
      dsimp only
      rw [if_neg, List.drop_left, ih]
      intro g
      rcases g with ⟨g1, g2⟩ | g
      · subst g1
        exact absurd g2 (by decide)
      · rw [hc] at g; cases g
theorem Good.Dw : ∀ (f a : Nat) {l : Tx}, l.length < f → badF f l a = none → Good l
  | 0, a, l, hl, h => by omega
  | f + 1, a, l, hl, h => by
    by_cases hne : l = []
    · subst hne; exact .nil
    · rw [lq f l a hne] at h
      split at h
      · cases h
      rename_i g
      have hw := lg l
      have e := Az hne fun x => g (.inl x)
      have hrec := Good.Dw f _ (l := l.drop (Lib.decodeL l).2) (by rw [List.length_drop]; have := List.length_pos_iff.2 hne; omega) h
      rw [e]
      refine .cons ?_ hrec
      cases hc : cK (Lib.decodeL l).1 with
      | true => rfl
      | false => exact absurd (.inr hc) g
theorem tQ (l : Tx) : bad l = none ↔ Good l := ⟨fun h => Good.Dw (l.length + 1) 0 (Nat.lt_succ_self _) h, fun h => h.ok (l.length + 1) 0⟩
end Go.Proofs.YtohgmkjhbacmpaaGreatDoor
set_option linter.unusedVariables false
set_option linter.unusedSimpArgs false
namespace Go.Proofs.YtohgmkjhbacmpaaGreatDoor
open Go Go.Abs Go.RowKit Go.Xml
theorem iy {w s : Tx} (t : Tx) (h : (hasF w s).1 = true) : hasF w (s ++ t) = ((hasF w s).1, (hasF w s).2 ++ t) := by
  refine Du (jE ?_)
  unfold hasF at h
  split at h
  · rename_i hp; exact qU hp
  · cases h
theorem I5 {w s : Tx} (t : Tx) (h : w.length ≤ s.length) : hasF w (s ++ t) = ((hasF w s).1, (hasF w s).2 ++ t) := Du (jE h)
theorem yJ {c : UInt8} {s : Tx} (t : Tx) (h : s ≠ []) : hasF [c] (s ++ t) = ((hasF [c] s).1, (hasF [c] s).2 ++ t) := I5 t (List.length_pos_iff.2 h)
theorem kU {s : Tx} (t : Tx) (h : (aD s).2 ≠ []) : aD (s ++ t) = ((aD s).1, (aD s).2 ++ t) := by
  unfold aD at h ⊢
  dsimp only at h
  have e : Lib.trimLeftS (s ++ t) blanks = Lib.trimLeftS s blanks ++ t := by
    unfold Lib.trimLeftS at h ⊢
    rw [List.dropWhile_append, if_neg (by simpa using h)]
  rw [e, List.length_append, List.length_append]
  simp
theorem tT {s sg : Tx} (t : Tx) (h : upTo s sg < s.length) : upTo (s ++ t) sg = upTo s sg := by
  unfold upTo at h ⊢
  rw [List.takeWhile_append, if_neg (by omega)]
theorem jF {s nm s1 : Tx} (t : Tx) (h : bC s = .ok (nm, s1)) (hs : s1 ≠ []) : bC (s ++ t) = .ok (nm, s1 ++ t) := by
  unfold bC at h ⊢
  split at h
  · rename_i hh
    injection h with h
    injection h with h1 h2
    have hl : upTo s aW < s.length := by
      rw [← h2] at hs
      have := List.length_pos_iff.2 hs
      rw [List.length_drop] at this
      omega
    rw [tT t hl, List.take_append_of_le_length (by omega), List.drop_append_of_le_length (by omega), if_pos hh, h1, h2]
  · cases h
theorem pI (t : Tx) (q : Tx) : ∀ (f f' : Nat) {out s v s' : Tx}, f ≤ f' → iO q f out s = .ok (v, s') → iO q f' out (s ++ t) = .ok (v, s' ++ t)
  | 0, _, out, s, v, s', _, h => by cases h
  | f + 1, 0, out, s, v, s', hf, h => by omega
  | f + 1, f' + 1, out, s, v, s', hf, h => by
    unfold iO at h ⊢
    by_cases h1 : upTo s (q ++ [60, 38]) < s.length ∧ s.getD (upTo s (q ++ [60, 38])) 0 ≠ 60
    · rw [if_pos h1] at h
      rw [tT t h1.1, GU h1.1, if_pos ⟨by rw [List.length_append]; omega, h1.2⟩, List.take_append_of_le_length (qQ _ _), List.drop_append_of_le_length h1.1]
      by_cases h2 : s.getD (upTo s (q ++ [60, 38])) 0 = 38
      · rw [if_pos h2] at h
        rw [if_pos h2]
        cases hr : refF (s.drop (upTo s (q ++ [60, 38]) + 1)) with
        | error e => rw [hr] at h; cases h
        | ok y =>
          obtain ⟨y1, y2⟩ := y
          rw [hr] at h
          rw [Aq t hr]
          exact pI t q f f' (by omega) h
      · rw [if_neg h2] at h
        rw [if_neg h2]
        injection h with h
        injection h with h3 h4
        rw [h3, h4]
    · rw [if_neg h1] at h; cases h
theorem EZ {s v s' : Tx} (t : Tx) (h : gY s = .ok (v, s')) : s ≠ [] ∧ gY (s ++ t) = .ok (v, s' ++ t) := by
  have hne : s ≠ [] := fun e => by subst e; cases h
  refine ⟨hne, ?_⟩
  unfold gY at h ⊢
  rw [yJ t hne, yJ t hne, List.length_append]
  split at h
  · rename_i h1
    rw [if_pos h1]
    exact pI t _ _ _ (by omega) h
  · rename_i h1
    rw [if_neg h1]
    split at h
    · rename_i h2
      rw [if_pos h2]
      exact pI t _ _ _ (by omega) h
    · cases h
theorem yK {c : UInt8} {s : Tx} (h : (hasF [c] s).1 = true) : s ≠ [] := fun e => by subst e; cases h
theorem I6 {s s' : Tx} (t : Tx) (h : eqF s = .ok s') (hs : s' ≠ []) : eqF (s ++ t) = .ok (s' ++ t) := by
  unfold eqF at h ⊢
  split at h
  · rename_i h1
    injection h with h
    rw [kU t (yK h1)]
    dsimp only
    rw [iy t h1]
    dsimp only
    rw [if_pos h1, kU t (by rw [h]; exact hs), h]
  · cases h
theorem tV (t : Tx) : ∀ (f f' : Nat) {nms nms' : List Tx} {n n' : Nd} {s s' : Tx}, f ≤ f' → s' ≠ [] → bE f nms n s = .ok (nms', n', s') → bE f' nms n (s ++ t) = .ok (nms', n', s' ++ t)
  | 0, _, _, _, _, _, _, _, _, _, h => by cases h
  | f + 1, 0, _, _, _, _, _, _, hf, _, h => by omega
  | f + 1, f' + 1, nms, nms', n, n', s, s', hf, hs, h => by
    have hsk : (aD s).2 ≠ [] := by
      intro e
      unfold bE at h
      rw [e] at h
      split at h
      · have : bC [] = .error 10 := rfl
        rw [this] at h
        cases h
      · injection h with h
        injection h with _ h
        injection h with _ h
        exact hs h.symm
    unfold bE at h ⊢
    rw [kU t hsk]
    have hl := List.length_pos_iff.2 hsk
    have e1 : ([47] : Tx).isPrefixOf ((aD s).2 ++ t) = ([47] : Tx).isPrefixOf (aD s).2 := jE hl
    have e2 : ([62] : Tx).isPrefixOf ((aD s).2 ++ t) = ([62] : Tx).isPrefixOf (aD s).2 := jE hl
    dsimp only
    rw [e1, e2]
    split at h
    · rename_i h1
      rw [if_pos h1]
      cases hn : bC (aD s).2 with
      | error e => rw [hn] at h; cases h
      | ok x =>
        obtain ⟨nm, s1⟩ := x
        rw [hn] at h
        dsimp only at h
        cases he : eqF s1 with
        | error e => rw [he] at h; cases h
        | ok s2 =>
          rw [he] at h
          dsimp only at h
          cases hq : gY s2 with
          | error e => rw [hq] at h; cases h
          | ok y =>
            obtain ⟨v, s3⟩ := y
            rw [hq] at h
            obtain ⟨g1, g2⟩ := EZ t hq
            have g0 : s1 ≠ [] := fun e => by subst e; cases he
            rw [jF t hn g0]
            dsimp only
            rw [I6 t he g1]
            dsimp only
            rw [g2]
            exact tV t f f' (by omega) hs h
    · rename_i h1
      rw [if_neg h1]
      injection h with h
      injection h with h2 h3
      injection h3 with h3 h4
      rw [h2, h3, h4]
theorem CF {r r' : RS} (t : Tx) (h : aZ r = .ok r') : aZ { r with s := r.s ++ t } = .ok { r' with s := r'.s ++ t } := by
  unfold aZ at h ⊢
  dsimp only at h ⊢
  split at h
  · cases h
  rename_i h0
  rw [if_neg h0]
  cases hn : bC r.s with
  | error e => rw [hn] at h; cases h
  | ok x =>
    obtain ⟨nm, s1⟩ := x
    rw [hn] at h
    dsimp only at h ⊢
    cases ha : bE (s1.length + 1) [] (dF nm) s1 with
    | error e => rw [ha] at h; cases h
    | ok y =>
      obtain ⟨nms, n, s2⟩ := y
      rw [ha] at h
      dsimp only at h
      split at h
      · cases h
      rename_i h1
      have h1' : (hasF [62] (hasF [47] s2).2).1 = true := by simpa using h1
      have g3 := yK h1'
      have g2 : s2 ≠ [] := fun e => by subst e; exact g3 rfl
      have g1 : s1 ≠ [] := by
        intro e
        subst e
        have : bE 1 [] (dF nm) [] = .ok ([], dF nm, []) := rfl
        rw [show ([] : Tx).length + 1 = 1 from rfl, this] at ha
        injection ha with ha
        injection ha with _ ha
        injection ha with _ ha
        exact g2 ha.symm
      rw [jF t hn g1]
      dsimp only
      rw [tV t (s1.length + 1) ((s1 ++ t).length + 1) (by rw [List.length_append]; omega) g2 ha]
      dsimp only
      rw [yJ t g2]
      dsimp only
      rw [iy t h1']
      dsimp only
      rw [if_neg h1]
      split at h
      · cases h
      rename_i h2
      rw [if_neg h2]
      split at h
      · cases h
      rename_i h3
      rw [if_neg h3, pz]
      cases hs : bg r n with
      | error e => rw [hs] at h; cases h
      | ok n' =>
        rw [hs] at h
        dsimp only at h ⊢
        split at h
        · cases h
        rename_i h4
        rw [if_neg h4]
        cases hd : addF n' { r with s := (hasF [62] (hasF [47] s2).2).2 } with
        | error e => rw [hd] at h; cases h
        | ok z =>
          obtain ⟨a, r1⟩ := z
          rw [hd] at h
          rw [Dv ((hasF [62] (hasF [47] s2).2).2 ++ t) hd]
          have hk := vV hd
          dsimp only at h hk ⊢
          injection h with h
          rw [← h]
          dsimp only
          rw [hk]
theorem G5 {r r' : RS} (t : Tx) (h : endF r = .ok r') : endF { r with s := r.s ++ t } = .ok { r' with s := r'.s ++ t } := by
  unfold endF at h ⊢
  dsimp only at h ⊢
  cases hl : r.stk.getLast? with
  | none => rw [hl] at h; cases h
  | some x =>
    obtain ⟨p, nm⟩ := x
    rw [hl] at h
    dsimp only at h ⊢
    cases hn : bC r.s with
    | error e => rw [hn] at h; cases h
    | ok y =>
      obtain ⟨z, s1⟩ := y
      rw [hn] at h
      dsimp only at h
      split at h
      · rename_i h1
        have g2 := yK h1.2
        have g1 : s1 ≠ [] := fun e => by subst e; exact g2 rfl
        rw [jF t hn g1]
        dsimp only
        rw [kU t g2]
        dsimp only
        rw [iy t h1.2]
        dsimp only
        rw [if_pos h1]
        injection h with h
        rw [← h]
      · cases h
theorem E5 {r r' : RS} (t : Tx) (h : dx r = .ok r') : dx { r with s := r.s ++ t } = .ok { r' with s := r'.s ++ t } := by
  unfold dx at h ⊢
  dsimp only at h ⊢
  cases hn : bC r.s with
  | error e => rw [hn] at h; cases h
  | ok y =>
    obtain ⟨nm, s1⟩ := y
    rw [hn] at h
    dsimp only at h
    split at h
    · cases h
    rename_i h1
    split at h
    · rename_i h2
      have g1 : s1 ≠ [] := fun e => by subst e; cases h2
      rw [jF t hn g1]
      dsimp only
      rw [if_neg h1, iy t h2]
      dsimp only
      rw [if_pos h2]
      exact pG h
    · rename_i h2
      split at h
      · rename_i h3
        have hu' : ∃ v s2, aQ [63, 62] (aD s1).2 = .ok (v, s2) := by
          cases hu : aQ [63, 62] (aD s1).2 with
          | error e => rw [hu] at h; cases h
          | ok z => exact ⟨z.1, z.2, rfl⟩
        obtain ⟨v, s2, hu⟩ := hu'
        rw [hu] at h
        have g2 : (aD s1).2 ≠ [] := fun e => by rw [e] at hu; cases hu
        have g1 : s1 ≠ [] := fun e => by subst e; cases h3
        obtain ⟨c, s1', hc⟩ := List.exists_cons_of_ne_nil g1
        have hcb : c ≠ 63 := by
          intro e
          subst e
          rw [hc, skip_none (by decide)] at h3
          cases h3
        rw [jF t hn g1]
        dsimp only
        have hneg : (hasF [63, 62] (s1 ++ t)).1 = false := by
          rw [hc]
          simp [hasF, List.isPrefixOf, Ne.symm hcb]
        rw [if_neg h1, if_neg (by rw [hneg]; decide), kU t g2]
        dsimp only
        rw [if_pos h3, mI t hu]
        exact pG h
      · cases h
theorem yL {r r' : RS} (t : Tx) (h : aO r = .ok r') : aO { r with s := r.s ++ t } = .ok { r' with s := r'.s ++ t } := by
  unfold aO at h ⊢
  dsimp only at h ⊢
  cases hu : aQ [45, 45] r.s with
  | error e => rw [hu] at h; cases h
  | ok z =>
    obtain ⟨v, s1⟩ := z
    rw [hu] at h
    rw [mI t hu]
    dsimp only at h ⊢
    split at h
    · rename_i h1
      rw [iy t h1]
      dsimp only
      rw [if_pos h1]
      exact pG h
    · cases h
theorem neg2 {c d : UInt8} {w s : Tx} (h : c ≠ d) (t : Tx) : hasF (60 :: d :: w) (60 :: c :: s ++ t) = (false, 60 :: c :: s ++ t) ∧ (hasF (60 :: d :: w) (60 :: c :: s)).1 = false := by
  unfold hasF
  simp [List.isPrefixOf, Ne.symm h]
theorem E8 {r r' : RS} (t : Tx) (hh : r.s.head? = some 60) (h : gq r = .ok r') : gq { r with s := r.s ++ t } = .ok { r' with s := r'.s ++ t } := by
  unfold gq at h ⊢
  dsimp only at h ⊢
  split at h
  · rename_i h1
    rw [iy t h1]
    dsimp only
    rw [if_pos h1]
    exact yL t (r := { r with s := (hasF [60, 33, 45, 45] r.s).2 }) h
  rename_i h1
  split at h
  · cases h
  rename_i h2
  split at h
  · rename_i h3
    have e := qV h3.2
    have p1 : (hasF [60, 33, 45, 45] (r.s ++ t)).1 = false := by rw [e]; rfl
    rw [if_neg (by rw [p1]; decide), if_neg (fun g => h3.1 g.1), iy t h3.2]
    dsimp only
    rw [if_pos h3]
    cases hu : aQ [93, 93, 62] (hasF fI r.s).2 with
    | error e => rw [hu] at h; cases h
    | ok z =>
      obtain ⟨v, s1⟩ := z
      rw [hu] at h
      rw [mI t hu]
      exact vW h
  rename_i h3
  split at h
  · rename_i h4
    have e := qV h4
    have p1 : (hasF [60, 33, 45, 45] (r.s ++ t)).1 = false := by rw [e]; rfl
    have p2 : (hasF wDoc (r.s ++ t)).1 = false := by rw [e]; rfl
    have p3 : (hasF fI (r.s ++ t)).1 = false := by rw [e]; rfl
    rw [if_neg (by rw [p1]; decide), if_neg (by rw [p2]; simp), if_neg (by rw [p3]; simp), iy t h4]
    dsimp only
    rw [if_pos h4]
    exact E5 t (r := { r with s := (hasF [60, 63] r.s).2 }) h
  rename_i h4
  split at h
  · rename_i h5
    have e := qV h5
    have p1 : (hasF [60, 33, 45, 45] (r.s ++ t)).1 = false := by rw [e]; rfl
    have p2 : (hasF wDoc (r.s ++ t)).1 = false := by rw [e]; rfl
    have p3 : (hasF fI (r.s ++ t)).1 = false := by rw [e]; rfl
    have p4 : (hasF [60, 63] (r.s ++ t)).1 = false := by rw [e]; rfl
    rw [if_neg (by rw [p1]; decide), if_neg (by rw [p2]; simp), if_neg (by rw [p3]; simp), if_neg (by rw [p4]; decide), iy t h5]
    dsimp only
    rw [if_pos h5]
    exact G5 t (r := { r with s := (hasF [60, 47] r.s).2 }) h
  rename_i h5
  obtain ⟨s, hs⟩ : ∃ s, r.s = 60 :: s := by
    cases hr : r.s with
    | nil => rw [hr] at hh; cases hh
    | cons c s => rw [hr] at hh; simp at hh; subst hh; exact ⟨s, rfl⟩
  have h6 : (hasF [60] r.s).1 = true := by rw [hs]; rfl
  rw [if_pos h6] at h
  have e6 : (hasF [60] r.s).2 = s := by rw [hs]; rfl
  rw [e6] at h
  have hcc : ∃ c s', s = c :: s' ∧ c ≠ 33 ∧ c ≠ 63 ∧ c ≠ 47 := by
    have bad : ∀ x : Tx, (upTo x aW = 0) → aZ { r with s := x } = .ok r' → False := fun x hx hst => by
      unfold aZ at hst
      split at hst
      · cases hst
      · have : bC x = .error 10 := by
          unfold bC
          rw [hx]
          rfl
        dsimp only at hst
        rw [this] at hst
        cases hst
    cases hs' : s with
    | nil => rw [hs'] at h; exact (bad _ rfl h).elim
    | cons c s' =>
      rw [hs'] at h
      refine ⟨c, s', rfl, fun e => ?_, fun e => ?_, fun e => ?_⟩ <;> (subst e; exact bad _ rfl h)
  obtain ⟨c, s', rfl, c1, c2, c3⟩ := hcc
  rw [hs]
  rw [if_neg (by rw [(neg2 (d := 33) c1 t).1]; simp), if_neg (by rw [show wDoc = 60 :: 33 :: wDoc.tail.tail from rfl, (neg2 (d := 33) c1 t).1]; simp), if_neg (by rw [show fI = 60 :: 33 :: fI.tail.tail from rfl, (neg2 (d := 33) c1 t).1]; simp), if_neg (by rw [(neg2 (d := 63) c2 t).1]; simp), if_neg (by rw [(neg2 (d := 47) c3 t).1]; simp)]
  exact CF t (r := { r with s := c :: s' }) h
theorem E9 {r r' : RS} (t : Tx) (hs : r.s ≠ []) (hm : r'.s ≠ [] ∨ r.s.head? = some 60) (h : aP r = .ok r') : aP { r with s := r.s ++ t } = .ok { r' with s := r'.s ++ t } := by
  unfold aP at h ⊢
  dsimp only at h ⊢
  have e : (r.s ++ t).head? = r.s.head? := by
    cases hh : r.s with
    | nil => exact absurd hh hs
    | cons c s => rfl
  rw [e, yJ t hs]
  dsimp only
  split at h
  · rename_i h1
    rw [if_pos h1]
    exact E8 t h1 h
  rename_i h1
  rw [if_neg h1]
  split at h
  · rename_i h2
    rw [if_pos h2]
    cases hx : refF (hasF [38] r.s).2 with
    | error e => rw [hx] at h; cases h
    | ok z =>
      obtain ⟨v, s1⟩ := z
      rw [hx] at h
      rw [Aq t hx]
      exact vW h
  rename_i h2
  rw [if_neg h2]
  split at h
  · cases h
  rename_i h3
  rw [if_neg h3]
  have hr' : r'.s ≠ [] := hm.resolve_right h1
  have hdrop : r'.s = r.s.drop (upTo r.s [60, 38]) := by
    unfold dw at h
    split at h
    · split at h
      · injection h with h; rw [← h]
      · cases h
    · split at h
      · cases h
      · split at h
        · cases h
        · injection h with h; rw [← h]
  have hl : upTo r.s [60, 38] < r.s.length := by
    rw [hdrop] at hr'
    have := List.length_pos_iff.2 hr'
    rw [List.length_drop] at this
    omega
  unfold dw at h ⊢
  dsimp only at h ⊢
  rw [tT t hl, List.take_append_of_le_length (by omega), List.drop_append_of_le_length (by omega)]
  split at h
  · rename_i h4
    rw [if_pos h4]
    split at h
    · rename_i h5
      rw [if_pos h5]
      injection h with h
      rw [← h]
    · cases h
  · rename_i h4
    rw [if_neg h4]
    split at h
    · cases h
    rename_i h5
    rw [if_neg h5]
    cases hx : aR (r.s.take (upTo r.s [60, 38])) r with
    | error e => rw [hx] at h; cases h
    | ok r1 =>
      rw [hx] at h
      rw [nV (r.s ++ t) hx]
      injection h with h
      rw [← h]
end Go.Proofs.YtohgmkjhbacmpaaGreatDoor
set_option linter.unusedVariables false
set_option linter.unusedSimpArgs false
namespace Go.Proofs.YtohgmkjhbacmpaaGreatDoor
open Go Go.Abs Go.RowKit Go.Xml
theorem jG : ∀ (f f' : Nat) {r : RS}, RI r → r.s.length ≤ f → r.s.length ≤ f' → allR f r = allR f' r
  | 0, f', r, hI, h, h' => by
    have : r.s = [] := List.eq_nil_of_length_eq_zero (by omega)
    rw [iD this, iD this]
  | f + 1, 0, r, hI, h, h' => by
    have : r.s = [] := List.eq_nil_of_length_eq_zero (by omega)
    rw [iD this, iD this]
  | f + 1, f' + 1, r, hI, h, h' => by
    by_cases hs : r.s = []
    · rw [iD hs, iD hs]
    · unfold allR
      rw [if_neg hs, if_neg hs]
      cases hx : aP r with
      | error e => rfl
      | ok r1 =>
        obtain ⟨h1, h2⟩ := kM hI hs hx
        exact jG f f' h1 (by omega) (by omega)
theorem RI.s {r : RS} (hr : RI ⟨r.s, [], [], false⟩) (x : Tx) (h : x.length ≤ 1000000) : RI ⟨x, [], [], false⟩ := RI.start x h
def eB (p : Tx) : Prop := ∀ c ∈ p, blanks.contains c = true
theorem wm {q : UInt8 → Bool} : ∀ {a t : Tx}, (∀ c ∈ a, q c = true) → (a ++ t).takeWhile q = a ++ t.takeWhile q
  | [], t, _ => rfl
  | c :: a, t, h => by
    rw [List.cons_append, List.takeWhile_cons_of_pos (h c (List.mem_cons_self ..)), wm fun d hd => h d (List.mem_cons_of_mem _ hd)]
    rfl
theorem wo {q : UInt8 → Bool} : ∀ {a t : Tx}, (∀ c ∈ a, q c = true) → (a ++ t).dropWhile q = t.dropWhile q
  | [], t, _ => rfl
  | c :: a, t, h => by
    rw [List.cons_append, List.dropWhile_cons_of_pos (h c (List.mem_cons_self ..)), wo fun d hd => h d (List.mem_cons_of_mem _ hd)]
theorem mK {p : Tx} (h : eB p) : ∀ c ∈ p, (!([60, 38] : Tx).contains c) = true := fun c hc => by
  have := h c hc
  have h3 : c = 32 ∨ c = 9 ∨ c = 10 := by simpa [blanks] using this
  rcases h3 with rfl | rfl | rfl <;> rfl
theorem tX {p : Tx} (h : eB p) (s : Tx) : upTo (p ++ s) [60, 38] = p.length + upTo s [60, 38] := by
  unfold upTo
  rw [wm (q := fun c => !([60, 38] : Tx).contains c) (mK h), List.length_append]
theorem lH (l : Tx) : Lib.trimS l blanks = [] ↔ eB l := by
  refine ⟨fun h => vY h, fun h => ?_⟩
  unfold Lib.trimS Lib.trimLeftS Lib.trimRightS
  have h1 : l.reverse.dropWhile (blanks.contains ·) = [] := by
    have := wo (q := (blanks.contains ·)) (a := l.reverse) (t := []) (fun c hc => h c (List.mem_reverse.1 hc))
    rw [List.append_nil] at this
    exact this
  rw [h1]
  rfl
theorem pJ {s : Tx} {ns : List Nd} {d : Bool} : dw ⟨s, ns, [], d⟩ = if Lib.trimS (s.take (upTo s [60, 38])) blanks = [] then .ok ⟨s.drop (upTo s [60, 38]), ns, [], d⟩ else .error 10 := rfl
theorem tY {c : UInt8} {s : Tx} {ns : List Nd} {d : Bool} (h1 : c ≠ 60) (h2 : c ≠ 38) : aP ⟨c :: s, ns, [], d⟩ = dw ⟨c :: s, ns, [], d⟩ := by
  unfold aP
  rw [if_neg (by simp [h1]), if_neg (by simp), if_neg (by simp [h2])]
theorem wu {p s : Tx} {ns : List Nd} {d : Bool} (hp : eB p) (hne : p ≠ []) : aP ⟨p ++ s, ns, [], d⟩ = .ok ⟨s, ns, [], d⟩ ∨ (s ≠ [] ∧ aP ⟨p ++ s, ns, [], d⟩ = aP ⟨s, ns, [], d⟩) := by
  obtain ⟨c, p', rfl⟩ := List.exists_cons_of_ne_nil hne
  have hc := mK hp c (List.mem_cons_self ..)
  have c1 : c ≠ 60 := fun e => by subst e; cases hc
  have c2 : c ≠ 38 := fun e => by subst e; cases hc
  have e0 : aP ⟨c :: p' ++ s, ns, [], d⟩ = dw ⟨c :: p' ++ s, ns, [], d⟩ := tY c1 c2
  rw [e0, pJ, tX hp]
  have et : (c :: p' ++ s).take ((c :: p').length + upTo s [60, 38]) = c :: p' ++ s.take (upTo s [60, 38]) := by rw [List.take_length_add_append]
  have ed : (c :: p' ++ s).drop ((c :: p').length + upTo s [60, 38]) = s.drop (upTo s [60, 38]) := by rw [List.drop_length_add_append]
  rw [et, ed]
  have hiff : Lib.trimS (c :: p' ++ s.take (upTo s [60, 38])) blanks = [] ↔ Lib.trimS (s.take (upTo s [60, 38])) blanks = [] := by
    rw [lH, lH]
    exact ⟨fun h d hd => h d (List.mem_append_right _ hd), fun h d hd => by
      rcases List.mem_append.1 hd with h1 | h1
      · exact hp d h1
      · exact h d h1⟩
  cases s with
  | nil =>
    left
    rw [if_pos (hiff.2 rfl)]
    rfl
  | cons e s =>
    by_cases h6 : e = 60 ∨ e = 38
    · left
      have hu : upTo (e :: s) [60, 38] = 0 := by
        unfold upTo
        rcases h6 with rfl | rfl <;> rfl
      rw [hu] at hiff ⊢
      rw [if_pos (hiff.2 rfl)]
      rfl
    · right
      refine ⟨by simp, ?_⟩
      rw [tY (fun x => h6 (.inl x)) (fun x => h6 (.inr x)), pJ]
      by_cases hb : Lib.trimS ((e :: s).take (upTo (e :: s) [60, 38])) blanks = []
      · rw [if_pos hb, if_pos (hiff.2 hb)]
      · rw [if_neg hb, if_neg (fun x => hb (hiff.1 x))]
theorem Fa {p s : Tx} {ns : List Nd} {d : Bool} (hp : eB p) (hI : RI ⟨p ++ s, ns, [], d⟩) (hI2 : RI ⟨s, ns, [], d⟩) {f f' : Nat} (hf : (p ++ s).length ≤ f) (hf' : s.length ≤ f') : allR f ⟨p ++ s, ns, [], d⟩ = allR f' ⟨s, ns, [], d⟩ := by
  by_cases hne : p = []
  · subst hne
    exact jG f f' hI hf hf'
  obtain ⟨f0, rfl⟩ : ∃ f0, f = f0 + 1 := ⟨f - 1, by have := List.length_pos_iff.2 hne; rw [List.length_append] at hf; omega⟩
  have hps : (p ++ s) ≠ [] := by simp [hne]
  have hl : (p ++ s).length ≤ f0 + 1 := hf
  rcases wu (s := s) (ns := ns) (d := d) hp hne with h | ⟨h1, h⟩
  · have hs' : s.length ≤ f0 := by
      have := List.length_pos_iff.2 hne
      rw [List.length_append] at hl
      omega
    rw [← jG f0 f' hI2 hs' hf']
    show (if (p ++ s) = [] then _ else _) = _
    rw [if_neg hps, h]
  · have hsl := List.length_pos_iff.2 h1
    obtain ⟨f1, rfl⟩ : ∃ f1, f' = f1 + 1 := ⟨f' - 1, by omega⟩
    show (if (p ++ s) = [] then _ else _) = (if s = [] then _ else _)
    rw [if_neg hps, if_neg h1, h]
    cases hx : aP ⟨s, ns, [], d⟩ with
    | error e => rfl
    | ok r1 =>
      obtain ⟨g1, g2⟩ := kM hI2 h1 hx
      dsimp only at g2
      refine jG f0 f1 g1 ?_ (by omega)
      have := List.length_pos_iff.2 hne
      rw [List.length_append] at hl
      omega
end Go.Proofs.YtohgmkjhbacmpaaGreatDoor
set_option linter.unusedVariables false
set_option linter.unusedSimpArgs false
namespace Go.Proofs.YtohgmkjhbacmpaaGreatDoor
open Go Go.Abs Go.RowKit Go.Xml
theorem G6 {r r' : RS} {n : Nd} {i : Nat} (h : addF n r = .ok (i, r')) : r'.stk = r.stk ∧ r'.done = r.done := by
  unfold addF at h
  split at h
  · cases h
  · split at h <;> (injection h with h; injection h with _ h; rw [← h]; exact ⟨rfl, rfl⟩)
theorem wz {r r' : RS} {t : Tx} (h : aR t r = .ok r') : r'.stk = r.stk := by
  unfold aR at h
  split at h
  · injection h with h; rw [← h]
  split at h
  · cases h
  split at h
  · injection h with h; rw [← h]
  · split at h
    · rename_i g
      injection h with h
      rw [← h]
      exact (G6 g).1
    · cases h
theorem tZ {p t : Tx} {ns : List Nd} {d : Bool} (hp : eB p) (hne : p ≠ []) (ht : Stp t) : aP ⟨p ++ t, ns, [], d⟩ = .ok ⟨t, ns, [], d⟩ := by
  rcases wu (s := t) (ns := ns) (d := d) hp hne with h | ⟨h1, h⟩
  · exact h
  · obtain ⟨c, p', rfl⟩ := List.exists_cons_of_ne_nil hne
    have hc := mK hp c (List.mem_cons_self ..)
    have c1 : c ≠ 60 := fun e => by subst e; cases hc
    have c2 : c ≠ 38 := fun e => by subst e; cases hc
    have e0 : aP ⟨c :: p' ++ t, ns, [], d⟩ = dw ⟨c :: p' ++ t, ns, [], d⟩ := tY c1 c2
    have hu : upTo t [60, 38] = 0 := by
      unfold upTo
      rw [ht.KV (by rfl)]
      rfl
    rw [e0, pJ, tX hp, hu, Nat.add_zero, List.take_left, List.drop_left, if_pos ((lH _).2 hp)]
theorem Fb {r r' : RS} (h : Steps r r') (hs : r.s = []) : r' = r := by
  cases h with
  | refl => rfl
  | step h1 _ _ => exact absurd hs h1
theorem Fe {p t : Tx} (hp : eB p) (ht : Stp t) {r r' : RS} (h : Steps r r') (he : r'.s = []) (hk : r'.stk = []) : Steps { r with s := r.s ++ (p ++ t) } { r' with s := t } := by
  induction h with
  | refl r =>
    obtain ⟨s, ns, k, d⟩ := r
    dsimp only at he hk ⊢
    subst he hk
    by_cases hne : p = []
    · subst hne; exact .refl _
    · exact Steps.step (r1 := ⟨t, ns, [], d⟩) (by simp [hne]) (tZ (p := p) (t := t) hp hne ht) (.refl _)
  | @step r r1 r2 hs hx tl ih =>
    by_cases h1 : r1.s ≠ [] ∨ r.s.head? = some 60
    · exact .step (by simp [hs]) (E9 (p ++ t) hs h1 hx) (ih he hk)
    · have h1s : r1.s = [] := Classical.byContradiction fun g => h1 (.inl g)
      have hh : ¬ r.s.head? = some 60 := fun g => h1 (.inr g)
      have e2 := Fb tl h1s
      subst e2
      have hblank : eB r.s ∧ r.stk = [] ∧ r2 = { r with s := [] } := by
        unfold aP at hx
        rw [if_neg hh] at hx
        split at hx
        · rename_i g
          exfalso
          split at hx
          · cases hx
          · have := wz hx
            rw [hk] at this
            exact g.1 this.symm
        split at hx
        · cases hx
        unfold dw at hx
        split at hx
        · rename_i gk
          split at hx
          · rename_i gb
            injection hx with hx
            have hd : r.s.drop (upTo r.s [60, 38]) = [] := by rw [← hx] at h1s; exact h1s
            have htk : r.s.take (upTo r.s [60, 38]) = r.s := by
              have := List.take_append_drop (upTo r.s [60, 38]) r.s
              rw [hd, List.append_nil] at this
              exact this
            rw [htk] at gb
            exact ⟨(lH _).1 gb, gk, by rw [← hx, hd]⟩
          · cases hx
        · rename_i gk
          exfalso
          split at hx
          · cases hx
          split at hx
          · cases hx
          · rename_i g
            injection hx with hx
            have := wz g
            rw [← hx] at hk
            exact gk (by rw [← this]; exact hk)
      obtain ⟨hb, hk0, e⟩ := hblank
      subst e
      obtain ⟨s, ns, k, d⟩ := r
      dsimp only at hs hb hk0 ⊢
      subst hk0
      rw [← List.append_assoc]
      refine .step (by simp [hs]) (tZ (fun c hc => ?_) (by simp [hs]) ht) (.refl _)
      rcases List.mem_append.1 hc with g | g
      · exact hb c g
      · exact hp c g
def Neutral (x : Tx) : Prop := ∀ (s : Tx) (ns : List Nd) (d : Bool), aP ⟨x ++ s, ns, [], d⟩ = .ok ⟨s, ns, [], d⟩
inductive Dr : Tx → Prop
  | nil : Dr []
  | blank {p t : Tx} (hp : eB p) (h : Dr t) : Dr (p ++ t)
  | neut {x t : Tx} (hx : Neutral x) (hne : x ≠ []) (h : Dr t) : Dr (x ++ t)
theorem RI.drop {r : RS} (h : RI r) {x : Tx} (hx : x.length ≤ r.s.length) : RI { r with s := x } :=
  ⟨h.many, h.deep, Nat.le_trans hx h.left, h.stk, h.kids, fun n hn => by have := h.val n hn; dsimp only; omega, h.dcl⟩
theorem G7 {x : Tx} (h : Dr x) : ∀ {s : Tx} {ns : List Nd} {d : Bool} {f f' : Nat}, RI ⟨x ++ s, ns, [], d⟩ → (x ++ s).length ≤ f → s.length ≤ f' → allR f ⟨x ++ s, ns, [], d⟩ = allR f' ⟨s, ns, [], d⟩ := by
  induction h with
  | nil => exact fun hI hf hf' => jG _ _ hI hf hf'
  | @blank p t hp _ ih =>
    intro s ns d f f' hI hf hf'
    rw [List.append_assoc] at hI hf ⊢
    have hI2 : RI ⟨t ++ s, ns, [], d⟩ := hI.drop (x := t ++ s) (by simp)
    rw [Fa hp hI hI2 hf (Nat.le_refl _)]
    exact ih hI2 (Nat.le_refl _) hf'
  | @neut y t hy hne _ ih =>
    intro s ns d f f' hI hf hf'
    rw [List.append_assoc] at hI hf ⊢
    have hI2 : RI ⟨t ++ s, ns, [], d⟩ := hI.drop (x := t ++ s) (by simp)
    have hyl := List.length_pos_iff.2 hne
    obtain ⟨f0, rfl⟩ : ∃ f0, f = f0 + 1 := ⟨f - 1, by rw [List.length_append] at hf; omega⟩
    have e : allR (f0 + 1) ⟨y ++ (t ++ s), ns, [], d⟩ = allR f0 ⟨t ++ s, ns, [], d⟩ := by
      show (if y ++ (t ++ s) = [] then _ else _) = _
      rw [if_neg (by simp [hne]), hy]
    rw [e]
    exact ih hI2 (by rw [List.length_append] at hf; omega) hf'
def around : Nat → Tx
  | 0 => []
  | 1 => [32, 10]
  | 2 => [60, 33, 45, 45, 32, 45, 32, 45, 45, 62]
  | 3 => [60, 63, 103, 111, 32, 111, 110, 63, 62]
  | _ => [9, 60, 33, 45, 45, 45, 45, 62, 10, 60, 63, 97, 63, 62]
theorem Dx (x : Tx) (ns : List Nd) (d : Bool) : aP ⟨60 :: 63 :: x, ns, [], d⟩ = dx ⟨x, ns, [], d⟩ := rfl
theorem I7 : Neutral [60, 33, 45, 45, 32, 45, 32, 45, 45, 62] := fun s ns d => rfl
theorem Dy : Neutral [60, 33, 45, 45, 45, 45, 62] := fun s ns d => rfl
theorem Dz : Neutral [60, 63, 97, 63, 62] := fun s ns d => by
  rw [show ([60, 63, 97, 63, 62] : Tx) ++ s = 60 :: 63 :: (97 :: 63 :: 62 :: s) from rfl, Dx]
  have h1 : bC (97 :: 63 :: 62 :: s) = .ok ([97], 63 :: 62 :: s) := by kernel_rfl
  unfold dx
  dsimp only
  rw [h1]
  rfl
theorem I8 : Neutral [60, 63, 103, 111, 32, 111, 110, 63, 62] := fun s ns d => by
  rw [show ([60, 63, 103, 111, 32, 111, 110, 63, 62] : Tx) ++ s = 60 :: 63 :: (103 :: 111 :: 32 :: 111 :: 110 :: 63 :: 62 :: s) from rfl, Dx]
  have h1 : bC (103 :: 111 :: 32 :: 111 :: 110 :: 63 :: 62 :: s) = .ok ([103, 111], 32 :: 111 :: 110 :: 63 :: 62 :: s) := by kernel_rfl
  have h2 : aD (32 :: 111 :: 110 :: 63 :: 62 :: s) = (true, 111 :: 110 :: 63 :: 62 :: s) := by
    unfold aD
    have e : Lib.trimLeftS (32 :: 111 :: 110 :: 63 :: 62 :: s) blanks = 111 :: 110 :: 63 :: 62 :: s := rfl
    rw [e, decide_eq_true (by simp)]
  unfold dx
  dsimp only
  rw [h1]
  dsimp only
  rw [if_neg (by decide), h2]
  rfl
theorem bl {p : Tx} (h : p.all (blanks.contains ·) = true) : eB p := fun c hc => List.all_eq_true.1 h c hc
theorem pK : ∀ a, Dr (around a)
  | 0 => .nil
  | 1 => .blank (p := [32, 10]) (t := []) (bl rfl) .nil
  | 2 => .neut (x := [60, 33, 45, 45, 32, 45, 32, 45, 45, 62]) (t := []) I7 (by simp) .nil
  | 3 => .neut (x := [60, 63, 103, 111, 32, 111, 110, 63, 62]) (t := []) I8 (by simp) .nil
  | _ + 4 => .blank (p := [9]) (t := [60, 33, 45, 45, 45, 45, 62, 10, 60, 63, 97, 63, 62]) (bl rfl) (.neut (x := [60, 33, 45, 45, 45, 45, 62]) (t := [10, 60, 63, 97, 63, 62]) Dy (by simp) (.blank (p := [10]) (t := [60, 63, 97, 63, 62]) (bl rfl) (.neut (x := [60, 63, 97, 63, 62]) (t := []) Dz (by simp) .nil)))
theorem yM : ∀ a, ∃ p t, around a = p ++ t ∧ eB p ∧ Stp t ∧ Dr t
  | 0 => ⟨[], [], rfl, bl rfl, .inl rfl, .nil⟩
  | 1 => ⟨[32, 10], [], rfl, bl rfl, .inl rfl, .nil⟩
  | 2 => ⟨[], around 2, rfl, bl rfl, .inr rfl, pK 2⟩
  | 3 => ⟨[], around 3, rfl, bl rfl, .inr rfl, pK 3⟩
  | _ + 4 => ⟨[9], [60, 33, 45, 45, 45, 45, 62, 10, 60, 63, 97, 63, 62], rfl, bl rfl, .inr rfl, .neut (x := [60, 33, 45, 45, 45, 45, 62]) (t := [10, 60, 63, 97, 63, 62]) Dy (by simp) (.blank (p := [10]) (t := [60, 63, 97, 63, 62]) (bl rfl) (.neut (x := [60, 63, 97, 63, 62]) (t := []) Dz (by simp) .nil))⟩
end Go.Proofs.YtohgmkjhbacmpaaGreatDoor
set_option linter.unusedVariables false
set_option linter.unusedSimpArgs false
namespace Go.Proofs.YtohgmkjhbacmpaaGreatDoor
open Go Go.Abs Go.RowKit Go.Xml
def bO : UInt8 → Tx → Tx
  | _, [] => []
  | p, c :: l => if c = 10 ∧ p ≠ 13 then 13 :: c :: bO c l else c :: bO c l
theorem CG (l : Tx) : (bO 13 l).head? = l.head? := by
  cases l with
  | nil => rfl
  | cons c l => unfold bO; rw [if_neg (by simp)]; rfl
theorem ug : ∀ (l : Tx) (p : UInt8), aN (bO p l) = aN l
  | [], p => rfl
  | c :: l, p => by
    have ih := ug l c
    unfold bO
    split
    · rename_i h
      obtain ⟨rfl, _⟩ := h
      rw [fK, if_pos (show (10 :: bO 10 l).head? = some 10 from rfl), bN (by decide), bN (by decide), ih]
    · by_cases hc : c = 13
      · subst hc
        rw [fK, fK, CG, ih]
      · rw [bN hc, bN hc, ih]
theorem uh : ∀ {a : Tx} (p : UInt8) (l : Tx), (∀ c ∈ a, c ≠ 10) → ∃ p', bO p (a ++ l) = a ++ bO p' l
  | [], p, l, _ => ⟨p, rfl⟩
  | c :: a, p, l, h => by
    obtain ⟨p', hp⟩ := uh (a := a) c l fun d hd => h d (List.mem_cons_of_mem _ hd)
    refine ⟨p', ?_⟩
    rw [List.cons_append]
    conv => lhs; unfold bO
    rw [if_neg (fun g => h c (List.mem_cons_self ..) g.1), hp, List.cons_append]
theorem Fg {c : Nat} (hc : cK c = true) (h : c ≠ 10) : ∀ x ∈ utf8 c, x ≠ 10 := by
  obtain ⟨h1, h2⟩ := wh hc
  intro x hx e
  subst e
  have key : ∀ n : Nat, n < 256 → UInt8.ofNat n = 10 → n = 10 := fun n hn e => by
    have := congrArg UInt8.toNat e
    rw [UInt8.toNat_ofNat'] at this
    have h10 : (10 : UInt8).toNat = 10 := rfl
    omega
  unfold utf8 at hx
  split at hx
  · simp at hx; have := key c (by omega) hx.symm; omega
  split at hx
  · simp only [List.mem_cons, List.not_mem_nil, or_false] at hx
    rcases hx with hx | hx <;> (have := key _ (by omega) hx.symm; omega)
  split at hx
  · simp only [List.mem_cons, List.not_mem_nil, or_false] at hx
    rcases hx with hx | hx | hx <;> (have := key _ (by omega) hx.symm; omega)
  · simp only [List.mem_cons, List.not_mem_nil, or_false] at hx
    rcases hx with hx | hx | hx | hx <;> (have := key _ (by omega) hx.symm; omega)
theorem Good.crlf {l : Tx} (h : Good l) : ∀ p, Good (bO p l) := by
  induction h with
  | nil => exact fun p => .nil
  | @cons c l hc _ ih =>
    intro p
    by_cases h10 : c = 10
    · subst h10
      show Good (bO p (10 :: l))
      unfold bO
      have g10 : Good (10 :: bO 10 l) := Good.cons (c := 10) hc (ih 10)
      split
      · exact Good.cons (c := 13) (by decide) g10
      · exact g10
    · obtain ⟨p', e⟩ := uh p l (Fg hc h10)
      rw [e]
      exact .cons hc (ih p')
theorem lI : ∀ (l : Tx) (p : UInt8), (bO p l).length ≤ 2 * l.length
  | [], p => Nat.le_refl _
  | c :: l, p => by
    have := lI l c
    unfold bO
    split <;> simp <;> omega
def eD : Tx := [60, 63, 120, 109, 108, 32, 118, 101, 114, 115, 105, 111, 110, 61, 39, 49, 46, 48, 39, 32, 101, 110, 99, 111, 100, 105, 110, 103, 61, 34, 117, 116, 102, 45, 56, 34, 32, 63, 62]
theorem oq {c : UInt8} {s : Tx} (h : c ≠ 32 ∧ c ≠ 9 ∧ c ≠ 10) : aD (32 :: c :: s) = (true, c :: s) := by
  have e : Lib.trimLeftS (32 :: c :: s) blanks = c :: s := by
    unfold Lib.trimLeftS
    rw [List.dropWhile_cons_of_pos (by decide), List.dropWhile_cons_of_neg]
    obtain ⟨a, b, d⟩ := h
    simp [blanks, a, b, d]
  unfold aD
  rw [e, decide_eq_true (by simp)]
theorem G8 {c : UInt8} {s : Tx} (h : c ≠ 32 ∧ c ≠ 9 ∧ c ≠ 10) : eqF (61 :: c :: s) = .ok (c :: s) := by
  unfold eqF
  rw [skip_none (by decide)]
  have e : hasF [61] (61 :: c :: s) = (true, c :: s) := rfl
  rw [e]
  dsimp only
  rw [skip_none h]
  rfl
theorem Km (t : Tx) : bX [118, 101, 114, 115, 105, 111, 110] false [[49, 46, 48]] (32 :: 118 :: [101, 114, 115, 105, 111, 110, 61, 39, 49, 46, 48, 39] ++ t) = .ok (true, t) := by
  unfold bX
  rw [show (32 :: 118 :: [101, 114, 115, 105, 111, 110, 61, 39, 49, 46, 48, 39] ++ t : Tx) = 32 :: 118 :: ([101, 114, 115, 105, 111, 110, 61, 39, 49, 46, 48, 39] ++ t) from rfl, oq (by decide)]
  have e : hasF [118, 101, 114, 115, 105, 111, 110] (118 :: ([101, 114, 115, 105, 111, 110, 61, 39, 49, 46, 48, 39] ++ t)) = (true, 61 :: 39 :: ([49, 46, 48, 39] ++ t)) := rfl
  dsimp only
  rw [e]
  dsimp only
  rw [if_pos (by rfl), G8 (by decide)]
  rfl
theorem Kn (t : Tx) : bX [101, 110, 99, 111, 100, 105, 110, 103] true [[85, 84, 70, 45, 56]] (32 :: 101 :: [110, 99, 111, 100, 105, 110, 103, 61, 34, 117, 116, 102, 45, 56, 34] ++ t) = .ok (true, t) := by
  unfold bX
  rw [show (32 :: 101 :: [110, 99, 111, 100, 105, 110, 103, 61, 34, 117, 116, 102, 45, 56, 34] ++ t : Tx) = 32 :: 101 :: ([110, 99, 111, 100, 105, 110, 103, 61, 34, 117, 116, 102, 45, 56, 34] ++ t) from rfl, oq (by decide)]
  have e : hasF [101, 110, 99, 111, 100, 105, 110, 103] (101 :: ([110, 99, 111, 100, 105, 110, 103, 61, 34, 117, 116, 102, 45, 56, 34] ++ t)) = (true, 61 :: 34 :: ([117, 116, 102, 45, 56, 34] ++ t)) := rfl
  dsimp only
  rw [e]
  dsimp only
  rw [if_pos (by rfl), G8 (by decide)]
  rfl
theorem Ko (t : Tx) : bX [115, 116, 97, 110, 100, 97, 108, 111, 110, 101] false [[121, 101, 115], [110, 111]] (32 :: 63 :: t) = .ok (false, 32 :: 63 :: t) := by
  unfold bX
  rw [oq (by decide)]
  rfl
theorem CJ (t : Tx) : dK (eD ++ t) = .ok t := by
  unfold dK
  have e : hasF wXml (eD ++ t) = (true, 32 :: 118 :: [101, 114, 115, 105, 111, 110, 61, 39, 49, 46, 48, 39] ++ (32 :: 101 :: [110, 99, 111, 100, 105, 110, 103, 61, 34, 117, 116, 102, 45, 56, 34] ++ (32 :: 63 :: 62 :: t))) := rfl
  rw [e]
  dsimp only
  rw [if_pos (by rfl), Km]
  dsimp only
  rw [Kn]
  dsimp only
  rw [Ko]
  dsimp only
  rw [oq (by decide)]
  rfl
theorem uj {S : Tx} (h : (hasF wXml S).1 = false) : dK S = .ok S := by
  unfold dK
  rw [if_neg (by rw [h]; simp)]
theorem yN (a c : Nat) {lb : Tx} (h : (hasF wXml lb).1 = false) : (hasF wXml (around a ++ (lb ++ around c))).1 = false := by
  have neg : ∀ x : Tx, wXml.isPrefixOf x = false → (hasF wXml x).1 = false := fun x hx => by unfold hasF; rw [if_neg (by rw [hx]; decide)]
  have pos : wXml.isPrefixOf lb = false := by
    cases hp : wXml.isPrefixOf lb with
    | false => rfl
    | true => unfold hasF at h; rw [if_pos hp] at h; cases h
  have cat : ∀ c, wXml.isPrefixOf (lb ++ around c) = false := by
    intro c
    have heads : ∀ x y z v w : UInt8, ∀ s : Tx, True := fun _ _ _ _ _ _ => trivial
    match lb, pos with
    | [], _ => match c with
      | 0 => rfl
      | 1 => rfl
      | 2 => rfl
      | 3 => rfl
      | n + 4 => rfl
    | [a1], p => match c with
      | 0 => rw [show around 0 = [] from rfl, List.append_nil]; exact p
      | 1 => simp [around, wXml, List.isPrefixOf]
      | 2 => simp [around, wXml, List.isPrefixOf]
      | 3 => simp [around, wXml, List.isPrefixOf]
      | n + 4 => simp [around, wXml, List.isPrefixOf]
    | [a1, a2], p => match c with
      | 0 => rw [show around 0 = [] from rfl, List.append_nil]; exact p
      | 1 => simp [around, wXml, List.isPrefixOf]
      | 2 => simp [around, wXml, List.isPrefixOf]
      | 3 => simp [around, wXml, List.isPrefixOf]
      | n + 4 => simp [around, wXml, List.isPrefixOf]
    | [a1, a2, a3], p => match c with
      | 0 => rw [show around 0 = [] from rfl, List.append_nil]; exact p
      | 1 => simp [around, wXml, List.isPrefixOf]
      | 2 => simp [around, wXml, List.isPrefixOf]
      | 3 => simp [around, wXml, List.isPrefixOf]
      | n + 4 => simp [around, wXml, List.isPrefixOf]
    | [a1, a2, a3, a4], p => match c with
      | 0 => rw [show around 0 = [] from rfl, List.append_nil]; exact p
      | 1 => simp [around, wXml, List.isPrefixOf]
      | 2 => simp [around, wXml, List.isPrefixOf]
      | 3 => simp [around, wXml, List.isPrefixOf]
      | n + 4 => simp [around, wXml, List.isPrefixOf]
    | a1 :: a2 :: a3 :: a4 :: a5 :: s, p =>
      rw [jE (by show (5 : Nat) ≤ _; simp)]
      exact p
  match a with
  | 0 => exact neg _ (cat c)
  | 1 => rfl
  | 2 => rfl
  | 3 => rfl
  | n + 4 => rfl
theorem qA : ∀ a, Good (around a) := fun a => Good.ascii fun c hc => by
  have hall : ∀ x ∈ around a, x = 32 ∨ x = 9 ∨ x = 10 ∨ (33 ≤ x.toNat ∧ x.toNat < 128) := by
    match a with
    | 0 => decide
    | 1 => decide
    | 2 => decide
    | 3 => decide
    | n + 4 => intro x hx; revert x; show ∀ x ∈ [9, 60, 33, 45, 45, 45, 45, 62, 10, 60, 63, 97, 63, 62], _; decide
  rcases hall c hc with rfl | rfl | rfl | ⟨h1, h2⟩
  · decide
  · decide
  · decide
  · refine ⟨h2, ?_⟩
    unfold cK
    simp only [Bool.or_eq_true, Bool.and_eq_true, decide_eq_true_eq]
    omega
theorem qB : ∀ a, ∀ x ∈ around a, x ≠ 13
  | 0 => by decide
  | 1 => by decide
  | 2 => by decide
  | 3 => by decide
  | n + 4 => by show ∀ x ∈ [9, 60, 33, 45, 45, 45, 45, 62, 10, 60, 63, 97, 63, 62], (x : UInt8) ≠ 13; decide
theorem AA : ∀ a, (around a).head? ≠ some 10
  | 0 => by decide
  | 1 => by decide
  | 2 => by decide
  | 3 => by decide
  | n + 4 => by show ([9, 60, 33, 45, 45, 45, 45, 62, 10, 60, 63, 97, 63, 62] : Tx).head? ≠ some 10; decide
theorem iY : ∀ a, (around a).length ≤ 14
  | 0 => by decide
  | 1 => by decide
  | 2 => by decide
  | 3 => by decide
  | n + 4 => Nat.le_refl _
def iZ (fr ln : Bool) (S : Tx) : Tx := if ln then bO 0 (if fr then eD ++ S else S) else if fr then eD ++ S else S
theorem AB {fr ln : Bool} {S S' : Tx} (hl : S.length ≤ 6000) (hg : Good S) (hS : aN S = S') (hf : dK S' = .ok S') :
    bL (iZ fr ln S) = match allR S'.length ⟨S', [], [], false⟩ with
      | .error e => .error e
      | .ok r => if r.done = true ∧ r.stk = [] then .ok r.ns else .error 10 := by
  have hdl : eD.length = 39 := rfl
  have hdg : Good eD := Good.ascii (by decide)
  have h1 : Good (if fr then eD ++ S else S) := by
    split
    · exact hdg.append hg
    · exact hg
  have h2 : (if fr then eD ++ S else S).length ≤ 6039 := by
    split
    · rw [List.length_append]; omega
    · omega
  have h3 : aN (if fr then eD ++ S else S) = if fr then eD ++ S' else S' := by
    split
    · rw [j4 (by decide), hS]
    · exact hS
  have h4 : dK (if fr then eD ++ S' else S') = .ok S' := by
    split
    · exact CJ S'
    · exact hf
  have g1 : Good (iZ fr ln S) := by
    unfold iZ
    split
    · exact h1.crlf 0
    · exact h1
  have g2 : (iZ fr ln S).length ≤ 20000 := by
    unfold iZ
    split
    · have := lI (if fr then eD ++ S else S) 0; omega
    · omega
  have g3 : lines (iZ fr ln S) = if fr then eD ++ S' else S' := by
    rw [tN, ← h3]
    unfold iZ
    split
    · rw [ug]
    · rfl
  unfold bL
  rw [if_neg (by omega), (tQ _).2 g1, if_neg (by decide), g3]
  unfold allF
  rw [h4]
  rfl
theorem AJ {b : Tx} (hg : Good b) (hx : (hasF wXml b).1 = false) (hb : b.length ≤ 5000) (a c : Nat) (fr ln : Bool) :
    (∀ ns, bL b = .ok ns → bL (iZ fr ln (around a ++ (b ++ around c))) = .ok ns) ∧ (∀ e, bL b = .error e → bL (iZ fr ln (around a ++ b)) = .error e) := by
  have hlb : (hasF wXml (aN b)).1 = false := by
    unfold hasF at hx ⊢
    split at hx
    · cases hx
    · rename_i h1
      rw [if_neg (fun h2 => h1 (tO (by decide) h2))]
  have hfb : dK (aN b) = .ok (aN b) := uj hlb
  have hll : (aN b).length ≤ 20003 := by have := oV b; rw [tN] at this; omega
  have hp : bL b = match allR (aN b).length ⟨aN b, [], [], false⟩ with
      | .error e => .error e
      | .ok r => if r.done = true ∧ r.stk = [] then .ok r.ns else .error 10 := by
    unfold bL
    rw [if_neg (by omega), (tQ _).2 hg, if_neg (by decide), tN]
    unfold allF
    rw [hfb]
    rfl
  have hla := iY a
  have hlc := iY c
  have base : ∀ c', bL (iZ fr ln (around a ++ (b ++ around c'))) = match allR (aN b ++ around c').length ⟨aN b ++ around c', [], [], false⟩ with
      | .error e => .error e
      | .ok r => if r.done = true ∧ r.stk = [] then .ok r.ns else .error 10 := by
    intro c'
    have hlc' := iY c'
    have hS : aN (around a ++ (b ++ around c')) = around a ++ (aN b ++ around c') := by
      rw [j4 (qB a), qz (AA c')]
      congr 2
      have := j4 (qB c') []
      rw [List.append_nil] at this
      rw [this]
      exact List.append_nil _
    rw [AB (by rw [List.length_append, List.length_append]; omega) ((qA a).append (hg.append (qA c'))) hS (uj (yN a c' hlb))]
    rw [G7 (pK a) (RI.start _ (by rw [List.length_append, List.length_append]; omega)) (Nat.le_refl _) (Nat.le_refl _)]
  refine ⟨fun ns hok => ?_, fun e herr => ?_⟩
  · rw [base c]
    rw [hp] at hok
    cases hA : allR (aN b).length ⟨aN b, [], [], false⟩ with
    | error e => rw [hA] at hok; cases hok
    | ok r' =>
      rw [hA] at hok
      dsimp only at hok
      split at hok
      case isFalse => cases hok
      rename_i hd
      injection hok with hok
      obtain ⟨h1, h2⟩ := tJ _ hA
      obtain ⟨p, t, e1, e2, e3, e4⟩ := yM c
      have h3 := Fe e2 e3 h2 h1 hd.2
      dsimp only at h3
      have hRI : RI ⟨aN b ++ (p ++ t), [], [], false⟩ := RI.start _ (by rw [← e1, List.length_append]; omega)
      obtain ⟨f', f1, f2, f3⟩ := h3.run (aN b ++ (p ++ t)).length hRI (Nat.le_refl _)
      rw [e1, f2]
      obtain ⟨s', ns', k', d'⟩ := r'
      dsimp only at hd f1 f3 ⊢
      obtain ⟨rfl, rfl⟩ := hd
      have h4 := G7 e4 (s := []) (ns := ns') (d := true) (f := f') (f' := 0) (by rw [List.append_nil]; exact f3) (by rw [List.append_nil]; exact f1) (Nat.le_refl _)
      rw [List.append_nil] at h4
      rw [h4]
      show (if true = true ∧ ([] : List (Nat × Tx)) = [] then Except.ok ns' else Except.error 10) = _
      rw [if_pos ⟨rfl, rfl⟩]
      exact congrArg Except.ok hok
  · have := base 0
    rw [show around 0 = [] from rfl, List.append_nil, List.append_nil, ← hp] at this
    rw [this]
    exact herr
end Go.Proofs.YtohgmkjhbacmpaaGreatDoor
