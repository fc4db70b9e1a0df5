/- The start of an element, plainly (plain Lean; no conditions). -/
import Derived.Test.YtohgmkjhbacmpaaGreatDoorXmGD
import Derived.Lib.TrimAscii
import Derived.Test.YtohgmkjhbacmpaaGreatDoorXmGF
import Derived.Lib.ReplaceLaws
import Derived.Lib.DecodeN
set_option linter.unusedVariables false
set_option linter.unusedSimpArgs false
namespace Go.Proofs.YtohgmkjhbacmpaaGreatDoor
open Go Go.Abs Go.RowKit Go.Xml
theorem skip_none {c : UInt8} {t : Tx} (h : c ≠ 32 ∧ c ≠ 9 ∧ c ≠ 10) : aG (c :: t) = (false, c :: t) := by
  have e : Lib.trimLeftS (c :: t) blanks = c :: t := by
    unfold Lib.trimLeftS
    rw [List.dropWhile_cons_of_neg]
    obtain ⟨a, b, d⟩ := h
    simp [blanks, a, b, d]
  unfold aG
  rw [e, decide_eq_false (Nat.lt_irrefl _)]
theorem Bc {f : Nat} {nms : List Tx} {n : Nd} {c : UInt8} {t : Tx} (h : c ≠ 32 ∧ c ≠ 9 ∧ c ≠ 10) : bA (f + 1) nms n (c :: t) = .ok (nms, n, c :: t) := by
  unfold bA
  rw [skip_none h]
  rfl
theorem DI {r : RS} {nm s1 s2 s3 s4 : Tx} {nms : List Tx} {n n' : Nd} {cl : Bool} (h0 : ¬(r.stk = [] ∧ r.done = true)) (h1 : dh r.s = .ok (nm, s1)) (h2 : bA (s1.length + 1) [] (dx nm) s1 = .ok (nms, n, s2)) (h3 : hasF [47] s2 = (cl, s3)) (h4 : hasF [62] s3 = (true, s4)) (h5 : nms.length ≤ 32) (h6 : once nms = true) (h7 : bq r n = .ok n') (h8 : r.stk.length ≠ 32) :
    bH r = match addF n' { r with s := s4 } with
      | .error e => .error e
      | .ok (a, r') => .ok { r' with done := true, stk := if cl then r'.stk else r'.stk ++ [(a, nm)] } := by
  unfold bH
  rw [if_neg h0, h1]
  dsimp only
  rw [h2]
  dsimp only
  rw [h3]
  dsimp only
  rw [h4]
  dsimp only
  rw [if_neg (by simp), if_neg (by omega), h6, if_neg (by simp), h7]
  dsimp only
  rw [if_neg h8]
  rfl
end Go.Proofs.YtohgmkjhbacmpaaGreatDoor
set_option linter.unusedVariables false
set_option linter.unusedSimpArgs false
namespace Go.Proofs.YtohgmkjhbacmpaaGreatDoor
open Go Go.Abs Go.RowKit Go.Xml
end Go.Proofs.YtohgmkjhbacmpaaGreatDoor
set_option linter.unusedVariables false
set_option linter.unusedSimpArgs false
namespace Go.Proofs.YtohgmkjhbacmpaaGreatDoor
open Go Go.Abs Go.RowKit Go.Xml
end Go.Proofs.YtohgmkjhbacmpaaGreatDoor
set_option linter.unusedVariables false
set_option linter.unusedSimpArgs false
namespace Go.Proofs.YtohgmkjhbacmpaaGreatDoor
open Go Go.Abs Go.RowKit Go.Xml
inductive Steps : RS → RS → Prop
  | refl (r : RS) : Steps r r
  | step {r r1 r2 : RS} (hs : r.s ≠ []) (h : bg r = .ok r1) (t : Steps r1 r2) : Steps r r2
theorem Steps.trans {a b c : RS} (h : Steps a b) (h2 : Steps b c) : Steps a c := by
  induction h with
  | refl => exact h2
  | step hs h _ ih => exact .step hs h (ih h2)
theorem Steps.run {r r' : RS} (h : Steps r r') : ∀ (f : Nat), RI r → r.s.length ≤ f → ∃ f', r'.s.length ≤ f' ∧ allR f r = allR f' r' ∧ RI r' := by
  induction h with
  | refl r => exact fun f hI hf => ⟨f, hf, rfl, hI⟩
  | @step r r1 r2 hs h _ ih =>
    intro f hI hf
    obtain ⟨hI1, hl⟩ := rJ hI hs h
    obtain ⟨f0, rfl⟩ : ∃ f0, f = f0 + 1 := ⟨f - 1, by have := List.length_pos_iff.2 hs; omega⟩
    obtain ⟨f', h1, h2, h3⟩ := ih f0 hI1 (by omega)
    refine ⟨f', h1, ?_, h3⟩
    rw [← h2]
    show (if r.s = [] then (Except.ok r : Ex RS) else _) = _
    rw [if_neg hs, h]
theorem DJ {f : Nat} {r : RS} (h : r.s = []) : allR f r = .ok r := by
  cases f <;> (unfold allR; rw [if_pos h])
theorem Steps.end {r r' : RS} (h : Steps r r') (hI : RI r) (he : r'.s = []) {f : Nat} (hf : r.s.length ≤ f) : allR f r = .ok r' := by
  obtain ⟨f', h1, h2, _⟩ := h.run f hI hf
  rw [h2, DJ he]
def shN (a : Nat) (n : Nd) : Nd := { n with par := if n.par < 0 then 0 else n.par + a, kids := n.kids.map (· + a) }
def shK (a : Nat) (l : List (Nat × Tx)) : List (Nat × Tx) := l.map fun x => (x.1 + a, x.2)
structure Zed (k : Nat) (P : List Nd) : Prop where
  head : ∃ n0 rest, P = n0 :: rest ∧ n0.dcls = []
  kinds : ∀ (i : Nat) (n : Nd), k ≤ i → P[i]? = some n → n.kind ≠ 1
  len : k ≤ P.length
theorem jI (P L : List Nd) (i : Nat) (f : Nd → Nd) : (P ++ L).modify (i + P.length) f = P ++ L.modify i f := by
  induction P with
  | nil => simp
  | cons p P ih =>
    rw [List.cons_append, List.length_cons, ← Nat.add_assoc, List.modify_succ_cons, ih]
    rfl
theorem iZ (a : Nat) (f g : Nd → Nd) (h : ∀ n, g (shN a n) = shN a (f n)) : ∀ (L : List Nd) (i : Nat), (L.map (shN a)).modify i g = (L.modify i f).map (shN a)
  | [], i => by simp
  | n :: L, 0 => by simp [h]
  | n :: L, i + 1 => by
    rw [List.map_cons, List.modify_succ_cons, List.modify_succ_cons, List.map_cons, iZ a f g h L i]
theorem Fy (P L : List Nd) (p c : Nat) : aH (P ++ L.map (shN P.length)) (p + P.length) (c + P.length) = P ++ (aH L p c).map (shN P.length) := by
  unfold aH
  rw [jI, iZ P.length (fun n => { n with kids := n.kids ++ [c] })]
  intro n
  simp [shN]
theorem zi (n0 : Nd) (P X : List Nd) (c : Nat) : aH (n0 :: P ++ X) 0 c = aH (n0 :: P) 0 c ++ X := by
  simp [aH]
theorem Bd (P L : List Nd) (i : Nat) : (P ++ L.map (shN P.length))[i + P.length]? = (L[i]?).map (shN P.length) := by
  rw [List.getElem?_append_right (by omega), Nat.add_sub_cancel, List.getElem?_map]
theorem zk (a : Nat) (x : Nat × Tx) (l : List (Nat × Tx)) (h : l ≠ []) : (x :: shK a l).getLast? = (l.getLast?).map fun x => (x.1 + a, x.2) := by
  unfold shK
  rw [List.getLast?_cons, List.getLast?_map]
  cases hl : l.getLast? with
  | none => exact absurd (List.getLast?_eq_none_iff.1 hl) h
  | some y => rfl
structure In2 (k : Nat) (zn : Tx) (P : List Nd) (r r2 : RS) : Prop where
  s : r2.s = r.s
  done2 : r2.done = true
  zed : Zed k P
  stk0 : r.stk ≠ []
  done : r.done = true
  stk : r2.stk = (0, zn) :: shK P.length r.stk
  ns : r2.ns = P ++ r.ns.map (shN P.length)
  kid : ∃ n0, P[0]? = some n0 ∧ n0.kids.getLast? = some P.length
  root : ∃ n, r.ns[0]? = some n ∧ n.kind = 1
theorem In2.less {k : Nat} {zn : Tx} {P : List Nd} {r r2 : RS} (h : In2 k zn P r r2) (x : Tx) : In2 k zn P { r with s := x } { r2 with s := x } := ⟨rfl, h.done2, h.zed, h.stk0, h.done, h.stk, h.ns, h.kid, h.root⟩
theorem In2.last {k : Nat} {zn : Tx} {P : List Nd} {r r2 : RS} (h : In2 k zn P r r2) : r2.stk.getLast? = (r.stk.getLast?).map fun x => (x.1 + P.length, x.2) := by rw [h.stk, zk _ _ _ h.stk0]
theorem In2.space {k : Nat} {zn : Tx} {P : List Nd} {r r2 : RS} (h : In2 k zn P r r2) (p : Tx) (ds : List Dcl) : aJ r2 p ds = aJ r p ds := by
  have ho : ∀ l : List (Nat × Tx), outer r2.ns p (shK P.length l ++ [(0, zn)]) = outer r.ns p l := by
    intro l
    induction l with
    | nil =>
      obtain ⟨n0, rest, hP, hd⟩ := h.zed.head
      show (match findD p ((r2.ns[0]?.map (·.dcls)).getD []) with | some u => some u | none => none) = none
      rw [h.ns, hP]
      show (match findD p n0.dcls with | some u => some u | none => none) = none
      rw [hd]
      rfl
    | cons x l ih =>
      obtain ⟨a, nm⟩ := x
      show (match findD p ((r2.ns[a + P.length]?.map (·.dcls)).getD []) with | some u => some u | none => outer r2.ns p (shK P.length l ++ [(0, zn)])) = (match findD p ((r.ns[a]?.map (·.dcls)).getD []) with | some u => some u | none => outer r.ns p l)
      rw [ih, h.ns, Bd]
      cases r.ns[a]? <;> rfl
  have hr : r2.stk.reverse = shK P.length r.stk.reverse ++ [(0, zn)] := by
    rw [h.stk, List.reverse_cons]
    unfold shK
    rw [List.map_reverse]
  unfold aJ
  rw [hr, ho]
theorem rR {r r2 : RS} (h : ∀ p ds, aJ r2 p ds = aJ r p ds) (ds : List Dcl) : ∀ (l acc : List Att), fJ r2 ds acc l = fJ r ds acc l
  | [], acc => rfl
  | a :: l, acc => by
    unfold fJ
    rw [h, rR h ds l, rR h ds l]
theorem rT {r r2 : RS} (h : ∀ p ds, aJ r2 p ds = aJ r p ds) (n : Nd) : bq r2 n = bq r n := by
  unfold bq
  rw [h, rR h]
theorem Bf {ns : List Nd} {p c : Nat} {m : Nd} (h : ∃ n, ns[0]? = some n ∧ n.kind = 1) : ∃ n, (aH ns p c ++ [m])[0]? = some n ∧ n.kind = 1 := by
  obtain ⟨n, h1, h2⟩ := h
  obtain ⟨n', g1, g2, _, _⟩ := Ext.aH ns p c m 0 n h1
  exact ⟨n', g1, by rw [g2]; exact h2⟩
theorem In2.add {k : Nat} {zn : Tx} {P : List Nd} {r r2 r' : RS} {n : Nd} {i : Nat} (h : In2 k zn P r r2) (hn : n.kids = []) (ha : addF n r = .ok (i, r')) :
    addF n r2 = .error 33 ∨ ∃ r2', addF n r2 = .ok (i + P.length, r2') ∧ In2 k zn P r' r2' := by
  obtain ⟨p, nm, hl⟩ := gu h.stk0
  obtain ⟨rfl, rfl⟩ := kF hl ha
  have hl2 : r2.stk.getLast? = some (p + P.length, nm) := by rw [h.last, hl]; rfl
  have hlen : r2.ns.length = r.ns.length + P.length := by rw [h.ns, List.length_append, List.length_map]; omega
  unfold addF
  rw [hl2]
  by_cases h4 : r2.ns.length = 4096
  · left; rw [if_pos h4]
  · right
    rw [if_neg h4]
    refine ⟨{ r2 with ns := aH r2.ns (p + P.length) r2.ns.length ++ [{ n with par := ((p + P.length : Nat) : Int) }] }, by rw [hlen], ⟨h.s, h.done2, h.zed, h.stk0, h.done, h.stk, ?_, h.kid, Bf h.root⟩⟩
    show aH r2.ns (p + P.length) r2.ns.length ++ [{ n with par := ((p + P.length : Nat) : Int) }] = P ++ (aH r.ns p r.ns.length ++ [{ n with par := ((p : Nat) : Int) }]).map (shN P.length)
    rw [hlen, h.ns, Fy, List.map_append, List.append_assoc]
    congr 3
    simp only [List.map_cons, List.map_nil, shN, hn]
    rw [if_neg (by omega)]
    simp
theorem zl (P L : List Nd) (p : Nat) : bL (P ++ L.map (shN P.length)) (p + P.length) = (bL L p).map (· + P.length) := by
  unfold bL
  rw [Bd]
  cases hp : L[p]? with
  | none => rfl
  | some n =>
    show (match (n.kids.map (· + P.length)).getLast? with | some c => _ | none => _) = _
    rw [List.getLast?_map]
    show _ = Option.map _ (match n.kids.getLast? with | some c => _ | none => _)
    cases hc : n.kids.getLast? with
    | none => rfl
    | some c =>
      show (if ((P ++ L.map (shN P.length))[c + P.length]?.map (·.kind)) = some 2 then some (c + P.length) else none) = Option.map _ (if (L[c]?.map (·.kind)) = some 2 then some c else none)
      rw [Bd]
      have e : ((L[c]?.map (shN P.length)).map (·.kind)) = L[c]?.map (·.kind) := by cases L[c]? <;> rfl
      rw [e]
      split <;> rfl
theorem In2.text {k : Nat} {zn : Tx} {P : List Nd} {r r2 r' : RS} {t : Tx} (h : In2 k zn P r r2) (ha : aS t r = .ok r') : aS t r2 = .error 33 ∨ ∃ r2', aS t r2 = .ok r2' ∧ In2 k zn P r' r2' := by
  obtain ⟨p, nm, hl⟩ := gu h.stk0
  have hl2 : r2.stk.getLast? = some (p + P.length, nm) := by rw [h.last, hl]; rfl
  unfold aS at ha ⊢
  split at ha
  · rename_i h0
    injection ha with ha; subst ha
    right
    rw [if_pos h0]
    exact ⟨_, rfl, h⟩
  rename_i h0
  rw [if_neg h0, hl2]
  rw [hl] at ha
  dsimp only at ha ⊢
  rw [h.ns, zl]
  cases hx : bL r.ns p with
  | some c =>
    rw [hx] at ha
    injection ha with ha; subst ha
    right
    refine ⟨_, rfl, ⟨h.s, h.done2, h.zed, h.stk0, h.done, h.stk, ?_, h.kid, ?_⟩⟩
    · show ((P ++ r.ns.map (shN P.length)).modify (c + P.length) fun n => { n with val := n.val ++ t }) = P ++ (r.ns.modify c fun n => { n with val := n.val ++ t }).map (shN P.length)
      rw [jI, iZ P.length (fun n => { n with val := n.val ++ t })]
      intro n; rfl
    · obtain ⟨n, h1, h2⟩ := h.root
      show ∃ m, (r.ns.modify c fun n => { n with val := n.val ++ t })[0]? = some m ∧ m.kind = 1
      rw [List.getElem?_modify, h1]
      exact ⟨_, rfl, by dsimp only; split <;> exact h2⟩
  | none =>
    rw [hx] at ha
    cases hd : addF { nd0 with kind := 2, val := t } r with
    | error e => rw [hd] at ha; cases ha
    | ok y =>
      obtain ⟨i, r1⟩ := y
      rw [hd] at ha
      injection ha with ha; subst ha
      rcases h.add (by rfl) hd with h1 | ⟨r2', h1, h2⟩
      · left
        show (match addF { nd0 with kind := 2, val := t } r2 with | .ok (_, r') => (.ok r' : Ex RS) | .error e => .error e) = _
        rw [h1]
      · right
        refine ⟨r2', ?_, h2⟩
        show (match addF { nd0 with kind := 2, val := t } r2 with | .ok (_, r') => (.ok r' : Ex RS) | .error e => .error e) = _
        rw [h1]
end Go.Proofs.YtohgmkjhbacmpaaGreatDoor
set_option linter.unusedVariables false
set_option linter.unusedSimpArgs false
namespace Go.Proofs.YtohgmkjhbacmpaaGreatDoor
open Go Go.Abs Go.RowKit Go.Xml
def gU (x : Ex RS) : Prop := x = .error 32 ∨ x = .error 33
structure Out3 (k a : Nat) (zn : Tx) (r r2 : RS) : Prop where
  s : r2.s = r.s
  done2 : r2.done = true
  stk0 : r.stk = []
  done : r.done = true
  stk : r2.stk = [(0, zn)]
  ns : ∃ P T, Zed k P ∧ P.length = a ∧ r2.ns = P ++ (r.ns.map (shN a) ++ T) ∧ ∃ n0 c, P[0]? = some n0 ∧ n0.kids.getLast? = some c ∧ (c = a ∨ a + r.ns.length ≤ c)
  root : ∃ n, r.ns[0]? = some n ∧ n.kind = 1
structure In1 (k : Nat) (zn : Tx) (r r2 : RS) : Prop where
  s : r2.s = r.s
  done2 : r2.done = true
  stk0 : r.stk = []
  done : r.done = false
  ns : r.ns = []
  stk : r2.stk = [(0, zn)]
  zed : Zed k r2.ns
theorem GU {w s : Tx} (h : (hasF w s).1 = true) : s = w ++ (hasF w s).2 := by
  unfold hasF at h ⊢
  split at h
  · rename_i hp
    rw [if_pos hp]
    obtain ⟨t, rfl⟩ := List.isPrefixOf_iff_prefix.1 hp
    simp
  · cases h
theorem DK {k : Nat} {zn : Tx} {P : List Nd} {r r2 : RS} (h : In2 k zn P r r2) : ∃ p nm, r.stk.getLast? = some (p, nm) ∧ r2.stk.getLast? = some (p + P.length, nm) := by
  obtain ⟨p, nm, hl⟩ := gu h.stk0
  exact ⟨p, nm, hl, by rw [h.last, hl]; rfl⟩
theorem In2.stk2 {k : Nat} {zn : Tx} {P : List Nd} {r r2 : RS} (h : In2 k zn P r r2) : r2.stk ≠ [] := by rw [h.stk]; simp
theorem In2.start {k : Nat} {zn : Tx} {P : List Nd} {r r2 r' : RS} (h : In2 k zn P r r2) (ha : bH r = .ok r') : gU (bH r2) ∨ ∃ r2', bH r2 = .ok r2' ∧ In2 k zn P r' r2' := by
  unfold bH at ha ⊢
  rw [if_neg (by simp [h.stk0])] at ha
  rw [if_neg (by simp [h.stk2]), h.s]
  cases hn : dh r.s with
  | error e => rw [hn] at ha; cases ha
  | ok x =>
    obtain ⟨nm, s1⟩ := x
    rw [hn] at ha
    dsimp only at ha ⊢
    cases hat : bA (s1.length + 1) [] (dx nm) s1 with
    | error e => rw [hat] at ha; cases ha
    | ok y =>
      obtain ⟨nms, n, s2⟩ := y
      rw [hat] at ha
      dsimp only at ha ⊢
      split at ha
      · cases ha
      rename_i h1
      rw [if_neg h1]
      split at ha
      · cases ha
      rename_i h2
      rw [if_neg h2]
      split at ha
      · cases ha
      rename_i h3
      rw [if_neg h3, rT h.space]
      cases hs : bq r n with
      | error e => rw [hs] at ha; cases ha
      | ok n' =>
        rw [hs] at ha
        dsimp only at ha ⊢
        split at ha
        · cases ha
        rename_i h4
        have hl : r2.stk.length = r.stk.length + 1 := by rw [h.stk]; simp [shK]
        by_cases h5 : r2.stk.length = 32
        · left; rw [if_pos h5]; exact .inl rfl
        rw [if_neg h5]
        cases hd : addF n' { r with s := (hasF [62] (hasF [47] s2).2).2 } with
        | error e => rw [hd] at ha; cases ha
        | ok z =>
          obtain ⟨a, r1⟩ := z
          rw [hd] at ha
          dsimp only at ha
          injection ha with ha
          have hkids : n'.kids = [] := by
            obtain ⟨_, _, _, _, g⟩ := lK hs
            obtain ⟨g4, _⟩ := g
            rw [g4]
            obtain ⟨_, _, _, g5⟩ := iU _ hat
            rw [g5]
            exact (ny hn).2.2
          rcases (h.less (hasF [62] (hasF [47] s2).2).2).add hkids hd with g | ⟨r2', g1, g2⟩
          · left; right
            rw [g]
          · right
            rw [g1]
            refine ⟨_, rfl, ?_⟩
            rw [← ha]
            refine ⟨g2.s, rfl, g2.zed, ?_, rfl, ?_, g2.ns, g2.kid, g2.root⟩
            · dsimp only
              split
              · exact g2.stk0
              · simp
            · dsimp only
              split
              · exact g2.stk
              · rw [g2.stk]
                simp [shK]
theorem In2.leaf {k : Nat} {zn : Tx} {P : List Nd} {r r2 r' : RS} {n : Nd} {x : Tx} (h : In2 k zn P r r2) (hn : n.kids = []) (ha : (if r.stk = [] then (.ok { r with s := x } : Ex RS) else match addF n { r with s := x } with | .error e => .error e | .ok (_, r') => .ok r') = .ok r') :
    gU (if r2.stk = [] then (.ok { r2 with s := x } : Ex RS) else match addF n { r2 with s := x } with | .error e => .error e | .ok (_, r') => .ok r') ∨ ∃ r2', (if r2.stk = [] then (.ok { r2 with s := x } : Ex RS) else match addF n { r2 with s := x } with | .error e => .error e | .ok (_, r') => .ok r') = .ok r2' ∧ In2 k zn P r' r2' := by
  rw [if_neg h.stk0] at ha
  rw [if_neg h.stk2]
  cases hd : addF n { r with s := x } with
  | error e => rw [hd] at ha; cases ha
  | ok z =>
    obtain ⟨a, r1⟩ := z
    rw [hd] at ha
    injection ha with ha; subst ha
    rcases (h.less x).add hn hd with g | ⟨r2', g1, g2⟩
    · left; right; rw [g]
    · right; rw [g1]; exact ⟨_, rfl, g2⟩
theorem In2.comment {k : Nat} {zn : Tx} {P : List Nd} {r r2 r' : RS} (h : In2 k zn P r r2) (ha : aX r = .ok r') : gU (aX r2) ∨ ∃ r2', aX r2 = .ok r2' ∧ In2 k zn P r' r2' := by
  unfold aX at ha ⊢
  rw [h.s]
  cases hu : bD [45, 45] r.s with
  | error e => rw [hu] at ha; cases ha
  | ok z =>
    obtain ⟨v, s1⟩ := z
    rw [hu] at ha
    dsimp only at ha ⊢
    split at ha
    · rename_i h1
      rw [if_pos h1]
      exact h.leaf rfl ha
    · cases ha
theorem In2.proc {k : Nat} {zn : Tx} {P : List Nd} {r r2 r' : RS} (h : In2 k zn P r r2) (ha : fB r = .ok r') : gU (fB r2) ∨ ∃ r2', fB r2 = .ok r2' ∧ In2 k zn P r' r2' := by
  unfold fB at ha ⊢
  rw [h.s]
  cases hn : dh r.s with
  | error e => rw [hn] at ha; cases ha
  | ok y =>
    obtain ⟨nm, s1⟩ := y
    rw [hn] at ha
    dsimp only at ha ⊢
    split at ha
    · cases ha
    rename_i h1
    rw [if_neg h1]
    split at ha
    · rename_i h2
      rw [if_pos h2]
      exact h.leaf rfl ha
    · rename_i h2
      rw [if_neg h2]
      split at ha
      · rename_i h3
        rw [if_pos h3]
        cases hu : bD [63, 62] (aG s1).2 with
        | error e => rw [hu] at ha; cases ha
        | ok z =>
          obtain ⟨v, s2⟩ := z
          rw [hu] at ha
          exact h.leaf rfl ha
      · cases ha
theorem In2.endT {k : Nat} {zn : Tx} {P : List Nd} {r r2 r' : RS} (h : In2 k zn P r r2) (ha : endF r = .ok r') : ∃ r2', endF r2 = .ok r2' ∧ (In2 k zn P r' r2' ∨ Out3 k P.length zn r' r2') := by
  obtain ⟨p, nm, hl, hl2⟩ := DK h
  unfold endF at ha ⊢
  rw [hl] at ha
  rw [hl2, h.s]
  dsimp only at ha ⊢
  cases hn : dh r.s with
  | error e => rw [hn] at ha; cases ha
  | ok y =>
    obtain ⟨z, s1⟩ := y
    rw [hn] at ha
    dsimp only at ha ⊢
    split at ha
    · rename_i h1
      rw [if_pos h1]
      refine ⟨_, rfl, ?_⟩
      injection ha with ha; subst ha
      by_cases h2 : r.stk.dropLast = []
      · right
        refine ⟨rfl, h.done2, h2, h.done, ?_, ⟨P, [], h.zed, rfl, by rw [List.append_nil]; exact h.ns, ?_⟩, h.root⟩
        · show r2.stk.dropLast = _
          rw [h.stk]
          unfold shK
          have h3 : r.stk.length = 1 := by
            have := congrArg List.length h2
            rw [List.length_dropLast] at this
            have h4 := List.length_pos_iff.2 h.stk0
            simp at this; omega
          obtain ⟨x, hx⟩ := List.length_eq_one_iff.1 h3
          rw [hx]; rfl
        · obtain ⟨n0, g1, g2⟩ := h.kid
          exact ⟨n0, _, g1, g2, .inl rfl⟩
      · left
        refine ⟨rfl, h.done2, h.zed, h2, h.done, ?_, h.ns, h.kid, h.root⟩
        show r2.stk.dropLast = _
        rw [h.stk]
        unfold shK
        rw [List.map_dropLast, List.dropLast_cons_of_ne_nil (by simp [h.stk0])]
    · cases ha
theorem In2.step {k : Nat} {zn : Tx} {P : List Nd} {r r2 r' : RS} (h : In2 k zn P r r2) (ha : bg r = .ok r') : gU (bg r2) ∨ ∃ r2', bg r2 = .ok r2' ∧ (In2 k zn P r' r2' ∨ Out3 k P.length zn r' r2') := by
  have lift : ∀ {x : Ex RS}, (gU x ∨ ∃ r2', x = .ok r2' ∧ In2 k zn P r' r2') → (gU x ∨ ∃ r2', x = .ok r2' ∧ (In2 k zn P r' r2' ∨ Out3 k P.length zn r' r2')) := fun hx => by
    rcases hx with g | ⟨r2', g1, g2⟩
    · exact .inl g
    · exact .inr ⟨r2', g1, .inl g2⟩
  have text : ∀ {t x : Tx}, aS t { r with s := x } = .ok r' → (gU (aS t { r2 with s := x }) ∨ ∃ r2', aS t { r2 with s := x } = .ok r2' ∧ In2 k zn P r' r2') := fun hx => by
    rcases (h.less _).text hx with g | ⟨r2', g1, g2⟩
    · exact .inl (.inr g)
    · exact .inr ⟨r2', g1, g2⟩
  unfold bg at ha ⊢
  rw [h.s]
  split at ha
  · rename_i h1
    rw [if_pos h1]
    unfold iQ at ha ⊢
    rw [h.s]
    split at ha
    · rename_i g1
      rw [if_pos g1]
      exact lift ((h.less _).comment ha)
    rename_i g1
    rw [if_neg g1, if_neg (by simp [h.stk2])]
    rw [if_neg (by simp [h.stk0])] at ha
    split at ha
    · rename_i g2
      rw [if_pos ⟨h.stk2, g2.2⟩]
      cases hu : bD [93, 93, 62] (hasF iE r.s).2 with
      | error e => rw [hu] at ha; cases ha
      | ok z =>
        obtain ⟨v, s1⟩ := z
        rw [hu] at ha
        exact lift (text ha)
    rename_i g2
    rw [if_neg (fun g => g2 ⟨h.stk0, g.2⟩)]
    split at ha
    · rename_i g3
      rw [if_pos g3]
      exact lift ((h.less _).proc ha)
    rename_i g3
    rw [if_neg g3]
    split at ha
    · rename_i g4
      rw [if_pos g4]
      exact .inr ((h.less _).endT ha)
    rename_i g4
    rw [if_neg g4]
    split at ha
    · rename_i g5
      rw [if_pos g5]
      exact lift ((h.less _).start ha)
    · rename_i g5
      rw [if_neg g5]
      injection ha with ha; subst ha
      exact .inr ⟨_, rfl, .inl h⟩
  rename_i h1
  rw [if_neg h1]
  split at ha
  · rename_i h2
    rw [if_pos ⟨h.stk2, h2.2⟩]
    cases hx : refF (hasF [38] r.s).2 with
    | error e => rw [hx] at ha; cases ha
    | ok z =>
      obtain ⟨v, s1⟩ := z
      rw [hx] at ha
      exact lift (text ha)
  rename_i h2
  rw [if_neg (fun g => h2 ⟨h.stk0, g.2⟩)]
  split at ha
  · cases ha
  rename_i h3
  rw [if_neg h3]
  unfold gq at ha ⊢
  rw [if_neg h.stk0] at ha
  rw [if_neg h.stk2, h.s]
  split at ha
  · cases ha
  rename_i h4
  rw [if_neg h4]
  cases hx : aS (r.s.take (upTo r.s [60, 38])) r with
  | error e => rw [hx] at ha; cases ha
  | ok r1 =>
    rw [hx] at ha
    injection ha with ha; subst ha
    rcases h.text hx with g | ⟨r2', g1, g2⟩
    · left; right; rw [g]
    · right
      rw [g1]
      exact ⟨_, rfl, .inl (g2.less _)⟩
end Go.Proofs.YtohgmkjhbacmpaaGreatDoor
set_option linter.unusedVariables false
set_option linter.unusedSimpArgs false
namespace Go.Proofs.YtohgmkjhbacmpaaGreatDoor
open Go Go.Abs Go.RowKit Go.Xml
theorem Zed.kid {k : Nat} {P : List Nd} (h : Zed k P) (c : Nat) : Zed k (aH P 0 c) := by
  obtain ⟨n0, rest, rfl, hd⟩ := h.head
  refine ⟨⟨_, _, rfl, hd⟩, fun i n hi hn => ?_, by rw [bU]; exact h.len⟩
  rw [oo] at hn
  cases hx : (n0 :: rest)[i]? with
  | none => rw [hx] at hn; cases hn
  | some m =>
    rw [hx] at hn
    have := h.kinds i m hi hx
    simp only [Option.map_some, Option.some.injEq] at hn
    rw [← hn]
    split <;> exact this
theorem Zed.snoc {k : Nat} {P : List Nd} (h : Zed k P) {m : Nd} (hm : m.kind ≠ 1) : Zed k (P ++ [m]) := by
  obtain ⟨n0, rest, rfl, hd⟩ := h.head
  refine ⟨⟨n0, rest ++ [m], rfl, hd⟩, fun i n hi hn => ?_, by rw [List.length_append]; have := h.len; omega⟩
  by_cases hl : i < (n0 :: rest).length
  · rw [List.getElem?_append_left hl] at hn
    exact h.kinds i n hi hn
  · rw [List.getElem?_append_right (by omega)] at hn
    have := List.mem_of_getElem? hn
    rw [List.mem_singleton.1 this]
    exact hm
theorem Zed.mod {k : Nat} {P : List Nd} (h : Zed k P) (c : Nat) (t : Tx) : Zed k (P.modify c fun n => { n with val := n.val ++ t }) := by
  obtain ⟨n0, rest, rfl, hd⟩ := h.head
  refine ⟨?_, fun i n hi hn => ?_, by rw [List.length_modify]; exact h.len⟩
  · cases c with
    | zero => exact ⟨_, _, rfl, hd⟩
    | succ c => exact ⟨_, _, by rw [List.modify_succ_cons], hd⟩
  · rw [List.getElem?_modify] at hn
    cases hx : (n0 :: rest)[i]? with
    | none => rw [hx] at hn; cases hn
    | some m =>
      rw [hx] at hn
      have := h.kinds i m hi hx
      change some _ = some n at hn
      injection hn with hn
      rw [← hn]
      split <;> exact this
theorem addZ {r2 : RS} {zn : Tx} (n : Nd) (hs : r2.stk = [(0, zn)]) : addF n r2 = .error 33 ∨ addF n r2 = .ok (r2.ns.length, { r2 with ns := aH r2.ns 0 r2.ns.length ++ [{ n with par := ((0 : Nat) : Int) }] }) := by
  unfold addF
  by_cases h4 : r2.ns.length = 4096
  · left; rw [if_pos h4]
  · right; rw [if_neg h4, hs]; rfl
theorem In1.put {k : Nat} {zn : Tx} {r r2 : RS} (h : In1 k zn r r2) {m : Nd} (hm : m.kind ≠ 1) (x : Tx) (c : Nat) : In1 k zn { r with s := x } { r2 with s := x, ns := aH r2.ns 0 c ++ [m] } :=
  ⟨rfl, h.done2, h.stk0, h.done, h.ns, h.stk, (h.zed.kid c).snoc hm⟩
theorem In1.less {k : Nat} {zn : Tx} {r r2 : RS} (h : In1 k zn r r2) (x : Tx) : In1 k zn { r with s := x } { r2 with s := x } := ⟨rfl, h.done2, h.stk0, h.done, h.ns, h.stk, h.zed⟩
theorem Out3.less {k a : Nat} {zn : Tx} {r r2 : RS} (h : Out3 k a zn r r2) (x : Tx) : Out3 k a zn { r with s := x } { r2 with s := x } := ⟨rfl, h.done2, h.stk0, h.done, h.stk, h.ns, h.root⟩
theorem Out3.put {k a : Nat} {zn : Tx} {r r2 : RS} (h : Out3 k a zn r r2) (m : Nd) (x : Tx) : Out3 k a zn { r with s := x } { r2 with s := x, ns := aH r2.ns 0 r2.ns.length ++ [m] } := by
  obtain ⟨P, T, hZ, hP, hN, n0, c, h0, hc, hc2⟩ := h.ns
  obtain ⟨m0, rest, hm, hd⟩ := hZ.head
  refine ⟨rfl, h.done2, h.stk0, h.done, h.stk, ⟨aH P 0 r2.ns.length, T ++ [m], hZ.kid _, by rw [bU]; exact hP, ?_, { m0 with kids := m0.kids ++ [r2.ns.length] }, r2.ns.length, ?_, ?_, .inr ?_⟩, h.root⟩
  · show aH r2.ns 0 r2.ns.length ++ [m] = _
    rw [hN, hm, zi, List.append_assoc, List.append_assoc]
  · rw [hm]; rfl
  · simp
  · rw [hN, List.length_append, List.length_append, List.length_map]; dsimp only; omega
theorem zm {ns : List Nd} {c : Nat} (h : bL ns 0 = some c) : ∃ n0 n, ns[0]? = some n0 ∧ n0.kids.getLast? = some c ∧ ns[c]? = some n ∧ n.kind = 2 := by
  unfold bL at h
  cases h0 : ns[0]? with
  | none => rw [h0] at h; cases h
  | some n0 =>
    rw [h0] at h
    change (match n0.kids.getLast? with | some c => (if ((ns[c]?).map (·.kind)) = some 2 then some c else none) | none => none) = some c at h
    cases h1 : n0.kids.getLast? with
    | none => rw [h1] at h; cases h
    | some d =>
      rw [h1] at h
      dsimp only at h
      split at h
      · rename_i h2
        injection h with h; subst h
        cases h3 : ns[d]? with
        | none => rw [h3] at h2; cases h2
        | some n =>
          rw [h3] at h2
          simp at h2
          exact ⟨n0, n, rfl, h1, rfl, h2⟩
      · cases h
theorem Ig {r2 : RS} {zn t : Tx} (hs : r2.stk = [(0, zn)]) (ht : t ≠ []) : aS t r2 = .error 33 ∨ (∃ c, bL r2.ns 0 = some c ∧ aS t r2 = .ok { r2 with ns := r2.ns.modify c fun n => { n with val := n.val ++ t } }) ∨
    aS t r2 = .ok { r2 with ns := aH r2.ns 0 r2.ns.length ++ [{ nd0 with kind := 2, val := t, par := ((0 : Nat) : Int) }] } := by
  unfold aS
  rw [if_neg ht, hs]
  dsimp only [List.getLast?_singleton]
  cases hx : bL r2.ns 0 with
  | some c => exact .inr (.inl ⟨c, rfl, rfl⟩)
  | none =>
    rcases addZ { nd0 with kind := 2, val := t } hs with g | g
    · left
      show (match addF { nd0 with kind := 2, val := t } r2 with | .ok (_, r') => (.ok r' : Ex RS) | .error e => .error e) = _
      rw [g]
    · right; right
      show (match addF { nd0 with kind := 2, val := t } r2 with | .ok (_, r') => (.ok r' : Ex RS) | .error e => .error e) = _
      rw [g]
      dsimp only
      rw [hs]
theorem In1.text {k : Nat} {zn t : Tx} {r r2 : RS} (h : In1 k zn r r2) (ht : t ≠ []) : aS t r2 = .error 33 ∨ ∃ r2', aS t r2 = .ok r2' ∧ In1 k zn r r2' := by
  rcases Ig h.stk ht with g | ⟨c, _, g⟩ | g
  · exact .inl g
  · exact .inr ⟨_, g, h.s, h.done2, h.stk0, h.done, h.ns, h.stk, h.zed.mod c t⟩
  · exact .inr ⟨_, g, h.s, h.done2, h.stk0, h.done, h.ns, h.stk, (h.zed.kid _).snoc (show (2 : Int) ≠ 1 by decide)⟩
theorem Out3.text {k a : Nat} {zn t : Tx} {r r2 : RS} (h : Out3 k a zn r r2) (ht : t ≠ []) : aS t r2 = .error 33 ∨ ∃ r2', aS t r2 = .ok r2' ∧ Out3 k a zn r r2' := by
  rcases Ig h.stk ht with g | ⟨c, hc, g⟩ | g
  · exact .inl g
  · right
    refine ⟨_, g, h.s, h.done2, h.stk0, h.done, h.stk, ?_, h.root⟩
    obtain ⟨P, T, hZ, hP, hN, n0, c0, h0, hc0, hc2⟩ := h.ns
    obtain ⟨m0, m, g0, g1, g2, g3⟩ := zm hc
    obtain ⟨rn, hr, hr1⟩ := h.root
    have hpos : 0 < P.length := by obtain ⟨_, _, e, _⟩ := hZ.head; rw [e]; simp
    have e0 : r2.ns[0]? = some n0 := by rw [hN, List.getElem?_append_left hpos]; exact h0
    rw [e0] at g0
    injection g0 with g0; subst g0
    rw [hc0] at g1
    injection g1 with g1; subst g1
    have hge : a + r.ns.length ≤ c0 := by
      rcases hc2 with rfl | hge
      · exfalso
        have hrl := (List.getElem?_eq_some_iff.1 hr).1
        rw [hN, List.getElem?_append_right (by omega), hP, Nat.sub_self, List.getElem?_append_left (by rw [List.length_map]; omega), List.getElem?_map, hr] at g2
        injection g2 with g2
        rw [← g2] at g3
        simp [shN, hr1] at g3
      · exact hge
    refine ⟨P, T.modify (c0 - a - r.ns.length) fun n => { n with val := n.val ++ t }, hZ, hP, ?_, n0, c0, h0, hc0, .inr hge⟩
    show (r2.ns.modify c0 fun n => { n with val := n.val ++ t }) = _
    rw [hN]
    have e1 : c0 = (c0 - a - r.ns.length + (r.ns.map (shN a)).length) + P.length := by rw [List.length_map, hP]; omega
    conv => lhs; rw [e1]
    rw [jI, jI]
  · exact .inr ⟨_, g, by
      have := h.put { nd0 with kind := 2, val := t, par := ((0 : Nat) : Int) } r.s
      exact ⟨h.s, this.done2, this.stk0, this.done, this.stk, this.ns, this.root⟩⟩
theorem Fz {r2 : RS} {zn x : Tx} (n : Nd) (hs : r2.stk = [(0, zn)]) :
    gU (if r2.stk = [] then (.ok { r2 with s := x } : Ex RS) else match addF n { r2 with s := x } with | .error e => .error e | .ok (_, r') => .ok r') ∨
    (if r2.stk = [] then (.ok { r2 with s := x } : Ex RS) else match addF n { r2 with s := x } with | .error e => .error e | .ok (_, r') => .ok r') = .ok { r2 with s := x, ns := aH r2.ns 0 r2.ns.length ++ [{ n with par := ((0 : Nat) : Int) }] } := by
  rw [if_neg (by simp [hs])]
  rcases addZ (r2 := { r2 with s := x }) n hs with g | g
  · left; right; rw [g]
  · right; rw [g]
theorem FB {r r2 r' : RS} {zn : Tx} (hs2 : r2.s = r.s) (hs : r2.stk = [(0, zn)]) (h0 : r.stk = []) (ha : aX r = .ok r') :
    gU (aX r2) ∨ ∃ x m, r' = { r with s := x } ∧ m.kind ≠ 1 ∧ aX r2 = .ok { r2 with s := x, ns := aH r2.ns 0 r2.ns.length ++ [m] } := by
  unfold aX at ha ⊢
  rw [hs2]
  cases hu : bD [45, 45] r.s with
  | error e => rw [hu] at ha; cases ha
  | ok z =>
    obtain ⟨v, s1⟩ := z
    rw [hu] at ha
    dsimp only at ha ⊢
    split at ha
    · rename_i h1
      rw [if_pos h1]
      try rw [if_pos h0] at ha
      injection ha with ha
      rcases Fz (x := (hasF [62] s1).2) { nd0 with kind := 3, val := v } hs with g | g
      · exact .inl g
      · exact .inr ⟨_, _, ha.symm, by simp [nd0], g⟩
    · cases ha
theorem JE {r r2 r' : RS} {zn : Tx} (hs2 : r2.s = r.s) (hs : r2.stk = [(0, zn)]) (h0 : r.stk = []) (ha : fB r = .ok r') :
    gU (fB r2) ∨ ∃ x m, r' = { r with s := x } ∧ m.kind ≠ 1 ∧ fB r2 = .ok { r2 with s := x, ns := aH r2.ns 0 r2.ns.length ++ [m] } := by
  unfold fB at ha ⊢
  rw [hs2]
  cases hn : dh r.s with
  | error e => rw [hn] at ha; cases ha
  | ok y =>
    obtain ⟨nm, s1⟩ := y
    rw [hn] at ha
    dsimp only at ha ⊢
    split at ha
    · cases ha
    rename_i h1
    rw [if_neg h1]
    split at ha
    · rename_i h2
      rw [if_pos h2]
      try rw [if_pos h0] at ha
      injection ha with ha
      rcases Fz (x := (hasF [63, 62] s1).2) { nd0 with kind := 4, loc := nm, val := [] } hs with g | g
      · exact .inl g
      · exact .inr ⟨_, _, ha.symm, by simp [nd0], g⟩
    · rename_i h2
      rw [if_neg h2]
      split at ha
      · rename_i h3
        rw [if_pos h3]
        cases hu : bD [63, 62] (aG s1).2 with
        | error e => rw [hu] at ha; cases ha
        | ok z =>
          obtain ⟨v, s2⟩ := z
          rw [hu] at ha
          dsimp only at ha ⊢
          try rw [if_pos h0] at ha
          injection ha with ha
          rcases Fz (x := s2) { nd0 with kind := 4, loc := nm, val := v } hs with g | g
          · exact .inl g
          · exact .inr ⟨_, _, ha.symm, by simp [nd0], g⟩
      · cases ha
theorem uJ {p : UInt8 → Bool} : ∀ {l : Tx}, l.dropWhile p = [] → ∀ c ∈ l, p c = true
  | [], _, c, hc => by cases hc
  | d :: l, h, c, hc => by
    by_cases hp : p d = true
    · rw [List.dropWhile_cons_of_pos hp] at h
      rcases List.mem_cons.1 hc with rfl | hc
      · exact hp
      · exact uJ h c hc
    · rw [List.dropWhile_cons_of_neg hp] at h; cases h
theorem DL {l : Tx} (h : Lib.trimS l blanks = []) : ∀ c ∈ l, blanks.contains c = true := by
  unfold Lib.trimS Lib.trimLeftS Lib.trimRightS at h
  intro c hc
  have h1 : ∀ d ∈ (l.reverse.dropWhile (blanks.contains ·)).reverse, blanks.contains d = true := by
    intro d hd
    exact uJ h d hd
  have h2 : c ∈ l.reverse.takeWhile (blanks.contains ·) ++ l.reverse.dropWhile (blanks.contains ·) := by
    rw [List.takeWhile_append_dropWhile]; exact List.mem_reverse.2 hc
  rcases List.mem_append.1 h2 with h3 | h3
  · have := List.all_takeWhile (p := (blanks.contains ·)) (l := l.reverse)
    exact List.all_eq_true.1 this c h3
  · exact h1 c (List.mem_reverse.2 h3)
theorem index_none {s : Tx} {o : UInt8} {t : Tx} (h : o ∉ s) : Lib.index s (o :: t) = -1 := by
  induction s with
  | nil => rfl
  | cons b s ih =>
    have hb : ¬ o = b := fun e => h (by rw [e]; exact List.mem_cons_self ..)
    have hs : o ∉ s := fun e => h (List.mem_cons_of_mem _ e)
    unfold Lib.index
    rw [if_neg (by rw [List.isPrefixOf_cons_cons]; simp [hb]), ih hs]
    rfl
theorem Bg {l : Tx} (h : Lib.trimS l blanks = []) : Lib.contains l [93, 93, 62] = false := by
  unfold Lib.contains
  rw [index_none (fun hm => by have := DL h 93 hm; revert this; decide)]
  rfl
theorem Ih {r r2 r' : RS} {zn : Tx} (hs2 : r2.s = r.s) (hs : r2.stk = [(0, zn)]) (hne : r.s ≠ []) (h0 : r.stk = []) (ha : bg r = .ok r') :
    gU (bg r2) ∨ (∃ x m, r' = { r with s := x } ∧ m.kind ≠ 1 ∧ bg r2 = .ok { r2 with s := x, ns := aH r2.ns 0 r2.ns.length ++ [m] }) ∨
    (∃ t x, t ≠ [] ∧ r' = { r with s := x } ∧ bg r2 = (match aS t r2 with | .error e => .error e | .ok r'' => .ok { r'' with s := x })) ∨
    (bH { r with s := (hasF [60] r.s).2 } = .ok r' ∧ bg r2 = bH { r2 with s := (hasF [60] r.s).2 }) := by
  have hn2 : r2.stk ≠ [] := by rw [hs]; simp
  unfold bg at ha ⊢
  rw [hs2]
  split at ha
  · rename_i h1
    rw [if_pos h1]
    unfold iQ at ha ⊢
    rw [hs2]
    split at ha
    · rename_i g1
      rw [if_pos g1]
      rcases FB (r := { r with s := (hasF [60, 33, 45, 45] r.s).2 }) (r2 := { r2 with s := (hasF [60, 33, 45, 45] r.s).2 }) rfl hs h0 ha with g | ⟨x, m, a1, a2, a3⟩
      · exact .inl g
      · exact .inr (.inl ⟨x, m, a1, a2, a3⟩)
    rename_i g1
    rw [if_neg g1, if_neg (by simp [hn2])]
    split at ha
    · cases ha
    rename_i g1'
    rw [if_neg (by simp [h0])] at ha
    by_cases g2 : (hasF iE r.s).1 = true
    · exfalso
      have e := GU g2
      generalize (hasF iE r.s).2 = y at e
      rw [e] at ha
      change bH { r with s := 33 :: 91 :: 67 :: 68 :: 65 :: 84 :: 65 :: 91 :: y } = .ok r' at ha
      unfold bH at ha
      split at ha
      · cases ha
      · have hnm : dh (33 :: 91 :: 67 :: 68 :: 65 :: 84 :: 65 :: 91 :: y) = .error 10 := rfl
        dsimp only at ha
        rw [hnm] at ha
        cases ha
    rw [if_neg (fun g => g2 g.2)]
    split at ha
    · rename_i g3
      rw [if_pos g3]
      rcases JE (r := { r with s := (hasF [60, 63] r.s).2 }) (r2 := { r2 with s := (hasF [60, 63] r.s).2 }) rfl hs h0 ha with g | ⟨x, m, a1, a2, a3⟩
      · exact .inl g
      · exact .inr (.inl ⟨x, m, a1, a2, a3⟩)
    rename_i g3
    rw [if_neg g3]
    split at ha
    · rename_i g4
      exfalso
      unfold endF at ha
      dsimp only at ha
      rw [h0] at ha
      cases ha
    rename_i g4
    rw [if_neg g4]
    split at ha
    · rename_i g5
      rw [if_pos g5]
      exact .inr (.inr (.inr ⟨ha, rfl⟩))
    · rename_i g5
      exfalso
      apply g5
      cases hr : r.s with
      | nil => exact absurd hr hne
      | cons c s => rw [hr] at h1; simp at h1; subst h1; simp [hasF]
  rename_i h1
  rw [if_neg h1]
  rw [if_neg (by simp [h0])] at ha
  split at ha
  · cases ha
  rename_i h3
  have h38 : (hasF [38] r.s).1 = false := by
    cases hr : r.s with
    | nil => exact absurd hr hne
    | cons c s =>
      rw [hr] at h3
      simp at h3
      simp [hasF, List.isPrefixOf, Ne.symm h3]
  rw [if_neg (fun g => by rw [h38] at g; exact absurd g.2 (by decide)), if_neg h3]
  unfold gq at ha ⊢
  rw [if_pos h0] at ha
  rw [if_neg hn2, hs2]
  split at ha
  · rename_i h4
    injection ha with ha
    rw [if_neg (by rw [Bg h4]; decide)]
    refine .inr (.inr (.inl ⟨_, _, ?_, ha.symm, rfl⟩))
    intro e
    obtain ⟨c, s, hr⟩ := List.exists_cons_of_ne_nil hne
    have hp : 0 < upTo r.s [60, 38] := y5 (c := c) (by rw [hr]; rfl) (by
      rw [hr] at h1 h3
      simp at h1 h3
      simp [h1, h3])
    have := congrArg List.length e
    rw [List.length_take, hr] at this
    rw [hr] at hp
    simp at this
    omega
  · cases ha
theorem Out3.step {k a : Nat} {zn : Tx} {r r2 r' : RS} (h : Out3 k a zn r r2) (hne : r.s ≠ []) (ha : bg r = .ok r') : gU (bg r2) ∨ ∃ r2', bg r2 = .ok r2' ∧ Out3 k a zn r' r2' := by
  rcases Ih h.s h.stk hne h.stk0 ha with g | ⟨x, m, rfl, hm, g⟩ | ⟨t, x, ht, rfl, g⟩ | ⟨g, _⟩
  · exact .inl g
  · exact .inr ⟨_, g, h.put m x⟩
  · rw [g]
    rcases h.text ht with g1 | ⟨r2', g1, g2⟩
    · left; right; rw [g1]
    · right; rw [g1]; exact ⟨_, rfl, g2.less x⟩
  · exfalso
    unfold bH at g
    rw [if_pos ⟨h.stk0, h.done⟩] at g
    cases g
theorem In1.start {k : Nat} {zn : Tx} {r r2 r' : RS} (h : In1 k zn r r2) (ha : bH r = .ok r') : gU (bH r2) ∨ ∃ r2', bH r2 = .ok r2' ∧ ((∃ P, In2 k zn P r' r2') ∨ ∃ a, Out3 k a zn r' r2') := by
  have hn2 : r2.stk ≠ [] := by rw [h.stk]; simp
  have hsp : ∀ p ds, aJ r2 p ds = aJ r p ds := by
    intro p ds
    obtain ⟨n0, rest, hP, hd⟩ := h.zed.head
    unfold aJ
    rw [h.stk, h.stk0, hP]
    show _ = (if p = [120, 109, 108] then (fI, true) else match findD p ds with | some u => (u, true) | none => ([], decide (p = [])))
    show (if p = [120, 109, 108] then (fI, true) else match findD p ds with | some u => (u, true) | none => (match (match findD p n0.dcls with | some u => some u | none => none) with | some u => (u, true) | none => ([], decide (p = [])))) = _
    rw [hd]
    rfl
  unfold bH at ha ⊢
  rw [if_neg (by simp [h.done])] at ha
  rw [if_neg (by simp [hn2]), h.s]
  cases hn : dh r.s with
  | error e => rw [hn] at ha; cases ha
  | ok x =>
    obtain ⟨nm, s1⟩ := x
    rw [hn] at ha
    dsimp only at ha ⊢
    cases hat : bA (s1.length + 1) [] (dx nm) s1 with
    | error e => rw [hat] at ha; cases ha
    | ok y =>
      obtain ⟨nms, n, s2⟩ := y
      rw [hat] at ha
      dsimp only at ha ⊢
      split at ha
      · cases ha
      rename_i h1
      rw [if_neg h1]
      split at ha
      · cases ha
      rename_i h2
      rw [if_neg h2]
      split at ha
      · cases ha
      rename_i h3
      rw [if_neg h3, rT hsp]
      cases hs : bq r n with
      | error e => rw [hs] at ha; cases ha
      | ok n' =>
        rw [hs] at ha
        dsimp only at ha ⊢
        split at ha
        · cases ha
        rename_i h4
        rw [if_neg (by rw [h.stk]; simp)]
        cases hd : addF n' { r with s := (hasF [62] (hasF [47] s2).2).2 } with
        | error e => rw [hd] at ha; cases ha
        | ok z =>
          obtain ⟨a, r1⟩ := z
          rw [hd] at ha
          dsimp only at ha
          injection ha with ha
          obtain ⟨_, hk1, _, _, hkk, _⟩ := lK hs
          obtain ⟨a1, _, _, a4⟩ := iU _ hat
          have hkids : n'.kids = [] := by rw [hkk, a4]; exact (ny hn).2.2
          have hkind : n'.kind = 1 := by rw [hk1, a1]; exact (ny hn).1
          obtain ⟨rfl, rfl⟩ := uI (r := { r with s := (hasF [62] (hasF [47] s2).2).2 }) h.stk0 hd
          rcases addZ (r2 := { r2 with s := (hasF [62] (hasF [47] s2).2).2 }) n' h.stk with g | g
          · left; right; rw [g]
          right
          rw [g]
          refine ⟨_, rfl, ?_⟩
          have hz := h.zed.kid r2.ns.length
          have hlen : (aH r2.ns 0 r2.ns.length).length = r2.ns.length := bU ..
          obtain ⟨m0, rest, hm, _⟩ := h.zed.head
          have hsh : aH r2.ns 0 r2.ns.length ++ [{ n' with par := ((0 : Nat) : Int) }] = aH r2.ns 0 r2.ns.length ++ (r.ns ++ [{ n' with par := -1 }]).map (shN (aH r2.ns 0 r2.ns.length).length) := by
            rw [h.ns]
            simp [shN, hkids]
          have hlast : ∃ n0, (aH r2.ns 0 r2.ns.length)[0]? = some n0 ∧ n0.kids.getLast? = some (aH r2.ns 0 r2.ns.length).length := by
            rw [hlen]
            refine ⟨{ m0 with kids := m0.kids ++ [r2.ns.length] }, ?_, by simp⟩
            rw [hm]; rfl
          have hroot : ∃ n, (r.ns ++ [{ n' with par := -1 }])[0]? = some n ∧ n.kind = 1 := by rw [h.ns]; exact ⟨_, rfl, hkind⟩
          rw [← ha]
          dsimp only
          cases hcl : (hasF [47] s2).1 with
          | true =>
            right
            refine ⟨(aH r2.ns 0 r2.ns.length).length, rfl, rfl, h.stk0, rfl, h.stk, ⟨_, [], hz, rfl, ?_, ?_⟩, hroot⟩
            · rw [List.append_nil]; exact hsh
            · obtain ⟨n0, g1, g2⟩ := hlast
              exact ⟨n0, _, g1, g2, .inl rfl⟩
          | false =>
            left
            refine ⟨aH r2.ns 0 r2.ns.length, rfl, rfl, hz, ?_, rfl, ?_, hsh, hlast, hroot⟩
            · rw [h.stk0]; simp
            · rw [h.stk, h.stk0, h.ns, hlen]
              simp [shK]
theorem In1.step {k : Nat} {zn : Tx} {r r2 r' : RS} (h : In1 k zn r r2) (hne : r.s ≠ []) (ha : bg r = .ok r') : gU (bg r2) ∨ ∃ r2', bg r2 = .ok r2' ∧ (In1 k zn r' r2' ∨ (∃ P, In2 k zn P r' r2') ∨ ∃ a, Out3 k a zn r' r2') := by
  rcases Ih h.s h.stk hne h.stk0 ha with g | ⟨x, m, rfl, hm, g⟩ | ⟨t, x, ht, rfl, g⟩ | ⟨g, g'⟩
  · exact .inl g
  · exact .inr ⟨_, g, .inl (h.put hm x _)⟩
  · rw [g]
    rcases h.text ht with g1 | ⟨r2', g1, g2⟩
    · left; right; rw [g1]
    · right; rw [g1]; exact ⟨_, rfl, .inl (g2.less x)⟩
  · rw [g']
    rcases (h.less _).start g with g1 | ⟨r2', g1, g2⟩
    · exact .inl g1
    · exact .inr ⟨r2', g1, .inr g2⟩
def WW (k : Nat) (zn : Tx) (r r2 : RS) : Prop := In1 k zn r r2 ∨ (∃ P, In2 k zn P r r2) ∨ ∃ a, Out3 k a zn r r2
theorem WW.s {k : Nat} {zn : Tx} {r r2 : RS} (h : WW k zn r r2) : r2.s = r.s := by
  rcases h with h | ⟨P, h⟩ | ⟨a, h⟩ <;> exact h.s
theorem WW.step {k : Nat} {zn : Tx} {r r2 r' : RS} (h : WW k zn r r2) (hne : r.s ≠ []) (ha : bg r = .ok r') : gU (bg r2) ∨ ∃ r2', bg r2 = .ok r2' ∧ WW k zn r' r2' := by
  rcases h with h | ⟨P, h⟩ | ⟨a, h⟩
  · exact h.step hne ha
  · rcases h.step ha with g | ⟨r2', g1, g2 | g2⟩
    · exact .inl g
    · exact .inr ⟨r2', g1, .inr (.inl ⟨P, g2⟩)⟩
    · exact .inr ⟨r2', g1, .inr (.inr ⟨_, g2⟩)⟩
  · rcases h.step hne ha with g | ⟨r2', g1, g2⟩
    · exact .inl g
    · exact .inr ⟨r2', g1, .inr (.inr ⟨a, g2⟩)⟩
end Go.Proofs.YtohgmkjhbacmpaaGreatDoor
set_option linter.unusedVariables false
set_option linter.unusedSimpArgs false
namespace Go.Proofs.YtohgmkjhbacmpaaGreatDoor
open Go Go.Abs Go.RowKit Go.Xml
def dU (old new s : Tx) : Tx := Lib.replaceK old new (Lib.count s old) s
theorem uK {old new s : Tx} (h : (old == new) = false) : Lib.replaceAll s old new = dU old new s := by
  unfold Lib.replaceAll Lib.replace dU Lib.replaceNum
  rw [h, if_neg (by decide), if_pos (.inl (by decide))]
theorem lM {old new : Tx} (ho : old ≠ []) {s : Tx} {i : Nat} (h : Lib.index s old = i) : dU old new s = s.take i ++ new ++ dU old new (s.drop (i + old.length)) := by
  have hc : Lib.count s old = Lib.count (s.drop (i + old.length)) old + 1 := by
    have := Lib.count_hit (s := s) (sub := old) ho h
    omega
  unfold dU
  rw [hc, Lib.replaceK_hit old new _ s i h]
theorem jY {old new s : Tx} (h : Lib.index s old = -1) : dU old new s = s := by
  unfold dU
  rw [Lib.count_miss h]
  rfl
theorem jZ {old new : Tx} (ho : old ≠ []) (c : UInt8) (l : Tx) : dU old new (c :: l) = if old.isPrefixOf (c :: l) then new ++ dU old new ((c :: l).drop old.length) else c :: dU old new l := by
  by_cases hp : old.isPrefixOf (c :: l) = true
  · have hi : Lib.index (c :: l) old = ((0 : Nat) : Int) := by
      unfold Lib.index
      rw [if_pos hp]; rfl
    rw [if_pos hp, lM ho hi, Nat.zero_add]
    rfl
  · rw [if_neg hp]
    have hg := Lib.index_ge l old
    by_cases hm : Lib.index l old = -1
    · have hi : Lib.index (c :: l) old = -1 := by
        unfold Lib.index
        rw [if_neg hp, hm]; rfl
      rw [jY hi, jY hm]
    · obtain ⟨i, hi⟩ : ∃ i : Nat, Lib.index l old = i := ⟨(Lib.index l old).toNat, by omega⟩
      have hi2 : Lib.index (c :: l) old = ((i + 1 : Nat) : Int) := by
        unfold Lib.index
        rw [if_neg hp, if_neg (by rw [hi]; simp), hi]
        rfl
      rw [lM ho hi, lM ho hi2, show i + 1 + old.length = (i + old.length) + 1 by omega]
      rfl
theorem jJ {old new : Tx} (ho : old ≠ []) : dU old new [] = [] := by
  refine jY ?_
  cases old with
  | nil => exact absurd rfl ho
  | cons c o => rfl
def fq : Tx → Tx
  | [] => []
  | c :: l => if c = 13 then (if l.head? = some 10 then fq l else 10 :: fq l) else c :: fq l
theorem j3 {c : UInt8} (h : c ≠ 13) (l : Tx) : fq (c :: l) = c :: fq l := by
  conv => lhs; unfold fq
  rw [if_neg h]
theorem uL (l : Tx) : fq (13 :: l) = if l.head? = some 10 then fq l else 10 :: fq l := by
  conv => lhs; unfold fq
  rw [if_pos rfl]
theorem GX (n : Nat) : ∀ l : Tx, l.length ≤ n → dU [13] [10] (dU [13, 10] [10] l) = fq l := by
  induction n with
  | zero =>
    intro l h
    rw [List.eq_nil_of_length_eq_zero (by omega : l.length = 0), jJ (by simp), jJ (by simp)]
    rfl
  | succ n ih =>
    intro l h
    cases l with
    | nil => rw [jJ (by simp), jJ (by simp)]; rfl
    | cons c l =>
      rw [jZ (by simp)]
      by_cases hp : ([13, 10] : Tx).isPrefixOf (c :: l) = true
      · rw [if_pos hp]
        obtain ⟨t, ht⟩ := List.isPrefixOf_iff_prefix.1 hp
        rw [← ht] at h ⊢
        show dU [13] [10] (10 :: dU [13, 10] [10] t) = fq (13 :: 10 :: t)
        rw [jZ (by simp), if_neg (by simp [List.isPrefixOf]), ih t (by simp at h; omega), uL, if_pos (show (10 :: t).head? = some 10 from rfl), j3 (by decide)]
      · rw [if_neg hp, jZ (by simp)]
        by_cases hc : c = 13
        · subst hc
          rw [if_pos (by simp [List.isPrefixOf])]
          show 10 :: dU [13] [10] (dU [13, 10] [10] l) = _
          rw [ih l (by simp at h; omega), uL, if_neg]
          intro e
          apply hp
          cases l with
          | nil => cases e
          | cons d l => simp at e; subst e; simp [List.isPrefixOf]
        · rw [if_neg (by simp [List.isPrefixOf, Ne.symm hc]), ih l (by simp at h; omega), j3 hc]
theorem FC (l : Tx) : lines l = fq l := by
  unfold lines
  rw [uK (by decide), uK (by decide)]
  exact GX l.length l (Nat.le_refl _)
theorem rU : ∀ {a : Tx}, (∀ c ∈ a, c ≠ 13) → ∀ l, fq (a ++ l) = a ++ fq l
  | [], _, l => rfl
  | c :: a, h, l => by
    rw [List.cons_append, j3 (h c (List.mem_cons_self ..)), rU (fun d hd => h d (List.mem_cons_of_mem _ hd))]
    rfl
theorem oq (c : Nat) : 1 ≤ (utf8 c).length ∧ (utf8 c).length ≤ 4 := by
  unfold utf8
  split
  · simp
  split
  · simp
  split <;> simp
set_option maxHeartbeats 1000000 in
theorem j4 {c : Nat} (h : c < 0x110000) (hs : ¬ (0xD800 ≤ c ∧ c ≤ 0xDFFF)) (t : Tx) : Lib.decodeL (utf8 c ++ t) = (c, (utf8 c).length) := by
  rw [Lib.decodeL_N]
  unfold utf8
  split
  · simp only [List.cons_append, List.nil_append, List.getD_cons_zero, UInt8.toNat_ofNat', List.length_cons, List.length_nil]
    unfold Lib.decodeN
    rw [if_pos (by omega)]
    simp; omega
  split
  · simp only [List.cons_append, List.nil_append, List.getD_cons_zero, List.getD_cons_succ, UInt8.toNat_ofNat', List.length_cons, List.length_nil]
    unfold Lib.decodeN
    rw [if_neg (by omega), if_pos (by omega), if_pos (by omega)]
    simp; omega
  split
  · simp only [List.cons_append, List.nil_append, List.getD_cons_zero, List.getD_cons_succ, UInt8.toNat_ofNat', List.length_cons, List.length_nil]
    unfold Lib.decodeN
    rw [if_neg (by omega), if_neg (by omega), if_pos (by omega), if_pos (by omega)]
    simp; omega
  · simp only [List.cons_append, List.nil_append, List.getD_cons_zero, List.getD_cons_succ, UInt8.toNat_ofNat', List.length_cons, List.length_nil]
    unfold Lib.decodeN
    rw [if_neg (by omega), if_neg (by omega), if_neg (by omega), if_pos (by omega), if_pos (by omega)]
    simp; omega
theorem len4 : ∀ {l : Tx}, 3 < l.length → ∃ x y z v t, l = x :: y :: z :: v :: t
  | [], h => by simp at h
  | [_], h => by simp at h
  | [_, _], h => by simp at h
  | [_, _, _], h => by simp at h
  | x :: y :: z :: v :: t, _ => ⟨x, y, z, v, t, rfl⟩
theorem jN {x : UInt8} {n : Nat} (h : x.toNat = n) : UInt8.ofNat n = x := by subst h; simp
set_option maxRecDepth 10000 in
set_option maxHeartbeats 2000000 in
theorem zo {l : Tx} (hl : l ≠ []) (h : ¬ ((Lib.decodeL l).1 = 65533 ∧ (Lib.decodeL l).2 < 3)) : l = utf8 (Lib.decodeL l).1 ++ l.drop (Lib.decodeL l).2 := by
  have h0 : (l.getD 0 0).toNat < 256 := UInt8.toNat_lt _
  have h1 : (l.getD 1 0).toNat < 256 := UInt8.toNat_lt _
  have h2 : (l.getD 2 0).toNat < 256 := UInt8.toNat_lt _
  have h3 : (l.getD 3 0).toNat < 256 := UInt8.toNat_lt _
  rw [Lib.decodeL_N] at h ⊢
  unfold Lib.decodeN at h ⊢
  split
  · rename_i g
    obtain ⟨x, t, rfl⟩ := List.exists_cons_of_ne_nil hl
    simp only [List.getD_cons_zero] at g ⊢
    unfold utf8
    rw [if_pos g, jN rfl]
    rfl
  rename_i g0
  rw [if_neg g0] at h
  split
  · rename_i g
    rw [if_pos g] at h
    split
    · rename_i g1
      rw [if_pos g1] at h
      match l, g with
      | x :: y :: t, g =>
        simp only [List.getD_cons_zero, List.getD_cons_succ] at g g1 h0 h1 ⊢
        unfold utf8
        rw [if_neg (by omega), if_pos (by omega), jN (x := x) (by omega), jN (x := y) (by omega)]
        rfl
    · rename_i g1
      rw [if_neg g1] at h
      exact absurd ⟨rfl, by decide⟩ h
  rename_i g2
  rw [if_neg g2] at h
  split
  · rename_i g
    rw [if_pos g] at h
    split
    · rename_i g1
      rw [if_pos g1] at h
      match l, g with
      | x :: y :: z :: t, g =>
        simp only [List.getD_cons_zero, List.getD_cons_succ] at g g1 h0 h1 h2 ⊢
        unfold utf8
        rw [if_neg (by omega), if_neg (by omega), if_pos (by omega), jN (x := x) (by omega), jN (x := y) (by omega), jN (x := z) (by omega)]
        rfl
    · rename_i g1
      rw [if_neg g1] at h
      exact absurd ⟨rfl, by decide⟩ h
  rename_i g3
  rw [if_neg g3] at h
  split
  · rename_i g
    rw [if_pos g] at h
    split
    · rename_i g1
      rw [if_pos g1] at h
      obtain ⟨x, y, z, v, t, rfl⟩ := len4 g.2.2.2.1
      simp only [List.getD_cons_zero, List.getD_cons_succ] at g g1 h0 h1 h2 h3 ⊢
      unfold utf8
      rw [if_neg (by omega), if_neg (by omega), if_neg (by omega), jN (x := x) (by omega), jN (x := y) (by omega), jN (x := z) (by omega), jN (x := v) (by omega)]
      rfl
    · rename_i g1
      rw [if_neg g1] at h
      exact absurd ⟨rfl, by decide⟩ h
  · rename_i g
    rw [if_neg g] at h
    exact absurd ⟨rfl, by decide⟩ h
inductive Good : Tx → Prop
  | nil : Good []
  | cons {c : Nat} {l : Tx} (hc : aR c = true) (h : Good l) : Good (utf8 c ++ l)
theorem gB {c : Nat} (h : aR c = true) : c < 0x110000 ∧ ¬ (0xD800 ≤ c ∧ c ≤ 0xDFFF) := by
  unfold aR at h
  simp only [Bool.or_eq_true, Bool.and_eq_true, decide_eq_true_eq] at h
  omega
theorem Good.append {a b : Tx} (ha : Good a) (hb : Good b) : Good (a ++ b) := by
  induction ha with
  | nil => exact hb
  | cons hc _ ih => rw [List.append_assoc]; exact .cons hc ih
theorem Good.ascii : ∀ {a : Tx}, (∀ c ∈ a, c.toNat < 128 ∧ aR c.toNat = true) → Good a
  | [], _ => .nil
  | c :: a, h => by
    obtain ⟨h1, h2⟩ := h c (List.mem_cons_self ..)
    have := Good.cons h2 (Good.ascii (a := a) fun d hd => h d (List.mem_cons_of_mem _ hd))
    unfold utf8 at this
    rw [if_pos h1, jN rfl] at this
    exact this
theorem Good.ok {l : Tx} (h : Good l) : ∀ (f a : Nat), badF f l a = none := by
  induction h with
  | nil => exact fun f a => yK f a
  | @cons c l hc _ ih =>
    intro f a
    cases f with
    | zero => rfl
    | succ f =>
      obtain ⟨h1, h2⟩ := gB hc
      have hd := j4 h1 h2 l
      have hl := oq c
      rw [nW f _ a (by intro e; have := congrArg List.length e; rw [List.length_append, List.length_nil] at this; omega), hd]
      dsimp only
      rw [if_neg, List.drop_left, ih]
      intro g
      rcases g with ⟨g1, g2⟩ | g
      · subst g1
        exact absurd g2 (by decide)
      · rw [hc] at g; cases g
theorem Good.Ca : ∀ (f a : Nat) {l : Tx}, l.length < f → badF f l a = none → Good l
  | 0, a, l, hl, h => by omega
  | f + 1, a, l, hl, h => by
    by_cases hne : l = []
    · subst hne; exact .nil
    · rw [nW f l a hne] at h
      split at h
      · cases h
      rename_i g
      have hw := nV l
      have e := zo hne fun x => g (.inl x)
      have hrec := Good.Ca f _ (l := l.drop (Lib.decodeL l).2) (by rw [List.length_drop]; have := List.length_pos_iff.2 hne; omega) h
      rw [e]
      refine .cons ?_ hrec
      cases hc : aR (Lib.decodeL l).1 with
      | true => rfl
      | false => exact absurd (.inr hc) g
theorem zq (l : Tx) : bad l = none ↔ Good l := ⟨fun h => Good.Ca (l.length + 1) 0 (Nat.lt_succ_self _) h, fun h => h.ok (l.length + 1) 0⟩
end Go.Proofs.YtohgmkjhbacmpaaGreatDoor
set_option linter.unusedVariables false
set_option linter.unusedSimpArgs false
namespace Go.Proofs.YtohgmkjhbacmpaaGreatDoor
open Go Go.Abs Go.RowKit Go.Xml
end Go.Proofs.YtohgmkjhbacmpaaGreatDoor
set_option linter.unusedVariables false
set_option linter.unusedSimpArgs false
namespace Go.Proofs.YtohgmkjhbacmpaaGreatDoor
open Go Go.Abs Go.RowKit Go.Xml
theorem RI.s {r : RS} (hr : RI ⟨r.s, [], [], false⟩) (x : Tx) (h : x.length ≤ 1000000) : RI ⟨x, [], [], false⟩ := RI.start x h
def FD (p : Tx) : Prop := ∀ c ∈ p, blanks.contains c = true
theorem uM {q : UInt8 → Bool} : ∀ {a t : Tx}, (∀ c ∈ a, q c = true) → (a ++ t).takeWhile q = a ++ t.takeWhile q
  | [], t, _ => rfl
  | c :: a, t, h => by
    rw [List.cons_append, List.takeWhile_cons_of_pos (h c (List.mem_cons_self ..)), uM fun d hd => h d (List.mem_cons_of_mem _ hd)]
    rfl
end Go.Proofs.YtohgmkjhbacmpaaGreatDoor
set_option linter.unusedVariables false
set_option linter.unusedSimpArgs false
namespace Go.Proofs.YtohgmkjhbacmpaaGreatDoor
open Go Go.Abs Go.RowKit Go.Xml
theorem RI.drop {r : RS} (h : RI r) {x : Tx} (hx : x.length ≤ r.s.length) : RI { r with s := x } :=
  ⟨h.many, h.deep, Nat.le_trans hx h.left, h.stk, h.kids, fun n hn => by have := h.val n hn; dsimp only; omega, h.dcl⟩
theorem bl {p : Tx} (h : p.all (blanks.contains ·) = true) : FD p := fun c hc => List.all_eq_true.1 h c hc
end Go.Proofs.YtohgmkjhbacmpaaGreatDoor
set_option linter.unusedVariables false
set_option linter.unusedSimpArgs false
namespace Go.Proofs.YtohgmkjhbacmpaaGreatDoor
open Go Go.Abs Go.RowKit Go.Xml
theorem j5 {c : UInt8} {s : Tx} (h : c ≠ 32 ∧ c ≠ 9 ∧ c ≠ 10) : aG (32 :: c :: s) = (true, c :: s) := by
  have e : Lib.trimLeftS (32 :: c :: s) blanks = c :: s := by
    unfold Lib.trimLeftS
    rw [List.dropWhile_cons_of_pos (by decide), List.dropWhile_cons_of_neg]
    obtain ⟨a, b, d⟩ := h
    simp [blanks, a, b, d]
  unfold aG
  rw [e, decide_eq_true (by simp)]
theorem Ja {c : UInt8} {s : Tx} (h : c ≠ 32 ∧ c ≠ 9 ∧ c ≠ 10) : eqF (61 :: c :: s) = .ok (c :: s) := by
  unfold eqF
  rw [skip_none (by decide)]
  have e : hasF [61] (61 :: c :: s) = (true, c :: s) := rfl
  rw [e]
  dsimp only
  rw [skip_none h]
  rfl
end Go.Proofs.YtohgmkjhbacmpaaGreatDoor
set_option linter.unusedVariables false
set_option linter.unusedSimpArgs false
namespace Go.Proofs.YtohgmkjhbacmpaaGreatDoor
open Go Go.Abs Go.RowKit Go.Xml
def lN : Tx := [48, 49, 50, 51, 52, 53, 54, 55, 56, 57, 97, 98, 99, 100, 101, 102]
def hexd (d : Nat) : UInt8 := lN.getD d 0
def dgF : Nat → Nat → Nat → Tx → Tx
  | 0, b, n, acc => hexd (n % b) :: acc
  | f + 1, b, n, acc => if n / b = 0 then hexd (n % b) :: acc else dgF f b (n / b) (hexd (n % b) :: acc)
def dg (b n : Nat) : Tx := dgF 7 b n []
theorem GY (b : Nat) (hb : b = 10 ∨ b = 16) : ∀ d : Fin b, digB b (hexd d.val) = d.val := by
  rcases hb with rfl | rfl <;> decide
theorem rV {b : Nat} (hb : b = 10 ∨ b = 16) {d : Nat} (hd : d < b) (n : Int) (l : Tx) : numR b n (hexd d :: l) = numR b (n * b + d) l := by
  have := GY b hb ⟨d, hd⟩
  show (if digB b (hexd d) < 0 then -1 else numR b (n * b + digB b (hexd d)) l) = _
  rw [this, if_neg (by simp)]
theorem zu {b : Nat} (hb : b = 10 ∨ b = 16) : ∀ (f n : Nat) (acc : Tx), n < b ^ (f + 1) → numR b 0 (dgF f b n acc) = numR b n acc
  | 0, n, acc, h => by
    have hn : n < b := by simpa using h
    unfold dgF
    rw [Nat.mod_eq_of_lt hn, rV hb hn]
    simp
  | f + 1, n, acc, h => by
    have hb0 : 0 < b := by omega
    unfold dgF
    split
    · rename_i h0
      have hn : n < b := by rcases (Nat.div_eq_zero_iff.1 h0) with h1 | h1 <;> omega
      rw [Nat.mod_eq_of_lt hn, rV hb hn]
      simp
    · have hdiv : n / b < b ^ (f + 1) := by
        rw [Nat.div_lt_iff_lt_mul hb0, ← Nat.pow_succ]
        exact h
      rw [zu hb f (n / b) _ hdiv, rV hb (Nat.mod_lt _ hb0)]
      congr 1
      have := Nat.div_add_mod n b
      have h2 : ((n / b : Nat) : Int) * (b : Int) + ((n % b : Nat) : Int) = ((b * (n / b) + n % b : Nat) : Int) := by rw [Nat.mul_comm b]; push_cast; rfl
      rw [h2, this]
theorem Cb {b : Nat} (hb : b = 10 ∨ b = 16) : ∀ (f n : Nat) (acc : Tx), ∀ x ∈ dgF f b n acc, x ∈ acc ∨ ∃ d, d < b ∧ x = hexd d
  | 0, n, acc, x, hx => by
    unfold dgF at hx
    rcases List.mem_cons.1 hx with h | h
    · exact .inr ⟨n % b, Nat.mod_lt _ (by omega), h⟩
    · exact .inl h
  | f + 1, n, acc, x, hx => by
    unfold dgF at hx
    split at hx
    · rcases List.mem_cons.1 hx with h | h
      · exact .inr ⟨n % b, Nat.mod_lt _ (by omega), h⟩
      · exact .inl h
    · rcases Cb hb f _ _ x hx with h | h
      · rcases List.mem_cons.1 h with h | h
        · exact .inr ⟨n % b, Nat.mod_lt _ (by omega), h⟩
        · exact .inl h
      · exact .inr h
theorem kG {b : Nat} : ∀ (f n : Nat) (acc : Tx), acc.length + 1 ≤ (dgF f b n acc).length ∧ (dgF f b n acc).length ≤ acc.length + f + 1
  | 0, n, acc => by simp [dgF]
  | f + 1, n, acc => by
    unfold dgF
    split
    · simp
    · have := kG (b := b) f (n / b) (hexd (n % b) :: acc)
      simp at this
      omega
def Cc (x : UInt8) : Bool := (48 ≤ x && x ≤ 57) || (97 ≤ x && x ≤ 102)
theorem GZ : ∀ d : Fin 16, Cc (hexd d.val) = true := by decide
theorem pq {b n : Nat} (hb : b = 10 ∨ b = 16) : ∀ x ∈ dg b n, Cc x = true := fun x hx => by
  rcases Cb hb 7 n [] x hx with h | ⟨d, hd, rfl⟩
  · cases h
  · exact GZ ⟨d, by omega⟩
theorem gL : ∀ x : UInt8, Cc x = true → x ≠ 59 ∧ x ≠ 120 ∧ lowB x = x ∧ x ≠ 13 ∧ x.toNat < 128 ∧ aR x.toNat = true := by
  intro x hx
  have h : ∀ n : Fin 256, Cc (UInt8.ofNat n.val) = true → UInt8.ofNat n.val ≠ 59 ∧ UInt8.ofNat n.val ≠ 120 ∧ lowB (UInt8.ofNat n.val) = UInt8.ofNat n.val ∧ UInt8.ofNat n.val ≠ 13 ∧ (UInt8.ofNat n.val).toNat < 128 ∧ aR (UInt8.ofNat n.val).toNat = true := by decide +kernel
  have := h ⟨x.toNat, UInt8.toNat_lt _⟩
  simp only [jN (x := x) rfl] at this
  exact this hx
theorem FE {a b : Nat} (ha : aR a = true) (hb : aR b = true) (h : utf8 a = utf8 b) : a = b := by
  obtain ⟨a1, a2⟩ := gB ha
  obtain ⟨b1, b2⟩ := gB hb
  have h1 := j4 a1 a2 []
  have h2 := j4 b1 b2 []
  rw [h, h2] at h1
  exact (congrArg Prod.fst h1).symm
theorem G5 {b n : Nat} (hb : b = 10 ∨ b = 16) (hn : n < 10000000) : numR b 0 (dg b n) = n := by
  unfold dg
  have hp : n < b ^ (7 + 1) := by rcases hb with rfl | rfl <;> omega
  rw [zu hb 7 n [] hp]
  rfl
theorem DN {b n : Nat} (hb : b = 10 ∨ b = 16) (hn : n < 10000000) : number (dg b n) b = n := by
  have hl := kG (b := b) 7 n []
  unfold number
  rw [if_neg (by unfold dg; simp at hl; omega)]
  have hlow : lower (dg b n) = dg b n := by
    unfold lower
    conv => rhs; rw [← List.map_id (dg b n)]
    exact List.map_congr_left fun x hx => (gL x (pq hb x hx)).2.2.1
  rw [hlow, G5 hb hn]
theorem zw {b c : Nat} (hb : b = 10 ∨ b = 16) (hc : aR c = true) : codeF (dg b c) b = .ok (utf8 c) := by
  obtain ⟨h1, h2⟩ := gB hc
  have h0 : 0 < c := by
    unfold aR at hc
    simp only [Bool.or_eq_true, Bool.and_eq_true, decide_eq_true_eq] at hc
    omega
  have hr : fZ c = utf8 c := by
    unfold fZ
    rw [if_neg (by omega)]
  have hg : bad (utf8 c) = none := (zq _).2 (by have := Good.cons hc .nil; rwa [List.append_nil] at this)
  unfold codeF
  rw [DN hb (by omega), if_pos (by omega), Int.toNat_natCast, hr, hg]
  by_cases hf : c = 0xFFFD
  · subst hf
    rfl
  · have hne : utf8 c ≠ utf8 0xFFFD := fun e => hf (FE hc (by decide) e)
    rw [if_pos (by simp [hne])]
theorem nC : ∀ {a : Tx} {t : Tx}, (∀ x ∈ a, x ≠ 59) → Lib.indexByte (a ++ 59 :: t) 59 = a.length
  | [], t, _ => rfl
  | x :: a, t, h => by
    have hx := h x (List.mem_cons_self ..)
    have ih := nC (a := a) (t := t) fun y hy => h y (List.mem_cons_of_mem _ hy)
    rw [List.cons_append]
    unfold Lib.indexByte
    rw [if_neg (by simp [hx]), ih, if_neg (by simp)]
    simp
def bI (hex : Bool) (c : Nat) : Tx := 38 :: 35 :: ((if hex then 120 :: dg 16 c else dg 10 c) ++ [59])
theorem Ce (hex : Bool) {c : Nat} (hc : aR c = true) (t : Tx) : refF (35 :: ((if hex then 120 :: dg 16 c else dg 10 c) ++ 59 :: t)) = .ok (utf8 c, t) := by
  have hall : ∀ x ∈ (35 :: (if hex then 120 :: dg 16 c else dg 10 c) : Tx), x ≠ 59 := by
    intro x hx
    rcases List.mem_cons.1 hx with rfl | hx
    · decide
    cases hex with
    | true =>
      rcases List.mem_cons.1 (show x ∈ (120 :: dg 16 c : Tx) from hx) with rfl | hx
      · decide
      · exact (gL x (pq (.inr rfl) x hx)).1
    | false => exact (gL x (pq (.inl rfl) x (show x ∈ dg 10 c from hx))).1
  have hidx := nC (t := t) hall
  rw [List.cons_append] at hidx
  unfold refF
  rw [hidx, if_neg (by omega), Int.toNat_natCast]
  have htk : (35 :: ((if hex then 120 :: dg 16 c else dg 10 c) ++ 59 :: t) : Tx).take (35 :: (if hex then 120 :: dg 16 c else dg 10 c) : Tx).length = 35 :: (if hex then 120 :: dg 16 c else dg 10 c) := by
    rw [← List.cons_append, List.take_left]
  have hdr : (35 :: ((if hex then 120 :: dg 16 c else dg 10 c) ++ 59 :: t) : Tx).drop ((35 :: (if hex then 120 :: dg 16 c else dg 10 c) : Tx).length + 1) = t := by
    rw [← List.cons_append, show ∀ n : Nat, n + 1 = n + [(59 : UInt8)].length from fun _ => rfl, show (59 :: t : Tx) = [59] ++ t from rfl, ← List.append_assoc, ← List.length_append, List.drop_left]
  rw [htk, hdr]
  have hx : refX (35 :: (if hex then 120 :: dg 16 c else dg 10 c)) = .ok (utf8 c) := by
    unfold refX
    rw [if_neg (by simp), if_neg (by simp), if_neg (by simp), if_neg (by simp), if_neg (by simp)]
    have e1 : hasF [35] (35 :: (if hex then 120 :: dg 16 c else dg 10 c)) = (true, (if hex then 120 :: dg 16 c else dg 10 c)) := by simp [hasF, List.isPrefixOf]
    rw [e1]
    dsimp only
    rw [if_pos rfl]
    cases hex with
    | true =>
      show (if (hasF [120] (120 :: dg 16 c)).1 = true then codeF (hasF [120] (120 :: dg 16 c)).2 16 else codeF (120 :: dg 16 c) 10) = _
      have e2 : hasF [120] (120 :: dg 16 c) = (true, dg 16 c) := by simp [hasF, List.isPrefixOf]
      rw [e2]
      dsimp only
      rw [if_pos rfl]
      exact zw (.inr rfl) hc
    | false =>
      show (if (hasF [120] (dg 10 c)).1 = true then codeF (hasF [120] (dg 10 c)).2 16 else codeF (dg 10 c) 10) = _
      have hl := kG (b := 10) 7 c []
      obtain ⟨y, s, hy⟩ := List.exists_cons_of_ne_nil (l := dg 10 c) (by intro e; unfold dg at e; rw [e] at hl; simp at hl)
      have hyc := (gL y (pq (.inl rfl) y (by rw [hy]; exact List.mem_cons_self ..))).2.1
      have e2 : (hasF [120] (dg 10 c)).1 = false := by rw [hy]; simp [hasF, List.isPrefixOf, Ne.symm hyc]
      rw [if_neg (by rw [e2]; decide)]
      exact zw (.inl rfl) hc
  rw [hx]
def rawB (x : UInt8) : Bool := !([10, 9, 60, 38, 34, 39, 62, 93, 13] : Tx).contains x
inductive Enc : Tx → Tx → Prop
  | nil : Enc [] []
  | ref (hex : Bool) {c : Nat} {s v : Tx} (hc : aR c = true) (h : Enc s v) : Enc (bI hex c ++ s) (utf8 c ++ v)
  | raw {p s v : Tx} (hp : ∀ x ∈ p, rawB x = true) (h : Enc s v) : Enc (p ++ s) (p ++ v)
theorem zx {p : Tx} (h : ∀ x ∈ p, rawB x = true) : kR p = p := by
  unfold kR
  conv => rhs; rw [← List.map_id p]
  refine List.map_congr_left fun x hx => ?_
  have := h x hx
  unfold gJ
  split
  · rename_i g
    rcases g with g | g | g | g
    · rw [g]; rfl
    · subst g; cases this
    · subst g; cases this
    · subst g; cases this
  · rfl
theorem rX {p t q : Tx} {c : UInt8} (hp : ∀ x ∈ p, rawB x = true) (hq : ∀ x, rawB x = true → q.contains x = false) (hc : q.contains c = true) : upTo (p ++ c :: t) q = p.length := by
  unfold upTo
  rw [uM (q := fun c => !q.contains c) (fun x hx => by rw [hq x (hp x hx)]; rfl), List.takeWhile_cons_of_neg (by rw [hc]; decide), List.append_nil]
theorem Ii (q : UInt8) (hq : q = 34 ∨ q = 39) (x : UInt8) (hx : rawB x = true) : ([q] ++ [60, 38] : Tx).contains x = false := by
  unfold rawB at hx
  simp only [List.contains_eq_mem, List.mem_cons, List.not_mem_nil, or_false, Bool.not_eq_eq_eq_not, Bool.not_true, decide_eq_false_iff_not, not_or] at hx
  obtain ⟨h1, h2, h3, h4, h5, h6, _⟩ := hx
  rcases hq with rfl | rfl <;> simp [h3, h4, h5, h6]
theorem uN {q : UInt8} (hq : q = 34 ∨ q = 39) {s v : Tx} (h : Enc s v) : ∀ (p out R : Tx) (f : Nat), (∀ x ∈ p, rawB x = true) → s.length < f → iC [q] f out (p ++ (s ++ q :: R)) = .ok (out ++ (p ++ v), R) := by
  have hqc : ([q] ++ [60, 38] : Tx).contains q = true := by rcases hq with rfl | rfl <;> rfl
  induction h with
  | nil =>
    intro p out R f hp hf
    obtain ⟨f, rfl⟩ : ∃ f', f = f' + 1 := ⟨f - 1, by omega⟩
    have hu : upTo (p ++ ([] ++ q :: R)) ([q] ++ [60, 38]) = p.length := rX hp (Ii q hq) hqc
    have hg : (p ++ ([] ++ q :: R)).getD p.length 0 = q := by rw [List.getD_eq_getElem?_getD, List.getElem?_append_right (Nat.le_refl _)]; simp
    unfold iC
    rw [hu, hg, if_pos ⟨by simp, by rcases hq with rfl | rfl <;> decide⟩, if_neg (by rcases hq with rfl | rfl <;> decide), List.take_left, zx hp, List.append_nil]
    have hd : (p ++ ([] ++ q :: R)).drop (p.length + 1) = R := by rw [List.drop_length_add_append]; rfl
    rw [hd]
  | @ref hex c s v hc _ ih =>
    intro p out R f hp hf
    obtain ⟨f, rfl⟩ : ∃ f', f = f' + 1 := ⟨f - 1, by omega⟩
    have e : p ++ (bI hex c ++ s ++ q :: R) = p ++ 38 :: (35 :: ((if hex then 120 :: dg 16 c else dg 10 c) ++ 59 :: (s ++ q :: R))) := by
      unfold bI; simp
    rw [e]
    have hu : upTo (p ++ 38 :: (35 :: ((if hex then 120 :: dg 16 c else dg 10 c) ++ 59 :: (s ++ q :: R)))) ([q] ++ [60, 38]) = p.length := rX hp (Ii q hq) (by simp)
    have hg : (p ++ 38 :: (35 :: ((if hex then 120 :: dg 16 c else dg 10 c) ++ 59 :: (s ++ q :: R)))).getD p.length 0 = 38 := by rw [List.getD_eq_getElem?_getD, List.getElem?_append_right (Nat.le_refl _)]; simp
    have hd : (p ++ 38 :: (35 :: ((if hex then 120 :: dg 16 c else dg 10 c) ++ 59 :: (s ++ q :: R)))).drop (p.length + 1) = 35 :: ((if hex then 120 :: dg 16 c else dg 10 c) ++ 59 :: (s ++ q :: R)) := by rw [List.drop_length_add_append]; rfl
    unfold iC
    rw [hu, hg, if_pos ⟨by simp, by decide⟩, if_pos rfl, hd, Ce hex hc, List.take_left, zx hp]
    dsimp only
    have hl : s.length < f := by unfold bI at hf; simp at hf; omega
    have := ih [] (out ++ p ++ utf8 c) R f (fun x hx => by cases hx) hl
    rw [List.nil_append] at this
    rw [this]
    simp
  | @raw p' s v hp' _ ih =>
    intro p out R f hp hf
    have := ih (p ++ p') out R f (fun x hx => by rcases List.mem_append.1 hx with g | g; exact hp x g; exact hp' x g) (by rw [List.length_append] at hf; omega)
    rw [List.append_assoc p' s, ← List.append_assoc p p', this, List.append_assoc]
end Go.Proofs.YtohgmkjhbacmpaaGreatDoor
set_option linter.unusedVariables false
set_option linter.unusedSimpArgs false
namespace Go.Proofs.YtohgmkjhbacmpaaGreatDoor
open Go Go.Abs Go.RowKit Go.Xml
def aN (w : Tx) : Nd := { nd0 with kind := 1, loc := [97], atts := [⟨[], [120], [], w⟩], par := -1 }
def stN (w v : Tx) : List Nd := if v = [] then [aN w] else [{ aN w with kids := [1] }, { nd0 with kind := 2, val := v, par := ((0 : Nat) : Int) }]
theorem Cg (w v t s : Tx) (ht : t ≠ []) : aS t ⟨s, stN w v, [(0, [97])], true⟩ = .ok ⟨s, stN w (v ++ t), [(0, [97])], true⟩ := by
  unfold aS
  rw [if_neg ht]
  by_cases hv : v = []
  · subst hv
    have e : stN w [] = [aN w] := rfl
    have e2 : stN w ([] ++ t) = [{ aN w with kids := [1] }, { nd0 with kind := 2, val := t, par := ((0 : Nat) : Int) }] := by
      unfold stN
      rw [List.nil_append, if_neg ht]
    rw [e, e2]
    rfl
  · have e : stN w v = [{ aN w with kids := [1] }, { nd0 with kind := 2, val := v, par := ((0 : Nat) : Int) }] := by unfold stN; rw [if_neg hv]
    have e2 : stN w (v ++ t) = [{ aN w with kids := [1] }, { nd0 with kind := 2, val := v ++ t, par := ((0 : Nat) : Int) }] := by unfold stN; rw [if_neg (by simp [hv])]
    rw [e, e2]
    rfl
theorem zy {p R u w : Tx} (hp : ∀ x ∈ p, rawB x = true) (hne : p ≠ []) (hR : (R.head? = some 60) ∨ R.head? = some 38) : bg ⟨p ++ R, stN w u, [(0, [97])], true⟩ = .ok ⟨R, stN w (u ++ p), [(0, [97])], true⟩ := by
  have hq : ∀ x, rawB x = true → ([60, 38] : Tx).contains x = false := fun x hx => by
    unfold rawB at hx
    simp only [List.contains_eq_mem, List.mem_cons, List.not_mem_nil, or_false, Bool.not_eq_eq_eq_not, Bool.not_true, decide_eq_false_iff_not, not_or] at hx
    simp [hx.2.2.1, hx.2.2.2.1]
  obtain ⟨c, p', rfl⟩ := List.exists_cons_of_ne_nil hne
  have hc := hq c (hp c (List.mem_cons_self ..))
  have c1 : c ≠ 60 := fun e => by subst e; cases hc
  have c2 : c ≠ 38 := fun e => by subst e; cases hc
  have hu : upTo (c :: p' ++ R) [60, 38] = (c :: p').length := by
    cases R with
    | nil => rcases hR with h | h <;> cases h
    | cons d R =>
      refine rX hp hq ?_
      rcases hR with h | h <;> (simp at h; subst h; rfl)
  have h93 : Lib.contains (c :: p') [93, 93, 62] = false := by
    unfold Lib.contains
    rw [index_none (fun hm => by have := hp 93 hm; cases this)]
    rfl
  unfold bg
  rw [if_neg (by simp [c1]), if_neg (by simp [hasF, List.isPrefixOf, Ne.symm c2]), if_neg (by simp [c2])]
  unfold gq
  dsimp only
  rw [if_neg (by simp), hu, List.take_left, List.drop_left, h93, if_neg (by decide), Cg _ _ _ _ hne]
theorem G6 (c : Nat) : utf8 c ≠ [] := fun e => by have := (oq c).1; rw [e] at this; cases this
theorem pz {s v : Tx} (h : Enc s v) : ∀ (p u w R : Tx), (∀ x ∈ p, rawB x = true) → R.head? = some 60 → Steps ⟨p ++ (s ++ R), stN w u, [(0, [97])], true⟩ ⟨R, stN w (u ++ (p ++ v)), [(0, [97])], true⟩ := by
  induction h with
  | nil =>
    intro p u w R hp hR
    by_cases hne : p = []
    · subst hne
      rw [List.append_nil, List.append_nil]
      exact .refl _
    · rw [List.append_nil]
      exact .step (by simp [hne]) (zy (p := p) (R := R) hp hne (.inl hR)) (.refl _)
  | @ref hex c s v hc _ ih =>
    intro p u w R hp hR
    have e : p ++ (bI hex c ++ s ++ R) = p ++ 38 :: (35 :: ((if hex then 120 :: dg 16 c else dg 10 c) ++ 59 :: (s ++ R))) := by
      unfold bI; simp
    rw [e]
    have hstep : ∀ u', bg ⟨38 :: (35 :: ((if hex then 120 :: dg 16 c else dg 10 c) ++ 59 :: (s ++ R))), stN w u', [(0, [97])], true⟩ = .ok ⟨s ++ R, stN w (u' ++ utf8 c), [(0, [97])], true⟩ := by
      intro u'
      unfold bg
      rw [if_neg (by simp)]
      have e2 : hasF [38] (38 :: (35 :: ((if hex then 120 :: dg 16 c else dg 10 c) ++ 59 :: (s ++ R)))) = (true, 35 :: ((if hex then 120 :: dg 16 c else dg 10 c) ++ 59 :: (s ++ R))) := by simp [hasF, List.isPrefixOf]
      dsimp only
      rw [e2, if_pos ⟨by simp, rfl⟩, Ce hex hc]
      exact Cg _ _ _ _ (G6 c)
    have hrest := fun u' => ih [] u' w R (fun x hx => by cases hx) hR
    by_cases hne : p = []
    · subst hne
      refine .step (by simp) (hstep u) ?_
      have := hrest (u ++ utf8 c)
      rw [List.nil_append, List.nil_append, List.append_assoc] at this
      rw [List.nil_append]
      exact this
    · refine .step (by simp [hne]) (zy (p := p) hp hne (.inr rfl)) (.step (by simp) (hstep _) ?_)
      have := hrest (u ++ p ++ utf8 c)
      rw [List.nil_append, List.nil_append] at this
      rw [show u ++ (p ++ (utf8 c ++ v)) = u ++ p ++ utf8 c ++ v by simp]
      exact this
  | @raw p' s v hp' _ ih =>
    intro p u w R hp hR
    have := ih (p ++ p') u w R (fun x hx => by rcases List.mem_append.1 hx with g | g; exact hp x g; exact hp' x g) hR
    rw [List.append_assoc p' s, ← List.append_assoc p p', ← List.append_assoc p p' v]
    exact this
theorem Enc.no13 {s v : Tx} (h : Enc s v) : ∀ x ∈ s, x ≠ 13 := by
  induction h with
  | nil => exact fun x hx => by cases hx
  | @ref hex c s v hc _ ih =>
    intro x hx
    rcases List.mem_append.1 hx with g | g
    · unfold bI at g
      rcases List.mem_cons.1 g with rfl | g
      · decide
      rcases List.mem_cons.1 g with rfl | g
      · decide
      rcases List.mem_append.1 g with g | g
      · cases hex with
        | true =>
          rcases List.mem_cons.1 (show x ∈ (120 :: dg 16 c : Tx) from g) with rfl | g
          · decide
          · exact (gL x (pq (.inr rfl) x g)).2.2.2.1
        | false => exact (gL x (pq (.inl rfl) x (show x ∈ dg 10 c from g))).2.2.2.1
      · rw [List.mem_singleton.1 g]; decide
    · exact ih x g
  | @raw p s v hp _ ih =>
    intro x hx e
    subst e
    rcases List.mem_append.1 hx with g | g
    · cases hp 13 g
    · exact ih 13 g rfl
theorem zA (hex : Bool) (c : Nat) : Good (bI hex c) := by
  refine Good.ascii fun x hx => ?_
  unfold bI at hx
  rcases List.mem_cons.1 hx with rfl | g
  · decide
  rcases List.mem_cons.1 g with rfl | g
  · decide
  rcases List.mem_append.1 g with g | g
  · cases hex with
    | true =>
      rcases List.mem_cons.1 (show x ∈ (120 :: dg 16 c : Tx) from g) with rfl | g
      · decide
      · exact (gL x (pq (.inr rfl) x g)).2.2.2.2
    | false => exact (gL x (pq (.inl rfl) x (show x ∈ dg 10 c from g))).2.2.2.2
  · rw [List.mem_singleton.1 g]; decide
theorem FH (v s : Tx) : bq ⟨s, [], [], false⟩ { nd0 with kind := 1, loc := [97], atts := [⟨[], [120], [], v⟩] } = .ok { nd0 with kind := 1, loc := [97], atts := [⟨[], [120], [], v⟩] } := rfl
theorem Ch {s1 R v : Tx} (h1 : dh (97 :: s1) = .ok ([97], s1)) (h2 : bA (s1.length + 1) [] (dx [97]) s1 = .ok ([[120]], { nd0 with kind := 1, loc := [97], atts := [⟨[], [120], [], v⟩] }, 62 :: R)) : bg ⟨60 :: 97 :: s1, [], [], false⟩ = .ok ⟨R, stN v [], [(0, [97])], true⟩ := by
  have h33 : s1 ≠ [] := fun e => by subst e; cases h2
  have e : bg ⟨60 :: 97 :: s1, [], [], false⟩ = bH ⟨97 :: s1, [], [], false⟩ := rfl
  rw [e, DI (r := ⟨97 :: s1, [], [], false⟩) (nm := [97]) (s1 := s1) (s2 := 62 :: R) (s3 := 62 :: R) (s4 := R) (nms := [[120]]) (cl := false) (by simp) h1 h2 rfl rfl (by simp) (by kernel_rfl) (FH v _) (by simp)]
  rfl
theorem Jb {s v R : Tx} (h : Enc s v) : bA ((32 :: 120 :: 61 :: 34 :: (s ++ 34 :: 62 :: R)).length + 1) [] (dx [97]) (32 :: 120 :: 61 :: 34 :: (s ++ 34 :: 62 :: R)) = .ok ([[120]], { nd0 with kind := 1, loc := [97], atts := [⟨[], [120], [], v⟩] }, 62 :: R) := by
  have hq : iP (34 :: (s ++ 34 :: 62 :: R)) = .ok (v, 62 :: R) := by
    have e : iP (34 :: (s ++ 34 :: 62 :: R)) = iC [34] ((34 :: (s ++ 34 :: 62 :: R)).length + 1) [] (s ++ 34 :: 62 :: R) := rfl
    rw [e]
    have := uN (.inl rfl) h [] [] (62 :: R) ((34 :: (s ++ 34 :: 62 :: R)).length + 1) (fun x hx => by cases hx) (by simp; omega)
    rw [List.nil_append, List.nil_append, List.nil_append] at this
    exact this
  unfold bA
  rw [j5 (by decide)]
  have hn : dh (120 :: 61 :: 34 :: (s ++ 34 :: 62 :: R)) = .ok ([120], 61 :: 34 :: (s ++ 34 :: 62 :: R)) := by kernel_rfl
  dsimp only
  rw [if_pos (by rfl), hn]
  dsimp only
  rw [Ja (by decide)]
  dsimp only
  rw [hq]
  dsimp only
  rw [show (32 :: 120 :: 61 :: 34 :: (s ++ 34 :: 62 :: R)).length = (120 :: 61 :: 34 :: (s ++ 34 :: 62 :: R)).length + 1 from rfl, Bc (by decide)]
  rfl
theorem Jc {s v R : Tx} (h : Enc s v) : bA ((32 :: 120 :: 32 :: 61 :: 32 :: 39 :: (s ++ 39 :: 32 :: 62 :: R)).length + 1) [] (dx [97]) (32 :: 120 :: 32 :: 61 :: 32 :: 39 :: (s ++ 39 :: 32 :: 62 :: R)) = .ok ([[120]], { nd0 with kind := 1, loc := [97], atts := [⟨[], [120], [], v⟩] }, 62 :: R) := by
  have hq : iP (39 :: (s ++ 39 :: 32 :: 62 :: R)) = .ok (v, 32 :: 62 :: R) := by
    have e : iP (39 :: (s ++ 39 :: 32 :: 62 :: R)) = iC [39] ((39 :: (s ++ 39 :: 32 :: 62 :: R)).length + 1) [] (s ++ 39 :: 32 :: 62 :: R) := rfl
    rw [e]
    have := uN (.inr rfl) h [] [] (32 :: 62 :: R) ((39 :: (s ++ 39 :: 32 :: 62 :: R)).length + 1) (fun x hx => by cases hx) (by simp; omega)
    rw [List.nil_append, List.nil_append, List.nil_append] at this
    exact this
  unfold bA
  rw [j5 (by decide)]
  have hn : dh (120 :: 32 :: 61 :: 32 :: 39 :: (s ++ 39 :: 32 :: 62 :: R)) = .ok ([120], 32 :: 61 :: 32 :: 39 :: (s ++ 39 :: 32 :: 62 :: R)) := by kernel_rfl
  have he : eqF (32 :: 61 :: 32 :: 39 :: (s ++ 39 :: 32 :: 62 :: R)) = .ok (39 :: (s ++ 39 :: 32 :: 62 :: R)) := by
    unfold eqF
    rw [j5 (by decide)]
    have e1 : hasF [61] (61 :: 32 :: 39 :: (s ++ 39 :: 32 :: 62 :: R)) = (true, 32 :: 39 :: (s ++ 39 :: 32 :: 62 :: R)) := rfl
    dsimp only
    rw [e1]
    dsimp only
    rw [j5 (by decide)]
    rfl
  dsimp only
  rw [if_pos (by rfl), hn]
  dsimp only
  rw [he]
  dsimp only
  rw [hq]
  dsimp only
  rw [show (32 :: 120 :: 32 :: 61 :: 32 :: 39 :: (s ++ 39 :: 32 :: 62 :: R)).length = (120 :: 32 :: 61 :: 32 :: 39 :: (s ++ 39 :: 32 :: 62 :: R)).length + 1 from rfl]
  unfold bA
  rw [j5 (by decide)]
  rfl
theorem end_1 (ns : List Nd) : bg ⟨[60, 47, 97, 62], ns, [(0, [97])], true⟩ = .ok ⟨[], ns, [], true⟩ := by
  show endF ⟨[97, 62], ns, [(0, [97])], true⟩ = _
  kernel_rfl
theorem JF (ns : List Nd) : bg ⟨[60, 47, 97, 32, 62], ns, [(0, [97])], true⟩ = .ok ⟨[], ns, [], true⟩ := by
  show endF ⟨[97, 32, 62], ns, [(0, [97])], true⟩ = _
  kernel_rfl
def quo1 (s : Tx) : Tx := 60 :: 97 :: 32 :: 120 :: 61 :: 34 :: (s ++ 34 :: 62 :: (s ++ [60, 47, 97, 62]))
def quo2 (s : Tx) : Tx := 60 :: 97 :: 32 :: 120 :: 32 :: 61 :: 32 :: 39 :: (s ++ 39 :: 32 :: 62 :: (s ++ [60, 47, 97, 32, 62]))
theorem run_text {T : Tx} {ns : List Nd} (hl : T.length ≤ 60000) (hg : Good T) (h13 : ∀ x ∈ T, x ≠ 13) (hf : iD T = .ok T) (hs : Steps ⟨T, [], [], false⟩ ⟨[], ns, [], true⟩) : eB T = .ok ns := by
  have hL : lines T = T := by
    have := rU h13 []
    rw [List.append_nil] at this
    rw [FC, this]
    exact List.append_nil _
  unfold eB
  rw [if_neg (by omega), (zq _).2 hg, if_neg (by decide), hL]
  unfold allF
  rw [hf]
  dsimp only
  rw [hs.end (RI.start _ (by omega)) rfl (Nat.le_refl _)]
  rfl
theorem Bh {s v : Tx} (h : Enc s v) (hg : Good s) (hl : s.length ≤ 10000) : eB (quo1 s) = .ok (stN v v) := by
  have h13 := h.no13
  refine run_text (by unfold quo1; simp; omega) ?_ ?_ rfl ?_
  · have g1 : Good [60, 97, 32, 120, 61, 34] := Good.ascii (by decide)
    have g2 : Good [34, 62] := Good.ascii (by decide)
    have g3 : Good [60, 47, 97, 62] := Good.ascii (by decide)
    exact g1.append (hg.append (g2.append (hg.append g3)))
  · intro x hx e
    subst e
    have : (13 : UInt8) ∈ ([60, 97, 32, 120, 61, 34] : Tx) ++ (s ++ ([34, 62] ++ (s ++ [60, 47, 97, 62]))) := hx
    simp at this
    exact h13 13 this rfl
  · have st := Ch (s1 := 32 :: 120 :: 61 :: 34 :: (s ++ 34 :: 62 :: (s ++ [60, 47, 97, 62]))) (by kernel_rfl) (Jb h)
    have ct := pz h [] [] v [60, 47, 97, 62] (fun x hx => by cases hx) rfl
    rw [List.nil_append, List.nil_append, List.nil_append] at ct
    exact .step (by simp [quo1]) st (ct.trans (.step (by simp) (end_1 _) (.refl _)))
theorem Bj {s v : Tx} (h : Enc s v) (hg : Good s) (hl : s.length ≤ 10000) : eB (quo2 s) = .ok (stN v v) := by
  have h13 := h.no13
  refine run_text (by unfold quo2; simp; omega) ?_ ?_ rfl ?_
  · have g1 : Good [60, 97, 32, 120, 32, 61, 32, 39] := Good.ascii (by decide)
    have g2 : Good [39, 32, 62] := Good.ascii (by decide)
    have g3 : Good [60, 47, 97, 32, 62] := Good.ascii (by decide)
    exact g1.append (hg.append (g2.append (hg.append g3)))
  · intro x hx e
    subst e
    have : (13 : UInt8) ∈ ([60, 97, 32, 120, 32, 61, 32, 39] : Tx) ++ (s ++ ([39, 32, 62] ++ (s ++ [60, 47, 97, 32, 62]))) := hx
    simp at this
    exact h13 13 this rfl
  · have st := Ch (s1 := 32 :: 120 :: 32 :: 61 :: 32 :: 39 :: (s ++ 39 :: 32 :: 62 :: (s ++ [60, 47, 97, 32, 62]))) (by kernel_rfl) (Jc h)
    have ct := pz h [] [] v [60, 47, 97, 32, 62] (fun x hx => by cases hx) rfl
    rw [List.nil_append, List.nil_append, List.nil_append] at ct
    exact .step (by simp [quo2]) st (ct.trans (.step (by simp) (JF _) (.refl _)))
end Go.Proofs.YtohgmkjhbacmpaaGreatDoor
