/- The same trees, by the document: what is one tree is the same. No conditions. -/
import Derived.Test.YtohgmkjhbacmpaaGreatDoorXmGF
import Derived.Lib.TrimAscii
set_option linter.unusedVariables false
set_option linter.unusedSimpArgs false
namespace Go.Proofs.YtohgmkjhbacmpaaGreatDoor
open Go Go.Abs Go.RowKit Go.Xml
variable {base : Nat} {w0 : World} {G : Nat}
structure NdR (H : Hp) (n : Nd) (kv av dv : Value) : Prop where
  kid : Rws H kv 1 (n.kids.map fun c => [Value.int .i64 (c : Nat)])
  att : Rws H av 4 (n.atts.map attC)
  dcl : Rws H dv 2 (n.dcls.map dclC)
theorem NdR.sub {H H' : Hp} {n : Nd} {kv av dv : Value} (h : NdR H n kv av dv) (hs : ∀ e ∈ H, e ∈ H') : NdR H' n kv av dv := ⟨h.kid.sub hs, h.att.sub hs, h.dcl.sub hs⟩
theorem wV.full {v : Value} {ns : List Nd} {cs : List (List Value)} {h : Hp} (hT : wV v ns cs h) {i : Nat} {n : Nd} (hi : ns[i]? = some n) :
    ∃ B kv av dv, v = .slice (some ⟨B, 0, some 0⟩) ns.length ns.length ∧ (B, Ob.cells cs.flatten 34 true) ∈ h ∧ cut cs.flatten (i * 9) 9 = some (ndC n kv av dv) ∧ (∀ j, j < 9 → cs.flatten[i * 9 + j]? = (ndC n kv av dv)[j]?) ∧ NdR h n kv av dv := by
  obtain ⟨hn, hx, rfl, hG, hN⟩ := hT.rows
  obtain ⟨cl, c9⟩ := hN.len
  have hil := (List.getElem?_eq_some_iff.1 hi).1
  obtain ⟨B, hv, hB⟩ := GV.blk hG (by omega)
  obtain ⟨c, h1, h2, h3, a1, a2, ⟨kv, av, dv, hk, ha, hd, rfl, rfl, gk, ga, gd⟩, _⟩ := hN.at hi
  refine ⟨B, kv, av, dv, hv, by rw [hB]; simp, iM c9 a1, fun j hj => flat_get c9 a1 hj, ⟨?_, ?_, ?_⟩⟩
  · have := GV.rows (r := []) (cs := n.kids.map fun c => [Value.int .i64 (c : Nat)]) (n := n.kids.length) (sz := 1) (e := 3) (hg := hk) (v := kv) (by
      have e : (n.kids.map fun c => [Value.int .i64 (c : Nat)]).flatten = jG n.kids := by
        unfold jG
        induction n.kids with
        | nil => rfl
        | cons a l ih => simp only [List.map_cons, List.flatten_cons, ih]; rfl
      rw [e]; exact gk) (fun c hc => by obtain ⟨d, _, rfl⟩ := List.mem_map.1 hc; rfl) (List.length_map _)
    exact this.sub fun e he => by rw [a2]; simp at he ⊢; simp [he]
  · have := GV.rows (r := []) (cs := n.atts.map attC) (n := n.atts.length) (sz := 4) (e := 52) (hg := ha) (v := av) ga (fun c hc => by obtain ⟨d, _, rfl⟩ := List.mem_map.1 hc; rfl) (List.length_map _)
    exact this.sub fun e he => by rw [a2]; simp at he ⊢; simp [he]
  · exact (jK (r := []) gd).sub fun e he => by rw [a2]; simp at he ⊢; simp [he]
def DocV (H : Hp) (v : Value) (ns : List Nd) : Prop := ∃ cs : List (List Value), cs.length = ns.length ∧ Rws H v 9 cs ∧ ∀ (i : Nat) (n : Nd), ns[i]? = some n → ∃ kv av dv, cs[i]? = some (ndC n kv av dv) ∧ NdR H n kv av dv
theorem DocV.sub {H H' : Hp} {v : Value} {ns : List Nd} (h : DocV H v ns) (hs : ∀ e ∈ H, e ∈ H') : DocV H' v ns := by
  obtain ⟨cs, h1, h2, h3⟩ := h
  exact ⟨cs, h1, h2.sub hs, fun i n hi => by obtain ⟨kv, av, dv, a, b⟩ := h3 i n hi; exact ⟨kv, av, dv, a, b.sub hs⟩⟩
theorem DocV.isSlice {H : Hp} {v : Value} {ns : List Nd} (h : DocV H v ns) : ∃ a c, v = .slice a ns.length c := by
  obtain ⟨cs, h1, h2, h3⟩ := h
  obtain ⟨a, c, h, _⟩ := h2.isSlice
  exact ⟨a, c, by rw [← h1]; exact h⟩
theorem DocV.at {H : Hp} {v : Value} {ns : List Nd} (h : DocV H v ns) {i : Nat} {n : Nd} (hi : ns[i]? = some n) :
    ∃ x o sp c ccs ty own kv av dv, v = .slice (some ⟨x, o, sp⟩) ns.length c ∧ (x, Ob.cells ccs ty own) ∈ H ∧ cut ccs (o + i * 9) 9 = some (ndC n kv av dv) ∧ (∀ j, j < 9 → ccs[o + i * 9 + j]? = (ndC n kv av dv)[j]?) ∧ NdR H n kv av dv := by
  obtain ⟨cs, h1, h2, h3⟩ := h
  obtain ⟨kv, av, dv, a, b⟩ := h3 i n hi
  obtain ⟨x, o, sp, c, ccs, ty, own, g1, g2, g3⟩ := h2.mem a
  exact ⟨x, o, sp, c, ccs, ty, own, kv, av, dv, by rw [← h1]; exact g1, g2, g3, fun j hj => iX g3 hj, b⟩
theorem DocH.view {v : Value} {ns : List Nd} {h : Hp} (hD : DocH v ns h) : DocV h v ns := by
  obtain ⟨cs, hn, hx, rfl, hG, hN⟩ := hD
  have hT : wV v ns cs (hn ++ hx) := ⟨hn, hx, rfl, hG, hN⟩
  obtain ⟨cl, c9⟩ := hN.len
  refine ⟨cs, cl, by
    have := GV.rows (r := hx) hG c9 cl
    exact this, fun i n hi => ?_⟩
  obtain ⟨B, kv, av, dv, _, _, a3, _, a5⟩ := hT.full hi
  have hil := (List.getElem?_eq_some_iff.1 hi).1
  refine ⟨kv, av, dv, ?_, a5⟩
  obtain ⟨c, hc⟩ : ∃ c, cs[i]? = some c := ⟨cs[i]'(by omega), by simp⟩
  rw [hc]
  rw [iM c9 hc] at a3
  exact a3
end Go.Proofs.YtohgmkjhbacmpaaGreatDoor
set_option linter.unusedVariables false
set_option linter.unusedSimpArgs false
namespace Go.Proofs.YtohgmkjhbacmpaaGreatDoor
open Go Go.Abs Go.RowKit Go.Xml
def rep : Nat → Tx → Tx
  | 0, _ => []
  | n + 1, t => t ++ rep n t
theorem uO : ∀ (n : Nat) (t : Tx), rep n t ++ t = rep (n + 1) t
  | 0, t => by simp [rep]
  | n + 1, t => by rw [rep, List.append_assoc, uO n t]; rfl
theorem gq : ∀ (n : Nat) (t : Tx), (rep n t).length = n * t.length
  | 0, t => by simp [rep]
  | n + 1, t => by rw [rep, List.length_append, gq n t, Nat.succ_mul, Nat.add_comm]
theorem zL : ∀ {n : Nat} {t : Tx} {c : UInt8}, c ∈ rep n t → c ∈ t
  | 0, t, c, h => by cases h
  | n + 1, t, c, h => by
    rcases List.mem_append.1 h with h | h
    · exact h
    · exact zL h
def iB (n : Nat) : Tx := rep n [60, 97, 62] ++ rep n [60, 47, 97, 62]
def CR (n : Nat) : Bool := match bP (iB n) with
  | .ok ns => decide (n ≤ 32) && decide (ns.length = n)
  | .error e => decide (32 < n) && decide (e = 32)
set_option maxRecDepth 100000 in
theorem CS : ((List.range 40).all fun i => CR (i + 1)) = true := by kernel_rfl
theorem y9 {n : Nat} (h1 : 1 ≤ n) (h2 : n ≤ 40) : (n ≤ 32 ∧ ∃ ns, bP (iB n) = .ok ns ∧ ns.length = n) ∨ (32 < n ∧ bP (iB n) = .error 32) := by
  have h := List.all_eq_true.1 CS (n - 1) (List.mem_range.2 (by omega))
  rw [show n - 1 + 1 = n by omega] at h
  unfold CR at h
  cases hp : bP (iB n) with
  | ok ns =>
    rw [hp] at h
    simp only [Bool.and_eq_true, decide_eq_true_eq] at h
    exact .inl ⟨h.1, ns, rfl, h.2⟩
  | error e =>
    rw [hp] at h
    simp only [Bool.and_eq_true, decide_eq_true_eq] at h
    exact .inr ⟨h.1, by rw [h.2]⟩
def rR (i : Nat) : Tx := [32, 97, UInt8.ofNat (97 + i / 10), UInt8.ofNat (48 + i % 10), 61, 39, 39]
def fu : Nat → Tx
  | 0 => []
  | n + 1 => fu n ++ rR n
def EL (m : Nat) : Bool := match bP ([60, 97] ++ (fu m ++ [47, 62])) with
  | .ok [] => false
  | .ok (n :: _) => decide (m ≤ 32) && decide (n.atts.length = m)
  | .error e => decide (32 < m) && decide (e = 33)
set_option maxRecDepth 100000 in
theorem Ef : ((List.range 40).all fun i => EL i) = true := by kernel_rfl
theorem Bb {m : Nat} (h2 : m < 40) : (m ≤ 32 ∧ ∃ n ns, bP ([60, 97] ++ (fu m ++ [47, 62])) = .ok (n :: ns) ∧ n.atts.length = m) ∨ (32 < m ∧ bP ([60, 97] ++ (fu m ++ [47, 62])) = .error 33) := by
  have h := List.all_eq_true.1 Ef m (List.mem_range.2 h2)
  unfold EL at h
  cases hp : bP ([60, 97] ++ (fu m ++ [47, 62])) with
  | ok ns =>
    rw [hp] at h
    cases ns with
    | nil => cases h
    | cons n ns =>
      simp only [Bool.and_eq_true, decide_eq_true_eq] at h
      exact .inl ⟨h.1, n, ns, rfl, h.2⟩
  | error e =>
    rw [hp] at h
    simp only [Bool.and_eq_true, decide_eq_true_eq] at h
    exact .inr ⟨h.1, by rw [h.2]⟩
end Go.Proofs.YtohgmkjhbacmpaaGreatDoor
set_option linter.unusedVariables false
set_option linter.unusedSimpArgs false
namespace Go.Proofs.YtohgmkjhbacmpaaGreatDoor
open Go Go.Abs Go.RowKit Go.Xml
theorem CU {s : Tx} {o : UInt8} {t : Tx} (h : o ∉ s) : Lib.index s (o :: t) = -1 := by
  induction s with
  | nil => rfl
  | cons b s ih =>
    have hb : ¬ o = b := fun e => h (by rw [e]; exact List.mem_cons_self ..)
    have hs : o ∉ s := fun e => h (List.mem_cons_of_mem _ e)
    unfold Lib.index
    rw [if_neg (by rw [List.isPrefixOf_cons_cons]; simp [hb]), ih hs]
    rfl
theorem wW {o : UInt8} {t new : Tx} : ∀ (k : Nat) {s : Tx}, o ∉ s → Lib.replaceK (o :: t) new k s = s
  | 0, s, h => rfl
  | k + 1, s, h => by
    unfold Lib.replaceK
    rw [if_pos (by rw [CU h]; rfl)]
theorem CV {s : Tx} (h : (13 : UInt8) ∉ s) : lines s = s := by
  have e : ∀ (t new : Tx), Lib.replaceAll s (13 :: t) new = s := fun t new => by
    unfold Lib.replaceAll Lib.replace
    split
    · rfl
    · exact wW _ h
  unfold lines
  rw [e, e]
theorem rT : ∀ (f : Nat) (l : Tx) (a : Nat), (∀ c ∈ l, 32 ≤ c.toNat ∧ c.toNat < 127) → badF f l a = none
  | 0, l, a, h => rfl
  | f + 1, [], a, h => rfl
  | f + 1, c :: l, a, h => by
    obtain ⟨h1, h2⟩ := h c (List.mem_cons_self ..)
    have hd := Lib.decodeL_ascii c l (by omega)
    have hi : fK c.toNat = true := by
      unfold fK
      simp only [Bool.or_eq_true, Bool.and_eq_true, decide_eq_true_eq]
      omega
    rw [rJ f _ a (List.cons_ne_nil _ _), hd, if_neg (by
      intro g
      rcases g with ⟨g1, _⟩ | g
      · dsimp only at g1; omega
      · rw [hi] at g; cases g)]
    exact rT f l _ fun d hd => h d (List.mem_cons_of_mem _ hd)
theorem skip_none {c : UInt8} {t : Tx} (h : c ≠ 32 ∧ c ≠ 9 ∧ c ≠ 10) : aH (c :: t) = (false, c :: t) := by
  have e : Lib.trimLeftS (c :: t) blanks = c :: t := by
    unfold Lib.trimLeftS
    rw [List.dropWhile_cons_of_neg]
    obtain ⟨a, b, d⟩ := h
    simp [blanks, a, b, d]
  unfold aH
  rw [e, decide_eq_false (Nat.lt_irrefl _)]
theorem qj {f : Nat} {nms : List Tx} {n : Nd} {c : UInt8} {t : Tx} (h : c ≠ 32 ∧ c ≠ 9 ∧ c ≠ 10) : dG (f + 1) nms n (c :: t) = .ok (nms, n, c :: t) := by
  unfold dG
  rw [skip_none h]
  rfl
theorem rU {r : RS} {nm s1 s2 s3 s4 : Tx} {nms : List Tx} {n n' : Nd} {cl : Bool} (h0 : ¬(r.stk = [] ∧ r.done = true)) (h1 : gJ r.s = .ok (nm, s1)) (h2 : dG (s1.length + 1) [] (eU nm) s1 = .ok (nms, n, s2)) (h3 : hasF [47] s2 = (cl, s3)) (h4 : hasF [62] s3 = (true, s4)) (h5 : nms.length ≤ 32) (h6 : once nms = true) (h7 : bU r n = .ok n') (h8 : r.stk.length ≠ 32) :
    gM r = match addF n' { r with s := s4 } with
      | .error e => .error e
      | .ok (a, r') => .ok { r' with done := true, stk := if cl then r'.stk else r'.stk ++ [(a, nm)] } := by
  unfold gM
  rw [if_neg h0, h1]
  dsimp only
  rw [h2]
  dsimp only
  rw [h3]
  dsimp only
  rw [h4]
  dsimp only
  rw [if_neg (by simp), if_neg (by omega), h6, if_neg (by simp), h7]
  dsimp only
  rw [if_neg h8]
  rfl
theorem qN (r : RS) (c : UInt8) : ∃ u, bU r { nd0 with kind := 1, loc := [c] } = .ok { nd0 with kind := 1, loc := [c], spc := u } := by
  refine ⟨(aL r [] []).1, ?_⟩
  have h2 : (aL r [] []).2 = true := by
    unfold aL
    rw [if_neg (by simp)]
    show (match outer r.ns [] r.stk.reverse with
      | some u => (u, true)
      | none => ([], decide (([] : Tx) = []))).2 = true
    cases outer r.ns [] r.stk.reverse <;> rfl
  unfold bU
  rw [if_neg (by simp [nd0])]
  exact (if_pos h2).trans rfl
theorem FE (t : Tx) : iK ⟨60 :: 97 :: 62 :: t, [], [], false⟩ = .ok ⟨t, [{ nd0 with kind := 1, loc := [97], par := -1 }], [(0, [97])], true⟩ := by
  show gM ⟨97 :: 62 :: t, [], [], false⟩ = _
  rw [rU (r := ⟨97 :: 62 :: t, [], [], false⟩) (nm := [97]) (s1 := 62 :: t) (s2 := 62 :: t) (s3 := 62 :: t) (s4 := t) (nms := []) (n := eU [97]) (cl := false) (n' := eU [97]) (by simp) (by kernel_rfl) (qj (by decide)) rfl rfl (by simp) (by kernel_rfl) (by kernel_rfl) (by simp)]
  rfl
theorem FH (t : Tx) (ns : List Nd) : ∃ n, iK ⟨60 :: 98 :: 47 :: 62 :: t, ns, [(0, [97])], true⟩ = if ns.length = 4096 then .error 33 else .ok ⟨t, fP ns 0 ns.length ++ [n], [(0, [97])], true⟩ := by
  obtain ⟨u, hu⟩ := qN ⟨98 :: 47 :: 62 :: t, ns, [(0, [97])], true⟩ 98
  refine ⟨{ nd0 with kind := 1, loc := [98], spc := u, par := ((0 : Nat) : Int) }, ?_⟩
  show gM ⟨98 :: 47 :: 62 :: t, ns, [(0, [97])], true⟩ = _
  rw [rU (r := ⟨98 :: 47 :: 62 :: t, ns, [(0, [97])], true⟩) (nm := [98]) (s1 := 47 :: 62 :: t) (s2 := 47 :: 62 :: t) (s3 := 62 :: t) (s4 := t) (nms := []) (n := eU [98]) (cl := true) (by simp) (by kernel_rfl) (qj (by decide)) rfl rfl (by simp) (by kernel_rfl) hu (by simp)]
  unfold addF
  by_cases h4 : ns.length = 4096
  · rw [if_pos h4, if_pos h4]
  · rw [if_neg h4, if_neg h4]
    rfl
theorem step_end (ns : List Nd) : iK ⟨[60, 47, 97, 62], ns, [(0, [97])], true⟩ = .ok ⟨[], ns, [], true⟩ := by
  show endF ⟨[97, 62], ns, [(0, [97])], true⟩ = _
  kernel_rfl
theorem ql {f : Nat} {r r' : RS} (hne : r.s ≠ []) (h : iK r = .ok r') : allR (f + 1) r = allR f r' := by
  show (if r.s = [] then (Except.ok r : Ex RS) else _) = _
  rw [if_neg hne, h]
theorem Eh {f : Nat} {r : RS} {e : Int} (hne : r.s ≠ []) (h : iK r = .error e) : allR (f + 1) r = .error e := by
  show (if r.s = [] then (Except.ok r : Ex RS) else _) = _
  rw [if_neg hne, h]
theorem wX : ∀ (j f : Nat) (ns : List Nd), 4 * j + 4 ≤ f → ns.length ≤ 4096 →
    (ns.length + j ≤ 4096 → ∃ ns', allR f ⟨rep j [60, 98, 47, 62] ++ [60, 47, 97, 62], ns, [(0, [97])], true⟩ = .ok ⟨[], ns', [], true⟩ ∧ ns'.length = ns.length + j) ∧
    (4096 < ns.length + j → allR f ⟨rep j [60, 98, 47, 62] ++ [60, 47, 97, 62], ns, [(0, [97])], true⟩ = .error 33)
  | 0, f, ns, hf, hn => by
    obtain ⟨f', rfl⟩ : ∃ f', f = f' + 2 := ⟨f - 2, by omega⟩
    refine ⟨fun _ => ⟨ns, ?_, rfl⟩, fun h => by omega⟩
    rw [show rep 0 [60, 98, 47, 62] ++ [60, 47, 97, 62] = ([60, 47, 97, 62] : Tx) from rfl, ql (by simp) (step_end ns)]
    rfl
  | j + 1, f, ns, hf, hn => by
    obtain ⟨f', rfl⟩ : ∃ f', f = f' + 1 := ⟨f - 1, by omega⟩
    obtain ⟨n, hs⟩ := FH (rep j [60, 98, 47, 62] ++ [60, 47, 97, 62]) ns
    have e : rep (j + 1) [60, 98, 47, 62] ++ [60, 47, 97, 62] = 60 :: 98 :: 47 :: 62 :: (rep j [60, 98, 47, 62] ++ [60, 47, 97, 62]) := rfl
    rw [e]
    by_cases h4 : ns.length = 4096
    · rw [if_pos h4] at hs
      exact ⟨fun h => by omega, fun _ => Eh (by simp) hs⟩
    · rw [if_neg h4] at hs
      rw [ql (by simp) hs]
      have hl : (fP ns 0 ns.length ++ [n]).length = ns.length + 1 := by rw [List.length_append, jN]; rfl
      obtain ⟨i1, i2⟩ := wX j f' (fP ns 0 ns.length ++ [n]) (by omega) (by omega)
      rw [hl] at i1 i2
      refine ⟨fun h => ?_, fun h => i2 (by omega)⟩
      obtain ⟨ns', g1, g2⟩ := i1 (by omega)
      exact ⟨ns', g1, by omega⟩
def aY (k : Nat) : Tx := [60, 97, 62] ++ (rep (4091 + k) [60, 98, 47, 62] ++ [60, 47, 97, 62])
theorem za {k : Nat} (hk : k ≤ 8) : (k ≤ 4 ∧ ∃ ns, bP (aY k) = .ok ns ∧ ns.length = 4092 + k) ∨ (4 < k ∧ bP (aY k) = .error 33) := by
  have hmem : ∀ c ∈ aY k, c = 60 ∨ c = 97 ∨ c = 62 ∨ c = 98 ∨ c = 47 := fun c hc => by
    unfold aY at hc
    rcases List.mem_append.1 hc with h | h
    · simp at h; rcases h with h | h | h <;> simp [h]
    · rcases List.mem_append.1 h with h | h
      · have := zL h; simp at this; rcases this with h | h | h | h <;> simp [h]
      · simp at h; rcases h with h | h | h | h <;> simp [h]
  have hlen : (aY k).length = 3 + (4 * (4091 + k) + 4) := by
    unfold aY
    rw [List.length_append, List.length_append, gq]
    simp; omega
  have h1 : bad (aY k) = none := rT _ _ _ fun c hc => by rcases hmem c hc with h | h | h | h | h <;> rw [h] <;> decide
  have h2 : lines (aY k) = aY k := CV fun hc => by rcases hmem 13 hc with h | h | h | h | h <;> revert h <;> decide
  have h3 : gK (aY k) = .ok (aY k) := rfl
  have hs : allR (aY k).length ⟨aY k, [], [], false⟩ = allR ((aY k).length - 1) ⟨rep (4091 + k) [60, 98, 47, 62] ++ [60, 47, 97, 62], [{ nd0 with kind := 1, loc := [97], par := -1 }], [(0, [97])], true⟩ := by
    obtain ⟨f, hf⟩ : ∃ f, (aY k).length = f + 1 := ⟨(aY k).length - 1, by omega⟩
    rw [hf]
    exact ql (by unfold aY; simp) (FE _)
  obtain ⟨i1, i2⟩ := wX (4091 + k) ((aY k).length - 1) [{ nd0 with kind := 1, loc := [97], par := -1 }] (by omega) (by simp)
  have hF : bP (aY k) = match allR (aY k).length ⟨aY k, [], [], false⟩ with
    | .error e => .error e
    | .ok r => if r.done = true ∧ r.stk = [] then .ok r.ns else .error 10 := by
    unfold bP
    rw [if_neg (by omega), h1, if_neg (by decide), h2]
    unfold allF
    rw [h3]
    rfl
  rw [hF, hs]
  by_cases h4 : k ≤ 4
  · left
    obtain ⟨ns', g1, g2⟩ := i1 (by simp; omega)
    refine ⟨h4, ns', ?_, by rw [g2]; simp; omega⟩
    rw [g1]
    rfl
  · right
    refine ⟨by omega, ?_⟩
    rw [i2 (by simp; omega)]
end Go.Proofs.YtohgmkjhbacmpaaGreatDoor
set_option linter.unusedVariables false
set_option linter.unusedSimpArgs false
namespace Go.Proofs.YtohgmkjhbacmpaaGreatDoor
open Go Go.Abs Go.RowKit Go.Xml
variable {base : Nat} {w0 : World} {G : Nat}
theorem modw (a m : Int) (h0 : 0 < m) (h1 : m ≤ 1000) : ∃ x : Nat, (IntKind.i64.wrap (a.tmod m + m)).tmod m = (x : Int) ∧ (x : Int) < m := by
  have g1 := Int.tmod_lt_of_pos a (b := m) h0
  have g2 : -m < a.tmod m := by
    by_cases h : a < 0
    · have h3 := Int.tmod_lt_of_pos (-a) (b := m) h0
      rw [Int.neg_tmod] at h3
      omega
    · have := Int.tmod_nonneg m (show 0 ≤ a by omega); omega
  rw [bW (by omega)]
  refine ⟨((a.tmod m + m).tmod m).toNat, ?_, ?_⟩
  · rw [Int.toNat_of_nonneg (Int.tmod_nonneg _ (by omega))]
  · rw [Int.toNat_of_nonneg (Int.tmod_nonneg _ (by omega))]
    exact Int.tmod_lt_of_pos _ h0
theorem wY {P : Program} {st : St} {s t : TypeId} {j k : IntKind} {n : Int} {d : TypeDesc} (hs : P.underlying s = some d) (ht : P.underlying t = some (.int k)) : bG P st s t (.int j n) = some (.int k (k.wrap n), st) := by
  unfold bG; rw [hs, ht]
theorem FI {st : St} {a b : Int} : aC Tryz.prog st 22 2 [(0, .int .u8 a), (1, .int .u8 b)] = some (.slice (some ⟨st.n, 0, none⟩) 2 2, st.new (.cells [.int .u8 a, .int .u8 b] 5 true)) := by
  simp [aC, Tryz.underlying22, asz5, azc5, eP, zeros, isTuple, Value.cells, setL, List.replicate]
theorem CW : ∀ i : Fin 40, IntKind.u8.wrap (IntKind.i64.wrap (97 + IntKind.i64.wrap (((i.val : Nat) : Int).tdiv 10))) = (((UInt8.ofNat (97 + i.val / 10)).toNat : Nat) : Int) ∧ IntKind.u8.wrap (IntKind.i64.wrap (48 + ((i.val : Nat) : Int).tmod 10)) = (((UInt8.ofNat (48 + i.val % 10)).toNat : Nat) : Int) := by decide
theorem gW : ∀ n, (fu n).length = 7 * n
  | 0 => rfl
  | n + 1 => by rw [fu, List.length_append, gW n]; simp [rR]; omega
def uTx (n : Nat) : Tx := [60, 97] ++ fu n
def uAll (n : Nat) : Tx := [60, 97] ++ (fu n ++ [47, 62])
theorem Ei {i : Nat} (h : i < 100) : astr .add (tx (uTx i)) (tx (rR i)) = some (.string (tx (uTx (i + 1)))) := by
  unfold uTx
  rw [dA (a := [60, 97] ++ fu i) (b := rR i) (by simp [rR]; rw [gW]; omega), fu, List.append_assoc]
theorem CX {i : Nat} (h : i < 100) : astr .add (tx (uTx i)) (tx [47, 62]) = some (.string (tx (uAll i))) := by
  unfold uTx uAll
  rw [dA (a := [60, 97] ++ fu i) (b := [47, 62]) (by simp; rw [gW]; omega), List.append_assoc]
theorem CY (n : Nat) : (uAll n).length = 7 * n + 4 := by unfold uAll; simp; rw [gW]
def BV (v : Value) (l : Tx) (hg : Hp) : Prop := ∃ B sp, (sp = none ∨ sp = some 0) ∧ v = .slice (some ⟨B, 0, sp⟩) l.length l.length ∧ hg = [(B, Ob.cells (nl (nb8 l)) 5 true)]
set_option maxRecDepth 10000 in
theorem BV.append {st : St} {l t : Tx} {v : Value} {hg r : Hp} {f : Value → St → Prop} (hG : BV v l hg) (hO : Own st (hg ++ r)) (ht : t ≠ []) (hlim : l.length + t.length ≤ 1000000)
    (k : ∀ B st', Own st' ((B, Ob.cells (nl (nb8 (l ++ t))) 5 true) :: r) → f (.slice (some ⟨B, 0, some 0⟩) (l ++ t).length (l ++ t).length) st') : alet (aR Tryz.prog st #[22, 9] v (.string (tx t))) (stop f .mk) := by
  have hsrc : asrc st (0 + 1) (.string (tx t)) = some (t.length, nl (nb8 t)) := by
    have := wF st (nb8 t) (ku t)
    rw [aG] at this
    rw [gG]
    exact this
  have htl : t.length ≠ 0 := fun e => ht (List.eq_nil_of_length_eq_zero e)
  have hcat : nl (nb8 l) ++ nl (nb8 t) = nl (nb8 (l ++ t)) := by rw [← q9]; simp [nb8]
  have hc : cut (nl (nb8 l)) 0 (l.length * (0 + 1)) = some (nl (nb8 l)) := by
    have := fB (nl (nb8 l))
    rw [mH, aG] at this
    rw [Nat.zero_add, Nat.mul_one]
    exact this
  have hn : (l ++ t).length = l.length + t.length := List.length_append
  obtain ⟨B, sp, hsp, rfl, rfl⟩ := hG
  rcases hsp with rfl | rfl
  · rw [iZ Tryz.underlying22 (by rw [Tryz.underlying9]; rfl) asz5 azc5 aby5 hsrc (yw _) hO.head (by omega) hc (by omega), hcat, ← hn]
    exact k st.n _ (hO.tail.new _)
  · rw [dz Tryz.underlying22 (by rw [Tryz.underlying9]; rfl) asz5 azc5 aby5 hsrc (yw _) hO.head hc (by omega), hcat, ← hn]
    exact k st.n _ ((hO.kill rfl).new _)
def bTx (i : Nat) : Tx := [60, 97, 62] ++ rep i [60, 98, 47, 62]
theorem Ej (i : Nat) : bTx i ++ [60, 98, 47, 62] = bTx (i + 1) := by unfold bTx; rw [List.append_assoc, uO]
theorem uP (i : Nat) : (bTx i).length = 4 * i + 3 := by unfold bTx; rw [List.length_append, gq]; simp; omega
theorem wZ : ∀ n : Nat, zeros [.int .u8 0] n = nl (nb8 (List.replicate n 0))
  | 0 => rfl
  | n + 1 => by
    have := wZ n
    simp only [zeros, nl, bl, nb8, List.replicate_succ, List.map_cons, List.flatten_cons] at this ⊢
    rw [this]
    rfl
theorem CZ {st : St} {n : Nat} (h : n ≤ 1000000) : ak Tryz.prog st 22 (.int .i64 (n : Nat)) (.int .i64 (n : Nat)) = some (.slice (some ⟨st.n, 0, none⟩) n n, st.new (.cells (nl (nb8 (List.replicate n 0))) 5 true)) := by
  unfold ak
  simp only [Tryz.underlying22, asz5, azc5, aby5, wZ, Int.toNat_natCast]
  rw [if_pos (by omega)]
def nulN (n : Nat) : Tx := List.replicate n 0
theorem qm (n : Nat) : (nulN n).length = n := List.length_replicate ..
theorem Bc {n : Nat} (h : 65536 < n) : bP (nulN n) = .error 12 := by
  unfold bP
  rw [qm, if_pos h]
theorem FJ {n b : Nat} {h : Hp} (hm : (b, Ob.cells (nl (nb8 (nulN n))) 5 true) ∈ h) : Nb h (.slice (some ⟨b, 0, none⟩) n n) (nb8 (nulN n)) ∧ Sl Tryz.prog h (.slice (some ⟨b, 0, none⟩) n n) 1 := by
  refine ⟨⟨?_, ku _⟩, .inr ⟨b, 0, none, n, n, rfl, Nat.le_refl _, .inl rfl⟩⟩
  have hw := Bs.whole (c := n) (sp := none) (l := (nb8 (nulN n)).map fun n : Nat => (n : Int)) hm
  rw [List.length_map, aG, qm] at hw
  exact hw
@[irreducible] def nulK : Nat := 65537
theorem oh : nulK = 65537 := by unfold nulK; rfl
theorem FK {st : St} : ak Tryz.prog st 22 (.int .i64 65537) (.int .i64 65537) = some (.slice (some ⟨st.n, 0, none⟩) nulK nulK, st.new (.cells (nl (nb8 (nulN nulK))) 5 true)) := by
  have h := CZ (st := st) (n := nulK) (by rw [oh]; decide)
  have e : ((nulK : Nat) : Int) = 65537 := by rw [oh]; rfl
  rw [e] at h
  exact h
def C8 (x : Nat) (e : Int) (k : Nat) : Prop := x < 32 ∧ e = 0 ∧ k = x + 1 ∨ 32 ≤ x ∧ e = 32 ∧ k = 0
def AttR (y : Nat) (e : Int) (H : Hp) (v : Value) : Prop := y ≤ 32 ∧ e = 0 ∧ (∃ n ns, DocV H v (n :: ns) ∧ n.atts.length = y) ∨ 32 < y ∧ e = 33
set_option maxRecDepth 10000 in
theorem uQ (st : St) (r : Hp) (a1 a2 a3 : Int) (hM : bZ w0) (hT : bI w0) (hO : Own st r) (k q : Value → St → Prop) (hk : ∀ st', k (.bool true) st') : ay (C base w0 3) 6 [.int .i64 a1, .int .i64 a2, .int .i64 a3] st k q := by
  refine ay.of (cx := C base w0 3) mixed Tryz.func6 rfl (by kernel_rfl) (by simp [Tryz.ntmps6]) ?_
  simp only [Tryz.results6]
  obtain ⟨x, hx, hx40⟩ := modw a1 40 (by decide) (by decide)
  obtain ⟨y, hy, hy40⟩ := modw a2 40 (by decide) (by decide)
  obtain ⟨z, hz, hz9⟩ := modw a3 9 (by decide) (by decide)
  have e0 : (⟨#[]⟩ : ByteArray) = tx [] := rfl
  have e1 : (⟨#[60, 97, 62]⟩ : ByteArray) = tx [60, 97, 62] := rfl
  have e2 : (⟨#[60, 47, 97, 62]⟩ : ByteArray) = tx [60, 47, 97, 62] := rfl
  have wx : IntKind.i64.wrap (1 + (x : Int)) = ((x + 1 : Nat) : Int) := by rw [bW (by omega)]; omega
  have f40 : ((40 : Int) = 0) = False := by simp
  have f9 : ((9 : Int) = 0) = False := by simp
  simp -implicitDefEqProofs only [go_sem, astr, ak, Nat.reduceBEq, ↓reduceIte, reduceCtorEq, Nat.reduceEqDiff, Nat.reduceAdd, Nat.reduceLeDiff, Int.reduceEq, Int.reduceLT, Int.reduceLE, Int.reduceAdd, Int.reduceToNat, Int.reduceNeg, Nat.reduceMul, Nat.reduceSub, Int.reduceBNe, Int.reduceBEq]
  rw [aj]
  simp -implicitDefEqProofs only [go_sem, astr, ak, Nat.reduceBEq, ↓reduceIte, reduceCtorEq, Nat.reduceEqDiff, Nat.reduceAdd, Nat.reduceLeDiff, Int.reduceEq, Int.reduceLT, Int.reduceLE, Int.reduceAdd, Int.reduceToNat, Int.reduceNeg, Nat.reduceMul, Nat.reduceSub, Int.reduceBNe, Int.reduceBEq]
  refine fC (fun ρ s => ρ 0 = .int .i64 a1 ∧ ρ 1 = .int .i64 a2 ∧ ρ 2 = .int .i64 a3 ∧ Own s r) ?_ ?_
  · simp -implicitDefEqProofs only [go_sem, ↓aj, ↓ah, ak, Nat.reduceBEq, ↓reduceIte, reduceCtorEq, Nat.reduceEqDiff, Nat.reduceAdd, Nat.reduceLeDiff, Int.reduceEq, Int.reduceLT, Int.reduceLE, Int.reduceAdd, Int.reduceToNat, Int.reduceNeg, Nat.reduceMul, Nat.reduceSub, Int.reduceBNe, Int.reduceBEq]
    refine au.enter Tryz.func8 rfl (by kernel_rfl) (y7 st r hM hT hO _ _ fun s1 ho1 => ?_)
    simp -implicitDefEqProofs only [go_sem, ↓aj, ↓ah, ak, Nat.reduceBEq, ↓reduceIte, reduceCtorEq, Nat.reduceEqDiff, Nat.reduceAdd, Nat.reduceLeDiff, Int.reduceEq, Int.reduceLT, Int.reduceLE, Int.reduceAdd, Int.reduceToNat, Int.reduceNeg, Nat.reduceMul, Nat.reduceSub, Int.reduceBNe, Int.reduceBEq, Bool.not_true]
    (repeat' first | assumption | exact rfl | apply And.intro)
  rintro ρ s ⟨h0, h1, h2, ho1⟩
  rw [aj]
  simp -implicitDefEqProofs only [go_sem, astr, ak, Nat.reduceBEq, ↓reduceIte, reduceCtorEq, Nat.reduceEqDiff, Nat.reduceAdd, Nat.reduceLeDiff, Int.reduceEq, Int.reduceLT, Int.reduceLE, Int.reduceAdd, Int.reduceToNat, Int.reduceNeg, Nat.reduceMul, Nat.reduceSub, Int.reduceBNe, Int.reduceBEq, h0, h1, h2, hx, hy, hz, wx, f40, f9, if_false]
  rw [aj]
  simp -implicitDefEqProofs only [go_sem, astr, ak, Nat.reduceBEq, ↓reduceIte, reduceCtorEq, Nat.reduceEqDiff, Nat.reduceAdd, Nat.reduceLeDiff, Int.reduceEq, Int.reduceLT, Int.reduceLE, Int.reduceAdd, Int.reduceToNat, Int.reduceNeg, Nat.reduceMul, Nat.reduceSub, Int.reduceBNe, Int.reduceBEq, e0]
  refine fC (fun ρ s => ρ 7 = .int .i64 ((x + 1 : Nat) : Int) ∧ ρ 8 = .int .i64 (y : Nat) ∧ ρ 9 = .int .i64 (z : Nat) ∧ ρ 10 = .string (tx (rep (x + 1) [60, 97, 62])) ∧ ρ 11 = .string (tx (rep (x + 1) [60, 47, 97, 62])) ∧ Own s r) ?_ ?_
  · simp -implicitDefEqProofs only [go_sem, ↓aj, ↓ah, ak, Nat.reduceBEq, ↓reduceIte, reduceCtorEq, Nat.reduceEqDiff, Nat.reduceAdd, Nat.reduceLeDiff, Int.reduceEq, Int.reduceLT, Int.reduceLE, Int.reduceAdd, Int.reduceToNat, Int.reduceNeg, Nat.reduceMul, Nat.reduceSub, Int.reduceBNe, Int.reduceBEq]
    refine ⟨fun m ρ s => ∃ i : Nat, m = x + 1 - i ∧ i ≤ x + 1 ∧ ρ 7 = .int .i64 ((x + 1 : Nat) : Int) ∧ ρ 8 = .int .i64 (y : Nat) ∧ ρ 9 = .int .i64 (z : Nat) ∧ ρ 10 = .string (tx (rep i [60, 97, 62])) ∧ ρ 11 = .string (tx (rep i [60, 47, 97, 62])) ∧ ρ 12 = .int .i64 (i : Nat) ∧ Own s r, ⟨_, 0, rfl, Nat.zero_le _, rfl, rfl, rfl, rfl, rfl, rfl, ho1⟩, ?_⟩
    rintro _ ρ s ⟨i, rfl, hi, h7, h8, h9, h10, h11, h12, hs⟩
    by_cases hix : i < x + 1
    · have wi : IntKind.i64.wrap ((i : Int) + 1) = ((i + 1 : Nat) : Int) := by rw [bW (by omega)]; rfl
      simp -implicitDefEqProofs only [go_sem, ↓aj, ↓ah, ak, Nat.reduceBEq, ↓reduceIte, reduceCtorEq, Nat.reduceEqDiff, Nat.reduceAdd, Nat.reduceLeDiff, Int.reduceEq, Int.reduceLT, Int.reduceLE, Int.reduceAdd, Int.reduceToNat, Int.reduceNeg, Nat.reduceMul, Nat.reduceSub, Int.reduceBNe, Int.reduceBEq, h7, h8, h9, h10, h11, h12, e1, e2, Int.ofNat_lt, hix, decide_true, wi, dA (a := rep i [60, 97, 62]) (b := [60, 97, 62]) (by rw [gq]; simp; omega), dA (a := rep i [60, 47, 97, 62]) (b := [60, 47, 97, 62]) (by rw [gq]; simp; omega), uO]
      exact ⟨x + 1 - (i + 1), by omega, i + 1, rfl, by omega, by (repeat' first | assumption | exact rfl | apply And.intro)⟩
    · obtain rfl : i = x + 1 := by omega
      simp -implicitDefEqProofs only [go_sem, ↓aj, ↓ah, ak, Nat.reduceBEq, ↓reduceIte, reduceCtorEq, Nat.reduceEqDiff, Nat.reduceAdd, Nat.reduceLeDiff, Int.reduceEq, Int.reduceLT, Int.reduceLE, Int.reduceAdd, Int.reduceToNat, Int.reduceNeg, Nat.reduceMul, Nat.reduceSub, Int.reduceBNe, Int.reduceBEq, h7, h8, h9, h10, h11, h12, Int.ofNat_lt, Nat.lt_irrefl, decide_false]
      (repeat' first | assumption | exact rfl | apply And.intro)
  rintro ρ s ⟨h7, h8, h9, h10, h11, hs⟩
  have hadd : astr .add (tx (rep (x + 1) [60, 97, 62])) (tx (rep (x + 1) [60, 47, 97, 62])) = some (.string (tx (iB (x + 1)))) := dA (by rw [gq, gq]; simp; omega)
  have hdl : (iB (x + 1)).length ≤ 1000000 := by unfold iB; rw [List.length_append, gq, gq]; simp; omega
  have hpd := y9 (n := x + 1) (by omega) (by omega)
  refine fC (fun ρ s => ∃ b v e ns h, ρ 8 = .int .i64 (y : Nat) ∧ ρ 9 = .int .i64 (z : Nat) ∧ ρ 7 = .int .i64 ((x + 1 : Nat) : Int) ∧ ρ 13 = .pointer (some ⟨b, 0, none⟩) ∧ ρ 14 = .int .i64 e ∧ (∃ a, v = .slice a ns ns) ∧ Own s ((b, .cells [v] 26 true) :: (h ++ r)) ∧ C8 x e ns) ?_ ?_
  · simp -implicitDefEqProofs only [go_sem, ↓aj, ↓ah, ak, Nat.reduceBEq, ↓reduceIte, reduceCtorEq, Nat.reduceEqDiff, Nat.reduceAdd, Nat.reduceLeDiff, Int.reduceEq, Int.reduceLT, Int.reduceLE, Int.reduceAdd, Int.reduceToNat, Int.reduceNeg, Nat.reduceMul, Nat.reduceSub, Int.reduceBNe, Int.reduceBEq, h7, h8, h9, h10, h11, hadd, gH Tryz.underlying9 Tryz.underlying22 Tryz.underlying5 asz5]
    have hs2 := hs.new (.cells (nl (nb8 (iB (x + 1)))) 5 true)
    obtain ⟨n1, n2⟩ := jE (iB (x + 1)) s.n _ (List.mem_cons_self (l := r))
    generalize iB (x + 1) = dt at *
    refine au.enter Tryz.func9 rfl (by kernel_rfl) (fI _ _ _ dt hM hT n1 n2 hdl hs2 _ _ (fun ns v h st' hp hD hO2 => ?_) (fun e st' hp hO2 => ?_))
    · obtain ⟨hn32, ns2, hp2, hlen⟩ := hpd.resolve_right (fun g => by rw [hp] at g; cases g.2)
      rw [hp] at hp2
      injection hp2 with hp2
      subst hp2
      obtain ⟨cs, hn, hxx, rfl, hgv, hnds⟩ := hD
      obtain ⟨va, hva⟩ := hgv.isSlice
      subst hva
      have ho3 := ((hO2.sub (List.Sublist.append_left (List.sublist_cons_self _ _) _)).new (.cells [.slice none 0 0] 26 true)).set rfl (.cells [.slice va ns.length ns.length] 26 true) rfl
      simp -implicitDefEqProofs only [go_sem, ↓aj, ↓ah, ak, Nat.reduceBEq, ↓reduceIte, reduceCtorEq, Nat.reduceEqDiff, Nat.reduceAdd, Nat.reduceLeDiff, Int.reduceEq, Int.reduceLT, Int.reduceLE, Int.reduceAdd, Int.reduceToNat, Int.reduceNeg, Nat.reduceMul, Nat.reduceSub, Int.reduceBNe, Int.reduceBEq, h7, h8, h9, bM, kY, gY, Tryz.underlying26, Tryz.underlying27, cut1, List.length_cons, List.length_nil, List.set_cons_zero, Option.map_some]
      have hor : C8 x 0 ns.length := .inl ⟨by omega, rfl, hlen⟩
      have hva : ∃ a, Value.slice va ns.length ns.length = .slice a ns.length ns.length := ⟨va, rfl⟩
      exact ⟨_, _, 0, ns.length, _, by (repeat' first | assumption | exact rfl | apply And.intro)⟩
    · obtain ⟨hn32, hp2⟩ := hpd.resolve_left (fun g => by obtain ⟨_, ns, g, _⟩ := g; rw [hp] at g; cases g)
      rw [hp] at hp2
      injection hp2 with hp2
      subst hp2
      have ho3 := (hO2.tail.new (.cells [.slice none 0 0] 26 true)).set rfl (.cells [.slice none 0 0] 26 true) rfl
      simp -implicitDefEqProofs only [go_sem, ↓aj, ↓ah, ak, Nat.reduceBEq, ↓reduceIte, reduceCtorEq, Nat.reduceEqDiff, Nat.reduceAdd, Nat.reduceLeDiff, Int.reduceEq, Int.reduceLT, Int.reduceLE, Int.reduceAdd, Int.reduceToNat, Int.reduceNeg, Nat.reduceMul, Nat.reduceSub, Int.reduceBNe, Int.reduceBEq, h7, h8, h9, bM, kY, gY, Tryz.underlying26, Tryz.underlying27, cut1, List.length_cons, List.length_nil, List.set_cons_zero, Option.map_some]
      have hor : C8 x 32 0 := .inr ⟨by omega, rfl, rfl⟩
      have hva : ∃ a, Value.slice none 0 0 = .slice a 0 0 := ⟨none, rfl⟩
      exact ⟨_, _, 32, 0, [], by (repeat' first | assumption | exact rfl | apply And.intro)⟩
  rintro ρ s ⟨b, v, e, ns, h, h8, h9, h7, h13, h14, ⟨va, rfl⟩, hs, hcase⟩
  have hb := hs.head
  refine fC (fun ρ s => ρ 8 = .int .i64 (y : Nat) ∧ ρ 9 = .int .i64 (z : Nat) ∧ ρ 13 = .pointer (some ⟨b, 0, none⟩) ∧ ∃ X, Own s ((b, .cells [X] 26 true) :: r)) ?_ ?_
  · have hsx : ∃ X, Own s ((b, .cells [X] 26 true) :: r) := ⟨_, hs.sub (List.Sublist.cons_cons _ (List.sublist_append_right h r))⟩
    rcases hcase with ⟨g1, rfl, rfl⟩ | ⟨g1, rfl, rfl⟩
    · have t1 : (((x + 1 : Nat) : Int) ≤ 32) = True := eq_true (by omega)
      have t2 : (((x + 1 : Nat) : Int) > 32) = False := eq_false (by omega)
      have t3 : (((x + 1 : Nat) : Int) != ((x + 1 : Nat) : Int)) = false := by simp
      simp -implicitDefEqProofs only [go_sem, ↓aj, ↓ah, ak, Nat.reduceBEq, ↓reduceIte, reduceCtorEq, Nat.reduceEqDiff, Nat.reduceAdd, Nat.reduceLeDiff, Int.reduceEq, Int.reduceLT, Int.reduceLE, Int.reduceAdd, Int.reduceToNat, Int.reduceNeg, Nat.reduceMul, Nat.reduceSub, Int.reduceBNe, Int.reduceBEq, h7, h8, h9, h13, h14, t1, t2, t3, decide_true, decide_false, jd, hb, cut1, eD, Tryz.underlying24, Tryz.underlying27, List.getElem?_cons_zero]
      exact hsx
    · have t1 : (((x + 1 : Nat) : Int) ≤ 32) = False := eq_false (by omega)
      have t2 : (((x + 1 : Nat) : Int) > 32) = True := eq_true (by omega)
      simp -implicitDefEqProofs only [go_sem, ↓aj, ↓ah, ak, Nat.reduceBEq, ↓reduceIte, reduceCtorEq, Nat.reduceEqDiff, Nat.reduceAdd, Nat.reduceLeDiff, Int.reduceEq, Int.reduceLT, Int.reduceLE, Int.reduceAdd, Int.reduceToNat, Int.reduceNeg, Nat.reduceMul, Nat.reduceSub, Int.reduceBNe, Int.reduceBEq, h7, h8, h9, h13, h14, t1, t2, decide_true, decide_false, jd, hb, cut1, eD, Tryz.underlying24, Tryz.underlying27, List.getElem?_cons_zero, show ((0 : Nat) : Int) = 0 from rfl]
      exact hsx
  rintro ρ s ⟨h8, h9, h13, X, hs⟩
  have e3 : (⟨#[60, 97]⟩ : ByteArray) = tx [60, 97] := rfl
  rw [aj]
  simp -implicitDefEqProofs only [go_sem, astr, ak, Nat.reduceBEq, ↓reduceIte, reduceCtorEq, Nat.reduceEqDiff, Nat.reduceAdd, Nat.reduceLeDiff, Int.reduceEq, Int.reduceLT, Int.reduceLE, Int.reduceAdd, Int.reduceToNat, Int.reduceNeg, Nat.reduceMul, Nat.reduceSub, Int.reduceBNe, Int.reduceBEq, e3]
  refine fC (fun ρ s => ρ 8 = .int .i64 (y : Nat) ∧ ρ 9 = .int .i64 (z : Nat) ∧ ρ 13 = .pointer (some ⟨b, 0, none⟩) ∧ ρ 15 = .string (tx (uTx y)) ∧ Own s ((b, .cells [X] 26 true) :: r)) ?_ ?_
  · simp -implicitDefEqProofs only [go_sem, ↓aj, ↓ah, ak, Nat.reduceBEq, ↓reduceIte, reduceCtorEq, Nat.reduceEqDiff, Nat.reduceAdd, Nat.reduceLeDiff, Int.reduceEq, Int.reduceLT, Int.reduceLE, Int.reduceAdd, Int.reduceToNat, Int.reduceNeg, Nat.reduceMul, Nat.reduceSub, Int.reduceBNe, Int.reduceBEq]
    refine ⟨fun m ρ s => ∃ i : Nat, m = y - i ∧ i ≤ y ∧ ρ 8 = .int .i64 (y : Nat) ∧ ρ 9 = .int .i64 (z : Nat) ∧ ρ 13 = .pointer (some ⟨b, 0, none⟩) ∧ ρ 15 = .string (tx (uTx i)) ∧ ρ 16 = .int .i64 (i : Nat) ∧ Own s ((b, .cells [X] 26 true) :: r), ⟨_, 0, rfl, Nat.zero_le _, h8, h9, h13, rfl, rfl, hs⟩, ?_⟩
    rintro _ ρ s ⟨i, rfl, hi, h8, h9, h13, h15, h16, hs⟩
    by_cases hix : i < y
    · have wi : IntKind.i64.wrap ((i : Int) + 1) = ((i + 1 : Nat) : Int) := by rw [bW (by omega)]; rfl
      simp -implicitDefEqProofs only [go_sem, ↓aj, ↓ah, ak, Nat.reduceBEq, ↓reduceIte, reduceCtorEq, Nat.reduceEqDiff, Nat.reduceAdd, Nat.reduceLeDiff, Int.reduceEq, Int.reduceLT, Int.reduceLE, Int.reduceAdd, Int.reduceToNat, Int.reduceNeg, Nat.reduceMul, Nat.reduceSub, Int.reduceBNe, Int.reduceBEq, h8, h9, h13, h15, h16, Int.ofNat_lt, hix, decide_true, wi, wY (P := Tryz.prog) (s := 3) (t := 5) Tryz.underlying3 Tryz.underlying5]
      obtain ⟨g1, g2⟩ := CW ⟨i, by omega⟩
      have f10 : ((10 : Int) = 0) = False := by simp
      have hc2 := (hs.new (.cells [.int .u8 (((UInt8.ofNat (97 + i / 10)).toNat : Nat) : Int), .int .u8 (((UInt8.ofNat (48 + i % 10)).toNat : Nat) : Int)] 5 true))
      have hsrc := yt (c := 2) (sp := none) (m := 2) (n := 1) hc2.head rfl
      have hsz : ((fu i).length : Int) ≤ 10000 := by rw [gW]; omega
      have a3 : (⟨#[32, 97]⟩ : ByteArray) = tx [32, 97] := rfl
      have a4 : (⟨#[61, 39, 39]⟩ : ByteArray) = tx [61, 39, 39] := rfl
      have s1 : astr .add (tx [32, 97]) (tx [UInt8.ofNat (97 + i / 10), UInt8.ofNat (48 + i % 10)]) = some (.string (tx [32, 97, UInt8.ofNat (97 + i / 10), UInt8.ofNat (48 + i % 10)])) := dA (a := [32, 97]) (b := [UInt8.ofNat (97 + i / 10), UInt8.ofNat (48 + i % 10)]) (by simp)
      have s2 : astr .add (tx [32, 97, UInt8.ofNat (97 + i / 10), UInt8.ofNat (48 + i % 10)]) (tx [61, 39, 39]) = some (.string (tx (rR i))) := dA (a := [32, 97, UInt8.ofNat (97 + i / 10), UInt8.ofNat (48 + i % 10)]) (b := [61, 39, 39]) (by simp)
      have s3 := Ei (i := i) (by omega)
      simp -implicitDefEqProofs only [go_sem, ↓aj, ↓ah, ak, Nat.reduceBEq, ↓reduceIte, reduceCtorEq, Nat.reduceEqDiff, Nat.reduceAdd, Nat.reduceLeDiff, Int.reduceEq, Int.reduceLT, Int.reduceLE, Int.reduceAdd, Int.reduceToNat, Int.reduceNeg, Nat.reduceMul, Nat.reduceSub, Int.reduceBNe, Int.reduceBEq, f10, if_false, g1, g2, h8, h9, h13, h15, h16, wi, wY (P := Tryz.prog) (s := 3) (t := 5) Tryz.underlying3 Tryz.underlying5, FI,
        jc (l := [UInt8.ofNat (97 + i / 10), UInt8.ofNat (48 + i % 10)]) Tryz.underlying22 Tryz.underlying5 Tryz.underlying9 hsrc ⟨_, _, _, rfl⟩, a3, a4,
        s1, s2, s3]
      have hs4 := hc2.tail
      exact ⟨y - (i + 1), by omega, i + 1, rfl, by omega, by (repeat' first | assumption | exact rfl | apply And.intro)⟩
    · obtain rfl : i = y := by omega
      simp -implicitDefEqProofs only [go_sem, ↓aj, ↓ah, ak, Nat.reduceBEq, ↓reduceIte, reduceCtorEq, Nat.reduceEqDiff, Nat.reduceAdd, Nat.reduceLeDiff, Int.reduceEq, Int.reduceLT, Int.reduceLE, Int.reduceAdd, Int.reduceToNat, Int.reduceNeg, Nat.reduceMul, Nat.reduceSub, Int.reduceBNe, Int.reduceBEq, h8, h9, h13, h15, h16, Int.ofNat_lt, Nat.lt_irrefl, decide_false]
      (repeat' first | assumption | exact rfl | apply And.intro)
  rintro ρ s ⟨h8, h9, h13, h15, hs⟩
  have e4 : (⟨#[47, 62]⟩ : ByteArray) = tx [47, 62] := rfl
  have hpd := Bb (m := y) (by omega)
  change (y ≤ 32 ∧ ∃ n ns, bP (uAll y) = .ok (n :: ns) ∧ n.atts.length = y) ∨ (32 < y ∧ bP (uAll y) = .error 33) at hpd
  have hadd := CX (i := y) (by omega)
  have hdl : (uAll y).length ≤ 1000000 := by rw [CY]; omega
  refine fC (fun ρ s => ∃ v e h, ρ 8 = .int .i64 (y : Nat) ∧ ρ 9 = .int .i64 (z : Nat) ∧ ρ 13 = .pointer (some ⟨b, 0, none⟩) ∧ ρ 14 = .int .i64 e ∧ Own s ((b, .cells [v] 26 true) :: (h ++ r)) ∧ AttR y e (h ++ r) v) ?_ ?_
  · simp -implicitDefEqProofs only [go_sem, ↓aj, ↓ah, ak, Nat.reduceBEq, ↓reduceIte, reduceCtorEq, Nat.reduceEqDiff, Nat.reduceAdd, Nat.reduceLeDiff, Int.reduceEq, Int.reduceLT, Int.reduceLE, Int.reduceAdd, Int.reduceToNat, Int.reduceNeg, Nat.reduceMul, Nat.reduceSub, Int.reduceBNe, Int.reduceBEq, h8, h9, h13, h15, e4, hadd, gH Tryz.underlying9 Tryz.underlying22 Tryz.underlying5 asz5]
    have hs2 := hs.new (.cells (nl (nb8 (uAll y))) 5 true)
    obtain ⟨n1, n2⟩ := jE (uAll y) s.n _ (List.mem_cons_self (l := (b, .cells [X] 26 true) :: r))
    generalize uAll y = dt at *
    refine au.enter Tryz.func9 rfl (by kernel_rfl) (fI _ _ _ dt hM hT n1 n2 hdl hs2 _ _ (fun ns v h st' hp hD hO2 => ?_) (fun e st' hp hO2 => ?_))
    · obtain ⟨hn32, n, ns2, hp2, hlen⟩ := hpd.resolve_right (fun g => by rw [hp] at g; cases g.2)
      rw [hp] at hp2
      injection hp2 with hp2
      subst hp2
      have hv := hD.view
      have hdb := hO2.get (List.mem_append_right _ (List.mem_cons_of_mem _ (List.mem_cons_self ..)))
      have hob : Own st' ((b, .cells [X] 26 true) :: (h ++ r)) := (hO2.sub (List.Sublist.append_left (List.sublist_cons_self _ _) h)).perm List.perm_middle
      obtain ⟨va, vc, hva⟩ := hv.isSlice
      subst hva
      have hb2 := hob.head
      have ho3 := hob.set rfl (.cells [.slice va (n :: ns2).length vc] 26 true) rfl
      simp -implicitDefEqProofs only [go_sem, ↓aj, ↓ah, ak, Nat.reduceBEq, ↓reduceIte, reduceCtorEq, Nat.reduceEqDiff, Nat.reduceAdd, Nat.reduceLeDiff, Int.reduceEq, Int.reduceLT, Int.reduceLE, Int.reduceAdd, Int.reduceToNat, Int.reduceNeg, Nat.reduceMul, Nat.reduceSub, Int.reduceBNe, Int.reduceBEq, h8, h9, h13, hb2, gY, Tryz.underlying26, Tryz.underlying27, cut1, List.length_cons, List.length_nil, List.set_cons_zero, Option.map_some]
      have hat : AttR y 0 (h ++ r) (.slice va (n :: ns2).length vc) := .inl ⟨hn32, rfl, n, ns2, hv.sub fun e he => List.mem_append_left _ he, hlen⟩
      exact ⟨_, 0, h, by (repeat' first | assumption | exact rfl | apply And.intro)⟩
    · obtain ⟨hn32, hp2⟩ := hpd.resolve_left (fun g => by obtain ⟨_, n, ns, g, _⟩ := g; rw [hp] at g; cases g)
      rw [hp] at hp2
      injection hp2 with hp2
      subst hp2
      have hb2 := hO2.tail.head
      have ho3 := hO2.tail.set rfl (.cells [.slice none 0 0] 26 true) rfl
      simp -implicitDefEqProofs only [go_sem, ↓aj, ↓ah, ak, Nat.reduceBEq, ↓reduceIte, reduceCtorEq, Nat.reduceEqDiff, Nat.reduceAdd, Nat.reduceLeDiff, Int.reduceEq, Int.reduceLT, Int.reduceLE, Int.reduceAdd, Int.reduceToNat, Int.reduceNeg, Nat.reduceMul, Nat.reduceSub, Int.reduceBNe, Int.reduceBEq, h8, h9, h13, hb2, gY, Tryz.underlying26, Tryz.underlying27, cut1, List.length_cons, List.length_nil, List.set_cons_zero, Option.map_some]
      have hat : AttR y 33 ([] ++ r) (.slice none 0 0) := .inr ⟨hn32, rfl⟩
      exact ⟨.slice none 0 0, 33, [], by (repeat' first | assumption | exact rfl | apply And.intro)⟩
  rintro ρ s ⟨v, e, h, h8, h9, h13, h14, hs, hcase⟩
  have hb := hs.head
  refine fC (fun ρ s => ρ 9 = .int .i64 (z : Nat) ∧ ρ 13 = .pointer (some ⟨b, 0, none⟩) ∧ ∃ X, Own s ((b, .cells [X] 26 true) :: r)) ?_ ?_
  · have hsx : ∃ X, Own s ((b, .cells [X] 26 true) :: r) := ⟨_, hs.sub (List.Sublist.cons_cons _ (List.sublist_append_right h r))⟩
    rcases hcase with ⟨g1, rfl, n, ns, hv, hn⟩ | ⟨g1, rfl⟩
    · obtain ⟨x', o, sp, c, ccs, ty, own, kv, av, dv, hva, hm, hcut, hget, hr⟩ := hv.at (i := 0) (n := n) rfl
      obtain ⟨aa, ac, hav, _⟩ := hr.att.isSlice
      rw [List.length_map, hn] at hav
      subst hva hav
      have hcx := hs.get (List.mem_cons_of_mem _ hm)
      have hx6 := hget 6 (by decide)
      rw [Nat.zero_mul, Nat.add_zero] at hx6
      have hneb : ¬ x' = b := hs.ne rfl hm
      have t1 : (((y : Nat) : Int) ≤ 32) = True := eq_true (by omega)
      have t2 : (((y : Nat) : Int) > 32) = False := eq_false (by omega)
      have t3 : (((y : Nat) : Int) != ((y : Nat) : Int)) = false := by simp
      simp -implicitDefEqProofs only [go_sem, ↓aj, ↓ah, ak, Nat.reduceBEq, ↓reduceIte, reduceCtorEq, Nat.reduceEqDiff, Nat.reduceAdd, Nat.reduceLeDiff, Int.reduceEq, Int.reduceLT, Int.reduceLE, Int.reduceAdd, Int.reduceToNat, Int.reduceNeg, Nat.reduceMul, Nat.reduceSub, Int.reduceBNe, Int.reduceBEq, h8, h9, h13, h14, t1, t2, t3, decide_true, decide_false, jd, fT, hb, hcx, hx6, ndC, cut1, eD, cO, kZ, Tryz.underlying31, Tryz.underlying34, Tryz.underlying24, Tryz.underlying27, List.getElem?_cons_zero, List.getElem?_cons_succ]
      exact ⟨by omega, hsx⟩
    · have t1 : (((y : Nat) : Int) ≤ 32) = False := eq_false (by omega)
      have t2 : (((y : Nat) : Int) > 32) = True := eq_true (by omega)
      simp -implicitDefEqProofs only [go_sem, ↓aj, ↓ah, ak, Nat.reduceBEq, ↓reduceIte, reduceCtorEq, Nat.reduceEqDiff, Nat.reduceAdd, Nat.reduceLeDiff, Int.reduceEq, Int.reduceLT, Int.reduceLE, Int.reduceAdd, Int.reduceToNat, Int.reduceNeg, Nat.reduceMul, Nat.reduceSub, Int.reduceBNe, Int.reduceBEq, h8, h9, h13, h14, t1, t2, decide_true, decide_false, jd, hb, cut1, eD, Tryz.underlying24, Tryz.underlying27, List.getElem?_cons_zero]
      exact hsx
  rintro ρ s ⟨h9, h13, X, hs⟩
  have hB3 : aC Tryz.prog s 22 3 [(0, .int .u8 60), (1, .int .u8 97), (2, .int .u8 62)] = some (.slice (some ⟨s.n, 0, none⟩) 3 3, s.new (.cells (nl (nb8 [60, 97, 62])) 5 true)) := by
    simp [aC, Tryz.underlying22, asz5, azc5, eP, zeros, isTuple, Value.cells, setL, List.replicate]
    rfl
  have hs3 := hs.new (.cells (nl (nb8 [60, 97, 62])) 5 true)
  rw [aj]
  simp -implicitDefEqProofs only [go_sem, astr, ak, Nat.reduceBEq, ↓reduceIte, reduceCtorEq, Nat.reduceEqDiff, Nat.reduceAdd, Nat.reduceLeDiff, Int.reduceEq, Int.reduceLT, Int.reduceLE, Int.reduceAdd, Int.reduceToNat, Int.reduceNeg, Nat.reduceMul, Nat.reduceSub, Int.reduceBNe, Int.reduceBEq, hB3, qh (o := 0) (n := 3) (c := 3) (sp := none) hs3.head (by decide)]
  refine fC (fun ρ s => ∃ v hg, ρ 9 = .int .i64 (z : Nat) ∧ ρ 13 = .pointer (some ⟨b, 0, none⟩) ∧ ρ 17 = v ∧ BV v (bTx (4091 + z)) hg ∧ Own s (hg ++ ((b, .cells [X] 26 true) :: r))) ?_ ?_
  · have w4 : IntKind.i64.wrap (4091 + (z : Int)) = ((4091 + z : Nat) : Int) := by rw [bW (by omega)]; omega
    simp -implicitDefEqProofs only [go_sem, ↓aj, ↓ah, ak, Nat.reduceBEq, ↓reduceIte, reduceCtorEq, Nat.reduceEqDiff, Nat.reduceAdd, Nat.reduceLeDiff, Int.reduceEq, Int.reduceLT, Int.reduceLE, Int.reduceAdd, Int.reduceToNat, Int.reduceNeg, Nat.reduceMul, Nat.reduceSub, Int.reduceBNe, Int.reduceBEq]
    refine ⟨fun m ρ s => ∃ (i : Nat) (v : Value) (hg : Hp), m = 4091 + z - i ∧ i ≤ 4091 + z ∧ ρ 9 = .int .i64 (z : Nat) ∧ ρ 13 = .pointer (some ⟨b, 0, none⟩) ∧ ρ 17 = v ∧ ρ 18 = .int .i64 (i : Nat) ∧ BV v (bTx i) hg ∧ Own s (hg ++ ((b, .cells [X] 26 true) :: r)), ⟨_, 0, _, [(s.n, .cells (nl (nb8 [60, 97, 62])) 5 true)], rfl, Nat.zero_le _, h9, h13, rfl, rfl, ⟨s.n, none, .inl rfl, rfl, rfl⟩, hs3⟩, ?_⟩
    rintro _ ρ s ⟨i, v, hg, rfl, hi, h9, h13, h17, h18, hbv, hs⟩
    by_cases hix : i < 4091 + z
    · have wi : IntKind.i64.wrap ((i : Int) + 1) = ((i + 1 : Nat) : Int) := by rw [bW (by omega)]; rfl
      have e5 : (⟨#[60, 98, 47, 62]⟩ : ByteArray) = tx [60, 98, 47, 62] := rfl
      simp -implicitDefEqProofs only [go_sem, ↓aj, ↓ah, ak, Nat.reduceBEq, ↓reduceIte, reduceCtorEq, Nat.reduceEqDiff, Nat.reduceAdd, Nat.reduceLeDiff, Int.reduceEq, Int.reduceLT, Int.reduceLE, Int.reduceAdd, Int.reduceToNat, Int.reduceNeg, Nat.reduceMul, Nat.reduceSub, Int.reduceBNe, Int.reduceBEq, h9, h13, h17, h18, w4, Int.ofNat_lt, hix, decide_true, e5]
      refine hbv.append hs (by simp) (by rw [uP]; simp; omega) fun B s' hs' => ?_
      rw [Ej] at hs' ⊢
      simp -implicitDefEqProofs only [go_sem, ↓aj, ↓ah, ak, Nat.reduceBEq, ↓reduceIte, reduceCtorEq, Nat.reduceEqDiff, Nat.reduceAdd, Nat.reduceLeDiff, Int.reduceEq, Int.reduceLT, Int.reduceLE, Int.reduceAdd, Int.reduceToNat, Int.reduceNeg, Nat.reduceMul, Nat.reduceSub, Int.reduceBNe, Int.reduceBEq, h9, h13, h17, h18, wi]
      exact ⟨_, by omega, i + 1, _, [(B, .cells (nl (nb8 (bTx (i + 1)))) 5 true)], rfl, by omega, rfl, rfl, ⟨B, some 0, .inr rfl, rfl, rfl⟩, hs'⟩
    · obtain rfl : i = 4091 + z := by omega
      simp -implicitDefEqProofs only [go_sem, ↓aj, ↓ah, ak, Nat.reduceBEq, ↓reduceIte, reduceCtorEq, Nat.reduceEqDiff, Nat.reduceAdd, Nat.reduceLeDiff, Int.reduceEq, Int.reduceLT, Int.reduceLE, Int.reduceAdd, Int.reduceToNat, Int.reduceNeg, Nat.reduceMul, Nat.reduceSub, Int.reduceBNe, Int.reduceBEq, h9, h13, h17, h18, w4, Int.ofNat_lt, Nat.lt_irrefl, decide_false]
      exact ⟨v, hg, by (repeat' first | assumption | exact rfl | apply And.intro)⟩
  rintro ρ s ⟨v, hg, h9, h13, h17, hbv, hs⟩
  have hpd := za (k := z) (by omega)
  have hmt : bTx (4091 + z) ++ [60, 47, 97, 62] = aY z := by unfold aY bTx; rw [List.append_assoc]
  have hml : (aY z).length ≤ 100000 := by rw [← hmt, List.length_append, uP]; simp; omega
  have e6 : (⟨#[60, 47, 97, 62]⟩ : ByteArray) = tx [60, 47, 97, 62] := rfl
  refine fC (fun ρ s => ∃ a e n h, ρ 9 = .int .i64 (z : Nat) ∧ ρ 13 = .pointer (some ⟨b, 0, none⟩) ∧ ρ 14 = .int .i64 e ∧ Own s ((b, .cells [.slice a n n] 26 true) :: h) ∧ (z < 5 ∧ e = 0 ∧ n = 4092 + z ∨ 4 < z ∧ e = 33)) ?_ ?_
  · simp -implicitDefEqProofs only [go_sem, ↓aj, ↓ah, ak, Nat.reduceBEq, ↓reduceIte, reduceCtorEq, Nat.reduceEqDiff, Nat.reduceAdd, Nat.reduceLeDiff, Int.reduceEq, Int.reduceLT, Int.reduceLE, Int.reduceAdd, Int.reduceToNat, Int.reduceNeg, Nat.reduceMul, Nat.reduceSub, Int.reduceBNe, Int.reduceBEq, h9, h13, h17, e6]
    refine hbv.append hs (by simp) (by rw [uP]; simp; omega) fun B s' hs' => ?_
    rw [hmt] at hs' ⊢
    obtain ⟨n1, n2⟩ := jE (aY z) B _ (List.mem_cons_self (l := (b, .cells [X] 26 true) :: r))
    generalize aY z = dt at *
    simp -implicitDefEqProofs only [go_sem, ↓aj, ↓ah, ak, Nat.reduceBEq, ↓reduceIte, reduceCtorEq, Nat.reduceEqDiff, Nat.reduceAdd, Nat.reduceLeDiff, Int.reduceEq, Int.reduceLT, Int.reduceLE, Int.reduceAdd, Int.reduceToNat, Int.reduceNeg, Nat.reduceMul, Nat.reduceSub, Int.reduceBNe, Int.reduceBEq, h9, h13, h17]
    refine au.enter Tryz.func9 rfl (by kernel_rfl) (fI _ _ _ dt hM hT n1 n2 (by omega) hs' _ _ (fun ns v h st' hp hD hO2 => ?_) (fun e st' hp hO2 => ?_))
    · obtain ⟨hn32, ns2, hp2, hlen⟩ := hpd.resolve_right (fun g => by rw [hp] at g; cases g.2)
      rw [hp] at hp2
      injection hp2 with hp2
      subst hp2
      obtain ⟨cs, hn, hxx, rfl, hgv, hnds⟩ := hD
      obtain ⟨va, hva⟩ := hgv.isSlice
      subst hva
      have hob : Own st' ((b, .cells [X] 26 true) :: (hn ++ hxx ++ r)) := (hO2.sub (List.Sublist.append_left (List.sublist_cons_self _ _) _)).perm List.perm_middle
      have hb2 := hob.head
      have ho3 := hob.set rfl (.cells [.slice va ns.length ns.length] 26 true) rfl
      simp -implicitDefEqProofs only [go_sem, ↓aj, ↓ah, ak, Nat.reduceBEq, ↓reduceIte, reduceCtorEq, Nat.reduceEqDiff, Nat.reduceAdd, Nat.reduceLeDiff, Int.reduceEq, Int.reduceLT, Int.reduceLE, Int.reduceAdd, Int.reduceToNat, Int.reduceNeg, Nat.reduceMul, Nat.reduceSub, Int.reduceBNe, Int.reduceBEq, h9, h13, hb2, gY, Tryz.underlying26, Tryz.underlying27, cut1, List.length_cons, List.length_nil, List.set_cons_zero, Option.map_some]
      exact ⟨va, 0, ns.length, _, rfl, ho3, .inl ⟨by omega, rfl, hlen⟩⟩
    · obtain ⟨hn32, hp2⟩ := hpd.resolve_left (fun g => by obtain ⟨_, ns, g, _⟩ := g; rw [hp] at g; cases g)
      rw [hp] at hp2
      injection hp2 with hp2
      subst hp2
      have hb2 := hO2.tail.head
      have ho3 := hO2.tail.set rfl (.cells [.slice none 0 0] 26 true) rfl
      simp -implicitDefEqProofs only [go_sem, ↓aj, ↓ah, ak, Nat.reduceBEq, ↓reduceIte, reduceCtorEq, Nat.reduceEqDiff, Nat.reduceAdd, Nat.reduceLeDiff, Int.reduceEq, Int.reduceLT, Int.reduceLE, Int.reduceAdd, Int.reduceToNat, Int.reduceNeg, Nat.reduceMul, Nat.reduceSub, Int.reduceBNe, Int.reduceBEq, h9, h13, hb2, gY, Tryz.underlying26, Tryz.underlying27, cut1, List.length_cons, List.length_nil, List.set_cons_zero, Option.map_some]
      exact ⟨none, 33, 0, _, rfl, ho3, .inr ⟨by omega, rfl⟩⟩
  rintro ρ s ⟨a, e, n, h, h9, h13, h14, hs, hcase⟩
  have hb := hs.head
  refine fC (fun ρ s => Own s ((b, .cells [.slice a n n] 26 true) :: h)) ?_ ?_
  · rcases hcase with ⟨g1, rfl, rfl⟩ | ⟨g1, rfl⟩
    · have t1 : (((z : Nat) : Int) ≤ 4) = True := eq_true (by omega)
      have t2 : (((z : Nat) : Int) > 4) = False := eq_false (by omega)
      have w4 : IntKind.i64.wrap (4092 + (z : Int)) = ((4092 + z : Nat) : Int) := by rw [bW (by omega)]; omega
      have t3 : (((4092 + z : Nat) : Int) != ((4092 + z : Nat) : Int)) = false := by simp
      simp -implicitDefEqProofs only [go_sem, ↓aj, ↓ah, ak, Nat.reduceBEq, ↓reduceIte, reduceCtorEq, Nat.reduceEqDiff, Nat.reduceAdd, Nat.reduceLeDiff, Int.reduceEq, Int.reduceLT, Int.reduceLE, Int.reduceAdd, Int.reduceToNat, Int.reduceNeg, Nat.reduceMul, Nat.reduceSub, Int.reduceBNe, Int.reduceBEq, h9, h13, h14, t1, t2, w4, t3, decide_true, decide_false, jd, hb, cut1, eD, Tryz.underlying24, Tryz.underlying27, List.getElem?_cons_zero]
      exact hs
    · have t1 : (((z : Nat) : Int) ≤ 4) = False := eq_false (by omega)
      have t2 : (((z : Nat) : Int) > 4) = True := eq_true (by omega)
      simp -implicitDefEqProofs only [go_sem, ↓aj, ↓ah, ak, Nat.reduceBEq, ↓reduceIte, reduceCtorEq, Nat.reduceEqDiff, Nat.reduceAdd, Nat.reduceLeDiff, Int.reduceEq, Int.reduceLT, Int.reduceLE, Int.reduceAdd, Int.reduceToNat, Int.reduceNeg, Nat.reduceMul, Nat.reduceSub, Int.reduceBNe, Int.reduceBEq, h9, h13, h14, t1, t2, decide_true, decide_false, jd, hb, cut1, eD, Tryz.underlying24, Tryz.underlying27, List.getElem?_cons_zero]
      exact hs
  intro ρ s hs
  have hpl := Bc (n := nulK) (by rw [oh]; decide)
  have hll : (nulN nulK).length ≤ 1000000 := by rw [qm, oh]; decide
  have hnn := FJ (List.mem_cons_self (a := (s.n, Ob.cells (nl (nb8 (nulN nulK))) 5 true)) (l := (b, .cells [.slice a n n] 26 true) :: h))
  have hs5 := hs.new (.cells (nl (nb8 (nulN nulK))) 5 true)
  simp -implicitDefEqProofs only [go_sem, ↓aj, ↓ah, Nat.reduceBEq, ↓reduceIte, reduceCtorEq, Nat.reduceEqDiff, Nat.reduceAdd, Nat.reduceLeDiff, Int.reduceEq, Int.reduceLT, Int.reduceLE, Int.reduceAdd, Int.reduceToNat, Int.reduceNeg, Nat.reduceMul, Nat.reduceSub, Int.reduceBNe, Int.reduceBEq, FK]
  refine au.enter Tryz.func9 rfl (by kernel_rfl) (fI _ _ _ (nulN nulK) hM hT hnn.1 hnn.2 hll hs5 _ _ (fun ns v h st' hp hD hO2 => ?_) (fun e st' hp hO2 => ?_))
  · rw [hpl] at hp; cases hp
  · rw [hpl] at hp
    injection hp with hp
    subst hp
    simp -implicitDefEqProofs only [go_sem, ↓aj, ↓ah, ak, Nat.reduceBEq, ↓reduceIte, reduceCtorEq, Nat.reduceEqDiff, Nat.reduceAdd, Nat.reduceLeDiff, Int.reduceEq, Int.reduceLT, Int.reduceLE, Int.reduceAdd, Int.reduceToNat, Int.reduceNeg, Nat.reduceMul, Nat.reduceSub, Int.reduceBNe, Int.reduceBEq, Tryz.underlying27, decide_true]
    exact hk _
end Go.Proofs.YtohgmkjhbacmpaaGreatDoor
