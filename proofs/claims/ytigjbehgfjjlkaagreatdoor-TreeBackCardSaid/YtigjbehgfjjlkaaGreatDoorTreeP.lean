/- Trees as they are handed in: what is told of them (plain Lean; no program in sight). -/
import Derived.Test.YtigjbehgfjjlkaaGreatDoorXmlP
set_option linter.unusedVariables false
set_option linter.unusedSimpArgs false
namespace Go.Xml
open Go Go.Abs
structure Nx where
  kind : Int
  par : Int
  kids : List Int
  pre : Tx
  loc : Tx
  spc : Tx
  atts : List Att
  dcls : List Dcl
  val : Tx
def Nd.up (n : Nd) : Nx := ⟨n.kind, n.par, n.kids.map fun k : Nat => (k : Int), n.pre, n.loc, n.spc, n.atts, n.dcls, n.val⟩
def gI (ns : List Nx) (i : Int) : Bool := decide (0 ≤ i) && match ns[i.toNat]? with | some n => decide (n.kind = 1) | none => false
def bF (ns : List Nx) : Nat → Int → List Int
  | 0, _ => []
  | m + 1, p => match ns[m]? with
    | some n => if 0 < m ∧ n.par = p then bF ns m p ++ [(m : Int)] else bF ns m p
    | none => bF ns m p
def u7 (ns : List Nx) (p : Int) : List Int := bF ns ns.length p
def ig (ns : List Nx) (i : Nat) (n : Nx) : Bool :=
  (decide (i = 0) || (decide (n.par < i) && gI ns n.par)) && (decide (1 ≤ n.kind) && decide (n.kind ≤ 4)) && (decide (n.kind = 1) || decide (n.atts.length + n.dcls.length = 0))
def vg (ns : List Nx) (f : Nat → Nx → Bool) : Nat → Bool
  | 0 => true
  | m + 1 => vg ns f m && match ns[m]? with | some n => f m n | none => true
def bP (ns : List Nx) : Bool :=
  (gI ns 0 && match ns[0]? with | some n => decide (n.par = -1) | none => false) && (vg ns (ig ns) ns.length && vg ns (fun i n => decide (n.kids = u7 ns i)) ns.length)
def nodeAt (ns : List Nx) (i : Int) : Option Nx := if 0 ≤ i then ns[i.toNat]? else none
theorem eB {ns : List Nx} {f : Nat → Nx → Bool} : ∀ {m : Nat}, vg ns f m = true ↔ ∀ (i : Nat) (n : Nx), i < m → ns[i]? = some n → f i n = true
  | 0 => ⟨fun _ i n h => by omega, fun _ => rfl⟩
  | m + 1 => by
    unfold vg
    rw [Bool.and_eq_true, eB]
    constructor
    · rintro ⟨h1, h2⟩ i n hi hn
      by_cases him : i = m
      · subst him
        rw [hn] at h2
        exact h2
      · exact h1 i n (by omega) hn
    · intro h
      refine ⟨fun i n hi hn => h i n (by omega) hn, ?_⟩
      cases hm : ns[m]? with
      | none => rfl
      | some n => exact h m n (by omega) hm
theorem dG (ns : List Nx) (m : Nat) (p : Int) : bF ns (m + 1) p = match ns[m]? with | some n => if 0 < m ∧ n.par = p then bF ns m p ++ [(m : Int)] else bF ns m p | none => bF ns m p := rfl
theorem lM {ns : List Nx} {p : Int} : ∀ {m : Nat} {k : Int}, k ∈ bF ns m p ↔ ∃ (i : Nat) (n : Nx), k = i ∧ 0 < i ∧ i < m ∧ ns[i]? = some n ∧ n.par = p
  | 0, k => ⟨fun h => (by cases h), fun ⟨i, n, _, _, h, _⟩ => by omega⟩
  | m + 1, k => by
    have ih := lM (ns := ns) (p := p) (m := m) (k := k)
    have key : (∃ (i : Nat) (n : Nx), k = i ∧ 0 < i ∧ i < m + 1 ∧ ns[i]? = some n ∧ n.par = p) ↔ k ∈ bF ns m p ∨ (k = m ∧ 0 < m ∧ ∃ n, ns[m]? = some n ∧ n.par = p) := by
      rw [ih]
      constructor
      · rintro ⟨i, n, h1, h2, h3, h4, h5⟩
        by_cases him : i = m
        · subst him; exact .inr ⟨h1, h2, n, h4, h5⟩
        · exact .inl ⟨i, n, h1, h2, by omega, h4, h5⟩
      · rintro (⟨i, n, h1, h2, h3, h4, h5⟩ | ⟨h1, h2, n, h4, h5⟩)
        · exact ⟨i, n, h1, h2, by omega, h4, h5⟩
        · exact ⟨m, n, h1, h2, by omega, h4, h5⟩
    rw [key, dG]
    cases hm : ns[m]? with
    | none =>
      exact ⟨.inl, fun h => h.elim id fun ⟨_, _, n, h, _⟩ => by cases h⟩
    | some n =>
      dsimp only
      split
      · rename_i h
        rw [List.mem_append, List.mem_singleton]
        exact ⟨fun g => g.elim .inl fun g => .inr ⟨g, h.1, n, rfl, h.2⟩, fun g => g.elim .inl fun g => .inr g.1⟩
      · rename_i h
        exact ⟨.inl, fun g => g.elim id fun ⟨_, h2, n', h3, h4⟩ => by injection h3 with h3; subst h3; exact absurd ⟨h2, h4⟩ h⟩
end Go.Xml
