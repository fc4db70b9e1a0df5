/- Trees as they are handed in: what is told of them (plain Lean; no program in sight). -/
import Derived.Test.YtigjbehgfjjlkaaGreatDoorXmlP
set_option linter.unusedVariables false
set_option linter.unusedSimpArgs false
namespace Go.Xml
open Go Go.Abs
structure Nx where
  kind : Int
  par : Int
  kids : List Int
  pre : Tx
  loc : Tx
  spc : Tx
  atts : List Att
  dcls : List Dcl
  val : Tx
def Nd.up (n : Nd) : Nx := ⟨n.kind, n.par, n.kids.map fun k : Nat => (k : Int), n.pre, n.loc, n.spc, n.atts, n.dcls, n.val⟩
def aW (ns : List Nx) (i : Int) : Bool := decide (0 ≤ i) && match ns[i.toNat]? with | some n => decide (n.kind = 1) | none => false
def bX (ns : List Nx) : Nat → Int → List Int
  | 0, _ => []
  | m + 1, p => match ns[m]? with
    | some n => if 0 < m ∧ n.par = p then bX ns m p ++ [(m : Int)] else bX ns m p
    | none => bX ns m p
def mP (ns : List Nx) (p : Int) : List Int := bX ns ns.length p
def cO (ns : List Nx) (i : Nat) (n : Nx) : Bool :=
  (decide (i = 0) || (decide (n.par < i) && aW ns n.par)) && (decide (1 ≤ n.kind) && decide (n.kind ≤ 4)) && (decide (n.kind = 1) || decide (n.atts.length + n.dcls.length = 0))
def sQ (ns : List Nx) (f : Nat → Nx → Bool) : Nat → Bool
  | 0 => true
  | m + 1 => sQ ns f m && match ns[m]? with | some n => f m n | none => true
def aG (ns : List Nx) : Bool :=
  (aW ns 0 && match ns[0]? with | some n => decide (n.par = -1) | none => false) && (sQ ns (cO ns) ns.length && sQ ns (fun i n => decide (n.kids = mP ns i)) ns.length)
def nodeAt (ns : List Nx) (i : Int) : Option Nx := if 0 ≤ i then ns[i.toNat]? else none
def attX (n : Nx) (loc : Tx) : Option Tx := (n.atts.find? fun a => decide (a.pre = []) && decide (a.loc = loc)).map (·.val)
theorem dL {ns : List Nx} {f : Nat → Nx → Bool} : ∀ {m : Nat}, sQ ns f m = true ↔ ∀ (i : Nat) (n : Nx), i < m → ns[i]? = some n → f i n = true
  | 0 => ⟨fun _ i n h => by omega, fun _ => rfl⟩
  | m + 1 => by
    unfold sQ
    rw [Bool.and_eq_true, dL]
    constructor
    · rintro ⟨h1, h2⟩ i n hi hn
      by_cases him : i = m
      · subst him
        rw [hn] at h2
        exact h2
      · exact h1 i n (by omega) hn
    · intro h
      refine ⟨fun i n hi hn => h i n (by omega) hn, ?_⟩
      cases hm : ns[m]? with
      | none => rfl
      | some n => exact h m n (by omega) hm
theorem gy (ns : List Nx) (m : Nat) (p : Int) : bX ns (m + 1) p = match ns[m]? with | some n => if 0 < m ∧ n.par = p then bX ns m p ++ [(m : Int)] else bX ns m p | none => bX ns m p := rfl
theorem sS {ns : List Nx} {p : Int} : ∀ {m : Nat} {k : Int}, k ∈ bX ns m p ↔ ∃ (i : Nat) (n : Nx), k = i ∧ 0 < i ∧ i < m ∧ ns[i]? = some n ∧ n.par = p
  | 0, k => ⟨fun h => (by cases h), fun ⟨i, n, _, _, h, _⟩ => by omega⟩
  | m + 1, k => by
    have ih := sS (ns := ns) (p := p) (m := m) (k := k)
    have key : (∃ (i : Nat) (n : Nx), k = i ∧ 0 < i ∧ i < m + 1 ∧ ns[i]? = some n ∧ n.par = p) ↔ k ∈ bX ns m p ∨ (k = m ∧ 0 < m ∧ ∃ n, ns[m]? = some n ∧ n.par = p) := by
      rw [ih]
      constructor
      · rintro ⟨i, n, h1, h2, h3, h4, h5⟩
        by_cases him : i = m
        · subst him; exact .inr ⟨h1, h2, n, h4, h5⟩
        · exact .inl ⟨i, n, h1, h2, by omega, h4, h5⟩
      · rintro (⟨i, n, h1, h2, h3, h4, h5⟩ | ⟨h1, h2, n, h4, h5⟩)
        · exact ⟨i, n, h1, h2, by omega, h4, h5⟩
        · exact ⟨m, n, h1, h2, by omega, h4, h5⟩
    rw [key, gy]
    cases hm : ns[m]? with
    | none =>
      exact ⟨.inl, fun h => h.elim id fun ⟨_, _, n, h, _⟩ => by cases h⟩
    | some n =>
      dsimp only
      split
      · rename_i h
        rw [List.mem_append, List.mem_singleton]
        exact ⟨fun g => g.elim .inl fun g => .inr ⟨g, h.1, n, rfl, h.2⟩, fun g => g.elim .inl fun g => .inr g.1⟩
      · rename_i h
        exact ⟨.inl, fun g => g.elim id fun ⟨_, h2, n', h3, h4⟩ => by injection h3 with h3; subst h3; exact absurd ⟨h2, h4⟩ h⟩
end Go.Xml
