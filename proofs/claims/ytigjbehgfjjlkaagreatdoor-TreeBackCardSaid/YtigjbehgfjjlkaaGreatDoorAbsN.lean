/- Regions whose order is open, by what each operation yields. -/
import Derived.Test.YtigjbehgfjjlkaaGreatDoorAbsV
set_option linter.unusedVariables false
set_option linter.unusedSimpArgs false
namespace Go.Abs
open Go.RowKit
structure Fact where
  is : Hp → Hp → Value → Prop
  up : ∀ h R R' V, (∀ e ∈ R, e ∈ R') → is h R V → is h R' V
def Fact.any : Fact := ⟨fun _ _ _ => True, fun _ _ _ _ _ h => h⟩
def LQ (ds : List (Option Nat)) (tbl : List (List Nat)) (i t : Nat) : Bool :=
  (List.range ds.length).all fun j => ds.getD j none != some t || j == i || (tbl.getD j []).contains i
def Kk (tbl cl : List (List Nat)) (i j : Nat) : Bool :=
  (List.range cl.length).all fun k => !((cl.getD k []).contains j) || k == i || (tbl.getD k []).contains i
def Gives (R X : Hp) (F : Fact) (V : Value) (s : St) : Prop := ∃ h l, Own s (h ++ (l ++ X)) ∧ F.is h (l ++ R) V
theorem Gives.own {R X : Hp} {F : Fact} {V : Value} {s : St} (h : Hp) (hO : Own s (h ++ X)) (hF : F.is h R V) : Gives R X F V s := ⟨h, [], hO, hF⟩
theorem Gives.all {R X : Hp} {F : Fact} {V : Value} {s : St} (l : Hp) (hO : Own s (l ++ X)) (hF : F.is [] (l ++ R) V) : Gives R X F V s := ⟨[], l, hO, hF⟩
def Hq (cx : Cx) (ops : Array Oper) (ds : List (Option Nat)) (tbl cl : List (List Nat)) (Fs : List Fact) (ρ0 : Env) (r : Hp) (q : dz) (i : Nat) : Prop :=
  ∀ ρ s hs R X, (∀ t, LQ ds tbl i t = true → ρ t = ρ0 t) → (∀ j t, ((tbl.getD i []).contains j && Kk tbl cl i j) = true → ds.getD j none = some t → (Fs.getD j .any).is (hs j) R (ρ t)) →
    (∀ j, ((tbl.getD i []).contains j && Kk tbl cl i j && !((cl.getD i []).contains j)) = true → ∀ e ∈ (hs j : Hp), e ∈ X) → Own s ((cl.getD i []).flatMap hs ++ X) → (∀ e ∈ R, e ∈ X) → (∀ e ∈ r, e ∈ R) →
    atO (ops[i]?) fun o => bQ cx ops o ρ s (fun V s' => Gives R X (Fs.getD i .any) V s') q
def Steps (cx : Cx) (ops : Array Oper) (ds : List (Option Nat)) (tbl cl : List (List Nat)) (Fs : List Fact) (ρ0 : Env) (r : Hp) (q : dz) (n i : Nat) : Prop :=
  ∀ k, i ≤ k → k < i + n → Hq cx ops ds tbl cl Fs ρ0 r q k
def own1 (a : Nat → Bool) (hs : Nat → Hp) (l : List Nat) : Hp := l.flatMap fun j => bif a j then hs j else []
theorem Own.back {st s0 : St} {a R r : Hp} (h : Own st (a ++ R)) (hr : ∀ e ∈ r, e ∈ R) (h0 : Own s0 r) : Own st (a ++ r) :=
  iD.2 ⟨h.left, ⟨fun e he => h.right.1 e (hr e he), h0.2⟩, fun e he f hf => (iD.1 h).2.2 e he f (hr f hf)⟩
section
variable {cx : Cx} {ops : Array Oper} {ds : List (Option Nat)} {tbl cl : List (List Nat)} {Fs : List Fact} {ρ0 : Env} {r : Hp}
theorem Steps.nil {q : dz} {i : Nat} : Steps cx ops ds tbl cl Fs ρ0 r q 0 i := fun k h1 h2 => absurd h2 (by omega)
theorem Steps.cons {q : dz} {n i : Nat} (h : Hq cx ops ds tbl cl Fs ρ0 r q i) (t : Steps cx ops ds tbl cl Fs ρ0 r q n (i + 1)) : Steps cx ops ds tbl cl Fs ρ0 r q (n + 1) i := fun k h1 h2 => by
  by_cases e : k = i
  · rw [e]; exact h
  · exact t k (by omega) (by omega)
end
end Go.Abs
