/- Contracts of the program's functions over the abstract heap, and what follows from them (a part of the proof of this seat's laws). No conditions. -/
import Derived.Test.YtiooigkcliomlaaJ7
set_option linter.unusedVariables false
set_option linter.unusedSimpArgs false
namespace Go.Proofs.Ytiooigkcliomlaa
open Go Go.Abs
variable {base : Nat} {w0 : World} {G : Nat}

theorem u8s_bl : ∀ l : List Int, u8s (bl l) = some l
  | [] => rfl
  | a :: l => by
    show u8s (.int .u8 a :: bl l) = _
    simp [u8s, u8s_bl l]
theorem aconv_str {st : St} {h : Hp} (hO : Own st h) {v : Value} {l : List Int} (hb : Bs h v l) : aconv Try.prog st 23 9 v = some (.string (strOf l), st) := by
  have h1 := hb.src hO
  obtain ⟨a, c, rfl, _⟩ := hb.isSlice
  simp [aconv, Try.underlying23, Try.underlying9, Try.underlying5, h1, u8s_bl]

theorem WriteD_spec (st : St) (r h : Hp) (p : Nat) (S : List (List Int)) (L : List Lt) (fz at_ : Int) (bv : Value) (l : List Int) (hD : DK p S L fz h) (hO : Own st (h ++ r)) (hb : Bs r bv l)
    (hfz : fz ≤ 9223372036854775807) (hl : L.length ≤ 1000000) (k q : Value → St → Prop)
    (hbad : ¬ (0 ≤ at_ ∧ at_ < S.length ∧ l.length = 64) → k (.int .i64 2) st)
    (hpow : 0 ≤ at_ → at_ < S.length → l.length = 64 → fz = 0 → k (.int .i64 50) st)
    (hok : ∀ h' st', 0 ≤ at_ → at_ < S.length → l.length = 64 → fz ≠ 0 → DK p S (L ++ [(at_.toNat, l)]) (dec1 fz) h' → Own st' (h' ++ r) → k (.int .i64 0) st') :
    ACall (C base w0 G) 18 [.pointer (some ⟨p, 0, none⟩), .int .i64 at_, bv] st k q := by
  obtain ⟨sb, xs, wv, hw, W, rfl, hW, hx, hf, rfl⟩ := hD
  rw [dW_app] at hO
  have hfl : (forget W).length = W.length := by simp [forget]
  have hO1 : Own st ((p, pc sb xs.length wv fz) :: (hw ++ ((sb, .cells (xs.map sl) 23 true) :: (secs xs S ++ (wbs W ++ r))))) := hO.perm (by
    simpa using perm_of [[(p, pc sb xs.length wv fz)], [(sb, .cells (xs.map sl) 23 true)], secs xs S, hw, wbs W, r] [0, 1, 2, 3, 4, 5] [0, 3, 1, 2, 4, 5] rfl)
  refine Write_spec st _ p sb xs.length wv fz W hw at_ bv l hO1 hW (hb.sub fun e he => by simp [he]) hfz (by rw [← hfl]; exact hl) k q (fun hh => hbad (by rw [← hx]; exact hh)) (fun a b c d => hpow a (by rw [← hx]; exact b) c d) (fun b wv' hw' st' a1 a2 a3 a4 hW' hO' => ?_)
  refine hok (dW sb xs S wv' (dec1 fz) (W ++ [(at_.toNat, l, b)]) hw' p) st' a1 (by rw [← hx]; exact a2) a3 a4 ⟨sb, xs, wv', hw', W ++ [(at_.toNat, l, b)], rfl, hW', hx, ⟨hf.1, fun w hw => ?_⟩, by simp [forget]⟩ ?_
  · rcases List.mem_append.1 hw with h | h
    · exact hf.2 w h
    · simp at h; subst h; exact ⟨by simp only; omega, a3⟩
  · rw [dW_app]
    refine hO'.perm ?_
    have e : wbs (W ++ [(at_.toNat, l, b)]) = wbs W ++ [(b, .cells (bl l) 5 true)] := by simp [wbs]
    rw [e]
    simpa using perm_of [[(p, pc sb xs.length wv' (dec1 fz))], hw', [(b, .cells (bl l) 5 true)], [(sb, .cells (xs.map sl) 23 true)], secs xs S, wbs W, r] [0, 1, 2, 3, 4, 5, 6] [0, 3, 4, 1, 5, 2, 6] rfl

theorem bl_rep (x : Int) : bl (List.replicate 64 x) = List.replicate 64 (.int .u8 x) := by simp [bl]

end Go.Proofs.Ytiooigkcliomlaa
