/- The disk, its letters as numbers. No conditions. -/
import Derived.Test.YtiooigkcliomlaaJ15
set_option linter.unusedVariables false
set_option linter.unusedSimpArgs false
namespace Go.Proofs.Ytiooigkcliomlaa
open Go Go.Abs Go.RowKit
variable {base : Nat} {w0 : World} {G : Nat}

def ci (l : List Nat) : List Int := l.map fun n : Nat => (n : Int)
theorem ci_length (l : List Nat) : (ci l).length = l.length := List.length_map ..
theorem nl_ci (l : List Nat) : nl l = bl (ci l) := rfl
abbrev LN := Nat × List Nat
def cw (w : LN) : Lt := (w.1, ci w.2)
def Sec (s : List Nat) : Prop := s.length = 64 ∧ ∀ d ∈ s, d < 256
def appN (S : List (List Nat)) (L : List LN) : List (List Nat) := L.foldl (fun S w => S.set w.1 w.2) S
def readN (o : List Nat) (L : List LN) (a : Nat) : List Nat := L.foldl (fun o w => if w.1 = a then w.2 else o) o
def crashN (S : List (List Nat)) (L : List LN) (keep part : Int) : List (List Nat) :=
  match L.drop (kp keep L.length) with
  | [] => appN S (L.take (kp keep L.length))
  | w :: _ => (appN S (L.take (kp keep L.length))).set w.1 (w.2.take (kp part 64) ++ ((appN S (L.take (kp keep L.length))).getD w.1 []).drop (kp part 64))
theorem appN_map (S : List (List Nat)) (L : List LN) : appL (S.map ci) (L.map cw) = (appN S L).map ci := by
  induction L generalizing S with
  | nil => rfl
  | cons w r ih =>
    have h1 : appL (S.map ci) ((w :: r).map cw) = appL ((S.map ci).set w.1 (ci w.2)) (r.map cw) := rfl
    have h2 : appN S (w :: r) = appN (S.set w.1 w.2) r := rfl
    rw [h1, h2, ← ih, List.map_set]
theorem readN_map (o : List Nat) (L : List LN) (a : Nat) : readL (ci o) (L.map cw) a = ci (readN o L a) := by
  induction L generalizing o with
  | nil => rfl
  | cons w r ih =>
    have h1 : readL (ci o) ((w :: r).map cw) a = readL (if w.1 = a then ci w.2 else ci o) (r.map cw) a := rfl
    have h2 : readN o (w :: r) a = readN (if w.1 = a then w.2 else o) r a := rfl
    rw [h1, h2, ← ih]
    split <;> rfl
theorem getD_ci (S : List (List Nat)) (i : Nat) : (S.map ci).getD i [] = ci (S.getD i []) := by
  rw [List.getD_eq_getElem?_getD, List.getD_eq_getElem?_getD, List.getElem?_map]
  cases S[i]? <;> rfl
theorem crashN_map (S : List (List Nat)) (L : List LN) (keep part : Int) : crashS (S.map ci) (L.map cw) keep part = (crashN S L keep part).map ci := by
  unfold crashS crashN
  rw [List.length_map, ← List.map_drop, ← List.map_take, appN_map]
  cases L.drop (kp keep L.length) with
  | nil => rfl
  | cons w r =>
    show List.set _ _ _ = _
    rw [List.map_set, getD_ci]
    simp [cw, ci, List.map_take, List.map_drop]
theorem appN_length (S : List (List Nat)) (L : List LN) : (appN S L).length = S.length := by
  induction L generalizing S with
  | nil => rfl
  | cons w r ih => show (appN (S.set w.1 w.2) r).length = _; rw [ih, List.length_set]
theorem crashN_length (S : List (List Nat)) (L : List LN) (keep part : Int) : (crashN S L keep part).length = S.length := by
  unfold crashN
  split
  · exact appN_length _ _
  · rw [List.length_set, appN_length]
def FitL (n : Nat) (L : List LN) : Prop := ∀ w ∈ L, w.1 < n ∧ Sec w.2
theorem appN_sec {S : List (List Nat)} {L : List LN} (hS : ∀ s ∈ S, Sec s) (hL : FitL S.length L) : ∀ s ∈ appN S L, Sec s := by
  induction L generalizing S with
  | nil => exact hS
  | cons w r ih =>
    refine ih (S := S.set w.1 w.2) (fun s hs => ?_) fun w' hw' => by rw [List.length_set]; exact hL w' (by simp [hw'])
    rcases List.mem_or_eq_of_mem_set hs with h | h
    · exact hS s h
    · exact h ▸ (hL w (by simp)).2
theorem getD_sec {S : List (List Nat)} (hS : ∀ s ∈ S, Sec s) {i : Nat} (hi : i < S.length) : Sec (S.getD i []) := by
  rw [List.getD_eq_getElem?_getD, List.getElem?_eq_getElem hi]
  exact hS _ (List.getElem_mem hi)
theorem readN_sec {S : List (List Nat)} {L : List LN} {o : List Nat} (ho : Sec o) {n a : Nat} (hL : FitL n L) : Sec (readN o L a) := by
  induction L generalizing o with
  | nil => exact ho
  | cons w r ih =>
    show Sec (readN (if w.1 = a then w.2 else o) r a)
    refine ih ?_ fun w' hw' => hL w' (by simp [hw'])
    split
    · exact (hL w (by simp)).2
    · exact ho
theorem splice_sec {a b : List Nat} (ha : Sec a) (hb : Sec b) (c : Int) : Sec (a.take (kp c 64) ++ b.drop (kp c 64)) := by
  have := kp_le c 64
  refine ⟨by rw [List.length_append, List.length_take, List.length_drop, ha.1, hb.1]; omega, fun d hd => ?_⟩
  rcases List.mem_append.1 hd with h | h
  · exact ha.2 d (List.mem_of_mem_take h)
  · exact hb.2 d (List.mem_of_mem_drop h)
theorem crashN_sec {S : List (List Nat)} {L : List LN} (hS : ∀ s ∈ S, Sec s) (hL : FitL S.length L) (keep part : Int) : ∀ s ∈ crashN S L keep part, Sec s := by
  have h1 := appN_sec hS (L := L.take (kp keep L.length)) fun w hw => hL w (List.mem_of_mem_take hw)
  unfold crashN
  split
  · exact h1
  · rename_i w r hd
    intro s hs
    have hw : w ∈ L := List.mem_of_mem_drop (i := kp keep L.length) (by rw [hd]; simp)
    rcases List.mem_or_eq_of_mem_set hs with h | h
    · exact h1 s h
    · rw [h]
      exact splice_sec (hL w hw).2 (getD_sec h1 (by rw [appN_length]; exact (hL w hw).1)) _
/-- A disk: its sectors, what waits, its fuse. -/
def DN (p : Nat) (S : List (List Nat)) (L : List LN) (fz : Int) (h : Hp) : Prop := DK p (S.map ci) (L.map cw) fz h ∧ (∀ s ∈ S, Sec s) ∧ FitL S.length L
def nought64 : List Nat := List.replicate 64 0
theorem nought_sec : Sec nought64 := ⟨rfl, by intro d hd; have := List.eq_of_mem_replicate hd; omega⟩

theorem NewN (st : St) (r : Hp) (n : Int) (hO : Own st r) (k q : Value → St → Prop) (h0 : ¬ (1 ≤ n ∧ n ≤ 4096) → k (.tuple #[.pointer none, .int .i64 2]) st)
    (hk : ∀ p h st', 1 ≤ n → n ≤ 4096 → DN p (List.replicate n.toNat nought64) [] (-1) h → Own st' (h ++ r) → k (.tuple #[.pointer (some ⟨p, 0, none⟩), .int .i64 0]) st') :
    ACallF (C base w0 G) 9 [.int .i64 n] st k q :=
  ACallF.enter Try.func9 rfl (by kernel_rfl) (New_spec st r n hO k q h0 fun p h st' h1 h2 hD hO' => hk p h st' h1 h2 ⟨by
    have e : (List.replicate n.toNat nought64).map ci = List.replicate n.toNat zero64 := by rw [List.map_replicate]; rfl
    rw [e]; exact hD, fun s hs => by rw [List.eq_of_mem_replicate hs]; exact nought_sec, fun w hw => by simp at hw⟩ hO')
theorem WriteN (st : St) (r h : Hp) (p : Nat) (S : List (List Nat)) (L : List LN) (fz at_ : Int) (bv : Value) (l : List Nat) (hD : DN p S L fz h) (hO : Own st (h ++ r)) (hb : Nb r bv l)
    (hfz : fz ≤ 9223372036854775807) (hl : L.length ≤ 1000000) (k q : Value → St → Prop)
    (hbad : ¬ (0 ≤ at_ ∧ at_ < S.length ∧ l.length = 64) → k (.int .i64 2) st)
    (hpow : 0 ≤ at_ → at_ < S.length → l.length = 64 → fz = 0 → k (.int .i64 50) st)
    (hok : ∀ h' st', 0 ≤ at_ → at_ < S.length → l.length = 64 → fz ≠ 0 → DN p S (L ++ [(at_.toNat, l)]) (dec1 fz) h' → Own st' (h' ++ r) → k (.int .i64 0) st') :
    ACallF (C base w0 G) 18 [.pointer (some ⟨p, 0, none⟩), .int .i64 at_, bv] st k q := by
  refine ACallF.enter Try.func18 rfl (by kernel_rfl) (WriteD_spec st r h p _ _ fz at_ bv (ci l) hD.1 hO hb.1 hfz (by rw [List.length_map]; exact hl) k q (fun hh => hbad fun e => hh ?_) (fun a b c d => hpow a (by rw [List.length_map] at b; exact b) (by rw [ci_length] at c; exact c) d) (fun h' st' a b c d hD' hO' => ?_))
  · rw [List.length_map, ci_length]; exact e
  · rw [List.length_map] at b
    rw [ci_length] at c
    refine hok h' st' a b c d ⟨by rw [List.map_append]; exact hD', hD.2.1, fun w hw => ?_⟩ hO'
    rcases List.mem_append.1 hw with e | e
    · exact hD.2.2 w e
    · simp at e; subst e; exact ⟨by simp only; omega, c, hb.2⟩
theorem SyncN (st : St) (r h : Hp) (p : Nat) (S : List (List Nat)) (L : List LN) (fz : Int) (hD : DN p S L fz h) (hO : Own st (h ++ r)) (hfz : fz ≤ 9223372036854775807) (hl : L.length ≤ 1000000) (k q : Value → St → Prop)
    (h0 : fz = 0 → k (.int .i64 50) st)
    (hk : ∀ h' st', fz ≠ 0 → DN p (appN S L) [] (dec1 fz) h' → Own st' (h' ++ r) → k (.int .i64 0) st') : ACallF (C base w0 G) 32 [.pointer (some ⟨p, 0, none⟩)] st k q :=
  ACallF.enter Try.func32 rfl (by kernel_rfl) (Sync_spec st r h p _ _ fz hD.1 hO hfz (by rw [List.length_map]; exact hl) k q h0 fun h' st' hz hD' hO' => hk h' st' hz ⟨by rw [appN_map] at hD'; exact hD', appN_sec hD.2.1 hD.2.2, fun w hw => by simp at hw⟩ hO')
theorem ReadN (st : St) (r h : Hp) (p : Nat) (S : List (List Nat)) (L : List LN) (fz at_ : Int) (hD : DN p S L fz h) (hO : Own st (h ++ r)) (hl : L.length ≤ 1000000) (k q : Value → St → Prop)
    (h0 : ¬ (0 ≤ at_ ∧ at_ < S.length) → k (.tuple #[.slice none 0 0, .int .i64 2]) st)
    (hk : ∀ b st', 0 ≤ at_ → at_ < S.length → Sec (readN (S.getD at_.toNat []) L at_.toNat) → Own st' ((b, .cells (nl (readN (S.getD at_.toNat []) L at_.toNat)) 5 true) :: (h ++ r)) → k (.tuple #[.slice (some ⟨b, 0, some 0⟩) 64 64, .int .i64 0]) st') :
    ACallF (C base w0 G) 33 [.pointer (some ⟨p, 0, none⟩), .int .i64 at_] st k q := by
  refine ACallF.enter Try.func33 rfl (by kernel_rfl) (Read_spec st r h p _ _ fz at_ hD.1 hO (by rw [List.length_map]; exact hl) k q (fun hh => h0 fun e => hh ?_) (fun b st' a1 a2 a3 hO' => ?_))
  · rw [List.length_map]; exact e
  · rw [List.length_map] at a2
    rw [getD_ci, readN_map] at hO'
    exact hk b st' a1 a2 (readN_sec (S := S) (getD_sec hD.2.1 (by omega)) hD.2.2) hO'
theorem CrashN (st : St) (r h : Hp) (p : Nat) (S : List (List Nat)) (L : List LN) (fz keep part : Int) (hD : DN p S L fz h) (hO : Own st (h ++ r)) (hl : L.length ≤ 1000000) (k q : Value → St → Prop)
    (hk : ∀ h' st', DN p (crashN S L keep part) [] (-1) h' → Own st' (h' ++ r) → k (.tuple #[]) st') : ACallF (C base w0 G) 13 [.pointer (some ⟨p, 0, none⟩), .int .i64 keep, .int .i64 part] st k q :=
  ACallF.enter Try.func13 rfl (by kernel_rfl) (Crash_spec st r h p _ _ fz keep part hD.1 hO (by rw [List.length_map]; exact hl) k q fun h' st' hD' hO' => hk h' st' ⟨by rw [crashN_map] at hD'; exact hD', crashN_sec hD.2.1 hD.2.2 _ _, fun w hw => by simp at hw⟩ hO')
theorem FuseN (st : St) (r h : Hp) (p : Nat) (S : List (List Nat)) (L : List LN) (fz c : Int) (hD : DN p S L fz h) (hO : Own st (h ++ r)) (k q : Value → St → Prop)
    (hk : ∀ h' st', DN p S L (if c < -1 then -1 else c) h' → Own st' (h' ++ r) → k (.tuple #[]) st') : ACallF (C base w0 G) 12 [.pointer (some ⟨p, 0, none⟩), .int .i64 c] st k q :=
  ACallF.enter Try.func12 rfl (by kernel_rfl) (Fuse_spec st r h p _ _ fz c hD.1 hO k q fun h' st' hD' hO' => hk h' st' ⟨hD', hD.2⟩ hO')
theorem SizeN (st : St) (r h : Hp) (p : Nat) (S : List (List Nat)) (L : List LN) (fz : Int) (hD : DN p S L fz h) (hO : Own st (h ++ r)) (k q : Value → St → Prop) (hk : k (.int .i64 S.length) st) :
    ACallF (C base w0 G) 31 [.pointer (some ⟨p, 0, none⟩)] st k q :=
  ACallF.enter Try.func31 rfl (by kernel_rfl) (Size_spec st r h p _ _ fz hD.1 hO k q (by rw [List.length_map]; exact hk))
theorem WaitingN (st : St) (r h : Hp) (p : Nat) (S : List (List Nat)) (L : List LN) (fz : Int) (hD : DN p S L fz h) (hO : Own st (h ++ r)) (k q : Value → St → Prop) (hk : k (.int .i64 L.length) st) :
    ACallF (C base w0 G) 23 [.pointer (some ⟨p, 0, none⟩)] st k q :=
  ACallF.enter Try.func23 rfl (by kernel_rfl) (Waiting_spec st r h p _ _ fz hD.1 hO k q (by rw [List.length_map]; exact hk))
end Go.Proofs.Ytiooigkcliomlaa
