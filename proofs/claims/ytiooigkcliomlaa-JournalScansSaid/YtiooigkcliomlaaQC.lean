/- The disk, its letters as numbers. No conditions. -/
import Derived.Test.YtiooigkcliomlaaQB
set_option linter.unusedVariables false
set_option linter.unusedSimpArgs false
namespace Go.Proofs.Ytiooigkcliomlaa
open Go Go.Abs Go.RowKit
variable {base : Nat} {w0 : World} {G : Nat}

def ci (l : List Nat) : List Int := l.map fun n : Nat => (n : Int)
theorem ci_length (l : List Nat) : (ci l).length = l.length := List.length_map ..
theorem nl_ci (l : List Nat) : nl l = bl (ci l) := rfl
abbrev LN := Nat × List Nat
def cw (w : LN) : Lt := (w.1, ci w.2)
def Sec (s : List Nat) : Prop := s.length = 64 ∧ ∀ d ∈ s, d < 256
def appN (S : List (List Nat)) (L : List LN) : List (List Nat) := L.foldl (fun S w => S.set w.1 w.2) S
def readN (o : List Nat) (L : List LN) (a : Nat) : List Nat := L.foldl (fun o w => if w.1 = a then w.2 else o) o
def crashN (S : List (List Nat)) (L : List LN) (keep part : Int) : List (List Nat) :=
  match L.drop (kp keep L.length) with
  | [] => appN S (L.take (kp keep L.length))
  | w :: _ => (appN S (L.take (kp keep L.length))).set w.1 (w.2.take (kp part 64) ++ ((appN S (L.take (kp keep L.length))).getD w.1 []).drop (kp part 64))
theorem appN_map (S : List (List Nat)) (L : List LN) : appL (S.map ci) (L.map cw) = (appN S L).map ci := by
  induction L generalizing S with
  | nil => rfl
  | cons w r ih =>
    have h1 : appL (S.map ci) ((w :: r).map cw) = appL ((S.map ci).set w.1 (ci w.2)) (r.map cw) := rfl
    have h2 : appN S (w :: r) = appN (S.set w.1 w.2) r := rfl
    rw [h1, h2, ← ih, List.map_set]
theorem readN_map (o : List Nat) (L : List LN) (a : Nat) : readL (ci o) (L.map cw) a = ci (readN o L a) := by
  induction L generalizing o with
  | nil => rfl
  | cons w r ih =>
    have h1 : readL (ci o) ((w :: r).map cw) a = readL (if w.1 = a then ci w.2 else ci o) (r.map cw) a := rfl
    have h2 : readN o (w :: r) a = readN (if w.1 = a then w.2 else o) r a := rfl
    rw [h1, h2, ← ih]
    split <;> rfl
theorem getD_ci (S : List (List Nat)) (i : Nat) : (S.map ci).getD i [] = ci (S.getD i []) := by
  rw [List.getD_eq_getElem?_getD, List.getD_eq_getElem?_getD, List.getElem?_map]
  cases S[i]? <;> rfl
theorem crashN_map (S : List (List Nat)) (L : List LN) (keep part : Int) : crashS (S.map ci) (L.map cw) keep part = (crashN S L keep part).map ci := by
  unfold crashS crashN
  rw [List.length_map, ← List.map_drop, ← List.map_take, appN_map]
  cases L.drop (kp keep L.length) with
  | nil => rfl
  | cons w r =>
    show List.set _ _ _ = _
    rw [List.map_set, getD_ci]
    simp [cw, ci, List.map_take, List.map_drop]
theorem appN_length (S : List (List Nat)) (L : List LN) : (appN S L).length = S.length := by
  induction L generalizing S with
  | nil => rfl
  | cons w r ih => show (appN (S.set w.1 w.2) r).length = _; rw [ih, List.length_set]
theorem crashN_length (S : List (List Nat)) (L : List LN) (keep part : Int) : (crashN S L keep part).length = S.length := by
  unfold crashN
  split
  · exact appN_length _ _
  · rw [List.length_set, appN_length]
def FitL (n : Nat) (L : List LN) : Prop := ∀ w ∈ L, w.1 < n ∧ Sec w.2
theorem appN_sec {S : List (List Nat)} {L : List LN} (hS : ∀ s ∈ S, Sec s) (hL : FitL S.length L) : ∀ s ∈ appN S L, Sec s := by
  induction L generalizing S with
  | nil => exact hS
  | cons w r ih =>
    refine ih (S := S.set w.1 w.2) (fun s hs => ?_) fun w' hw' => by rw [List.length_set]; exact hL w' (by simp [hw'])
    rcases List.mem_or_eq_of_mem_set hs with h | h
    · exact hS s h
    · exact h ▸ (hL w (by simp)).2
theorem getD_sec {S : List (List Nat)} (hS : ∀ s ∈ S, Sec s) {i : Nat} (hi : i < S.length) : Sec (S.getD i []) := by
  rw [List.getD_eq_getElem?_getD, List.getElem?_eq_getElem hi]
  exact hS _ (List.getElem_mem hi)
theorem readN_sec {S : List (List Nat)} {L : List LN} {o : List Nat} (ho : Sec o) {n a : Nat} (hL : FitL n L) : Sec (readN o L a) := by
  induction L generalizing o with
  | nil => exact ho
  | cons w r ih =>
    show Sec (readN (if w.1 = a then w.2 else o) r a)
    refine ih ?_ fun w' hw' => hL w' (by simp [hw'])
    split
    · exact (hL w (by simp)).2
    · exact ho
theorem splice_sec {a b : List Nat} (ha : Sec a) (hb : Sec b) (c : Int) : Sec (a.take (kp c 64) ++ b.drop (kp c 64)) := by
  have := kp_le c 64
  refine ⟨by rw [List.length_append, List.length_take, List.length_drop, ha.1, hb.1]; omega, fun d hd => ?_⟩
  rcases List.mem_append.1 hd with h | h
  · exact ha.2 d (List.mem_of_mem_take h)
  · exact hb.2 d (List.mem_of_mem_drop h)
theorem crashN_sec {S : List (List Nat)} {L : List LN} (hS : ∀ s ∈ S, Sec s) (hL : FitL S.length L) (keep part : Int) : ∀ s ∈ crashN S L keep part, Sec s := by
  have h1 := appN_sec hS (L := L.take (kp keep L.length)) fun w hw => hL w (List.mem_of_mem_take hw)
  unfold crashN
  split
  · exact h1
  · rename_i w r hd
    intro s hs
    have hw : w ∈ L := List.mem_of_mem_drop (i := kp keep L.length) (by rw [hd]; simp)
    rcases List.mem_or_eq_of_mem_set hs with h | h
    · exact h1 s h
    · rw [h]
      exact splice_sec (hL w hw).2 (getD_sec h1 (by rw [appN_length]; exact (hL w hw).1)) _
/-- A disk: its sectors, what waits, its fuse. -/
def DN (p : Nat) (S : List (List Nat)) (L : List LN) (fz : Int) (h : Hp) : Prop := DK p (S.map ci) (L.map cw) fz h ∧ (∀ s ∈ S, Sec s) ∧ FitL S.length L
def nought64 : List Nat := List.replicate 64 0
theorem nought_sec : Sec nought64 := ⟨rfl, by intro d hd; have := List.eq_of_mem_replicate hd; omega⟩

theorem NewN (st : St) (r : Hp) (n : Int) (hO : Own st r) (k q : Value → St → Prop) (h0 : ¬ (1 ≤ n ∧ n ≤ 4096) → k (.tuple #[.pointer none, .int .i64 2]) st)
    (hk : ∀ p h st', 1 ≤ n → n ≤ 4096 → DN p (List.replicate n.toNat nought64) [] (-1) h → Own st' (h ++ r) → k (.tuple #[.pointer (some ⟨p, 0, none⟩), .int .i64 0]) st') :
    ACallF (C base w0 G) 9 [.int .i64 n] st k q :=
  ACallF.enter Try.func9 rfl (by kernel_rfl) (New_spec st r n hO k q h0 fun p h st' h1 h2 hD hO' => hk p h st' h1 h2 ⟨by
    have e : (List.replicate n.toNat nought64).map ci = List.replicate n.toNat zero64 := by rw [List.map_replicate]; rfl
    rw [e]; exact hD, fun s hs => by rw [List.eq_of_mem_replicate hs]; exact nought_sec, fun w hw => by simp at hw⟩ hO')
theorem WriteN (st : St) (r h : Hp) (p : Nat) (S : List (List Nat)) (L : List LN) (fz at_ : Int) (bv : Value) (l : List Nat) (hD : DN p S L fz h) (hO : Own st (h ++ r)) (hb : Nb r bv l)
    (hfz : fz ≤ 9223372036854775807) (hl : L.length ≤ 1000000) (k q : Value → St → Prop)
    (hbad : ¬ (0 ≤ at_ ∧ at_ < S.length ∧ l.length = 64) → k (.int .i64 2) st)
    (hpow : 0 ≤ at_ → at_ < S.length → l.length = 64 → fz = 0 → k (.int .i64 50) st)
    (hok : ∀ h' st', 0 ≤ at_ → at_ < S.length → l.length = 64 → fz ≠ 0 → DN p S (L ++ [(at_.toNat, l)]) (dec1 fz) h' → Own st' (h' ++ r) → k (.int .i64 0) st') :
    ACallF (C base w0 G) 18 [.pointer (some ⟨p, 0, none⟩), .int .i64 at_, bv] st k q := by
  refine ACallF.enter Try.func18 rfl (by kernel_rfl) (WriteD_spec st r h p _ _ fz at_ bv (ci l) hD.1 hO hb.1 hfz (by rw [List.length_map]; exact hl) k q (fun hh => hbad fun e => hh ?_) (fun a b c d => hpow a (by rw [List.length_map] at b; exact b) (by rw [ci_length] at c; exact c) d) (fun h' st' a b c d hD' hO' => ?_))
  · rw [List.length_map, ci_length]; exact e
  · rw [List.length_map] at b
    rw [ci_length] at c
    refine hok h' st' a b c d ⟨by rw [List.map_append]; exact hD', hD.2.1, fun w hw => ?_⟩ hO'
    rcases List.mem_append.1 hw with e | e
    · exact hD.2.2 w e
    · simp at e; subst e; exact ⟨by simp only; omega, c, hb.2⟩
theorem SyncN (st : St) (r h : Hp) (p : Nat) (S : List (List Nat)) (L : List LN) (fz : Int) (hD : DN p S L fz h) (hO : Own st (h ++ r)) (hfz : fz ≤ 9223372036854775807) (hl : L.length ≤ 1000000) (k q : Value → St → Prop)
    (h0 : fz = 0 → k (.int .i64 50) st)
    (hk : ∀ h' st', fz ≠ 0 → DN p (appN S L) [] (dec1 fz) h' → Own st' (h' ++ r) → k (.int .i64 0) st') : ACallF (C base w0 G) 32 [.pointer (some ⟨p, 0, none⟩)] st k q :=
  ACallF.enter Try.func32 rfl (by kernel_rfl) (Sync_spec st r h p _ _ fz hD.1 hO hfz (by rw [List.length_map]; exact hl) k q h0 fun h' st' hz hD' hO' => hk h' st' hz ⟨by rw [appN_map] at hD'; exact hD', appN_sec hD.2.1 hD.2.2, fun w hw => by simp at hw⟩ hO')
theorem ReadN (st : St) (r h : Hp) (p : Nat) (S : List (List Nat)) (L : List LN) (fz at_ : Int) (hD : DN p S L fz h) (hO : Own st (h ++ r)) (hl : L.length ≤ 1000000) (k q : Value → St → Prop)
    (h0 : ¬ (0 ≤ at_ ∧ at_ < S.length) → k (.tuple #[.slice none 0 0, .int .i64 2]) st)
    (hk : ∀ b st', 0 ≤ at_ → at_ < S.length → Sec (readN (S.getD at_.toNat []) L at_.toNat) → Own st' ((b, .cells (nl (readN (S.getD at_.toNat []) L at_.toNat)) 5 true) :: (h ++ r)) → k (.tuple #[.slice (some ⟨b, 0, some 0⟩) 64 64, .int .i64 0]) st') :
    ACallF (C base w0 G) 33 [.pointer (some ⟨p, 0, none⟩), .int .i64 at_] st k q := by
  refine ACallF.enter Try.func33 rfl (by kernel_rfl) (Read_spec st r h p _ _ fz at_ hD.1 hO (by rw [List.length_map]; exact hl) k q (fun hh => h0 fun e => hh ?_) (fun b st' a1 a2 a3 hO' => ?_))
  · rw [List.length_map]; exact e
  · rw [List.length_map] at a2
    rw [getD_ci, readN_map] at hO'
    exact hk b st' a1 a2 (readN_sec (S := S) (getD_sec hD.2.1 (by omega)) hD.2.2) hO'
theorem CrashN (st : St) (r h : Hp) (p : Nat) (S : List (List Nat)) (L : List LN) (fz keep part : Int) (hD : DN p S L fz h) (hO : Own st (h ++ r)) (hl : L.length ≤ 1000000) (k q : Value → St → Prop)
    (hk : ∀ h' st', DN p (crashN S L keep part) [] (-1) h' → Own st' (h' ++ r) → k (.tuple #[]) st') : ACallF (C base w0 G) 13 [.pointer (some ⟨p, 0, none⟩), .int .i64 keep, .int .i64 part] st k q :=
  ACallF.enter Try.func13 rfl (by kernel_rfl) (Crash_spec st r h p _ _ fz keep part hD.1 hO (by rw [List.length_map]; exact hl) k q fun h' st' hD' hO' => hk h' st' ⟨by rw [crashN_map] at hD'; exact hD', crashN_sec hD.2.1 hD.2.2 _ _, fun w hw => by simp at hw⟩ hO')
theorem FuseN (st : St) (r h : Hp) (p : Nat) (S : List (List Nat)) (L : List LN) (fz c : Int) (hD : DN p S L fz h) (hO : Own st (h ++ r)) (k q : Value → St → Prop)
    (hk : ∀ h' st', DN p S L (if c < -1 then -1 else c) h' → Own st' (h' ++ r) → k (.tuple #[]) st') : ACallF (C base w0 G) 12 [.pointer (some ⟨p, 0, none⟩), .int .i64 c] st k q :=
  ACallF.enter Try.func12 rfl (by kernel_rfl) (Fuse_spec st r h p _ _ fz c hD.1 hO k q fun h' st' hD' hO' => hk h' st' ⟨hD', hD.2⟩ hO')
theorem SizeN (st : St) (r h : Hp) (p : Nat) (S : List (List Nat)) (L : List LN) (fz : Int) (hD : DN p S L fz h) (hO : Own st (h ++ r)) (k q : Value → St → Prop) (hk : k (.int .i64 S.length) st) :
    ACallF (C base w0 G) 31 [.pointer (some ⟨p, 0, none⟩)] st k q :=
  ACallF.enter Try.func31 rfl (by kernel_rfl) (Size_spec st r h p _ _ fz hD.1 hO k q (by rw [List.length_map]; exact hk))
theorem WaitingN (st : St) (r h : Hp) (p : Nat) (S : List (List Nat)) (L : List LN) (fz : Int) (hD : DN p S L fz h) (hO : Own st (h ++ r)) (k q : Value → St → Prop) (hk : k (.int .i64 L.length) st) :
    ACallF (C base w0 G) 23 [.pointer (some ⟨p, 0, none⟩)] st k q :=
  ACallF.enter Try.func23 rfl (by kernel_rfl) (Waiting_spec st r h p _ _ fz hD.1 hO k q (by rw [List.length_map]; exact hk))
end Go.Proofs.Ytiooigkcliomlaa
/- Sectors are made nought. No conditions. -/
set_option linter.unusedVariables false
set_option linter.unusedSimpArgs false
namespace Go.Proofs.Ytiooigkcliomlaa
open Go Go.Abs Go.RowKit
variable {base : Nat} {w0 : World} {G : Nat}

/-- What a fuse may be. -/
def FZ (fz : Int) : Prop := -1 ≤ fz ∧ fz ≤ 9223372036854775807
theorem FZ.dec {fz : Int} (h : FZ fz) : FZ (dec1 fz) := by unfold FZ dec1 at *; split <;> omega
theorem dec_none : dec1 (-1) = -1 := rfl
/-- What a fuse is behind calls that went well. -/
def Spent (fz fz' : Int) : Prop := FZ fz' ∧ (fz = -1 → fz' = -1) ∧ (fz ≠ -1 → fz' ≠ -1)
theorem Spent.refl {fz : Int} (h : FZ fz) : Spent fz fz := ⟨h, id, id⟩
theorem Spent.dec {fz fz' : Int} (h : Spent fz fz') (h0 : fz' ≠ 0) : Spent fz (dec1 fz') := by
  obtain ⟨h1, h2, h3⟩ := h
  refine ⟨h1.dec, fun e => by rw [h2 e]; rfl, fun e => ?_⟩
  have := h3 e
  unfold dec1 FZ at *
  split <;> omega
/-- The writes of noughts, from a sector on, so many sectors. -/
def noughtF (S : List (List Nat)) (all : Bool) (a : Nat) : Nat → List LN
  | 0 => []
  | k + 1 => noughtF S all a k ++ (if all = true ∨ S.getD (a + k) [] ≠ nought64 then [(a + k, nought64)] else [])
theorem noughtF_length (S : List (List Nat)) (all : Bool) (a : Nat) : ∀ k, (noughtF S all a k).length ≤ k
  | 0 => Nat.le_refl _
  | k + 1 => by
    have := noughtF_length S all a k
    unfold noughtF
    rw [List.length_append]
    split <;> simp <;> omega
theorem noughtF_lt (S : List (List Nat)) (all : Bool) (a : Nat) : ∀ k, ∀ w ∈ noughtF S all a k, w.1 < a + k
  | 0 => by simp [noughtF]
  | k + 1 => by
    intro w hw
    unfold noughtF at hw
    rcases List.mem_append.1 hw with h | h
    · have := noughtF_lt S all a k w h; omega
    · split at h
      · simp at h; subst h; simp only; omega
      · simp at h
theorem readN_miss (o : List Nat) (L : List LN) (a : Nat) (h : ∀ w ∈ L, w.1 ≠ a) : readN o L a = o := by
  induction L generalizing o with
  | nil => rfl
  | cons w r ih =>
    show readN (if w.1 = a then w.2 else o) r a = o
    rw [if_neg (h w (by simp))]
    exact ih o fun w' hw' => h w' (by simp [hw'])
set_option maxRecDepth 10000 in
theorem nought_spec (st : St) (r h : Hp) (p : Nat) (S : List (List Nat)) (fz : Int) (a n : Nat) (all : Bool) (hD : DN p S [] fz h) (hO : Own st (h ++ r)) (hfz : FZ fz) (hn : a + n ≤ S.length) (hS : S.length ≤ 5000) (hall : all = true → n ≠ 0) (k q : Value → St → Prop)
    (hpow : ∀ j h' st', fz ≠ -1 → j ≤ n → DN p S (noughtF S all a j) 0 h' → Own st' (h' ++ r) → k (.int .i64 50) st')
    (hok : ∀ fz' h' st', Spent fz fz' → DN p (appN S (noughtF S all a n)) [] fz' h' → Own st' (h' ++ r) → k (.int .i64 0) st') :
    ACall (C base w0 G) 34 [.pointer (some ⟨p, 0, none⟩), .int .i64 a, .int .i64 (a + n : Nat), .bool all] st k q := by
  refine ACall.of (cx := C base w0 G) mixed Try.func34 rfl (by kernel_rfl) (by simp [Try.ntmps34]) ?_
  simp only [Try.results34]
  simp (config := { implicitDefEqProofs := false }) only [↓GP, GQ, ↓awp_seq, ↓awp_block, C_ex, Nat.reduceBEq, acap, afieldAddr, aload, astore, abin, anum, astr, aun, isAggD, cond_true, cond_false, ↓reduceIte, C_P, C_G, isTuple, Value.cells, setL, ares, aresL, ares1, reduceCtorEq, Nat.reduceEqDiff, eq_self, Nat.reduceAdd, if_true, if_false, one, Nat.reduceLeDiff, undef, gsl, aextract, aindexAddr, amake, implies_true, forall_const, alen, abuiltin, anil, isC, Int.reduceEq, Int.reduceLT, Int.reduceLE, Int.reduceAdd, Int.reduceToNat, Int.reduceNeg, Nat.reduceMul, Nat.reduceSub, abuild, afill, Int.reduceBNe, Int.reduceBEq, Try.underlying23, asz5, azc5, aby5]
  have hO1 := (hO.new (.cells (zeros [.int .u8 0] 64) 5 true)).perm (perm_front h _ r).symm
  rw [zeros_nl] at hO1
  refine ⟨by decide, fun m ρ s => ∃ (j z : Nat) (fz' : Int) (h : Hp), m = n - j ∧ j ≤ n ∧ ρ 0 = .pointer (some ⟨p, 0, none⟩) ∧ ρ 2 = .int .i64 (a + n : Nat) ∧ ρ 3 = .bool all ∧ ρ 9 = .slice (some ⟨z, 0, none⟩) 64 64 ∧ ρ 10 = .bool (all || !(noughtF S all a j).isEmpty) ∧ ρ 11 = .int .i64 (a + j : Nat) ∧
    Spent fz fz' ∧ DN p S (noughtF S all a j) fz' h ∧ Own s (h ++ ((z, .cells (nl nought64) 5 true) :: r)), ⟨n, 0, st.n, fz, h, rfl, Nat.zero_le _, rfl, rfl, rfl, rfl, ?_, rfl, Spent.refl hfz, hD, hO1⟩, ?_⟩
  · cases all <;> rfl
  rintro m ρ s ⟨j, z, fz', h', rfl, hj, h0, h2, h3, h9, h10, h11, hsp, hD', hO'⟩
  have hNb : Nb ((z, Ob.cells (nl nought64) 5 true) :: r) (.slice (some ⟨z, 0, none⟩) 64 64) nought64 := nb_exact (l := nought64) (c := 64) (ty := 5) (own := true) (by simp) nought_sec.2
  have hLl : (noughtF S all a j).length ≤ 1000000 := Nat.le_trans (noughtF_length S all a j) (by omega)
  by_cases hjn : j < n
  · simp (config := { implicitDefEqProofs := false }) only [↓GP, GQ, ↓awp_seq, ↓awp_block, C_ex, Nat.reduceBEq, acap, afieldAddr, aload, astore, abin, anum, astr, aun, isAggD, cond_true, cond_false, ↓reduceIte, C_P, C_G, isTuple, Value.cells, setL, ares, aresL, ares1, reduceCtorEq, Nat.reduceEqDiff, eq_self, Nat.reduceAdd, if_true, if_false, one, Nat.reduceLeDiff, undef, gsl, aextract, aindexAddr, amake, implies_true, forall_const, alen, abuiltin, anil, isC, Int.reduceEq, Int.reduceLT, Int.reduceLE, Int.reduceAdd, Int.reduceToNat, Int.reduceNeg, Nat.reduceMul, Nat.reduceSub, abuild, afill, Int.reduceBNe, Int.reduceBEq, h0, h2, h3, h9, h10, h11, show ((a + j : Nat) : Int) < ((a + n : Nat) : Int) by omega, decide_true]
    refine ReadN s _ h' p S _ fz' (a + j : Nat) hD' hO' hLl _ _ (fun hh => absurd ⟨by omega, by omega⟩ hh) fun b s2 _ _ hsec hO2 => ?_
    rw [Int.toNat_natCast, readN_miss _ _ _ (fun w hw => by have := noughtF_lt S all a j w hw; omega)] at hO2 hsec
    have hwr : ∀ (s3 : St) (hx : Hp), Own s3 (h' ++ ((z, .cells (nl nought64) 5 true) :: r)) → True := fun _ _ _ => trivial
    have step : noughtF S all a (j + 1) = noughtF S all a j ++ (if all = true ∨ S.getD (a + j) [] ≠ nought64 then [(a + j, nought64)] else []) := rfl
    have next : ∀ (s3 : St), IntKind.i64.wrap (((a + j : Nat) : Int) + 1) = ((a + (j + 1) : Nat) : Int) := fun _ => by rw [w_i64 (by omega)]; omega
    have hO2' : Own s2 (h' ++ ((b, .cells (nl (S.getD (a + j) [])) 5 true) :: ((z, .cells (nl nought64) 5 true) :: r))) := hO2.perm (perm_front h' _ _).symm
    have hNb' : Nb ((b, .cells (nl (S.getD (a + j) [])) 5 true) :: ((z, Ob.cells (nl nought64) 5 true) :: r)) (.slice (some ⟨z, 0, none⟩) 64 64) nought64 := hNb.sub fun e he => List.mem_cons_of_mem _ he
    have write : (all = true ∨ S.getD (a + j) [] ≠ nought64) → ∀ K : Value → St → Prop,
        (∀ s3 h3, fz ≠ -1 → DN p S (noughtF S all a j) 0 h3 → Own s3 (h3 ++ r) → K (.int .i64 50) s3) →
        (∀ s3 h3 fz3, Spent fz fz3 → DN p S (noughtF S all a (j + 1)) fz3 h3 → Own s3 (h3 ++ ((z, .cells (nl nought64) 5 true) :: r)) → K (.int .i64 0) s3) →
        ACallF (C base w0 G) 18 [.pointer (some ⟨p, 0, none⟩), .int .i64 (a + j : Nat), .slice (some ⟨z, 0, none⟩) 64 64] s2 K q := by
      intro hc K k1 k2
      rw [if_pos hc] at step
      refine WriteN s2 _ h' p S _ fz' (a + j : Nat) _ nought64 hD' hO2' hNb' hsp.1.2 hLl _ _ (fun hh => absurd ⟨by omega, by omega, rfl⟩ hh) (fun _ _ _ hz => ?_) (fun h3 s3 _ _ _ hz hD3 hO3 => ?_)
      · subst hz
        refine k1 s2 h' (fun e => ?_) hD' (hO2'.sub (List.Sublist.append_left ((List.sublist_cons_self _ r).trans (List.sublist_cons_self _ _)) _))
        have := hsp.2.1 e
        omega
      · rw [Int.toNat_natCast, ← step] at hD3
        exact k2 s3 h3 _ (hsp.dec hz) hD3 (hO3.sub (List.Sublist.append_left (List.sublist_cons_self _ _) _))
    have wnext : IntKind.i64.wrap (((a + j : Nat) : Int) + 1) = ((a + (j + 1) : Nat) : Int) := by rw [w_i64 (by omega)]; omega
    have goon : ∀ s3 h3 fz3, (all = true ∨ S.getD (a + j) [] ≠ nought64) → Spent fz fz3 → DN p S (noughtF S all a (j + 1)) fz3 h3 → Own s3 (h3 ++ ((z, .cells (nl nought64) 5 true) :: r)) → True := fun _ _ _ _ _ _ _ => trivial
    have hany : (all = true ∨ S.getD (a + j) [] ≠ nought64) → (all || !(noughtF S all a (j + 1)).isEmpty) = true := fun hc => by
      rw [step, if_pos hc]
      simp
    cases all with
    | true =>
      simp (config := { implicitDefEqProofs := false }) only [↓GP, GQ, ↓awp_seq, ↓awp_block, C_ex, Nat.reduceBEq, acap, afieldAddr, aload, astore, abin, anum, astr, aun, isAggD, cond_true, cond_false, ↓reduceIte, C_P, C_G, isTuple, Value.cells, setL, ares, aresL, ares1, reduceCtorEq, Nat.reduceEqDiff, eq_self, Nat.reduceAdd, if_true, if_false, one, Nat.reduceLeDiff, undef, gsl, aextract, aindexAddr, amake, implies_true, forall_const, alen, abuiltin, anil, isC, Int.reduceEq, Int.reduceLT, Int.reduceLE, Int.reduceAdd, Int.reduceToNat, Int.reduceNeg, Nat.reduceMul, Nat.reduceSub, abuild, afill, Int.reduceBNe, Int.reduceBEq, h0, h2, h3, h9, h10, h11]
      refine write (.inl rfl) _ (fun s3 hx hne hD3 hO3 => ?_) (fun s3 hx fz3 hs3 hD3 hO3 => ?_)
      · simp (config := { implicitDefEqProofs := false }) only [↓GP, GQ, ↓awp_seq, ↓awp_block, C_ex, Nat.reduceBEq, acap, afieldAddr, aload, astore, abin, anum, astr, aun, isAggD, cond_true, cond_false, ↓reduceIte, C_P, C_G, isTuple, Value.cells, setL, ares, aresL, ares1, reduceCtorEq, Nat.reduceEqDiff, eq_self, Nat.reduceAdd, if_true, if_false, one, Nat.reduceLeDiff, undef, gsl, aextract, aindexAddr, amake, implies_true, forall_const, alen, abuiltin, anil, isC, Int.reduceEq, Int.reduceLT, Int.reduceLE, Int.reduceAdd, Int.reduceToNat, Int.reduceNeg, Nat.reduceMul, Nat.reduceSub, abuild, afill, Int.reduceBNe, Int.reduceBEq, h0, h2, h3, h9, h10, h11, Try.underlying27]
        exact hpow j hx s3 hne (by omega) hD3 hO3
      · simp (config := { implicitDefEqProofs := false }) only [↓GP, GQ, ↓awp_seq, ↓awp_block, C_ex, Nat.reduceBEq, acap, afieldAddr, aload, astore, abin, anum, astr, aun, isAggD, cond_true, cond_false, ↓reduceIte, C_P, C_G, isTuple, Value.cells, setL, ares, aresL, ares1, reduceCtorEq, Nat.reduceEqDiff, eq_self, Nat.reduceAdd, if_true, if_false, one, Nat.reduceLeDiff, undef, gsl, aextract, aindexAddr, amake, implies_true, forall_const, alen, abuiltin, anil, isC, Int.reduceEq, Int.reduceLT, Int.reduceLE, Int.reduceAdd, Int.reduceToNat, Int.reduceNeg, Nat.reduceMul, Nat.reduceSub, abuild, afill, Int.reduceBNe, Int.reduceBEq, h0, h2, h3, h9, h10, h11, Try.underlying27, Try.underlying3, wnext]
        exact ⟨n - (j + 1), by omega, j + 1, z, fz3, hx, rfl, by omega, rfl, rfl, rfl, hs3, hD3, hO3⟩
    | false =>
      simp (config := { implicitDefEqProofs := false }) only [↓GP, GQ, ↓awp_seq, ↓awp_block, C_ex, Nat.reduceBEq, acap, afieldAddr, aload, astore, abin, anum, astr, aun, isAggD, cond_true, cond_false, ↓reduceIte, C_P, C_G, isTuple, Value.cells, setL, ares, aresL, ares1, reduceCtorEq, Nat.reduceEqDiff, eq_self, Nat.reduceAdd, if_true, if_false, one, Nat.reduceLeDiff, undef, gsl, aextract, aindexAddr, amake, implies_true, forall_const, alen, abuiltin, anil, isC, Int.reduceEq, Int.reduceLT, Int.reduceLE, Int.reduceAdd, Int.reduceToNat, Int.reduceNeg, Nat.reduceMul, Nat.reduceSub, abuild, afill, Int.reduceBNe, Int.reduceBEq, h0, h2, h3, h9, h10, h11]
      have hbN : Nb ((b, .cells (nl (S.getD (a + j) [])) 5 true) :: (h' ++ ((z, .cells (nl nought64) 5 true) :: r))) (.slice (some ⟨b, 0, some 0⟩) 64 64) (S.getD (a + j) []) := by
        have := nb_exact (b := b) (l := S.getD (a + j) []) (c := 64) (sp := some 0) (ty := 5) (own := true) (h := (b, .cells (nl (S.getD (a + j) [])) 5 true) :: (h' ++ ((z, .cells (nl nought64) 5 true) :: r))) (by simp) hsec.2
        rw [hsec.1] at this
        exact this
      refine ACallF.enter Try.func48 rfl (by kernel_rfl) (Equal_spec s2 _ _ _ _ _ hbN (hNb.sub fun e he => List.mem_cons_of_mem _ (List.mem_append_right _ he)) hO2 _ _ ?_)
      by_cases hE : S.getD (a + j) [] = nought64
      · rw [decide_eq_true hE]
        simp (config := { implicitDefEqProofs := false }) only [↓GP, GQ, ↓awp_seq, ↓awp_block, C_ex, Nat.reduceBEq, acap, afieldAddr, aload, astore, abin, anum, astr, aun, isAggD, cond_true, cond_false, ↓reduceIte, C_P, C_G, isTuple, Value.cells, setL, ares, aresL, ares1, reduceCtorEq, Nat.reduceEqDiff, eq_self, Nat.reduceAdd, if_true, if_false, one, Nat.reduceLeDiff, undef, gsl, aextract, aindexAddr, amake, implies_true, forall_const, alen, abuiltin, anil, isC, Int.reduceEq, Int.reduceLT, Int.reduceLE, Int.reduceAdd, Int.reduceToNat, Int.reduceNeg, Nat.reduceMul, Nat.reduceSub, abuild, afill, Int.reduceBNe, Int.reduceBEq, h0, h2, h3, h9, h10, h11, Try.underlying27, Try.underlying3, wnext]
        rw [if_neg (fun h => h.elim (by simp) fun h => h hE), List.append_nil] at step
        exact ⟨n - (j + 1), by omega, j + 1, z, fz', h', rfl, by omega, rfl, by rw [step], rfl, hsp, by rw [step]; exact hD', hO2'.sub (List.Sublist.append_left (List.sublist_cons_self _ _) _)⟩
      · rw [decide_eq_false hE]
        simp (config := { implicitDefEqProofs := false }) only [↓GP, GQ, ↓awp_seq, ↓awp_block, C_ex, Nat.reduceBEq, acap, afieldAddr, aload, astore, abin, anum, astr, aun, isAggD, cond_true, cond_false, ↓reduceIte, C_P, C_G, isTuple, Value.cells, setL, ares, aresL, ares1, reduceCtorEq, Nat.reduceEqDiff, eq_self, Nat.reduceAdd, if_true, if_false, one, Nat.reduceLeDiff, undef, gsl, aextract, aindexAddr, amake, implies_true, forall_const, alen, abuiltin, anil, isC, Int.reduceEq, Int.reduceLT, Int.reduceLE, Int.reduceAdd, Int.reduceToNat, Int.reduceNeg, Nat.reduceMul, Nat.reduceSub, abuild, afill, Int.reduceBNe, Int.reduceBEq, h0, h2, h3, h9, h10, h11]
        refine write (.inr hE) _ (fun s3 hx hne hD3 hO3 => ?_) (fun s3 hx fz3 hs3 hD3 hO3 => ?_)
        · simp (config := { implicitDefEqProofs := false }) only [↓GP, GQ, ↓awp_seq, ↓awp_block, C_ex, Nat.reduceBEq, acap, afieldAddr, aload, astore, abin, anum, astr, aun, isAggD, cond_true, cond_false, ↓reduceIte, C_P, C_G, isTuple, Value.cells, setL, ares, aresL, ares1, reduceCtorEq, Nat.reduceEqDiff, eq_self, Nat.reduceAdd, if_true, if_false, one, Nat.reduceLeDiff, undef, gsl, aextract, aindexAddr, amake, implies_true, forall_const, alen, abuiltin, anil, isC, Int.reduceEq, Int.reduceLT, Int.reduceLE, Int.reduceAdd, Int.reduceToNat, Int.reduceNeg, Nat.reduceMul, Nat.reduceSub, abuild, afill, Int.reduceBNe, Int.reduceBEq, h0, h2, h3, h9, h10, h11, Try.underlying27]
          exact hpow j hx s3 hne (by omega) hD3 hO3
        · simp (config := { implicitDefEqProofs := false }) only [↓GP, GQ, ↓awp_seq, ↓awp_block, C_ex, Nat.reduceBEq, acap, afieldAddr, aload, astore, abin, anum, astr, aun, isAggD, cond_true, cond_false, ↓reduceIte, C_P, C_G, isTuple, Value.cells, setL, ares, aresL, ares1, reduceCtorEq, Nat.reduceEqDiff, eq_self, Nat.reduceAdd, if_true, if_false, one, Nat.reduceLeDiff, undef, gsl, aextract, aindexAddr, amake, implies_true, forall_const, alen, abuiltin, anil, isC, Int.reduceEq, Int.reduceLT, Int.reduceLE, Int.reduceAdd, Int.reduceToNat, Int.reduceNeg, Nat.reduceMul, Nat.reduceSub, abuild, afill, Int.reduceBNe, Int.reduceBEq, h0, h2, h3, h9, h10, h11, Try.underlying27, Try.underlying3, wnext]
          exact ⟨n - (j + 1), by omega, j + 1, z, fz3, hx, rfl, by omega, rfl, by have := hany (.inr hE); rw [Bool.false_or] at this; rw [this], rfl, hs3, hD3, hO3⟩
  · obtain rfl : j = n := by omega
    simp (config := { implicitDefEqProofs := false }) only [↓GP, GQ, ↓awp_seq, ↓awp_block, C_ex, Nat.reduceBEq, acap, afieldAddr, aload, astore, abin, anum, astr, aun, isAggD, cond_true, cond_false, ↓reduceIte, C_P, C_G, isTuple, Value.cells, setL, ares, aresL, ares1, reduceCtorEq, Nat.reduceEqDiff, eq_self, Nat.reduceAdd, if_true, if_false, one, Nat.reduceLeDiff, undef, gsl, aextract, aindexAddr, amake, implies_true, forall_const, alen, abuiltin, anil, isC, Int.reduceEq, Int.reduceLT, Int.reduceLE, Int.reduceAdd, Int.reduceToNat, Int.reduceNeg, Nat.reduceMul, Nat.reduceSub, abuild, afill, Int.reduceBNe, Int.reduceBEq, h0, h2, h3, h9, h10, h11, show ¬ ((a + j : Nat) : Int) < ((a + j : Nat) : Int) by omega, decide_false]
    cases hb : (all || !(noughtF S all a j).isEmpty) with
    | true =>
      simp (config := { implicitDefEqProofs := false }) only [↓GP, GQ, ↓awp_seq, ↓awp_block, C_ex, Nat.reduceBEq, acap, afieldAddr, aload, astore, abin, anum, astr, aun, isAggD, cond_true, cond_false, ↓reduceIte, C_P, C_G, isTuple, Value.cells, setL, ares, aresL, ares1, reduceCtorEq, Nat.reduceEqDiff, eq_self, Nat.reduceAdd, if_true, if_false, one, Nat.reduceLeDiff, undef, gsl, aextract, aindexAddr, amake, implies_true, forall_const, alen, abuiltin, anil, isC, Int.reduceEq, Int.reduceLT, Int.reduceLE, Int.reduceAdd, Int.reduceToNat, Int.reduceNeg, Nat.reduceMul, Nat.reduceSub, abuild, afill, Int.reduceBNe, Int.reduceBEq]
      have hO'' := hO'.sub (List.Sublist.append_left (List.sublist_cons_self _ r) h')
      refine SyncN s r h' p S _ fz' hD' hO'' hsp.1.2 hLl _ _ (fun hz => ?_) (fun h5 s5 hz hD5 hO5 => ?_)
      · simp (config := { implicitDefEqProofs := false }) only [↓GP, GQ, ↓awp_seq, ↓awp_block, C_ex, Nat.reduceBEq, acap, afieldAddr, aload, astore, abin, anum, astr, aun, isAggD, cond_true, cond_false, ↓reduceIte, C_P, C_G, isTuple, Value.cells, setL, ares, aresL, ares1, reduceCtorEq, Nat.reduceEqDiff, eq_self, Nat.reduceAdd, if_true, if_false, one, Nat.reduceLeDiff, undef, gsl, aextract, aindexAddr, amake, implies_true, forall_const, alen, abuiltin, anil, isC, Int.reduceEq, Int.reduceLT, Int.reduceLE, Int.reduceAdd, Int.reduceToNat, Int.reduceNeg, Nat.reduceMul, Nat.reduceSub, abuild, afill, Int.reduceBNe, Int.reduceBEq]
        subst hz
        exact hpow j h' s (fun e => by have := hsp.2.1 e; omega) (Nat.le_refl _) hD' hO''
      · simp (config := { implicitDefEqProofs := false }) only [↓GP, GQ, ↓awp_seq, ↓awp_block, C_ex, Nat.reduceBEq, acap, afieldAddr, aload, astore, abin, anum, astr, aun, isAggD, cond_true, cond_false, ↓reduceIte, C_P, C_G, isTuple, Value.cells, setL, ares, aresL, ares1, reduceCtorEq, Nat.reduceEqDiff, eq_self, Nat.reduceAdd, if_true, if_false, one, Nat.reduceLeDiff, undef, gsl, aextract, aindexAddr, amake, implies_true, forall_const, alen, abuiltin, anil, isC, Int.reduceEq, Int.reduceLT, Int.reduceLE, Int.reduceAdd, Int.reduceToNat, Int.reduceNeg, Nat.reduceMul, Nat.reduceSub, abuild, afill, Int.reduceBNe, Int.reduceBEq]
        exact hok _ h5 s5 (hsp.dec hz) hD5 hO5
    | false =>
      simp (config := { implicitDefEqProofs := false }) only [↓GP, GQ, ↓awp_seq, ↓awp_block, C_ex, Nat.reduceBEq, acap, afieldAddr, aload, astore, abin, anum, astr, aun, isAggD, cond_true, cond_false, ↓reduceIte, C_P, C_G, isTuple, Value.cells, setL, ares, aresL, ares1, reduceCtorEq, Nat.reduceEqDiff, eq_self, Nat.reduceAdd, if_true, if_false, one, Nat.reduceLeDiff, undef, gsl, aextract, aindexAddr, amake, implies_true, forall_const, alen, abuiltin, anil, isC, Int.reduceEq, Int.reduceLT, Int.reduceLE, Int.reduceAdd, Int.reduceToNat, Int.reduceNeg, Nat.reduceMul, Nat.reduceSub, abuild, afill, Int.reduceBNe, Int.reduceBEq]
      have he : noughtF S all a j = [] := by
        rw [Bool.or_eq_false_iff] at hb
        simpa using hb.2
      rw [he] at hD' hok
      exact hok fz' h' s hsp hD' (hO'.sub (List.Sublist.append_left (List.sublist_cons_self _ r) h'))
end Go.Proofs.Ytiooigkcliomlaa
/- bytes.Clone; slices.Chunk, whatever is done with the chunks. No conditions. -/
set_option linter.unusedVariables false
set_option linter.unusedSimpArgs false
namespace Go.Proofs.Ytiooigkcliomlaa
open Go Go.Abs Go.RowKit
variable {base : Nat} {w0 : World} {G : Nat}

set_option maxRecDepth 10000 in
theorem CloneN (st : St) (r : Hp) (v : Value) (l : List Nat) (hv : Nb r v l) (hl : l.length ≤ 1000000) (hO : Own st r) (k q : Value → St → Prop)
    (hk : ∀ v' h' st', GVc v' (nl l) l.length 1 5 h' → Own st' (h' ++ r) → k v' st') : ACallF (C base w0 G) 44 [v] st k q := by
  by_cases hne : l = []
  · subst hne
    refine ACallF.enter Try.func44 rfl (by kernel_rfl) ?_
    refine ACall.of (cx := C base w0 G) mixed Try.func44 rfl (by kernel_rfl) (by simp [Try.ntmps44]) ?_
    simp only [Try.results44]
    obtain ⟨a, c, hvs⟩ := hv.isSlice
    rcases hv.1 with ⟨_, rfl | ⟨x, o, sp, c', rfl⟩⟩ | ⟨x, o, sp, c', cs, ty, own, rfl, hm, hc⟩
    · simp (config := { implicitDefEqProofs := false }) only [↓GP, GQ, ↓awp_seq, ↓awp_block, C_ex, Nat.reduceBEq, acap, afieldAddr, aload, astore, abin, anum, astr, aun, isAggD, cond_true, cond_false, ↓reduceIte, C_P, C_G, isTuple, Value.cells, setL, ares, aresL, ares1, reduceCtorEq, Nat.reduceEqDiff, eq_self, Nat.reduceAdd, if_true, if_false, one, Nat.reduceLeDiff, undef, gsl, aextract, aindexAddr, amake, implies_true, forall_const, alen, abuiltin, anil, isC, Int.reduceEq, Int.reduceLT, Int.reduceLE, Int.reduceAdd, Int.reduceToNat, Int.reduceNeg, Nat.reduceMul, Nat.reduceSub, abuild, afill, Int.reduceBNe, Int.reduceBEq, Try.underlying23]
      exact hk _ [] st GVc.nil hO
    all_goals
      have hO1 := hO.new (.cells [] 5 true)
      have hs := (hv.sub fun e he => List.mem_cons_of_mem _ he).src hO1
      simp (config := { implicitDefEqProofs := false }) only [↓GP, GQ, ↓awp_seq, ↓awp_block, C_ex, Nat.reduceBEq, acap, afieldAddr, aload, astore, abin, anum, astr, aun, isAggD, cond_true, cond_false, ↓reduceIte, C_P, C_G, isTuple, Value.cells, setL, ares, aresL, ares1, reduceCtorEq, Nat.reduceEqDiff, eq_self, Nat.reduceAdd, if_true, if_false, one, Nat.reduceLeDiff, undef, gsl, aextract, aindexAddr, amake, implies_true, forall_const, alen, abuiltin, anil, isC, Int.reduceEq, Int.reduceLT, Int.reduceLE, Int.reduceAdd, Int.reduceToNat, Int.reduceNeg, Nat.reduceMul, Nat.reduceSub, abuild, afill, Int.reduceBNe, Int.reduceBEq, Try.underlying23, abuildSlice_none (st := st) Try.underlying23 asz5 azc5, List.map_nil]
      simp only [List.map_nil, List.length_nil] at hs
      rw [aappend_fit (cs := []) (m := 0) (Cs := []) (len := 0) (cap := 0) Try.underlying23 (by rw [Try.underlying23]; rfl) asz5 azc5 aby5 hs rfl hO1.head (by omega) (by simp), setL, set_self hO1.head]
      simp (config := { implicitDefEqProofs := false }) only [↓GP, GQ, ↓awp_seq, ↓awp_block, C_ex, Nat.reduceBEq, acap, afieldAddr, aload, astore, abin, anum, astr, aun, isAggD, cond_true, cond_false, ↓reduceIte, C_P, C_G, isTuple, Value.cells, setL, ares, aresL, ares1, reduceCtorEq, Nat.reduceEqDiff, eq_self, Nat.reduceAdd, if_true, if_false, one, Nat.reduceLeDiff, undef, gsl, aextract, aindexAddr, amake, implies_true, forall_const, alen, abuiltin, anil, isC, Int.reduceEq, Int.reduceLT, Int.reduceLE, Int.reduceAdd, Int.reduceToNat, Int.reduceNeg, Nat.reduceMul, Nat.reduceSub, abuild, afill, Int.reduceBNe, Int.reduceBEq]
      exact hk _ [(st.n, .cells [] 5 true)] _ (.inr (.inl ⟨st.n, rfl, rfl, rfl, rfl⟩)) hO1
  · refine ACallF.enter Try.func44 rfl (by kernel_rfl) (Clone_spec st r v (ci l) hO hv.1 (by simpa [ci] using hne) (by rw [ci_length]; omega) k q fun b st' hO' => ?_)
    rw [ci_length]
    refine hk _ [(b, .cells (nl l) 5 true)] st' (GV.c (.inr ⟨b, rfl, rfl, by rw [nl_length, Nat.mul_one]⟩)) hO'
set_option maxRecDepth 10000 in
theorem Chunk_spec (st : St) (r : Hp) (v : Value) (hv : ∃ a n c, v = .slice a n c) (hO : Own st r) (k q : Value → St → Prop)
    (hk : ∀ X N st', Own st' ((N, .cells [.int .i64 64] 3 true) :: (X, .cells [v] 23 true) :: r) → k (.func (.func 53) #[] #[.pointer (some ⟨X, 0, none⟩), .pointer (some ⟨N, 0, none⟩)]) st') :
    ACallF (C base w0 G) 49 [v, .int .i64 64] st k q := by
  refine ACallF.enter Try.func49 rfl (by kernel_rfl) ?_
  refine ACall.of (cx := C base w0 G) mixed Try.func49 rfl (by kernel_rfl) (by simp [Try.ntmps49]) ?_
  simp only [Try.results49]
  obtain ⟨a, n, c, rfl⟩ := hv
  simp (config := { implicitDefEqProofs := false }) only [↓GP, GQ, ↓awp_seq, ↓awp_block, C_ex, Nat.reduceBEq, acap, afieldAddr, aload, astore, abin, anum, astr, aun, isAggD, cond_true, cond_false, ↓reduceIte, C_P, C_G, isTuple, Value.cells, setL, ares, aresL, ares1, reduceCtorEq, Nat.reduceEqDiff, eq_self, Nat.reduceAdd, if_true, if_false, one, Nat.reduceLeDiff, undef, gsl, aextract, aindexAddr, amake, implies_true, forall_const, alen, abuiltin, anil, isC, Int.reduceEq, Int.reduceLT, Int.reduceLE, Int.reduceAdd, Int.reduceToNat, Int.reduceNeg, Nat.reduceMul, Nat.reduceSub, abuild, afill, Int.reduceBNe, Int.reduceBEq, Try.underlying3, abox, asz3, List.map_toArray]
  exact hk st.n (st.n + 1) _ ((hO.new (.cells [.slice a n c] 23 true)).new (.cells [.int .i64 64] 3 true))
def abounds3 (lo hi len cap : Nat) : Prop := lo ≤ hi ∧ hi ≤ cap
theorem abounds_three {len cap lo hi : Nat} (h : lo ≤ hi) (h2 : hi ≤ cap) : abounds len cap (some (.int .i64 lo)) (some (.int .i64 hi)) (some (.int .i64 hi)) = some (lo, hi, hi) := by
  simp [abounds, bnd, h, h2]
theorem aslice_three {P : Program} {st : St} {t e : TypeId} {n B off len cap : Nat} {sp : Option Nat} {lo hi : Nat} (hu : P.underlying t = some (.slice e)) (hn : asz P e = some n) (h : lo ≤ hi) (h2 : hi ≤ cap) :
    aslice P st t (.slice (some ⟨B, off, sp⟩) len cap) (some (.int .i64 lo)) (some (.int .i64 hi)) (some (.int .i64 hi)) = some (.slice (some ⟨B, off + lo * n, none⟩) (hi - lo) (hi - lo)) := by
  simp [aslice, hu, hn, abounds_three h h2]
set_option maxRecDepth 10000 in
theorem chunks_spec (st : St) (B X N m z : Nat) (v : Value) (hv : (m = 0 ∧ ∃ a c, v = .slice a 0 c) ∨ ∃ cap, 64 * m ≤ cap ∧ v = .slice (some ⟨z, 0, some 0⟩) (64 * m) cap) (hm : m ≤ 20000) (J : Nat → St → Prop) (E : St → Prop) (k q : Value → St → Prop)
    (hJ : ∀ i s, J i s → s.H X = some (.cells [v] 23 true) ∧ s.H N = some (.cells [.int .i64 64] 3 true) ∧ (m ≠ 0 → ∃ cs, s.H z = some (.cells cs 5 true)))
    (h0 : J 0 st) (hy : ∀ i s, i < m → J i s → AYield (C base w0 G) B [.slice (some ⟨z, 64 * i, none⟩) 64 64] s fun V s' => (V = .bool true ∧ J (i + 1) s') ∨ (V = .bool false ∧ E s'))
    (hk1 : ∀ s, J m s → k (.tuple #[]) s) (hk2 : ∀ s, E s → k (.tuple #[]) s) :
    ACall (C base w0 G) 53 [.func (.yield B) #[] #[], .pointer (some ⟨X, 0, none⟩), .pointer (some ⟨N, 0, none⟩)] st k q := by
  refine ACall.of (cx := C base w0 G) mixed Try.func53 rfl (by kernel_rfl) (by simp [Try.ntmps53]) ?_
  simp only [Try.results53]
  have hlen : ∃ a c, v = .slice a (64 * m) c := by
    rcases hv with ⟨rfl, a, c, rfl⟩ | ⟨cap, hcap, rfl⟩
    · exact ⟨a, c, rfl⟩
    · exact ⟨_, _, rfl⟩
  simp (config := { implicitDefEqProofs := false }) only [↓GP, GQ, ↓awp_seq, ↓awp_block, C_ex, Nat.reduceBEq, acap, afieldAddr, aload, astore, abin, anum, astr, aun, isAggD, cond_true, cond_false, ↓reduceIte, C_P, C_G, isTuple, Value.cells, setL, ares, aresL, ares1, reduceCtorEq, Nat.reduceEqDiff, eq_self, Nat.reduceAdd, if_true, if_false, one, Nat.reduceLeDiff, undef, gsl, aextract, aindexAddr, amake, implies_true, forall_const, alen, abuiltin, anil, isC, Int.reduceEq, Int.reduceLT, Int.reduceLE, Int.reduceAdd, Int.reduceToNat, Int.reduceNeg, Nat.reduceMul, Nat.reduceSub, abuild, afill, Int.reduceBNe, Int.reduceBEq]
  refine ⟨fun c ρ s => ∃ i : Nat, c = m - i ∧ i ≤ m ∧ ρ 0 = .func (.yield B) #[] #[] ∧ ρ 1 = .pointer (some ⟨X, 0, none⟩) ∧ ρ 2 = .pointer (some ⟨N, 0, none⟩) ∧ ρ 4 = .int .i64 (64 * i : Nat) ∧ J i s, ⟨m, 0, rfl, Nat.zero_le _, rfl, rfl, rfl, rfl, h0⟩, ?_⟩
  rintro c ρ s ⟨i, rfl, hi, p0, p1, p2, p4, hJi⟩
  obtain ⟨hX, hN, hz⟩ := hJ i s hJi
  obtain ⟨a, c, hvl⟩ := hlen
  by_cases him : i < m
  · rcases hv with ⟨rfl, _⟩ | ⟨cap, hcap, rfl⟩
    · omega
    obtain ⟨cs, hz⟩ := hz (by omega)
    have e1 : aslice Try.prog s 23 (.slice (some ⟨z, 0, some 0⟩) (64 * m) cap) (some (.int .i64 (64 * i : Nat))) none none = some (.slice (some ⟨z, 64 * i, some 0⟩) (64 * m - 64 * i) (cap - 64 * i)) := by
      have := aslice_of (P := Try.prog) (st := s) (sp := 0) (B := z) (off := 0) (len := 64 * m) (cap := cap) (lo := some (.int .i64 (64 * i : Nat))) (hi := none) Try.underlying23 asz5 (openOK_open hz asz5) (abounds_lo (lo := 64 * i) (by omega) hcap)
      simpa using this
    have hmin : amm false (.int .i64 64) [.int .i64 (64 * m - 64 * i : Nat)] = some (.int .i64 64) := by
      simp only [amm, Bool.false_eq_true, if_false]
      rw [if_neg (by omega)]
    have w1 : IntKind.i64.wrap ((64 * i : Nat) + 64) = ((64 * i + 64 : Nat) : Int) := by rw [w_i64 (by omega)]; omega
    have e2 : aslice Try.prog s 23 (.slice (some ⟨z, 0, some 0⟩) (64 * m) cap) (some (.int .i64 (64 * i : Nat))) (some (.int .i64 (64 * i + 64 : Nat))) (some (.int .i64 (64 * i + 64 : Nat))) = some (.slice (some ⟨z, 64 * i, none⟩) 64 64) := by
      rw [aslice_three Try.underlying23 asz5 (by omega) (by omega)]
      simp
    simp (config := { implicitDefEqProofs := false }) only [↓GP, GQ, ↓awp_seq, ↓awp_block, C_ex, Nat.reduceBEq, acap, afieldAddr, aload, astore, abin, anum, astr, aun, isAggD, cond_true, cond_false, ↓reduceIte, C_P, C_G, isTuple, Value.cells, setL, ares, aresL, ares1, reduceCtorEq, Nat.reduceEqDiff, eq_self, Nat.reduceAdd, if_true, if_false, one, Nat.reduceLeDiff, undef, gsl, aextract, aindexAddr, amake, implies_true, forall_const, alen, abuiltin, anil, isC, Int.reduceEq, Int.reduceLT, Int.reduceLE, Int.reduceAdd, Int.reduceToNat, Int.reduceNeg, Nat.reduceMul, Nat.reduceSub, abuild, afill, Int.reduceBNe, Int.reduceBEq, p0, p1, p2, p4, hX, hN, asz23, asz3, Try.underlying23, Try.underlying3, show ((64 * i : Nat) : Int) < ((64 * m : Nat) : Int) by omega, decide_true]
    refine ADraw.of [(0, false, []), (1, false, []), (2, false, []), (3, false, []), (4, false, []), (5, false, []), (6, false, [])] [] [] (by kernel_rfl) ?_
    simp (config := { implicitDefEqProofs := false }) only [↓GP, GQ, ↓awp_seq, ↓awp_block, C_ex, Nat.reduceBEq, acap, afieldAddr, aload, astore, abin, anum, astr, aun, isAggD, cond_true, cond_false, ↓reduceIte, C_P, C_G, isTuple, Value.cells, setL, ares, aresL, ares1, reduceCtorEq, Nat.reduceEqDiff, eq_self, Nat.reduceAdd, if_true, if_false, one, Nat.reduceLeDiff, undef, gsl, aextract, aindexAddr, amake, implies_true, forall_const, alen, abuiltin, anil, isC, Int.reduceEq, Int.reduceLT, Int.reduceLE, Int.reduceAdd, Int.reduceToNat, Int.reduceNeg, Nat.reduceMul, Nat.reduceSub, abuild, afill, Int.reduceBNe, Int.reduceBEq, p0, p1, p2, p4, hX, hN, asz23, asz3, Try.underlying23, Try.underlying3, e1, hmin, w1, e2]
    refine (hy i s him hJi).mono fun V s' hV => ?_
    rcases hV with ⟨rfl, hJ'⟩ | ⟨rfl, hE⟩
    · obtain ⟨hX', hN', _⟩ := hJ _ _ hJ'
      simp (config := { implicitDefEqProofs := false }) only [↓GP, GQ, ↓awp_seq, ↓awp_block, C_ex, Nat.reduceBEq, acap, afieldAddr, aload, astore, abin, anum, astr, aun, isAggD, cond_true, cond_false, ↓reduceIte, C_P, C_G, isTuple, Value.cells, setL, ares, aresL, ares1, reduceCtorEq, Nat.reduceEqDiff, eq_self, Nat.reduceAdd, if_true, if_false, one, Nat.reduceLeDiff, undef, gsl, aextract, aindexAddr, amake, implies_true, forall_const, alen, abuiltin, anil, isC, Int.reduceEq, Int.reduceLT, Int.reduceLE, Int.reduceAdd, Int.reduceToNat, Int.reduceNeg, Nat.reduceMul, Nat.reduceSub, abuild, afill, Int.reduceBNe, Int.reduceBEq, p0, p1, p2, p4, hX', hN', asz3, Try.underlying3, w1]
      exact ⟨m - (i + 1), by omega, i + 1, rfl, by omega, rfl, hJ'⟩
    · simp (config := { implicitDefEqProofs := false }) only [↓GP, GQ, ↓awp_seq, ↓awp_block, C_ex, Nat.reduceBEq, acap, afieldAddr, aload, astore, abin, anum, astr, aun, isAggD, cond_true, cond_false, ↓reduceIte, C_P, C_G, isTuple, Value.cells, setL, ares, aresL, ares1, reduceCtorEq, Nat.reduceEqDiff, eq_self, Nat.reduceAdd, if_true, if_false, one, Nat.reduceLeDiff, undef, gsl, aextract, aindexAddr, amake, implies_true, forall_const, alen, abuiltin, anil, isC, Int.reduceEq, Int.reduceLT, Int.reduceLE, Int.reduceAdd, Int.reduceToNat, Int.reduceNeg, Nat.reduceMul, Nat.reduceSub, abuild, afill, Int.reduceBNe, Int.reduceBEq]
      exact hk2 s' hE
  · obtain rfl : i = m := by omega
    simp (config := { implicitDefEqProofs := false }) only [↓GP, GQ, ↓awp_seq, ↓awp_block, C_ex, Nat.reduceBEq, acap, afieldAddr, aload, astore, abin, anum, astr, aun, isAggD, cond_true, cond_false, ↓reduceIte, C_P, C_G, isTuple, Value.cells, setL, ares, aresL, ares1, reduceCtorEq, Nat.reduceEqDiff, eq_self, Nat.reduceAdd, if_true, if_false, one, Nat.reduceLeDiff, undef, gsl, aextract, aindexAddr, amake, implies_true, forall_const, alen, abuiltin, anil, isC, Int.reduceEq, Int.reduceLT, Int.reduceLE, Int.reduceAdd, Int.reduceToNat, Int.reduceNeg, Nat.reduceMul, Nat.reduceSub, abuild, afill, Int.reduceBNe, Int.reduceBEq, p0, p1, p2, p4, hX, hN, hvl, asz23, asz3, Try.underlying23, Try.underlying3, Int.lt_irrefl, decide_false]
    exact hk1 s hJi
/-- A loop over chunks: what holds behind so many rounds (of the blocks, the loop's record left out); what holds where a round has returned. -/
theorem range_chunks (st : St) (F0 : Hp) {X N m z t : Nat} {v : Value} (hv : (m = 0 ∧ ∃ a c, v = .slice a 0 c) ∨ ∃ cap, 64 * m ≤ cap ∧ v = .slice (some ⟨z, 0, some 0⟩) (64 * m) cap) (hm : m ≤ 20000) {x y : Code} {ρ : Env} {Q : Post} {q : PostP} (P : Nat → Hp → Prop) (R : Hp → Prop) (ρx : Env → Value → Env)
    (hO : Own st F0) (h0 : P 0 F0) (hP : ∀ i F, P i F → (X, Ob.cells [v] 23 true) ∈ F ∧ (N, Ob.cells [.int .i64 64] 3 true) ∈ F ∧ (m ≠ 0 → ∃ cs, (z, Ob.cells cs 5 true) ∈ F))
    (hx : ∀ c s (K : Post) (q : PostP), K .normal (ρx ρ c) s → awp (C base w0 G) x K q (put ρ t c) s)
    (hy : ∀ i s F B o (K : Post), i < m → P i F → Own s ((B, .loop o) :: F) → (∀ ρ' s' F', P (i + 1) F' → Own s' ((B, .loop o) :: F') → K .normal ρ' s') → (∀ ρ' s' F', R F' → Own s' ((B, .loop o) :: F') → K .ret ρ' s') →
      awp (C base w0 G) y K (fun _ _ => False) (ρx ρ (.slice (some ⟨z, 64 * i, none⟩) 64 64)) s)
    (hq1 : ∀ s F, P m F → Own s F → Q .normal ρ s) (hq2 : ∀ s F, R F → Own s F → Q .ret ρ s) :
    arange (C base w0 G) (.func (.func 53) #[] #[.pointer (some ⟨X, 0, none⟩), .pointer (some ⟨N, 0, none⟩)]) #[t] x y Q q ρ st := by
  refine arange.enter Try.func53 rfl (by kernel_rfl) ?_
  refine chunks_spec (base := base) (w0 := w0) (G := G) _ st.n X N m z v hv hm (fun i s => ∃ F, P i F ∧ Own s ((st.n, .loop ⟨ρ, #[t], x, y, .ready, none⟩) :: F)) (fun s => ∃ F, R F ∧ Own s ((st.n, .loop ⟨ρ, #[t], x, y, .done, some .ret⟩) :: F)) _ q
    (fun i s hJ => ?_) ⟨F0, h0, hO.new _⟩ (fun i s hi hJ => ?_) (fun s hJ => ?_) (fun s hE => ?_)
  · obtain ⟨F, hF, hs⟩ := hJ
    obtain ⟨a1, a2, a3⟩ := hP i F hF
    exact ⟨hs.get (List.mem_cons_of_mem _ a1), hs.get (List.mem_cons_of_mem _ a2), fun h => let ⟨cs, h⟩ := a3 h; ⟨cs, hs.get (List.mem_cons_of_mem _ h)⟩⟩
  · obtain ⟨F, hF, hs⟩ := hJ
    refine AYield.of mixed hs.head rfl ?_
    refine hx _ s _ _ ?_
    show abegin st.n _ s (s.H st.n)
    rw [hs.head]
    refine ⟨rfl, hy i _ F st.n _ _ hi hF (hs.set rfl (.loop ⟨ρ, #[t], x, y, .busy, none⟩) rfl) (fun ρ' s' F' hF' hs' => ?_) (fun ρ' s' F' hF' hs' => ?_)⟩
    · dsimp only [roundQ]
      rw [hs'.head]
      exact .inl ⟨rfl, F', hF', hs'.set rfl (.loop ⟨ρ, #[t], x, y, .ready, none⟩) rfl⟩
    · dsimp only [roundQ]
      rw [hs'.head]
      exact .inr ⟨rfl, F', hF', hs'.set rfl (.loop ⟨ρ, #[t], x, y, .done, some .ret⟩) rfl⟩
  · obtain ⟨F, hF, hs⟩ := hJ
    show aend st.n Q ρ s (s.H st.n)
    rw [hs.head]
    exact ⟨by simp, hq1 _ F hF (hs.kill rfl)⟩
  · obtain ⟨F, hF, hs⟩ := hE
    show aend st.n Q ρ s (s.H st.n)
    rw [hs.head]
    exact ⟨by simp, hq2 _ F hF (hs.kill rfl)⟩
end Go.Proofs.Ytiooigkcliomlaa
/- A record is written. No conditions. -/
set_option linter.unusedVariables false
set_option linter.unusedSimpArgs false
namespace Go.Proofs.Ytiooigkcliomlaa
open Go Go.Abs Go.RowKit
variable {base : Nat} {w0 : World} {G : Nat}

def padN (l : List Nat) : List Nat := l ++ List.replicate (needN l.length * 64 - l.length) 0
def chunkN (l : List Nat) (i : Nat) : List Nat := ((padN l).drop (64 * i)).take 64
/-- The writes of a record's sectors behind its head. -/
def payF (l : List Nat) (a : Nat) : Nat → List LN
  | 0 => []
  | k + 1 => payF l a k ++ [(a + 1 + k, chunkN l k)]
theorem payF_length (l : List Nat) (a : Nat) : ∀ k, (payF l a k).length = k
  | 0 => rfl
  | k + 1 => by rw [payF, List.length_append, payF_length l a k]; rfl
theorem padN_length (l : List Nat) : (padN l).length = 64 * needN l.length := by
  unfold padN
  rw [List.length_append, List.length_replicate]
  unfold needN; omega
theorem padN_lt {l : List Nat} (h : ∀ d ∈ l, d < 256) : ∀ d ∈ padN l, d < 256 := by
  intro d hd
  rcases List.mem_append.1 hd with e | e
  · exact h d e
  · rw [List.eq_of_mem_replicate e]; decide
theorem chunkN_sec {l : List Nat} (h : ∀ d ∈ l, d < 256) {i : Nat} (hi : i < needN l.length) : Sec (chunkN l i) := by
  refine ⟨?_, fun d hd => padN_lt h d (List.mem_of_mem_drop (List.mem_of_mem_take hd))⟩
  unfold chunkN
  rw [List.length_take, List.length_drop, padN_length]; omega
/-- How a write may fail. -/
def WFail (S : List (List Nat)) (a g num : Nat) (l : List Nat) (S' : List (List Nat)) (L' : List LN) : Prop :=
  (S' = S ∧ ∃ j, j ≤ needN l.length ∧ L' = payF l a j) ∨ (S' = appN S (payF l a (needN l.length)) ∧ (L' = [] ∨ L' = [(a, headL g num l)]))
def wrote (S : List (List Nat)) (a g num : Nat) (l : List Nat) : List (List Nat) := appN (appN S (payF l a (needN l.length))) [(a, headL g num l)]
theorem chunk_nb {h : Hp} {z : Nat} {D : List Value} {l : List Nat} (hl : ∀ d ∈ l, d < 256) (hm : (z, Ob.cells D 5 true) ∈ h) (hc : cut D 0 (64 * needN l.length * 1) = some (nl (padN l))) {i : Nat} (hi : i < needN l.length) : Nb h (.slice (some ⟨z, 64 * i, none⟩) 64 64) (chunkN l i) := by
  have hs := chunkN_sec hl hi
  obtain ⟨c1, c2, c3⟩ := cut_spec hc
  refine ⟨.inr ⟨z, 64 * i, none, 64, D, 5, true, by rw [List.length_map, hs.1], hm, ?_⟩, hs.2⟩
  rw [List.length_map, hs.1, cut, if_pos (by omega)]
  show some _ = some (nl (chunkN l i))
  rw [chunkN, ← nl_take, ← nl_drop, c2, List.drop_zero, List.drop_take, List.take_take]
  congr 1
  rw [Nat.min_eq_left (by omega)]
set_option maxHeartbeats 1000000 in
set_option maxRecDepth 10000 in
theorem write_spec (st : St) (r h : Hp) (p : Nat) (S : List (List Nat)) (fz : Int) (a g num : Nat) (bv : Value) (l : List Nat) (hD : DN p S [] fz h) (hO : Own st (h ++ r)) (hb : Nb r bv l) (hl : l.length ≤ 300000) (hfz : FZ fz) (hn : a + 1 + needN l.length ≤ S.length) (hS : S.length ≤ 5000)
    (hg : g < 4294967296) (hnum : num < 4294967296) (k q : Value → St → Prop)
    (hpow : ∀ S' L' h' st', fz ≠ -1 → WFail S a g num l S' L' → DN p S' L' 0 h' → Own st' (h' ++ r) → k (.int .i64 50) st')
    (hok : ∀ fz' h' st', Spent fz fz' → DN p (wrote S a g num l) [] fz' h' → Own st' (h' ++ r) → k (.int .i64 0) st') :
    ACall (C base w0 G) 35 [.pointer (some ⟨p, 0, none⟩), .int .i64 a, .int .i64 g, .int .i64 num, bv] st k q := by
  obtain ⟨ba, bc, hbs⟩ := hb.isSlice
  have hml : needN l.length ≤ 5000 := by omega
  have hpl := padN_length l
  refine ACall.of (cx := C base w0 G) mixed Try.func35 rfl (by kernel_rfl) (by simp [Try.ntmps35]) ?_
  simp only [Try.results35]
  simp (config := { implicitDefEqProofs := false }) only [↓GP, GQ, ↓awp_seq, ↓awp_block, C_ex, Nat.reduceBEq, acap, afieldAddr, aload, astore, abin, anum, astr, aun, isAggD, cond_true, cond_false, ↓reduceIte, C_P, C_G, isTuple, Value.cells, setL, ares, aresL, ares1, reduceCtorEq, Nat.reduceEqDiff, eq_self, Nat.reduceAdd, if_true, if_false, one, Nat.reduceLeDiff, undef, gsl, aextract, aindexAddr, amake, implies_true, forall_const, alen, abuiltin, anil, isC, Int.reduceEq, Int.reduceLT, Int.reduceLE, Int.reduceAdd, Int.reduceToNat, Int.reduceNeg, Nat.reduceMul, Nat.reduceSub, abuild, afill, Int.reduceBNe, Int.reduceBEq, abox, asz26, aalloc, azc27]
  have hO1 : Own _ ((st.n + 1, .cells [.int .i64 0] 27 true) :: (st.n, .cells [.pointer (some ⟨p, 0, none⟩)] 26 true) :: (h ++ r)) := (hO.new (.cells [.pointer (some ⟨p, 0, none⟩)] 26 true)).new (.cells [.int .i64 0] 27 true)
  generalize st.n + 1 = c10 at *
  generalize st.n = c5 at *
  generalize St.new (St.new st _) _ = s1 at *
  have hb1 : Nb ((c10, .cells [.int .i64 0] 27 true) :: (c5, .cells [.pointer (some ⟨p, 0, none⟩)] 26 true) :: (h ++ r)) bv l := hb.sub fun e he => by simp [he]
  refine CloneN s1 _ bv l hb1 (by omega) hO1 _ _ fun v2 h2 s2 hG2 hO2 => ?_
  obtain ⟨a2, c2, hv2⟩ := hG2.isSlice
  have wm : IntKind.i64.wrap (((needN l.length : Nat) : Int) * 64) = ((needN l.length * 64 : Nat) : Int) := by rw [w_i64 (by omega)]; omega
  have ws : IntKind.i64.wrap (((needN l.length * 64 : Nat) : Int) - (l.length : Int)) = ((needN l.length * 64 - l.length : Nat) : Int) := by unfold needN; rw [w_i64 (by omega)]; omega
  simp (config := { implicitDefEqProofs := false }) only [↓GP, GQ, ↓awp_seq, ↓awp_block, C_ex, Nat.reduceBEq, acap, afieldAddr, aload, astore, abin, anum, astr, aun, isAggD, cond_true, cond_false, ↓reduceIte, C_P, C_G, isTuple, Value.cells, setL, ares, aresL, ares1, reduceCtorEq, Nat.reduceEqDiff, eq_self, Nat.reduceAdd, if_true, if_false, one, Nat.reduceLeDiff, undef, gsl, aextract, aindexAddr, amake, implies_true, forall_const, alen, abuiltin, anil, isC, Int.reduceEq, Int.reduceLT, Int.reduceLE, Int.reduceAdd, Int.reduceToNat, Int.reduceNeg, Nat.reduceMul, Nat.reduceSub, abuild, afill, Int.reduceBNe, Int.reduceBEq, hbs, Try.underlying23, Try.underlying3]
  refine ACallF.enter Try.func38 rfl (by kernel_rfl) (need_spec s2 l.length (by omega) _ _ ?_)
  simp (config := { implicitDefEqProofs := false }) only [↓GP, GQ, ↓awp_seq, ↓awp_block, C_ex, Nat.reduceBEq, acap, afieldAddr, aload, astore, abin, anum, astr, aun, isAggD, cond_true, cond_false, ↓reduceIte, C_P, C_G, isTuple, Value.cells, setL, ares, aresL, ares1, reduceCtorEq, Nat.reduceEqDiff, eq_self, Nat.reduceAdd, if_true, if_false, one, Nat.reduceLeDiff, undef, gsl, aextract, aindexAddr, amake, implies_true, forall_const, alen, abuiltin, anil, isC, Int.reduceEq, Int.reduceLT, Int.reduceLE, Int.reduceAdd, Int.reduceToNat, Int.reduceNeg, Nat.reduceMul, Nat.reduceSub, abuild, afill, Int.reduceBNe, Int.reduceBEq, hbs, Try.underlying23, Try.underlying3, wm, ws]
  refine GVc.appendZ (m := needN l.length * 64 - l.length) Try.underlying23 (by rw [Try.underlying3]; rfl) asz5 azc5 aby5 hG2 hO2 (by unfold needN; omega) rfl rfl (by unfold needN; omega) fun v3 h3 s3 hG3 hO3 => ?_
  have hn3 : l.length + (needN l.length * 64 - l.length) = 64 * needN l.length := by unfold needN; omega
  rw [zeros_nl, ← nl_append, hn3] at hG3
  have hG3 : GVc v3 (nl (padN l)) (64 * needN l.length) 1 5 h3 := hG3
  have hO4 : Own _ ((s3.n, .cells [.int .i64 a] 3 true) :: (h3 ++ ((c10, .cells [.int .i64 0] 27 true) :: (c5, .cells [.pointer (some ⟨p, 0, none⟩)] 26 true) :: (h ++ r)))) := (hO3.new (.cells [.int .i64 0] 3 true)).set rfl (.cells [.int .i64 a] 3 true) rfl
  obtain ⟨a3, c3, hv3⟩ := hG3.isSlice
  simp (config := { implicitDefEqProofs := false }) only [↓GP, GQ, ↓awp_seq, ↓awp_block, C_ex, Nat.reduceBEq, acap, afieldAddr, aload, astore, abin, anum, astr, aun, isAggD, cond_true, cond_false, ↓reduceIte, C_P, C_G, isTuple, Value.cells, setL, ares, aresL, ares1, reduceCtorEq, Nat.reduceEqDiff, eq_self, Nat.reduceAdd, if_true, if_false, one, Nat.reduceLeDiff, undef, gsl, aextract, aindexAddr, amake, implies_true, forall_const, alen, abuiltin, anil, isC, Int.reduceEq, Int.reduceLT, Int.reduceLE, Int.reduceAdd, Int.reduceToNat, Int.reduceNeg, Nat.reduceMul, Nat.reduceSub, abuild, afill, Int.reduceBNe, Int.reduceBEq, hv3, Try.underlying23, Try.underlying3, aalloc, azc3, asz3]
  generalize s3.n = c12 at *
  generalize St.set (St.new s3 _) _ _ = s4 at *
  rw [← hv3]
  refine Chunk_spec s4 _ v3 ⟨_, _, _, hv3⟩ hO4 _ _ fun X N s5 hO5 => ?_
  simp (config := { implicitDefEqProofs := false }) only [↓GP, GQ, ↓awp_seq, ↓awp_block, C_ex, Nat.reduceBEq, acap, afieldAddr, aload, astore, abin, anum, astr, aun, isAggD, cond_true, cond_false, ↓reduceIte, C_P, C_G, isTuple, Value.cells, setL, ares, aresL, ares1, reduceCtorEq, Nat.reduceEqDiff, eq_self, Nat.reduceAdd, if_true, if_false, one, Nat.reduceLeDiff, undef, gsl, aextract, aindexAddr, amake, implies_true, forall_const, alen, abuiltin, anil, isC, Int.reduceEq, Int.reduceLT, Int.reduceLE, Int.reduceAdd, Int.reduceToNat, Int.reduceNeg, Nat.reduceMul, Nat.reduceSub, abuild, afill, Int.reduceBNe, Int.reduceBEq]
  obtain ⟨z, hz1, hz2⟩ : ∃ z, ((needN l.length = 0 ∧ ∃ a c, v3 = .slice a 0 c) ∨ ∃ cap, 64 * needN l.length ≤ cap ∧ v3 = .slice (some ⟨z, 0, some 0⟩) (64 * needN l.length) cap) ∧
      (needN l.length ≠ 0 → ∃ D, (z, Ob.cells D 5 true) ∈ h3 ∧ cut D 0 (64 * needN l.length * 1) = some (nl (padN l))) := by
    rcases hG3 with ⟨rfl, h2, _⟩ | ⟨b, rfl, h2, _⟩ | ⟨b, c, D, rfl, rfl, hc, hnc⟩
    · exact ⟨0, .inl ⟨by omega, _, _, rfl⟩, fun h => absurd h2 (by omega)⟩
    · exact ⟨0, .inl ⟨by omega, _, _, rfl⟩, fun h => absurd h2 (by omega)⟩
    · exact ⟨b, .inr ⟨c, hnc, rfl⟩, fun _ => ⟨D, by simp, hc⟩⟩
  have hO6 := hO5.perm (by
    simpa using perm_of [[(N, Ob.cells [.int .i64 64] 3 true)], [(X, .cells [v3] 23 true)], [(c12, .cells [.int .i64 a] 3 true)], h3, [(c10, .cells [.int .i64 0] 27 true)], [(c5, .cells [.pointer (some ⟨p, 0, none⟩)] 26 true)], h, r] [0, 1, 2, 3, 4, 5, 6, 7] [2, 4, 5, 0, 1, 3, 6, 7] rfl)
  refine range_chunks s5 _ (z := z) hz1 (by omega) (fun i F => ∃ hd fz', F = (c12, .cells [.int .i64 (a + i : Nat)] 3 true) :: (c10, .cells [.int .i64 0] 27 true) :: (c5, .cells [.pointer (some ⟨p, 0, none⟩)] 26 true) :: (N, Ob.cells [.int .i64 64] 3 true) :: (X, .cells [v3] 23 true) :: (h3 ++ (hd ++ r)) ∧ DN p S (payF l a i) fz' hd ∧ Spent fz fz')
    (fun F => ∃ hd j c, F = c :: (c10, .cells [.int .i64 50] 27 true) :: (c5, .cells [.pointer (some ⟨p, 0, none⟩)] 26 true) :: (N, Ob.cells [.int .i64 64] 3 true) :: (X, .cells [v3] 23 true) :: (h3 ++ (hd ++ r)) ∧ j ≤ needN l.length ∧ fz ≠ -1 ∧ DN p S (payF l a j) 0 hd)
    (fun ρ c => put (put ρ 30 c) 13 c) hO6 ⟨h, fz, rfl, hD, Spent.refl hfz⟩ (fun i F hF => ?_) (fun c s K q hK => ?_) (fun i s F B o K hi hF hs k1 k2 => ?_) (fun s F hF hs => ?_) (fun s F hF hs => ?_)
  · obtain ⟨hd, fz', rfl, _⟩ := hF
    exact ⟨by simp, by simp, fun hm => let ⟨D, h1, _⟩ := hz2 hm; ⟨D, by simp [h1]⟩⟩
  · simp (config := { implicitDefEqProofs := false }) only [↓GP, GQ, ↓awp_seq, ↓awp_block, C_ex, Nat.reduceBEq, acap, afieldAddr, aload, astore, abin, anum, astr, aun, isAggD, cond_true, cond_false, ↓reduceIte, C_P, C_G, isTuple, Value.cells, setL, ares, aresL, ares1, reduceCtorEq, Nat.reduceEqDiff, eq_self, Nat.reduceAdd, if_true, if_false, one, Nat.reduceLeDiff, undef, gsl, aextract, aindexAddr, amake, implies_true, forall_const, alen, abuiltin, anil, isC, Int.reduceEq, Int.reduceLT, Int.reduceLE, Int.reduceAdd, Int.reduceToNat, Int.reduceNeg, Nat.reduceMul, Nat.reduceSub, abuild, afill, Int.reduceBNe, Int.reduceBEq]
    exact hK
  · obtain ⟨hd, fz', rfl, hDi, hsp⟩ := hF
    obtain ⟨D, hzm, hcut⟩ := hz2 (by omega)
    have g12 := hs.get (b := c12) (o := .cells [.int .i64 (a + i : Nat)] 3 true) (by simp)
    have wi : IntKind.i64.wrap (((a + i : Nat) : Int) + 1) = ((a + (i + 1) : Nat) : Int) := by rw [w_i64 (by omega)]; omega
    have hs2 := (hs.perm (by simpa using perm_of [[(B, Ob.loop o)], [(c12, Ob.cells [.int .i64 (a + i : Nat)] 3 true)], _] [0, 1, 2] [1, 0, 2] rfl)).set rfl (.cells [.int .i64 (a + (i + 1) : Nat)] 3 true) rfl
    have n5 : ¬ c5 = c12 := hs2.ne rfl (b' := c5) (o' := .cells [.pointer (some ⟨p, 0, none⟩)] 26 true) (by simp)
    have g5 := hs.get (b := c5) (o := .cells [.pointer (some ⟨p, 0, none⟩)] 26 true) (by simp)
    have hs3 : Own _ (hd ++ ((c12, Ob.cells [.int .i64 (a + (i + 1) : Nat)] 3 true) :: (B, Ob.loop o) :: (c10, .cells [.int .i64 0] 27 true) :: (c5, .cells [.pointer (some ⟨p, 0, none⟩)] 26 true) :: (N, Ob.cells [.int .i64 64] 3 true) :: (X, .cells [v3] 23 true) :: (h3 ++ r))) := hs2.perm (by simpa using perm_of [[(c12, Ob.cells [.int .i64 (a + (i + 1) : Nat)] 3 true)], [(B, Ob.loop o)], [(c10, .cells [.int .i64 0] 27 true)], [(c5, .cells [.pointer (some ⟨p, 0, none⟩)] 26 true)], [(N, Ob.cells [.int .i64 64] 3 true)], [(X, .cells [v3] 23 true)], h3, hd, r] [0, 1, 2, 3, 4, 5, 6, 7, 8] [7, 0, 1, 2, 3, 4, 5, 6, 8] rfl)
    have hLl : (payF l a i).length ≤ 1000000 := by rw [payF_length]; omega
    have step : payF l a (i + 1) = payF l a i ++ [(a + (i + 1), chunkN l i)] := by rw [payF]; congr 3; omega
    simp (config := { implicitDefEqProofs := false }) only [↓GP, GQ, ↓awp_seq, ↓awp_block, C_ex, Nat.reduceBEq, acap, afieldAddr, aload, astore, abin, anum, astr, aun, isAggD, cond_true, cond_false, ↓reduceIte, C_P, C_G, isTuple, Value.cells, setL, ares, aresL, ares1, reduceCtorEq, Nat.reduceEqDiff, eq_self, Nat.reduceAdd, if_true, if_false, one, Nat.reduceLeDiff, undef, gsl, aextract, aindexAddr, amake, implies_true, forall_const, alen, abuiltin, anil, isC, Int.reduceEq, Int.reduceLT, Int.reduceLE, Int.reduceAdd, Int.reduceToNat, Int.reduceNeg, Nat.reduceMul, Nat.reduceSub, abuild, afill, Int.reduceBNe, Int.reduceBEq, g12, g5, n5, asz3, asz26, Try.underlying3, Try.underlying26, wi]
    refine WriteN _ _ hd p S _ fz' (a + (i + 1) : Nat) _ (chunkN l i) hDi hs3 (chunk_nb (h := _) hb.2 (by simp [hzm]) hcut hi) hsp.1.2 hLl _ _ (fun hh => absurd ⟨by omega, by omega, (chunkN_sec hb.2 hi).1⟩ hh) (fun _ _ _ hz => ?_) (fun h7 s7 _ _ _ hz hD7 hO7 => ?_)
    · subst hz
      have hs4a : Own _ ((c10, .cells [.int .i64 0] 27 true) :: (B, Ob.loop o) :: (c12, Ob.cells [.int .i64 (a + (i + 1) : Nat)] 3 true) :: (c5, .cells [.pointer (some ⟨p, 0, none⟩)] 26 true) :: (N, Ob.cells [.int .i64 64] 3 true) :: (X, .cells [v3] 23 true) :: (h3 ++ (hd ++ r))) := hs3.perm (by simpa using perm_of [hd, [(c12, Ob.cells [.int .i64 (a + (i + 1) : Nat)] 3 true)], [(B, Ob.loop o)], [(c10, .cells [.int .i64 0] 27 true)], [(c5, .cells [.pointer (some ⟨p, 0, none⟩)] 26 true)], [(N, Ob.cells [.int .i64 64] 3 true)], [(X, .cells [v3] 23 true)], h3, r] [0, 1, 2, 3, 4, 5, 6, 7, 8] [3, 2, 1, 4, 5, 6, 7, 0, 8] rfl)
      have hs4 := hs4a.set rfl (.cells [.int .i64 50] 27 true) rfl
      have g10 := hs.get (b := c10) (o := .cells [.int .i64 0] 27 true) (by simp)
      have n10 : ¬ c10 = c12 := hs2.ne rfl (b' := c10) (o' := .cells [.int .i64 0] 27 true) (by simp)
      simp (config := { implicitDefEqProofs := false }) only [↓GP, GQ, ↓awp_seq, ↓awp_block, C_ex, Nat.reduceBEq, acap, afieldAddr, aload, astore, abin, anum, astr, aun, isAggD, cond_true, cond_false, ↓reduceIte, C_P, C_G, isTuple, Value.cells, setL, ares, aresL, ares1, reduceCtorEq, Nat.reduceEqDiff, eq_self, Nat.reduceAdd, if_true, if_false, one, Nat.reduceLeDiff, undef, gsl, aextract, aindexAddr, amake, implies_true, forall_const, alen, abuiltin, anil, isC, Int.reduceEq, Int.reduceLT, Int.reduceLE, Int.reduceAdd, Int.reduceToNat, Int.reduceNeg, Nat.reduceMul, Nat.reduceSub, abuild, afill, Int.reduceBNe, Int.reduceBEq, asz27, Try.underlying27, g10, n10]
      refine k2 _ _ _ ⟨hd, i, (c12, Ob.cells [.int .i64 (a + (i + 1) : Nat)] 3 true), rfl, by omega, fun e => by have := hsp.2.1 e; omega, hDi⟩ ?_
      exact hs4.perm ((by simpa using perm_of [[(c10, Ob.cells [.int .i64 50] 27 true)], [(B, Ob.loop o)], [(c12, Ob.cells [.int .i64 (a + (i + 1) : Nat)] 3 true)]] [0, 1, 2] [1, 2, 0] rfl : List.Perm [(c10, Ob.cells [.int .i64 50] 27 true), (B, Ob.loop o), (c12, Ob.cells [.int .i64 (a + (i + 1) : Nat)] 3 true)] [(B, Ob.loop o), (c12, Ob.cells [.int .i64 (a + (i + 1) : Nat)] 3 true), (c10, Ob.cells [.int .i64 50] 27 true)]).append_right _)
    · simp (config := { implicitDefEqProofs := false }) only [↓GP, GQ, ↓awp_seq, ↓awp_block, C_ex, Nat.reduceBEq, acap, afieldAddr, aload, astore, abin, anum, astr, aun, isAggD, cond_true, cond_false, ↓reduceIte, C_P, C_G, isTuple, Value.cells, setL, ares, aresL, ares1, reduceCtorEq, Nat.reduceEqDiff, eq_self, Nat.reduceAdd, if_true, if_false, one, Nat.reduceLeDiff, undef, gsl, aextract, aindexAddr, amake, implies_true, forall_const, alen, abuiltin, anil, isC, Int.reduceEq, Int.reduceLT, Int.reduceLE, Int.reduceAdd, Int.reduceToNat, Int.reduceNeg, Nat.reduceMul, Nat.reduceSub, abuild, afill, Int.reduceBNe, Int.reduceBEq, asz27, Try.underlying27]
      rw [Int.toNat_natCast, ← step] at hD7
      refine k1 _ _ _ ⟨h7, _, rfl, hD7, hsp.dec hz⟩ ?_
      exact hO7.perm (by simpa using perm_of [h7, [(c12, Ob.cells [.int .i64 (a + (i + 1) : Nat)] 3 true)], [(B, Ob.loop o)], [(c10, .cells [.int .i64 0] 27 true)], [(c5, .cells [.pointer (some ⟨p, 0, none⟩)] 26 true)], [(N, Ob.cells [.int .i64 64] 3 true)], [(X, .cells [v3] 23 true)], h3, r] [0, 1, 2, 3, 4, 5, 6, 7, 8] [2, 1, 3, 4, 5, 6, 7, 0, 8] rfl)
  · obtain ⟨hd, fz', rfl, hDi, hsp⟩ := hF
    have g12 := hs.get (b := c12) (o := .cells [.int .i64 (a + needN l.length : Nat)] 3 true) (by simp)
    have g5 := hs.get (b := c5) (o := .cells [.pointer (some ⟨p, 0, none⟩)] 26 true) (by simp)
    simp (config := { implicitDefEqProofs := false }) only [↓GP, GQ, ↓awp_seq, ↓awp_block, C_ex, Nat.reduceBEq, acap, afieldAddr, aload, astore, abin, anum, astr, aun, isAggD, cond_true, cond_false, ↓reduceIte, C_P, C_G, isTuple, Value.cells, setL, ares, aresL, ares1, reduceCtorEq, Nat.reduceEqDiff, eq_self, Nat.reduceAdd, if_true, if_false, one, Nat.reduceLeDiff, undef, gsl, aextract, aindexAddr, amake, implies_true, forall_const, alen, abuiltin, anil, isC, Int.reduceEq, Int.reduceLT, Int.reduceLE, Int.reduceAdd, Int.reduceToNat, Int.reduceNeg, Nat.reduceMul, Nat.reduceSub, abuild, afill, Int.reduceBNe, Int.reduceBEq, g12, g5, asz3, asz26, Try.underlying3, Try.underlying26]
    obtain ⟨S1, hS1⟩ : ∃ S1, S1 = appN S (payF l a (needN l.length)) := ⟨_, rfl⟩
    have hS1l : S1.length = S.length := by rw [hS1, appN_length]
    refine ⟨fun hgt => ?_, fun hgt => ?_⟩
    · have hO0 : Own s (hd ++ ((c12, Ob.cells [.int .i64 (a + needN l.length : Nat)] 3 true) :: (c10, Ob.cells [.int .i64 0] 27 true) :: (c5, Ob.cells [.pointer (some ⟨p, 0, none⟩)] 26 true) :: (N, Ob.cells [.int .i64 64] 3 true) :: (X, Ob.cells [v3] 23 true) :: (h3 ++ r))) := hs.perm (by simpa using perm_of [[(c12, Ob.cells [.int .i64 (a + needN l.length : Nat)] 3 true)], [(c10, Ob.cells [.int .i64 0] 27 true)], [(c5, Ob.cells [.pointer (some ⟨p, 0, none⟩)] 26 true)], [(N, Ob.cells [.int .i64 64] 3 true)], [(X, Ob.cells [v3] 23 true)], h3, hd, r] [0, 1, 2, 3, 4, 5, 6, 7] [6, 0, 1, 2, 3, 4, 5, 7] rfl)
      refine SyncN s _ hd p S _ fz' hDi hO0 hsp.1.2 (by rw [payF_length]; omega) _ _ (fun hz => ?_) (fun h7 s7 hz hD7 hO7 => ?_)
      · subst hz
        have hO0b : Own s ((c10, Ob.cells [.int .i64 0] 27 true) :: (hd ++ ((c12, Ob.cells [.int .i64 (a + needN l.length : Nat)] 3 true) :: (c5, Ob.cells [.pointer (some ⟨p, 0, none⟩)] 26 true) :: (N, Ob.cells [.int .i64 64] 3 true) :: (X, Ob.cells [v3] 23 true) :: (h3 ++ r)))) := hs.perm (by simpa using perm_of [[(c12, Ob.cells [.int .i64 (a + needN l.length : Nat)] 3 true)], [(c10, Ob.cells [.int .i64 0] 27 true)], [(c5, Ob.cells [.pointer (some ⟨p, 0, none⟩)] 26 true)], [(N, Ob.cells [.int .i64 64] 3 true)], [(X, Ob.cells [v3] 23 true)], h3, hd, r] [0, 1, 2, 3, 4, 5, 6, 7] [1, 6, 0, 2, 3, 4, 5, 7] rfl)
        have g10 := hO0b.head
        have hO0c := hO0b.set rfl (.cells [.int .i64 50] 27 true) rfl
        simp (config := { implicitDefEqProofs := false }) only [↓GP, GQ, ↓awp_seq, ↓awp_block, C_ex, Nat.reduceBEq, acap, afieldAddr, aload, astore, abin, anum, astr, aun, isAggD, cond_true, cond_false, ↓reduceIte, C_P, C_G, isTuple, Value.cells, setL, ares, aresL, ares1, reduceCtorEq, Nat.reduceEqDiff, eq_self, Nat.reduceAdd, if_true, if_false, one, Nat.reduceLeDiff, undef, gsl, aextract, aindexAddr, amake, implies_true, forall_const, alen, abuiltin, anil, isC, Int.reduceEq, Int.reduceLT, Int.reduceLE, Int.reduceAdd, Int.reduceToNat, Int.reduceNeg, Nat.reduceMul, Nat.reduceSub, abuild, afill, Int.reduceBNe, Int.reduceBEq, g10, asz27, Try.underlying27]
        refine hpow S _ hd _ (fun e => by have := hsp.2.1 e; omega) (.inl ⟨rfl, _, Nat.le_refl _, rfl⟩) hDi ?_
        exact hO0c.tail.sub (List.Sublist.append_left (((List.sublist_append_right h3 r).cons _).cons _ |>.cons _ |>.cons _) _)
      · rw [← hS1] at hD7
        have hsp7 := hsp.dec hz
        generalize dec1 fz' = fz7 at hD7 hsp7
        have hO7t : Own s7 ((c12, Ob.cells [.int .i64 (a + needN l.length : Nat)] 3 true) :: (c10, Ob.cells [.int .i64 0] 27 true) :: (c5, Ob.cells [.pointer (some ⟨p, 0, none⟩)] 26 true) :: (N, Ob.cells [.int .i64 64] 3 true) :: (X, Ob.cells [v3] 23 true) :: (h3 ++ (h7 ++ r))) := hO7.perm (by simpa using perm_of [h7, [(c12, Ob.cells [.int .i64 (a + needN l.length : Nat)] 3 true)], [(c10, Ob.cells [.int .i64 0] 27 true)], [(c5, Ob.cells [.pointer (some ⟨p, 0, none⟩)] 26 true)], [(N, Ob.cells [.int .i64 64] 3 true)], [(X, Ob.cells [v3] 23 true)], h3, r] [0, 1, 2, 3, 4, 5, 6, 7] [1, 2, 3, 4, 5, 6, 0, 7] rfl)
        simp (config := { implicitDefEqProofs := false }) only [↓GP, GQ, ↓awp_seq, ↓awp_block, C_ex, Nat.reduceBEq, acap, afieldAddr, aload, astore, abin, anum, astr, aun, isAggD, cond_true, cond_false, ↓reduceIte, C_P, C_G, isTuple, Value.cells, setL, ares, aresL, ares1, reduceCtorEq, Nat.reduceEqDiff, eq_self, Nat.reduceAdd, if_true, if_false, one, Nat.reduceLeDiff, undef, gsl, aextract, aindexAddr, amake, implies_true, forall_const, alen, abuiltin, anil, isC, Int.reduceEq, Int.reduceLT, Int.reduceLE, Int.reduceAdd, Int.reduceToNat, Int.reduceNeg, Nat.reduceMul, Nat.reduceSub, abuild, afill, Int.reduceBNe, Int.reduceBEq, asz27, Try.underlying27]
        have gt5 := hO7t.get (b := c5) (o := .cells [.pointer (some ⟨p, 0, none⟩)] 26 true) (by simp)
        refine ADraw.of [(0, true, []), (1, false, []), (2, false, []), (3, false, []), (4, false, []), (5, false, [0]), (6, false, []), (7, false, [])] [0] [(0, 5)] (by kernel_rfl) ?_
        simp (config := { implicitDefEqProofs := false }) only [↓GP, GQ, ↓awp_seq, ↓awp_block, C_ex, Nat.reduceBEq, acap, afieldAddr, aload, astore, abin, anum, astr, aun, isAggD, cond_true, cond_false, ↓reduceIte, C_P, C_G, isTuple, Value.cells, setL, ares, aresL, ares1, reduceCtorEq, Nat.reduceEqDiff, eq_self, Nat.reduceAdd, if_true, if_false, one, Nat.reduceLeDiff, undef, gsl, aextract, aindexAddr, amake, implies_true, forall_const, alen, abuiltin, anil, isC, Int.reduceEq, Int.reduceLT, Int.reduceLE, Int.reduceAdd, Int.reduceToNat, Int.reduceNeg, Nat.reduceMul, Nat.reduceSub, abuild, afill, Int.reduceBNe, Int.reduceBEq, gt5, asz26, Try.underlying26]
        refine ACallF.enter Try.func50 rfl (by kernel_rfl) (head_spec s7 _ bv l g num (hb.sub fun e he => by simp [he]) (by omega) hg hnum hO7t _ _ fun v4 h4 s4 hG4 hO4 => ?_)
        have hO4a : Own s4 (h7 ++ (h4 ++ ((c12, Ob.cells [.int .i64 (a + needN l.length : Nat)] 3 true) :: (c10, Ob.cells [.int .i64 0] 27 true) :: (c5, Ob.cells [.pointer (some ⟨p, 0, none⟩)] 26 true) :: (N, Ob.cells [.int .i64 64] 3 true) :: (X, Ob.cells [v3] 23 true) :: (h3 ++ r)))) := hO4.perm (by simpa using perm_of [h4, [(c12, Ob.cells [.int .i64 (a + needN l.length : Nat)] 3 true)], [(c10, Ob.cells [.int .i64 0] 27 true)], [(c5, Ob.cells [.pointer (some ⟨p, 0, none⟩)] 26 true)], [(N, Ob.cells [.int .i64 64] 3 true)], [(X, Ob.cells [v3] 23 true)], h3, h7, r] [0, 1, 2, 3, 4, 5, 6, 7, 8] [7, 0, 1, 2, 3, 4, 5, 6, 8] rfl)
        have gt4 := hO4a.get (b := c5) (o := .cells [.pointer (some ⟨p, 0, none⟩)] 26 true) (by simp)
        simp (config := { implicitDefEqProofs := false }) only [↓GP, GQ, ↓awp_seq, ↓awp_block, C_ex, Nat.reduceBEq, acap, afieldAddr, aload, astore, abin, anum, astr, aun, isAggD, cond_true, cond_false, ↓reduceIte, C_P, C_G, isTuple, Value.cells, setL, ares, aresL, ares1, reduceCtorEq, Nat.reduceEqDiff, eq_self, Nat.reduceAdd, if_true, if_false, one, Nat.reduceLeDiff, undef, gsl, aextract, aindexAddr, amake, implies_true, forall_const, alen, abuiltin, anil, isC, Int.reduceEq, Int.reduceLT, Int.reduceLE, Int.reduceAdd, Int.reduceToNat, Int.reduceNeg, Nat.reduceMul, Nat.reduceSub, abuild, afill, Int.reduceBNe, Int.reduceBEq, gt4, asz26, Try.underlying26]
        refine WriteN s4 _ h7 p S1 _ fz7 (a : Nat) v4 (headL g num l) hD7 hO4a (hG4.c.nb rfl (headL_lt _ _ _)) hsp7.1.2 (by decide) _ _ (fun hh => absurd ⟨by omega, by omega, headL_length _ _ _⟩ hh) (fun _ _ _ hz => ?_) (fun h9 s9 _ _ _ hz hD9 hO9 => ?_)
        · subst hz
          have hO4b : Own s4 ((c10, Ob.cells [.int .i64 0] 27 true) :: (h7 ++ (h4 ++ ((c12, Ob.cells [.int .i64 (a + needN l.length : Nat)] 3 true) :: (c5, Ob.cells [.pointer (some ⟨p, 0, none⟩)] 26 true) :: (N, Ob.cells [.int .i64 64] 3 true) :: (X, Ob.cells [v3] 23 true) :: (h3 ++ r))))) := hO4a.perm (by simpa using perm_of [h7, h4, [(c12, Ob.cells [.int .i64 (a + needN l.length : Nat)] 3 true)], [(c10, Ob.cells [.int .i64 0] 27 true)], [(c5, Ob.cells [.pointer (some ⟨p, 0, none⟩)] 26 true)], [(N, Ob.cells [.int .i64 64] 3 true)], [(X, Ob.cells [v3] 23 true)], h3, r] [0, 1, 2, 3, 4, 5, 6, 7, 8] [3, 0, 1, 2, 4, 5, 6, 7, 8] rfl)
          have g10 := hO4b.head
          have hO4c := hO4b.set rfl (.cells [.int .i64 50] 27 true) rfl
          simp (config := { implicitDefEqProofs := false }) only [↓GP, GQ, ↓awp_seq, ↓awp_block, C_ex, Nat.reduceBEq, acap, afieldAddr, aload, astore, abin, anum, astr, aun, isAggD, cond_true, cond_false, ↓reduceIte, C_P, C_G, isTuple, Value.cells, setL, ares, aresL, ares1, reduceCtorEq, Nat.reduceEqDiff, eq_self, Nat.reduceAdd, if_true, if_false, one, Nat.reduceLeDiff, undef, gsl, aextract, aindexAddr, amake, implies_true, forall_const, alen, abuiltin, anil, isC, Int.reduceEq, Int.reduceLT, Int.reduceLE, Int.reduceAdd, Int.reduceToNat, Int.reduceNeg, Nat.reduceMul, Nat.reduceSub, abuild, afill, Int.reduceBNe, Int.reduceBEq, g10, asz27, Try.underlying27]
          refine hpow S1 [] h7 _ (fun e => by have := hsp7.2.1 e; omega) (.inr ⟨hS1, .inl rfl⟩) hD7 ?_
          refine hO4c.tail.sub (List.Sublist.append_left ?_ _)
          exact (((List.sublist_append_right h3 r).cons _).cons _ |>.cons _ |>.cons _).trans (List.sublist_append_right _ _)
        · rw [Int.toNat_natCast, List.nil_append] at hD9
          have gt9 := hO9.get (b := c5) (o := .cells [.pointer (some ⟨p, 0, none⟩)] 26 true) (by simp)
          simp (config := { implicitDefEqProofs := false }) only [↓GP, GQ, ↓awp_seq, ↓awp_block, C_ex, Nat.reduceBEq, acap, afieldAddr, aload, astore, abin, anum, astr, aun, isAggD, cond_true, cond_false, ↓reduceIte, C_P, C_G, isTuple, Value.cells, setL, ares, aresL, ares1, reduceCtorEq, Nat.reduceEqDiff, eq_self, Nat.reduceAdd, if_true, if_false, one, Nat.reduceLeDiff, undef, gsl, aextract, aindexAddr, amake, implies_true, forall_const, alen, abuiltin, anil, isC, Int.reduceEq, Int.reduceLT, Int.reduceLE, Int.reduceAdd, Int.reduceToNat, Int.reduceNeg, Nat.reduceMul, Nat.reduceSub, abuild, afill, Int.reduceBNe, Int.reduceBEq, gt9, asz26, asz27, Try.underlying26, Try.underlying27]
          have hO9b : Own s9 ((c10, Ob.cells [.int .i64 0] 27 true) :: (h9 ++ (h4 ++ ((c12, Ob.cells [.int .i64 (a + needN l.length : Nat)] 3 true) :: (c5, Ob.cells [.pointer (some ⟨p, 0, none⟩)] 26 true) :: (N, Ob.cells [.int .i64 64] 3 true) :: (X, Ob.cells [v3] 23 true) :: (h3 ++ r))))) := hO9.perm (by simpa using perm_of [h9, h4, [(c12, Ob.cells [.int .i64 (a + needN l.length : Nat)] 3 true)], [(c10, Ob.cells [.int .i64 0] 27 true)], [(c5, Ob.cells [.pointer (some ⟨p, 0, none⟩)] 26 true)], [(N, Ob.cells [.int .i64 64] 3 true)], [(X, Ob.cells [v3] 23 true)], h3, r] [0, 1, 2, 3, 4, 5, 6, 7, 8] [3, 0, 1, 2, 4, 5, 6, 7, 8] rfl)
          have hsp9 := hsp7.dec hz
          refine SyncN s9 _ h9 p S1 _ _ hD9 hO9 hsp9.1.2 (by simp) _ _ (fun hz2 => ?_) (fun ha sa hz2 hDa hOa => ?_)
          · have g10 := hO9b.head
            have hO9c := hO9b.set rfl (.cells [.int .i64 50] 27 true) rfl
            simp (config := { implicitDefEqProofs := false }) only [↓GP, GQ, ↓awp_seq, ↓awp_block, C_ex, Nat.reduceBEq, acap, afieldAddr, aload, astore, abin, anum, astr, aun, isAggD, cond_true, cond_false, ↓reduceIte, C_P, C_G, isTuple, Value.cells, setL, ares, aresL, ares1, reduceCtorEq, Nat.reduceEqDiff, eq_self, Nat.reduceAdd, if_true, if_false, one, Nat.reduceLeDiff, undef, gsl, aextract, aindexAddr, amake, implies_true, forall_const, alen, abuiltin, anil, isC, Int.reduceEq, Int.reduceLT, Int.reduceLE, Int.reduceAdd, Int.reduceToNat, Int.reduceNeg, Nat.reduceMul, Nat.reduceSub, abuild, afill, Int.reduceBNe, Int.reduceBEq, g10, asz27, Try.underlying27]
            rw [hz2] at hD9
            refine hpow S1 _ h9 _ (fun e => by have := hsp9.2.1 e; omega) (.inr ⟨hS1, .inr rfl⟩) hD9 ?_
            refine hO9c.tail.sub (List.Sublist.append_left ?_ _)
            exact (((List.sublist_append_right h3 r).cons _).cons _ |>.cons _ |>.cons _).trans (List.sublist_append_right _ _)
          · have hOab : Own sa ((c10, Ob.cells [.int .i64 0] 27 true) :: (ha ++ (h4 ++ ((c12, Ob.cells [.int .i64 (a + needN l.length : Nat)] 3 true) :: (c5, Ob.cells [.pointer (some ⟨p, 0, none⟩)] 26 true) :: (N, Ob.cells [.int .i64 64] 3 true) :: (X, Ob.cells [v3] 23 true) :: (h3 ++ r))))) := hOa.perm (by simpa using perm_of [ha, h4, [(c12, Ob.cells [.int .i64 (a + needN l.length : Nat)] 3 true)], [(c10, Ob.cells [.int .i64 0] 27 true)], [(c5, Ob.cells [.pointer (some ⟨p, 0, none⟩)] 26 true)], [(N, Ob.cells [.int .i64 64] 3 true)], [(X, Ob.cells [v3] 23 true)], h3, r] [0, 1, 2, 3, 4, 5, 6, 7, 8] [3, 0, 1, 2, 4, 5, 6, 7, 8] rfl)
            have g10 := hOab.head
            have hOac := hOab.set rfl (.cells [.int .i64 0] 27 true) rfl
            simp (config := { implicitDefEqProofs := false }) only [↓GP, GQ, ↓awp_seq, ↓awp_block, C_ex, Nat.reduceBEq, acap, afieldAddr, aload, astore, abin, anum, astr, aun, isAggD, cond_true, cond_false, ↓reduceIte, C_P, C_G, isTuple, Value.cells, setL, ares, aresL, ares1, reduceCtorEq, Nat.reduceEqDiff, eq_self, Nat.reduceAdd, if_true, if_false, one, Nat.reduceLeDiff, undef, gsl, aextract, aindexAddr, amake, implies_true, forall_const, alen, abuiltin, anil, isC, Int.reduceEq, Int.reduceLT, Int.reduceLE, Int.reduceAdd, Int.reduceToNat, Int.reduceNeg, Nat.reduceMul, Nat.reduceSub, abuild, afill, Int.reduceBNe, Int.reduceBEq, g10, asz27, Try.underlying27]
            rw [hS1] at hDa
            refine hok _ ha _ (hsp9.dec hz2) hDa ?_
            refine hOac.tail.sub (List.Sublist.append_left ?_ _)
            exact (((List.sublist_append_right h3 r).cons _).cons _ |>.cons _ |>.cons _).trans (List.sublist_append_right _ _)
    · have hm0 : needN l.length = 0 := by omega
      have hD0 : DN p S1 [] fz' hd := by
        rw [hS1]
        rw [hm0] at hDi ⊢
        exact hDi
      have gt5 := hs.get (b := c5) (o := .cells [.pointer (some ⟨p, 0, none⟩)] 26 true) (by simp)
      refine ADraw.of [(0, true, []), (1, false, []), (2, false, []), (3, false, []), (4, false, []), (5, false, [0]), (6, false, []), (7, false, [])] [0] [(0, 5)] (by kernel_rfl) ?_
      simp (config := { implicitDefEqProofs := false }) only [↓GP, GQ, ↓awp_seq, ↓awp_block, C_ex, Nat.reduceBEq, acap, afieldAddr, aload, astore, abin, anum, astr, aun, isAggD, cond_true, cond_false, ↓reduceIte, C_P, C_G, isTuple, Value.cells, setL, ares, aresL, ares1, reduceCtorEq, Nat.reduceEqDiff, eq_self, Nat.reduceAdd, if_true, if_false, one, Nat.reduceLeDiff, undef, gsl, aextract, aindexAddr, amake, implies_true, forall_const, alen, abuiltin, anil, isC, Int.reduceEq, Int.reduceLT, Int.reduceLE, Int.reduceAdd, Int.reduceToNat, Int.reduceNeg, Nat.reduceMul, Nat.reduceSub, abuild, afill, Int.reduceBNe, Int.reduceBEq, gt5, asz26, Try.underlying26]
      refine ACallF.enter Try.func50 rfl (by kernel_rfl) (head_spec s _ bv l g num (hb.sub fun e he => by simp [he]) (by omega) hg hnum hs _ _ fun v4 h4 s4 hG4 hO4 => ?_)
      have hO4a : Own s4 (hd ++ (h4 ++ ((c12, Ob.cells [.int .i64 (a + needN l.length : Nat)] 3 true) :: (c10, Ob.cells [.int .i64 0] 27 true) :: (c5, Ob.cells [.pointer (some ⟨p, 0, none⟩)] 26 true) :: (N, Ob.cells [.int .i64 64] 3 true) :: (X, Ob.cells [v3] 23 true) :: (h3 ++ r)))) := hO4.perm (by simpa using perm_of [h4, [(c12, Ob.cells [.int .i64 (a + needN l.length : Nat)] 3 true)], [(c10, Ob.cells [.int .i64 0] 27 true)], [(c5, Ob.cells [.pointer (some ⟨p, 0, none⟩)] 26 true)], [(N, Ob.cells [.int .i64 64] 3 true)], [(X, Ob.cells [v3] 23 true)], h3, hd, r] [0, 1, 2, 3, 4, 5, 6, 7, 8] [7, 0, 1, 2, 3, 4, 5, 6, 8] rfl)
      have gt4 := hO4a.get (b := c5) (o := .cells [.pointer (some ⟨p, 0, none⟩)] 26 true) (by simp)
      simp (config := { implicitDefEqProofs := false }) only [↓GP, GQ, ↓awp_seq, ↓awp_block, C_ex, Nat.reduceBEq, acap, afieldAddr, aload, astore, abin, anum, astr, aun, isAggD, cond_true, cond_false, ↓reduceIte, C_P, C_G, isTuple, Value.cells, setL, ares, aresL, ares1, reduceCtorEq, Nat.reduceEqDiff, eq_self, Nat.reduceAdd, if_true, if_false, one, Nat.reduceLeDiff, undef, gsl, aextract, aindexAddr, amake, implies_true, forall_const, alen, abuiltin, anil, isC, Int.reduceEq, Int.reduceLT, Int.reduceLE, Int.reduceAdd, Int.reduceToNat, Int.reduceNeg, Nat.reduceMul, Nat.reduceSub, abuild, afill, Int.reduceBNe, Int.reduceBEq, gt4, asz26, Try.underlying26]
      refine WriteN s4 _ hd p S1 _ fz' (a : Nat) v4 (headL g num l) hD0 hO4a (hG4.c.nb rfl (headL_lt _ _ _)) hsp.1.2 (by decide) _ _ (fun hh => absurd ⟨by omega, by omega, headL_length _ _ _⟩ hh) (fun _ _ _ hz => ?_) (fun h9 s9 _ _ _ hz hD9 hO9 => ?_)
      · subst hz
        have hO4b : Own s4 ((c10, Ob.cells [.int .i64 0] 27 true) :: (hd ++ (h4 ++ ((c12, Ob.cells [.int .i64 (a + needN l.length : Nat)] 3 true) :: (c5, Ob.cells [.pointer (some ⟨p, 0, none⟩)] 26 true) :: (N, Ob.cells [.int .i64 64] 3 true) :: (X, Ob.cells [v3] 23 true) :: (h3 ++ r))))) := hO4a.perm (by simpa using perm_of [hd, h4, [(c12, Ob.cells [.int .i64 (a + needN l.length : Nat)] 3 true)], [(c10, Ob.cells [.int .i64 0] 27 true)], [(c5, Ob.cells [.pointer (some ⟨p, 0, none⟩)] 26 true)], [(N, Ob.cells [.int .i64 64] 3 true)], [(X, Ob.cells [v3] 23 true)], h3, r] [0, 1, 2, 3, 4, 5, 6, 7, 8] [3, 0, 1, 2, 4, 5, 6, 7, 8] rfl)
        have g10 := hO4b.head
        have hO4c := hO4b.set rfl (.cells [.int .i64 50] 27 true) rfl
        simp (config := { implicitDefEqProofs := false }) only [↓GP, GQ, ↓awp_seq, ↓awp_block, C_ex, Nat.reduceBEq, acap, afieldAddr, aload, astore, abin, anum, astr, aun, isAggD, cond_true, cond_false, ↓reduceIte, C_P, C_G, isTuple, Value.cells, setL, ares, aresL, ares1, reduceCtorEq, Nat.reduceEqDiff, eq_self, Nat.reduceAdd, if_true, if_false, one, Nat.reduceLeDiff, undef, gsl, aextract, aindexAddr, amake, implies_true, forall_const, alen, abuiltin, anil, isC, Int.reduceEq, Int.reduceLT, Int.reduceLE, Int.reduceAdd, Int.reduceToNat, Int.reduceNeg, Nat.reduceMul, Nat.reduceSub, abuild, afill, Int.reduceBNe, Int.reduceBEq, g10, asz27, Try.underlying27]
        refine hpow S1 [] hd _ (fun e => by have := hsp.2.1 e; omega) (.inr ⟨hS1, .inl rfl⟩) hD0 ?_
        refine hO4c.tail.sub (List.Sublist.append_left ?_ _)
        exact (((List.sublist_append_right h3 r).cons _).cons _ |>.cons _ |>.cons _).trans (List.sublist_append_right _ _)
      · rw [Int.toNat_natCast, List.nil_append] at hD9
        have gt9 := hO9.get (b := c5) (o := .cells [.pointer (some ⟨p, 0, none⟩)] 26 true) (by simp)
        simp (config := { implicitDefEqProofs := false }) only [↓GP, GQ, ↓awp_seq, ↓awp_block, C_ex, Nat.reduceBEq, acap, afieldAddr, aload, astore, abin, anum, astr, aun, isAggD, cond_true, cond_false, ↓reduceIte, C_P, C_G, isTuple, Value.cells, setL, ares, aresL, ares1, reduceCtorEq, Nat.reduceEqDiff, eq_self, Nat.reduceAdd, if_true, if_false, one, Nat.reduceLeDiff, undef, gsl, aextract, aindexAddr, amake, implies_true, forall_const, alen, abuiltin, anil, isC, Int.reduceEq, Int.reduceLT, Int.reduceLE, Int.reduceAdd, Int.reduceToNat, Int.reduceNeg, Nat.reduceMul, Nat.reduceSub, abuild, afill, Int.reduceBNe, Int.reduceBEq, gt9, asz26, asz27, Try.underlying26, Try.underlying27]
        have hO9b : Own s9 ((c10, Ob.cells [.int .i64 0] 27 true) :: (h9 ++ (h4 ++ ((c12, Ob.cells [.int .i64 (a + needN l.length : Nat)] 3 true) :: (c5, Ob.cells [.pointer (some ⟨p, 0, none⟩)] 26 true) :: (N, Ob.cells [.int .i64 64] 3 true) :: (X, Ob.cells [v3] 23 true) :: (h3 ++ r))))) := hO9.perm (by simpa using perm_of [h9, h4, [(c12, Ob.cells [.int .i64 (a + needN l.length : Nat)] 3 true)], [(c10, Ob.cells [.int .i64 0] 27 true)], [(c5, Ob.cells [.pointer (some ⟨p, 0, none⟩)] 26 true)], [(N, Ob.cells [.int .i64 64] 3 true)], [(X, Ob.cells [v3] 23 true)], h3, r] [0, 1, 2, 3, 4, 5, 6, 7, 8] [3, 0, 1, 2, 4, 5, 6, 7, 8] rfl)
        have hsp9 := hsp.dec hz
        refine SyncN s9 _ h9 p S1 _ _ hD9 hO9 hsp9.1.2 (by simp) _ _ (fun hz2 => ?_) (fun ha sa hz2 hDa hOa => ?_)
        · have g10 := hO9b.head
          have hO9c := hO9b.set rfl (.cells [.int .i64 50] 27 true) rfl
          simp (config := { implicitDefEqProofs := false }) only [↓GP, GQ, ↓awp_seq, ↓awp_block, C_ex, Nat.reduceBEq, acap, afieldAddr, aload, astore, abin, anum, astr, aun, isAggD, cond_true, cond_false, ↓reduceIte, C_P, C_G, isTuple, Value.cells, setL, ares, aresL, ares1, reduceCtorEq, Nat.reduceEqDiff, eq_self, Nat.reduceAdd, if_true, if_false, one, Nat.reduceLeDiff, undef, gsl, aextract, aindexAddr, amake, implies_true, forall_const, alen, abuiltin, anil, isC, Int.reduceEq, Int.reduceLT, Int.reduceLE, Int.reduceAdd, Int.reduceToNat, Int.reduceNeg, Nat.reduceMul, Nat.reduceSub, abuild, afill, Int.reduceBNe, Int.reduceBEq, g10, asz27, Try.underlying27]
          rw [hz2] at hD9
          refine hpow S1 _ h9 _ (fun e => by have := hsp9.2.1 e; omega) (.inr ⟨hS1, .inr rfl⟩) hD9 ?_
          refine hO9c.tail.sub (List.Sublist.append_left ?_ _)
          exact (((List.sublist_append_right h3 r).cons _).cons _ |>.cons _ |>.cons _).trans (List.sublist_append_right _ _)
        · have hOab : Own sa ((c10, Ob.cells [.int .i64 0] 27 true) :: (ha ++ (h4 ++ ((c12, Ob.cells [.int .i64 (a + needN l.length : Nat)] 3 true) :: (c5, Ob.cells [.pointer (some ⟨p, 0, none⟩)] 26 true) :: (N, Ob.cells [.int .i64 64] 3 true) :: (X, Ob.cells [v3] 23 true) :: (h3 ++ r))))) := hOa.perm (by simpa using perm_of [ha, h4, [(c12, Ob.cells [.int .i64 (a + needN l.length : Nat)] 3 true)], [(c10, Ob.cells [.int .i64 0] 27 true)], [(c5, Ob.cells [.pointer (some ⟨p, 0, none⟩)] 26 true)], [(N, Ob.cells [.int .i64 64] 3 true)], [(X, Ob.cells [v3] 23 true)], h3, r] [0, 1, 2, 3, 4, 5, 6, 7, 8] [3, 0, 1, 2, 4, 5, 6, 7, 8] rfl)
          have g10 := hOab.head
          have hOac := hOab.set rfl (.cells [.int .i64 0] 27 true) rfl
          simp (config := { implicitDefEqProofs := false }) only [↓GP, GQ, ↓awp_seq, ↓awp_block, C_ex, Nat.reduceBEq, acap, afieldAddr, aload, astore, abin, anum, astr, aun, isAggD, cond_true, cond_false, ↓reduceIte, C_P, C_G, isTuple, Value.cells, setL, ares, aresL, ares1, reduceCtorEq, Nat.reduceEqDiff, eq_self, Nat.reduceAdd, if_true, if_false, one, Nat.reduceLeDiff, undef, gsl, aextract, aindexAddr, amake, implies_true, forall_const, alen, abuiltin, anil, isC, Int.reduceEq, Int.reduceLT, Int.reduceLE, Int.reduceAdd, Int.reduceToNat, Int.reduceNeg, Nat.reduceMul, Nat.reduceSub, abuild, afill, Int.reduceBNe, Int.reduceBEq, g10, asz27, Try.underlying27]
          rw [hS1] at hDa
          refine hok _ ha _ (hsp9.dec hz2) hDa ?_
          refine hOac.tail.sub (List.Sublist.append_left ?_ _)
          exact (((List.sublist_append_right h3 r).cons _).cons _ |>.cons _ |>.cons _).trans (List.sublist_append_right _ _)
  · obtain ⟨hd, j, c, rfl, hj, hne, hDj⟩ := hF
    have g10 := hs.get (b := c10) (o := .cells [.int .i64 50] 27 true) (by simp)
    simp (config := { implicitDefEqProofs := false }) only [↓GP, GQ, ↓awp_seq, ↓awp_block, C_ex, Nat.reduceBEq, acap, afieldAddr, aload, astore, abin, anum, astr, aun, isAggD, cond_true, cond_false, ↓reduceIte, C_P, C_G, isTuple, Value.cells, setL, ares, aresL, ares1, reduceCtorEq, Nat.reduceEqDiff, eq_self, Nat.reduceAdd, if_true, if_false, one, Nat.reduceLeDiff, undef, gsl, aextract, aindexAddr, amake, implies_true, forall_const, alen, abuiltin, anil, isC, Int.reduceEq, Int.reduceLT, Int.reduceLE, Int.reduceAdd, Int.reduceToNat, Int.reduceNeg, Nat.reduceMul, Nat.reduceSub, abuild, afill, Int.reduceBNe, Int.reduceBEq, g10, asz27, Try.underlying27]
    refine hpow S _ hd s hne (.inl ⟨rfl, j, hj, rfl⟩) hDj (hs.sub ?_)
    refine List.Sublist.cons _ (List.Sublist.cons _ (List.Sublist.cons _ (List.Sublist.cons _ (List.Sublist.cons _ ?_))))
    exact List.sublist_append_right _ _
end Go.Proofs.Ytiooigkcliomlaa
/- A journal: what it tells; a record more. No conditions. -/
set_option linter.unusedVariables false
set_option linter.unusedSimpArgs false
namespace Go.Proofs.Ytiooigkcliomlaa
open Go Go.Abs Go.RowKit
variable {base : Nat} {w0 : World} {G : Nat}

/-- A journal's cells. -/
def jc (p size which gen num end_ : Nat) (pl : Bool) : Ob := .cells [.pointer (some ⟨p, 0, none⟩), .int .i64 size, .int .i64 which, .int .i64 gen, .int .i64 num, .int .i64 end_, .bool pl] 69 true
set_option maxRecDepth 10000 in
theorem Left_spec (st : St) (jp p size which gen num end_ : Nat) (pl : Bool) (hj : st.H jp = some (jc p size which gen num end_ pl)) (he : end_ ≤ size) (hs : size ≤ 5000) (k q : Value → St → Prop) (hk : k (.int .i64 (size - end_ : Nat)) st) :
    ACallF (C base w0 G) 22 [.pointer (some ⟨jp, 0, none⟩)] st k q := by
  refine ACallF.enter Try.func22 rfl (by kernel_rfl) ?_
  refine ACall.of (cx := C base w0 G) mixed Try.func22 rfl (by kernel_rfl) (by simp [Try.ntmps22]) ?_
  simp only [Try.results22]
  unfold jc at hj
  have w1 : IntKind.i64.wrap ((size : Int) - (end_ : Int)) = ((size - end_ : Nat) : Int) := by rw [w_i64 (by omega)]; omega
  simp (config := { implicitDefEqProofs := false }) only [↓GP, GQ, ↓awp_seq, ↓awp_block, C_ex, Nat.reduceBEq, acap, afieldAddr, aload, astore, abin, anum, astr, aun, isAggD, cond_true, cond_false, ↓reduceIte, C_P, C_G, isTuple, Value.cells, setL, ares, aresL, ares1, reduceCtorEq, Nat.reduceEqDiff, eq_self, Nat.reduceAdd, if_true, if_false, one, Nat.reduceLeDiff, undef, gsl, aextract, aindexAddr, amake, implies_true, forall_const, alen, abuiltin, anil, isC, Int.reduceEq, Int.reduceLT, Int.reduceLE, Int.reduceAdd, Int.reduceToNat, Int.reduceNeg, Nat.reduceMul, Nat.reduceSub, abuild, afill, Int.reduceBNe, Int.reduceBEq]
  refine ADraw.of [(0, false, []), (1, false, []), (2, false, []), (3, false, []), (4, false, []), (5, false, []), (6, false, []), (7, false, []), (8, false, []), (9, false, [])] [] [] (by kernel_rfl) ?_
  simp (config := { implicitDefEqProofs := false }) only [↓GP, GQ, ↓awp_seq, ↓awp_block, C_ex, Nat.reduceBEq, acap, afieldAddr, aload, astore, abin, anum, astr, aun, isAggD, cond_true, cond_false, ↓reduceIte, C_P, C_G, isTuple, Value.cells, setL, ares, aresL, ares1, reduceCtorEq, Nat.reduceEqDiff, eq_self, Nat.reduceAdd, if_true, if_false, one, Nat.reduceLeDiff, undef, gsl, aextract, aindexAddr, amake, implies_true, forall_const, alen, abuiltin, anil, isC, Int.reduceEq, Int.reduceLT, Int.reduceLE, Int.reduceAdd, Int.reduceToNat, Int.reduceNeg, Nat.reduceMul, Nat.reduceSub, abuild, afill, Int.reduceBNe, Int.reduceBEq, hj, afo69_1, afo69_5, asz3, Try.underlying3, w1]
  exact hk
set_option maxRecDepth 10000 in
theorem Generation_spec (st : St) (jp p size which gen num end_ : Nat) (pl : Bool) (hj : st.H jp = some (jc p size which gen num end_ pl)) (k q : Value → St → Prop) (hk : k (.int .i64 gen) st) :
    ACallF (C base w0 G) 19 [.pointer (some ⟨jp, 0, none⟩)] st k q := by
  refine ACallF.enter Try.func19 rfl (by kernel_rfl) ?_
  refine ACall.of (cx := C base w0 G) mixed Try.func19 rfl (by kernel_rfl) (by simp [Try.ntmps19]) ?_
  simp only [Try.results19]
  unfold jc at hj
  simp (config := { implicitDefEqProofs := false }) only [↓GP, GQ, ↓awp_seq, ↓awp_block, C_ex, Nat.reduceBEq, acap, afieldAddr, aload, astore, abin, anum, astr, aun, isAggD, cond_true, cond_false, ↓reduceIte, C_P, C_G, isTuple, Value.cells, setL, ares, aresL, ares1, reduceCtorEq, Nat.reduceEqDiff, eq_self, Nat.reduceAdd, if_true, if_false, one, Nat.reduceLeDiff, undef, gsl, aextract, aindexAddr, amake, implies_true, forall_const, alen, abuiltin, anil, isC, Int.reduceEq, Int.reduceLT, Int.reduceLE, Int.reduceAdd, Int.reduceToNat, Int.reduceNeg, Nat.reduceMul, Nat.reduceSub, abuild, afill, Int.reduceBNe, Int.reduceBEq, hj, afo69_3, asz3, Try.underlying3]
  exact hk
def fitsN (n : Int) (size end_ : Nat) : Bool := decide (0 ≤ n ∧ n ≤ 262144 ∧ 1 + needN n.toNat ≤ size - end_)
set_option maxRecDepth 10000 in
theorem Fits_spec (st : St) (jp p size which gen num end_ : Nat) (pl : Bool) (n : Int) (hj : st.H jp = some (jc p size which gen num end_ pl)) (he : end_ ≤ size) (hs : size ≤ 5000) (k q : Value → St → Prop) (hk : k (.bool (fitsN n size end_)) st) :
    ACallF (C base w0 G) 26 [.pointer (some ⟨jp, 0, none⟩), .int .i64 n] st k q := by
  refine ACallF.enter Try.func26 rfl (by kernel_rfl) ?_
  refine ACall.of (cx := C base w0 G) mixed Try.func26 rfl (by kernel_rfl) (by simp [Try.ntmps26]) ?_
  simp only [Try.results26]
  unfold fitsN at hk
  by_cases h0 : 0 ≤ n
  · by_cases h1 : n ≤ 262144
    · obtain ⟨m, rfl⟩ : ∃ m : Nat, n = m := ⟨n.toNat, by omega⟩
      rw [Int.toNat_natCast] at hk
      have w1 : IntKind.i64.wrap (1 + ((needN m : Nat) : Int)) = ((1 + needN m : Nat) : Int) := by unfold needN; rw [w_i64 (by omega)]; omega
      simp (config := { implicitDefEqProofs := false }) only [↓GP, GQ, ↓awp_seq, ↓awp_block, C_ex, Nat.reduceBEq, acap, afieldAddr, aload, astore, abin, anum, astr, aun, isAggD, cond_true, cond_false, ↓reduceIte, C_P, C_G, isTuple, Value.cells, setL, ares, aresL, ares1, reduceCtorEq, Nat.reduceEqDiff, eq_self, Nat.reduceAdd, if_true, if_false, one, Nat.reduceLeDiff, undef, gsl, aextract, aindexAddr, amake, implies_true, forall_const, alen, abuiltin, anil, isC, Int.reduceEq, Int.reduceLT, Int.reduceLE, Int.reduceAdd, Int.reduceToNat, Int.reduceNeg, Nat.reduceMul, Nat.reduceSub, abuild, afill, Int.reduceBNe, Int.reduceBEq, ge_iff_le, h0, h1, decide_true, Try.underlying3]
      refine ACallF.enter Try.func38 rfl (by kernel_rfl) (need_spec st m (by omega) _ _ ?_)
      simp (config := { implicitDefEqProofs := false }) only [↓GP, GQ, ↓awp_seq, ↓awp_block, C_ex, Nat.reduceBEq, acap, afieldAddr, aload, astore, abin, anum, astr, aun, isAggD, cond_true, cond_false, ↓reduceIte, C_P, C_G, isTuple, Value.cells, setL, ares, aresL, ares1, reduceCtorEq, Nat.reduceEqDiff, eq_self, Nat.reduceAdd, if_true, if_false, one, Nat.reduceLeDiff, undef, gsl, aextract, aindexAddr, amake, implies_true, forall_const, alen, abuiltin, anil, isC, Int.reduceEq, Int.reduceLT, Int.reduceLE, Int.reduceAdd, Int.reduceToNat, Int.reduceNeg, Nat.reduceMul, Nat.reduceSub, abuild, afill, Int.reduceBNe, Int.reduceBEq, w1, Try.underlying3]
      refine Left_spec st jp p size which gen num end_ pl hj he hs _ _ ?_
      by_cases h2 : 1 + needN m ≤ size - end_
      · rw [decide_eq_true (by omega)] at hk
        simp (config := { implicitDefEqProofs := false }) only [↓GP, GQ, ↓awp_seq, ↓awp_block, C_ex, Nat.reduceBEq, acap, afieldAddr, aload, astore, abin, anum, astr, aun, isAggD, cond_true, cond_false, ↓reduceIte, C_P, C_G, isTuple, Value.cells, setL, ares, aresL, ares1, reduceCtorEq, Nat.reduceEqDiff, eq_self, Nat.reduceAdd, if_true, if_false, one, Nat.reduceLeDiff, undef, gsl, aextract, aindexAddr, amake, implies_true, forall_const, alen, abuiltin, anil, isC, Int.reduceEq, Int.reduceLT, Int.reduceLE, Int.reduceAdd, Int.reduceToNat, Int.reduceNeg, Nat.reduceMul, Nat.reduceSub, abuild, afill, Int.reduceBNe, Int.reduceBEq, show ((1 + needN m : Nat) : Int) ≤ ((size - end_ : Nat) : Int) by omega, decide_true, Try.underlying3]
        exact hk
      · rw [decide_eq_false (by omega)] at hk
        simp (config := { implicitDefEqProofs := false }) only [↓GP, GQ, ↓awp_seq, ↓awp_block, C_ex, Nat.reduceBEq, acap, afieldAddr, aload, astore, abin, anum, astr, aun, isAggD, cond_true, cond_false, ↓reduceIte, C_P, C_G, isTuple, Value.cells, setL, ares, aresL, ares1, reduceCtorEq, Nat.reduceEqDiff, eq_self, Nat.reduceAdd, if_true, if_false, one, Nat.reduceLeDiff, undef, gsl, aextract, aindexAddr, amake, implies_true, forall_const, alen, abuiltin, anil, isC, Int.reduceEq, Int.reduceLT, Int.reduceLE, Int.reduceAdd, Int.reduceToNat, Int.reduceNeg, Nat.reduceMul, Nat.reduceSub, abuild, afill, Int.reduceBNe, Int.reduceBEq, show ¬ ((1 + needN m : Nat) : Int) ≤ ((size - end_ : Nat) : Int) by omega, decide_false, Try.underlying3]
        exact hk
    · rw [decide_eq_false (by omega)] at hk
      simp (config := { implicitDefEqProofs := false }) only [↓GP, GQ, ↓awp_seq, ↓awp_block, C_ex, Nat.reduceBEq, acap, afieldAddr, aload, astore, abin, anum, astr, aun, isAggD, cond_true, cond_false, ↓reduceIte, C_P, C_G, isTuple, Value.cells, setL, ares, aresL, ares1, reduceCtorEq, Nat.reduceEqDiff, eq_self, Nat.reduceAdd, if_true, if_false, one, Nat.reduceLeDiff, undef, gsl, aextract, aindexAddr, amake, implies_true, forall_const, alen, abuiltin, anil, isC, Int.reduceEq, Int.reduceLT, Int.reduceLE, Int.reduceAdd, Int.reduceToNat, Int.reduceNeg, Nat.reduceMul, Nat.reduceSub, abuild, afill, Int.reduceBNe, Int.reduceBEq, ge_iff_le, h0, h1, decide_true, decide_false, Try.underlying3]
      exact hk
  · rw [decide_eq_false (by omega)] at hk
    simp (config := { implicitDefEqProofs := false }) only [↓GP, GQ, ↓awp_seq, ↓awp_block, C_ex, Nat.reduceBEq, acap, afieldAddr, aload, astore, abin, anum, astr, aun, isAggD, cond_true, cond_false, ↓reduceIte, C_P, C_G, isTuple, Value.cells, setL, ares, aresL, ares1, reduceCtorEq, Nat.reduceEqDiff, eq_self, Nat.reduceAdd, if_true, if_false, one, Nat.reduceLeDiff, undef, gsl, aextract, aindexAddr, amake, implies_true, forall_const, alen, abuiltin, anil, isC, Int.reduceEq, Int.reduceLT, Int.reduceLE, Int.reduceAdd, Int.reduceToNat, Int.reduceNeg, Nat.reduceMul, Nat.reduceSub, abuild, afill, Int.reduceBNe, Int.reduceBEq, ge_iff_le, h0, decide_false, Try.underlying3]
    exact hk
set_option maxRecDepth 10000 in
theorem did_spec (st : St) (r : Hp) (jp p size which gen num end_ : Nat) (pl : Bool) (e : Int) (hO : Own st ((jp, jc p size which gen num end_ pl) :: r)) (k q : Value → St → Prop) (hk : ∀ st', Own st' ((jp, jc p size which gen num end_ (pl || decide (e = 50))) :: r) → k (.int .i64 e) st') :
    ACallF (C base w0 G) 37 [.pointer (some ⟨jp, 0, none⟩), .int .i64 e] st k q := by
  refine ACallF.enter Try.func37 rfl (by kernel_rfl) ?_
  refine ACall.of (cx := C base w0 G) mixed Try.func37 rfl (by kernel_rfl) (by simp [Try.ntmps37]) ?_
  simp only [Try.results37]
  have hj := hO.head
  have hs := hO.set rfl (jc p size which gen num end_ (pl || decide (e = 50))) rfl
  unfold jc at hj hs
  cases pl with
  | true =>
    simp (config := { implicitDefEqProofs := false }) only [↓GP, GQ, ↓awp_seq, ↓awp_block, C_ex, Nat.reduceBEq, acap, afieldAddr, aload, astore, abin, anum, astr, aun, isAggD, cond_true, cond_false, ↓reduceIte, C_P, C_G, isTuple, Value.cells, setL, ares, aresL, ares1, reduceCtorEq, Nat.reduceEqDiff, eq_self, Nat.reduceAdd, if_true, if_false, one, Nat.reduceLeDiff, undef, gsl, aextract, aindexAddr, amake, implies_true, forall_const, alen, abuiltin, anil, isC, Int.reduceEq, Int.reduceLT, Int.reduceLE, Int.reduceAdd, Int.reduceToNat, Int.reduceNeg, Nat.reduceMul, Nat.reduceSub, abuild, afill, Int.reduceBNe, Int.reduceBEq, hj, afo69_6, asz4, Try.underlying4]
    exact hk _ hs
  | false =>
    by_cases he : e = 50
    · subst he
      simp (config := { implicitDefEqProofs := false }) only [↓GP, GQ, ↓awp_seq, ↓awp_block, C_ex, Nat.reduceBEq, acap, afieldAddr, aload, astore, abin, anum, astr, aun, isAggD, cond_true, cond_false, ↓reduceIte, C_P, C_G, isTuple, Value.cells, setL, ares, aresL, ares1, reduceCtorEq, Nat.reduceEqDiff, eq_self, Nat.reduceAdd, if_true, if_false, one, Nat.reduceLeDiff, undef, gsl, aextract, aindexAddr, amake, implies_true, forall_const, alen, abuiltin, anil, isC, Int.reduceEq, Int.reduceLT, Int.reduceLE, Int.reduceAdd, Int.reduceToNat, Int.reduceNeg, Nat.reduceMul, Nat.reduceSub, abuild, afill, Int.reduceBNe, Int.reduceBEq, hj, afo69_6, asz4, Try.underlying4, Try.underlying27]
      exact hk _ hs
    · rw [decide_eq_false he] at hs hk
      simp (config := { implicitDefEqProofs := false }) only [↓GP, GQ, ↓awp_seq, ↓awp_block, C_ex, Nat.reduceBEq, acap, afieldAddr, aload, astore, abin, anum, astr, aun, isAggD, cond_true, cond_false, ↓reduceIte, C_P, C_G, isTuple, Value.cells, setL, ares, aresL, ares1, reduceCtorEq, Nat.reduceEqDiff, eq_self, Nat.reduceAdd, if_true, if_false, one, Nat.reduceLeDiff, undef, gsl, aextract, aindexAddr, amake, implies_true, forall_const, alen, abuiltin, anil, isC, Int.reduceEq, Int.reduceLT, Int.reduceLE, Int.reduceAdd, Int.reduceToNat, Int.reduceNeg, Nat.reduceMul, Nat.reduceSub, abuild, afill, Int.reduceBNe, Int.reduceBEq, hj, afo69_6, asz4, Try.underlying4, Try.underlying27, beqF he]
      exact hk _ hs
set_option maxHeartbeats 1000000 in
set_option maxRecDepth 10000 in
theorem Append_spec (st : St) (r h : Hp) (jp p size which gen num end_ : Nat) (pl : Bool) (S : List (List Nat)) (L : List LN) (fz : Int) (bv : Value) (l : List Nat) (hD : DN p S L fz h) (hO : Own st ((jp, jc p size which gen num end_ pl) :: (h ++ r))) (hb : Nb r bv l) (hL : pl = false → L = []) (hfz : FZ fz)
    (he : end_ ≤ size) (hs : size * 2 ≤ S.length) (hS : S.length ≤ 5000) (hw : which ≤ 1) (hg : gen < 4294967296) (hnum : num < 4294967295) (hl : l.length ≤ 1000000000) (k q : Value → St → Prop)
    (hlong : 262144 < l.length → k (.int .i64 12) st)
    (hfull : l.length ≤ 262144 → ¬ (1 + needN l.length ≤ size - end_) → k (.int .i64 51) st)
    (hoff : l.length ≤ 262144 → 1 + needN l.length ≤ size - end_ → pl = true → k (.int .i64 50) st)
    (hpow : ∀ S' L' h' st', l.length ≤ 262144 → 1 + needN l.length ≤ size - end_ → pl = false → fz ≠ -1 → WFail S (which * size + end_) gen num l S' L' → DN p S' L' 0 h' → Own st' ((jp, jc p size which gen num end_ true) :: (h' ++ r)) → k (.int .i64 50) st')
    (hok : ∀ fz' h' st', l.length ≤ 262144 → 1 + needN l.length ≤ size - end_ → pl = false → Spent fz fz' → DN p (wrote S (which * size + end_) gen num l) [] fz' h' → Own st' ((jp, jc p size which gen (num + 1) (end_ + 1 + needN l.length) false) :: (h' ++ r)) → k (.int .i64 0) st') :
    ACallF (C base w0 G) 11 [.pointer (some ⟨jp, 0, none⟩), bv] st k q := by
  refine ACallF.enter Try.func11 rfl (by kernel_rfl) ?_
  obtain ⟨ba, bc, hbs⟩ := hb.isSlice
  refine ACall.of (cx := C base w0 G) mixed Try.func11 rfl (by kernel_rfl) (by simp [Try.ntmps11]) ?_
  simp only [Try.results11]
  by_cases h1 : 262144 < l.length
  · simp (config := { implicitDefEqProofs := false }) only [↓GP, GQ, ↓awp_seq, ↓awp_block, C_ex, Nat.reduceBEq, acap, afieldAddr, aload, astore, abin, anum, astr, aun, isAggD, cond_true, cond_false, ↓reduceIte, C_P, C_G, isTuple, Value.cells, setL, ares, aresL, ares1, reduceCtorEq, Nat.reduceEqDiff, eq_self, Nat.reduceAdd, if_true, if_false, one, Nat.reduceLeDiff, undef, gsl, aextract, aindexAddr, amake, implies_true, forall_const, alen, abuiltin, anil, isC, Int.reduceEq, Int.reduceLT, Int.reduceLE, Int.reduceAdd, Int.reduceToNat, Int.reduceNeg, Nat.reduceMul, Nat.reduceSub, abuild, afill, Int.reduceBNe, Int.reduceBEq, hbs, Try.underlying23, Try.underlying3, show (l.length : Int) > 262144 by omega, decide_true]
    exact hlong h1
  simp (config := { implicitDefEqProofs := false }) only [↓GP, GQ, ↓awp_seq, ↓awp_block, C_ex, Nat.reduceBEq, acap, afieldAddr, aload, astore, abin, anum, astr, aun, isAggD, cond_true, cond_false, ↓reduceIte, C_P, C_G, isTuple, Value.cells, setL, ares, aresL, ares1, reduceCtorEq, Nat.reduceEqDiff, eq_self, Nat.reduceAdd, if_true, if_false, one, Nat.reduceLeDiff, undef, gsl, aextract, aindexAddr, amake, implies_true, forall_const, alen, abuiltin, anil, isC, Int.reduceEq, Int.reduceLT, Int.reduceLE, Int.reduceAdd, Int.reduceToNat, Int.reduceNeg, Nat.reduceMul, Nat.reduceSub, abuild, afill, Int.reduceBNe, Int.reduceBEq, hbs, Try.underlying23, Try.underlying3, show ¬ (l.length : Int) > 262144 by omega, decide_false]
  refine Fits_spec st jp p size which gen num end_ pl _ hO.head he (by omega) _ _ ?_
  by_cases h2 : 1 + needN l.length ≤ size - end_
  · have hf : fitsN l.length size end_ = true := by unfold fitsN; rw [Int.toNat_natCast]; exact decide_eq_true (by omega)
    have hj := hO.head
    unfold jc at hj
    rw [hf]
    simp (config := { implicitDefEqProofs := false }) only [↓GP, GQ, ↓awp_seq, ↓awp_block, C_ex, Nat.reduceBEq, acap, afieldAddr, aload, astore, abin, anum, astr, aun, isAggD, cond_true, cond_false, ↓reduceIte, C_P, C_G, isTuple, Value.cells, setL, ares, aresL, ares1, reduceCtorEq, Nat.reduceEqDiff, eq_self, Nat.reduceAdd, if_true, if_false, one, Nat.reduceLeDiff, undef, gsl, aextract, aindexAddr, amake, implies_true, forall_const, alen, abuiltin, anil, isC, Int.reduceEq, Int.reduceLT, Int.reduceLE, Int.reduceAdd, Int.reduceToNat, Int.reduceNeg, Nat.reduceMul, Nat.reduceSub, abuild, afill, Int.reduceBNe, Int.reduceBEq, hj, afo69_6, asz4, Try.underlying4]
    cases pl with
    | true =>
      simp (config := { implicitDefEqProofs := false }) only [↓GP, GQ, ↓awp_seq, ↓awp_block, C_ex, Nat.reduceBEq, acap, afieldAddr, aload, astore, abin, anum, astr, aun, isAggD, cond_true, cond_false, ↓reduceIte, C_P, C_G, isTuple, Value.cells, setL, ares, aresL, ares1, reduceCtorEq, Nat.reduceEqDiff, eq_self, Nat.reduceAdd, if_true, if_false, one, Nat.reduceLeDiff, undef, gsl, aextract, aindexAddr, amake, implies_true, forall_const, alen, abuiltin, anil, isC, Int.reduceEq, Int.reduceLT, Int.reduceLE, Int.reduceAdd, Int.reduceToNat, Int.reduceNeg, Nat.reduceMul, Nat.reduceSub, abuild, afill, Int.reduceBNe, Int.reduceBEq]
      exact hoff (by omega) h2 rfl
    | false =>
      obtain rfl := hL rfl
      have wm : IntKind.i64.wrap ((which : Int) * (size : Int)) = ((which * size : Nat) : Int) := by
        have : which * size ≤ 5000 := Nat.le_trans (Nat.mul_le_mul_right _ hw) (by omega)
        rw [w_i64 (by rw [← Int.natCast_mul]; omega), Int.natCast_mul]
      have hws : which * size + size ≤ S.length := by
        have : which * size ≤ 1 * size := Nat.mul_le_mul_right _ hw
        omega
      have wa : IntKind.i64.wrap (((which * size : Nat) : Int) + (end_ : Int)) = ((which * size + end_ : Nat) : Int) := by rw [w_i64 (by omega)]; omega
      simp (config := { implicitDefEqProofs := false }) only [↓GP, GQ, ↓awp_seq, ↓awp_block, C_ex, Nat.reduceBEq, acap, afieldAddr, aload, astore, abin, anum, astr, aun, isAggD, cond_true, cond_false, ↓reduceIte, C_P, C_G, isTuple, Value.cells, setL, ares, aresL, ares1, reduceCtorEq, Nat.reduceEqDiff, eq_self, Nat.reduceAdd, if_true, if_false, one, Nat.reduceLeDiff, undef, gsl, aextract, aindexAddr, amake, implies_true, forall_const, alen, abuiltin, anil, isC, Int.reduceEq, Int.reduceLT, Int.reduceLE, Int.reduceAdd, Int.reduceToNat, Int.reduceNeg, Nat.reduceMul, Nat.reduceSub, abuild, afill, Int.reduceBNe, Int.reduceBEq]
      refine ADraw.of [(0, false, []), (1, false, []), (2, false, []), (3, false, []), (4, false, []), (5, false, []), (6, false, []), (7, false, []), (8, false, []), (9, false, []), (10, false, []), (11, false, []), (12, false, []), (13, false, []), (14, false, []), (15, false, []), (16, false, []), (17, false, []), (18, false, []), (19, false, []), (20, false, []), (21, false, []), (22, false, []), (23, false, []), (24, false, []), (25, false, []), (26, false, []), (27, false, []), (28, false, []), (29, false, []), (30, false, [])] [] [] (by kernel_rfl) ?_
      simp (config := { implicitDefEqProofs := false }) only [↓GP, GQ, ↓awp_seq, ↓awp_block, C_ex, Nat.reduceBEq, acap, afieldAddr, aload, astore, abin, anum, astr, aun, isAggD, cond_true, cond_false, ↓reduceIte, C_P, C_G, isTuple, Value.cells, setL, ares, aresL, ares1, reduceCtorEq, Nat.reduceEqDiff, eq_self, Nat.reduceAdd, if_true, if_false, one, Nat.reduceLeDiff, undef, gsl, aextract, aindexAddr, amake, implies_true, forall_const, alen, abuiltin, anil, isC, Int.reduceEq, Int.reduceLT, Int.reduceLE, Int.reduceAdd, Int.reduceToNat, Int.reduceNeg, Nat.reduceMul, Nat.reduceSub, abuild, afill, Int.reduceBNe, Int.reduceBEq, hj, afo69_0, afo69_1, afo69_2, afo69_3, afo69_4, afo69_5, asz3, asz26, Try.underlying3, Try.underlying26, wm, wa]
      rw [← hbs]
      have hO1 : Own st (h ++ ((jp, jc p size which gen num end_ false) :: r)) := hO.perm (perm_front h _ _).symm
      refine ACallF.enter Try.func35 rfl (by kernel_rfl) (write_spec st _ h p S fz (which * size + end_) gen num bv l hD hO1 (hb.sub fun e he => List.mem_cons_of_mem _ he) (by omega) hfz (by omega) hS hg (by omega) _ _ (fun S' L' h' s2 hne hF hD2 hO2 => ?_) (fun fz' h' s2 hsp hD2 hO2 => ?_))
      · have hO3 : Own s2 ((jp, jc p size which gen num end_ false) :: (h' ++ r)) := hO2.perm (perm_front h' _ _)
        simp (config := { implicitDefEqProofs := false }) only [↓GP, GQ, ↓awp_seq, ↓awp_block, C_ex, Nat.reduceBEq, acap, afieldAddr, aload, astore, abin, anum, astr, aun, isAggD, cond_true, cond_false, ↓reduceIte, C_P, C_G, isTuple, Value.cells, setL, ares, aresL, ares1, reduceCtorEq, Nat.reduceEqDiff, eq_self, Nat.reduceAdd, if_true, if_false, one, Nat.reduceLeDiff, undef, gsl, aextract, aindexAddr, amake, implies_true, forall_const, alen, abuiltin, anil, isC, Int.reduceEq, Int.reduceLT, Int.reduceLE, Int.reduceAdd, Int.reduceToNat, Int.reduceNeg, Nat.reduceMul, Nat.reduceSub, abuild, afill, Int.reduceBNe, Int.reduceBEq]
        refine did_spec s2 _ jp p size which gen num end_ false 50 hO3 _ _ fun s3 hO4 => ?_
        simp (config := { implicitDefEqProofs := false }) only [↓GP, GQ, ↓awp_seq, ↓awp_block, C_ex, Nat.reduceBEq, acap, afieldAddr, aload, astore, abin, anum, astr, aun, isAggD, cond_true, cond_false, ↓reduceIte, C_P, C_G, isTuple, Value.cells, setL, ares, aresL, ares1, reduceCtorEq, Nat.reduceEqDiff, eq_self, Nat.reduceAdd, if_true, if_false, one, Nat.reduceLeDiff, undef, gsl, aextract, aindexAddr, amake, implies_true, forall_const, alen, abuiltin, anil, isC, Int.reduceEq, Int.reduceLT, Int.reduceLE, Int.reduceAdd, Int.reduceToNat, Int.reduceNeg, Nat.reduceMul, Nat.reduceSub, abuild, afill, Int.reduceBNe, Int.reduceBEq, Try.underlying27]
        exact hpow S' L' h' s3 (by omega) h2 rfl hne hF hD2 hO4
      · have hO3 : Own s2 ((jp, jc p size which gen num end_ false) :: (h' ++ r)) := hO2.perm (perm_front h' _ _)
        simp (config := { implicitDefEqProofs := false }) only [↓GP, GQ, ↓awp_seq, ↓awp_block, C_ex, Nat.reduceBEq, acap, afieldAddr, aload, astore, abin, anum, astr, aun, isAggD, cond_true, cond_false, ↓reduceIte, C_P, C_G, isTuple, Value.cells, setL, ares, aresL, ares1, reduceCtorEq, Nat.reduceEqDiff, eq_self, Nat.reduceAdd, if_true, if_false, one, Nat.reduceLeDiff, undef, gsl, aextract, aindexAddr, amake, implies_true, forall_const, alen, abuiltin, anil, isC, Int.reduceEq, Int.reduceLT, Int.reduceLE, Int.reduceAdd, Int.reduceToNat, Int.reduceNeg, Nat.reduceMul, Nat.reduceSub, abuild, afill, Int.reduceBNe, Int.reduceBEq]
        refine did_spec s2 _ jp p size which gen num end_ false 0 hO3 _ _ fun s3 hO4 => ?_
        have hj4 := hO4.head
        have wn : IntKind.i64.wrap ((num : Int) + 1) = ((num + 1 : Nat) : Int) := by rw [w_i64 (by omega)]; omega
        have we : IntKind.i64.wrap (1 + ((needN l.length : Nat) : Int)) = ((1 + needN l.length : Nat) : Int) := by rw [w_i64 (by omega)]; omega
        have we2 : IntKind.i64.wrap ((end_ : Int) + ((1 + needN l.length : Nat) : Int)) = ((end_ + 1 + needN l.length : Nat) : Int) := by rw [w_i64 (by omega)]; omega
        unfold jc at hj4
        have hO5 := hO4.set rfl (jc p size which gen (num + 1) end_ false) rfl
        have hO6 := hO5.set rfl (jc p size which gen (num + 1) (end_ + 1 + needN l.length) false) rfl
        unfold jc at hO5 hO6
        simp (config := { implicitDefEqProofs := false }) only [↓GP, GQ, ↓awp_seq, ↓awp_block, C_ex, Nat.reduceBEq, acap, afieldAddr, aload, astore, abin, anum, astr, aun, isAggD, cond_true, cond_false, ↓reduceIte, C_P, C_G, isTuple, Value.cells, setL, ares, aresL, ares1, reduceCtorEq, Nat.reduceEqDiff, eq_self, Nat.reduceAdd, if_true, if_false, one, Nat.reduceLeDiff, undef, gsl, aextract, aindexAddr, amake, implies_true, forall_const, alen, abuiltin, anil, isC, Int.reduceEq, Int.reduceLT, Int.reduceLE, Int.reduceAdd, Int.reduceToNat, Int.reduceNeg, Nat.reduceMul, Nat.reduceSub, abuild, afill, Int.reduceBNe, Int.reduceBEq, hj4, afo69_4, asz3, Try.underlying3, Try.underlying27, wn]
        refine ADraw.of [(0, false, []), (1, false, []), (2, false, []), (3, true, []), (4, false, []), (5, false, []), (6, false, [3]), (7, false, []), (8, false, []), (9, false, []), (10, false, []), (11, false, [])] [3] [(3, 6)] (by kernel_rfl) ?_
        simp (config := { implicitDefEqProofs := false }) only [↓GP, GQ, ↓awp_seq, ↓awp_block, C_ex, Nat.reduceBEq, acap, afieldAddr, aload, astore, abin, anum, astr, aun, isAggD, cond_true, cond_false, ↓reduceIte, C_P, C_G, isTuple, Value.cells, setL, ares, aresL, ares1, reduceCtorEq, Nat.reduceEqDiff, eq_self, Nat.reduceAdd, if_true, if_false, one, Nat.reduceLeDiff, undef, gsl, aextract, aindexAddr, amake, implies_true, forall_const, alen, abuiltin, anil, isC, Int.reduceEq, Int.reduceLT, Int.reduceLE, Int.reduceAdd, Int.reduceToNat, Int.reduceNeg, Nat.reduceMul, Nat.reduceSub, abuild, afill, Int.reduceBNe, Int.reduceBEq, hbs, afo69_5, asz3, Try.underlying3, Try.underlying23]
        refine ACallF.enter Try.func38 rfl (by kernel_rfl) (need_spec _ l.length (by omega) _ _ ?_)
        simp (config := { implicitDefEqProofs := false }) only [↓GP, GQ, ↓awp_seq, ↓awp_block, C_ex, Nat.reduceBEq, acap, afieldAddr, aload, astore, abin, anum, astr, aun, isAggD, cond_true, cond_false, ↓reduceIte, C_P, C_G, isTuple, Value.cells, setL, ares, aresL, ares1, reduceCtorEq, Nat.reduceEqDiff, eq_self, Nat.reduceAdd, if_true, if_false, one, Nat.reduceLeDiff, undef, gsl, aextract, aindexAddr, amake, implies_true, forall_const, alen, abuiltin, anil, isC, Int.reduceEq, Int.reduceLT, Int.reduceLE, Int.reduceAdd, Int.reduceToNat, Int.reduceNeg, Nat.reduceMul, Nat.reduceSub, abuild, afill, Int.reduceBNe, Int.reduceBEq, hbs, afo69_5, asz3, Try.underlying3, Try.underlying23, we, we2]
        exact hok fz' h' _ (by omega) h2 rfl hsp hD2 hO6
  · have hf : fitsN l.length size end_ = false := by unfold fitsN; rw [Int.toNat_natCast]; exact decide_eq_false (by omega)
    rw [hf]
    simp (config := { implicitDefEqProofs := false }) only [↓GP, GQ, ↓awp_seq, ↓awp_block, C_ex, Nat.reduceBEq, acap, afieldAddr, aload, astore, abin, anum, astr, aun, isAggD, cond_true, cond_false, ↓reduceIte, C_P, C_G, isTuple, Value.cells, setL, ares, aresL, ares1, reduceCtorEq, Nat.reduceEqDiff, eq_self, Nat.reduceAdd, if_true, if_false, one, Nat.reduceLeDiff, undef, gsl, aextract, aindexAddr, amake, implies_true, forall_const, alen, abuiltin, anil, isC, Int.reduceEq, Int.reduceLT, Int.reduceLE, Int.reduceAdd, Int.reduceToNat, Int.reduceNeg, Nat.reduceMul, Nat.reduceSub, abuild, afill, Int.reduceBNe, Int.reduceBEq]
    exact hfull (by omega) h2
end Go.Proofs.Ytiooigkcliomlaa
/- A journal is made compact. No conditions. -/
set_option linter.unusedVariables false
set_option linter.unusedSimpArgs false
namespace Go.Proofs.Ytiooigkcliomlaa
open Go Go.Abs Go.RowKit
variable {base : Nat} {w0 : World} {G : Nat}

theorem Spent.trans {a b c : Int} (h : Spent a b) (k : Spent b c) : Spent a c := ⟨k.1, fun e => k.2.1 (h.2.1 e), fun e => k.2.2 (h.2.2 e)⟩
set_option maxHeartbeats 1600000 in
set_option maxRecDepth 10000 in
theorem Compact_spec (st : St) (r h : Hp) (jp p size which gen num end_ : Nat) (pl : Bool) (S : List (List Nat)) (L : List LN) (fz : Int) (bv : Value) (l : List Nat) (hD : DN p S L fz h) (hO : Own st ((jp, jc p size which gen num end_ pl) :: (h ++ r))) (hb : Nb r bv l) (hL : pl = false → L = []) (hfz : FZ fz)
    (hs : size * 2 ≤ S.length) (hS : S.length ≤ 5000) (hw : which ≤ 1) (hg : gen < 4294967296) (hl : l.length ≤ 1000000000) (k q : Value → St → Prop)
    (hlong : 262144 < l.length → k (.int .i64 12) st)
    (hfull : l.length ≤ 262144 → ¬ (1 + needN l.length ≤ size) → k (.int .i64 51) st)
    (htop : l.length ≤ 262144 → 1 + needN l.length ≤ size → gen = 4294967295 → k (.int .i64 52) st)
    (hoff : l.length ≤ 262144 → 1 + needN l.length ≤ size → gen ≠ 4294967295 → pl = true → k (.int .i64 50) st)
    (hpow1 : ∀ j h' st', l.length ≤ 262144 → 1 + needN l.length ≤ size → gen ≠ 4294967295 → pl = false → fz ≠ -1 → j ≤ size → DN p S (noughtF S false ((1 - which) * size) j) 0 h' → Own st' ((jp, jc p size which gen num end_ true) :: (h' ++ r)) → k (.int .i64 50) st')
    (hpow2 : ∀ S' L' h' st', l.length ≤ 262144 → 1 + needN l.length ≤ size → gen ≠ 4294967295 → pl = false → fz ≠ -1 → WFail (appN S (noughtF S false ((1 - which) * size) size)) ((1 - which) * size) (gen + 1) 0 l S' L' → DN p S' L' 0 h' → Own st' ((jp, jc p size which gen num end_ true) :: (h' ++ r)) → k (.int .i64 50) st')
    (hok : ∀ fz' h' st', l.length ≤ 262144 → 1 + needN l.length ≤ size → gen ≠ 4294967295 → pl = false → Spent fz fz' → DN p (wrote (appN S (noughtF S false ((1 - which) * size) size)) ((1 - which) * size) (gen + 1) 0 l) [] fz' h' → Own st' ((jp, jc p size (1 - which) (gen + 1) 1 (1 + needN l.length) false) :: (h' ++ r)) → k (.int .i64 0) st') :
    ACallF (C base w0 G) 25 [.pointer (some ⟨jp, 0, none⟩), bv] st k q := by
  refine ACallF.enter Try.func25 rfl (by kernel_rfl) ?_
  obtain ⟨ba, bc, hbs⟩ := hb.isSlice
  refine ACall.of (cx := C base w0 G) mixed Try.func25 rfl (by kernel_rfl) (by simp [Try.ntmps25]) ?_
  simp only [Try.results25]
  by_cases h1 : 262144 < l.length
  · simp (config := { implicitDefEqProofs := false }) only [↓GP, GQ, ↓awp_seq, ↓awp_block, C_ex, Nat.reduceBEq, acap, afieldAddr, aload, astore, abin, anum, astr, aun, isAggD, cond_true, cond_false, ↓reduceIte, C_P, C_G, isTuple, Value.cells, setL, ares, aresL, ares1, reduceCtorEq, Nat.reduceEqDiff, eq_self, Nat.reduceAdd, if_true, if_false, one, Nat.reduceLeDiff, undef, gsl, aextract, aindexAddr, amake, implies_true, forall_const, alen, abuiltin, anil, isC, Int.reduceEq, Int.reduceLT, Int.reduceLE, Int.reduceAdd, Int.reduceToNat, Int.reduceNeg, Nat.reduceMul, Nat.reduceSub, abuild, afill, Int.reduceBNe, Int.reduceBEq, hbs, Try.underlying23, Try.underlying3, show (l.length : Int) > 262144 by omega, decide_true]
    exact hlong h1
  have hj := hO.head
  have we : IntKind.i64.wrap (1 + ((needN l.length : Nat) : Int)) = ((1 + needN l.length : Nat) : Int) := by unfold needN; rw [w_i64 (by omega)]; omega
  unfold jc at hj
  simp (config := { implicitDefEqProofs := false }) only [↓GP, GQ, ↓awp_seq, ↓awp_block, C_ex, Nat.reduceBEq, acap, afieldAddr, aload, astore, abin, anum, astr, aun, isAggD, cond_true, cond_false, ↓reduceIte, C_P, C_G, isTuple, Value.cells, setL, ares, aresL, ares1, reduceCtorEq, Nat.reduceEqDiff, eq_self, Nat.reduceAdd, if_true, if_false, one, Nat.reduceLeDiff, undef, gsl, aextract, aindexAddr, amake, implies_true, forall_const, alen, abuiltin, anil, isC, Int.reduceEq, Int.reduceLT, Int.reduceLE, Int.reduceAdd, Int.reduceToNat, Int.reduceNeg, Nat.reduceMul, Nat.reduceSub, abuild, afill, Int.reduceBNe, Int.reduceBEq, hbs, Try.underlying23, Try.underlying3, show ¬ (l.length : Int) > 262144 by omega, decide_false]
  refine ADraw.of [(0, false, []), (1, false, []), (4, false, []), (5, false, []), (6, false, []), (7, true, []), (2, false, [7]), (3, false, []), (8, false, []), (9, false, [])] [7] [(7, 2)] (by kernel_rfl) ?_
  simp (config := { implicitDefEqProofs := false }) only [↓GP, GQ, ↓awp_seq, ↓awp_block, C_ex, Nat.reduceBEq, acap, afieldAddr, aload, astore, abin, anum, astr, aun, isAggD, cond_true, cond_false, ↓reduceIte, C_P, C_G, isTuple, Value.cells, setL, ares, aresL, ares1, reduceCtorEq, Nat.reduceEqDiff, eq_self, Nat.reduceAdd, if_true, if_false, one, Nat.reduceLeDiff, undef, gsl, aextract, aindexAddr, amake, implies_true, forall_const, alen, abuiltin, anil, isC, Int.reduceEq, Int.reduceLT, Int.reduceLE, Int.reduceAdd, Int.reduceToNat, Int.reduceNeg, Nat.reduceMul, Nat.reduceSub, abuild, afill, Int.reduceBNe, Int.reduceBEq, hbs, hj, afo69_1, asz3, Try.underlying23, Try.underlying3]
  refine ACallF.enter Try.func38 rfl (by kernel_rfl) (need_spec _ l.length (by omega) _ _ ?_)
  by_cases h2 : 1 + needN l.length ≤ size
  case neg =>
    simp (config := { implicitDefEqProofs := false }) only [↓GP, GQ, ↓awp_seq, ↓awp_block, C_ex, Nat.reduceBEq, acap, afieldAddr, aload, astore, abin, anum, astr, aun, isAggD, cond_true, cond_false, ↓reduceIte, C_P, C_G, isTuple, Value.cells, setL, ares, aresL, ares1, reduceCtorEq, Nat.reduceEqDiff, eq_self, Nat.reduceAdd, if_true, if_false, one, Nat.reduceLeDiff, undef, gsl, aextract, aindexAddr, amake, implies_true, forall_const, alen, abuiltin, anil, isC, Int.reduceEq, Int.reduceLT, Int.reduceLE, Int.reduceAdd, Int.reduceToNat, Int.reduceNeg, Nat.reduceMul, Nat.reduceSub, abuild, afill, Int.reduceBNe, Int.reduceBEq, hbs, hj, afo69_1, asz3, Try.underlying23, Try.underlying3, we, show ((1 + needN l.length : Nat) : Int) > (size : Int) by omega, decide_true]
    exact hfull (by omega) h2
  by_cases h3 : gen = 4294967295
  · simp (config := { implicitDefEqProofs := false }) only [↓GP, GQ, ↓awp_seq, ↓awp_block, C_ex, Nat.reduceBEq, acap, afieldAddr, aload, astore, abin, anum, astr, aun, isAggD, cond_true, cond_false, ↓reduceIte, C_P, C_G, isTuple, Value.cells, setL, ares, aresL, ares1, reduceCtorEq, Nat.reduceEqDiff, eq_self, Nat.reduceAdd, if_true, if_false, one, Nat.reduceLeDiff, undef, gsl, aextract, aindexAddr, amake, implies_true, forall_const, alen, abuiltin, anil, isC, Int.reduceEq, Int.reduceLT, Int.reduceLE, Int.reduceAdd, Int.reduceToNat, Int.reduceNeg, Nat.reduceMul, Nat.reduceSub, abuild, afill, Int.reduceBNe, Int.reduceBEq, hbs, hj, afo69_1, afo69_3, asz3, Try.underlying23, Try.underlying3, we, show ¬ ((1 + needN l.length : Nat) : Int) > (size : Int) by omega, decide_false, beqT (show (gen : Int) = 4294967295 by omega)]
    exact htop (by omega) h2 h3
  cases pl with
  | true =>
    simp (config := { implicitDefEqProofs := false }) only [↓GP, GQ, ↓awp_seq, ↓awp_block, C_ex, Nat.reduceBEq, acap, afieldAddr, aload, astore, abin, anum, astr, aun, isAggD, cond_true, cond_false, ↓reduceIte, C_P, C_G, isTuple, Value.cells, setL, ares, aresL, ares1, reduceCtorEq, Nat.reduceEqDiff, eq_self, Nat.reduceAdd, if_true, if_false, one, Nat.reduceLeDiff, undef, gsl, aextract, aindexAddr, amake, implies_true, forall_const, alen, abuiltin, anil, isC, Int.reduceEq, Int.reduceLT, Int.reduceLE, Int.reduceAdd, Int.reduceToNat, Int.reduceNeg, Nat.reduceMul, Nat.reduceSub, abuild, afill, Int.reduceBNe, Int.reduceBEq, hbs, hj, afo69_1, afo69_3, afo69_6, asz3, asz4, Try.underlying23, Try.underlying3, Try.underlying4, we, show ¬ ((1 + needN l.length : Nat) : Int) > (size : Int) by omega, decide_false, beqF (show ¬ (gen : Int) = 4294967295 by omega)]
    exact hoff (by omega) h2 h3 rfl
  | false =>
  obtain rfl := hL rfl
  have ho1 : (1 - which) ≤ 1 := by omega
  have wo : IntKind.i64.wrap (1 - (which : Int)) = ((1 - which : Nat) : Int) := by rw [w_i64 (by omega)]; omega
  generalize hoth : 1 - which = o at *
  have hos : o * size ≤ 1 * size := Nat.mul_le_mul_right _ ho1
  have wm : IntKind.i64.wrap ((o : Int) * (size : Int)) = ((o * size : Nat) : Int) := by rw [w_i64 (by rw [← Int.natCast_mul]; omega), Int.natCast_mul]
  have w1 : IntKind.i64.wrap ((o : Int) + 1) = ((o + 1 : Nat) : Int) := by rw [w_i64 (by omega)]; omega
  have hos1 : (o + 1) * size = o * size + size := by rw [Nat.add_mul, Nat.one_mul]
  have wm1 : IntKind.i64.wrap (((o + 1 : Nat) : Int) * (size : Int)) = ((o * size + size : Nat) : Int) := by rw [← Int.natCast_mul, hos1, w_i64 (by omega)]
  have wg : IntKind.i64.wrap ((gen : Int) + 1) = ((gen + 1 : Nat) : Int) := by rw [w_i64 (by omega)]; omega
  simp (config := { implicitDefEqProofs := false }) only [↓GP, GQ, ↓awp_seq, ↓awp_block, C_ex, Nat.reduceBEq, acap, afieldAddr, aload, astore, abin, anum, astr, aun, isAggD, cond_true, cond_false, ↓reduceIte, C_P, C_G, isTuple, Value.cells, setL, ares, aresL, ares1, reduceCtorEq, Nat.reduceEqDiff, eq_self, Nat.reduceAdd, if_true, if_false, one, Nat.reduceLeDiff, undef, gsl, aextract, aindexAddr, amake, implies_true, forall_const, alen, abuiltin, anil, isC, Int.reduceEq, Int.reduceLT, Int.reduceLE, Int.reduceAdd, Int.reduceToNat, Int.reduceNeg, Nat.reduceMul, Nat.reduceSub, abuild, afill, Int.reduceBNe, Int.reduceBEq, hbs, hj, afo69_1, afo69_2, afo69_3, afo69_6, asz3, asz4, Try.underlying23, Try.underlying3, Try.underlying4, we, show ¬ ((1 + needN l.length : Nat) : Int) > (size : Int) by omega, decide_false, beqF (show ¬ (gen : Int) = 4294967295 by omega), wo]
  refine ADraw.of [(0, false, []), (1, false, []), (2, false, []), (3, false, []), (4, false, []), (5, false, []), (6, false, []), (7, false, []), (8, false, []), (9, false, []), (10, false, []), (11, false, []), (12, false, []), (13, false, []), (14, false, []), (15, false, []), (16, false, []), (17, false, []), (18, false, []), (19, false, []), (20, false, [])] [] [] (by kernel_rfl) ?_
  simp (config := { implicitDefEqProofs := false }) only [↓GP, GQ, ↓awp_seq, ↓awp_block, C_ex, Nat.reduceBEq, acap, afieldAddr, aload, astore, abin, anum, astr, aun, isAggD, cond_true, cond_false, ↓reduceIte, C_P, C_G, isTuple, Value.cells, setL, ares, aresL, ares1, reduceCtorEq, Nat.reduceEqDiff, eq_self, Nat.reduceAdd, if_true, if_false, one, Nat.reduceLeDiff, undef, gsl, aextract, aindexAddr, amake, implies_true, forall_const, alen, abuiltin, anil, isC, Int.reduceEq, Int.reduceLT, Int.reduceLE, Int.reduceAdd, Int.reduceToNat, Int.reduceNeg, Nat.reduceMul, Nat.reduceSub, abuild, afill, Int.reduceBNe, Int.reduceBEq, hj, afo69_0, afo69_1, asz3, asz26, Try.underlying3, Try.underlying26, wm, w1, wm1]
  have hO1 : Own st (h ++ ((jp, jc p size which gen num end_ false) :: r)) := hO.perm (perm_front h _ _).symm
  refine ACallF.enter Try.func34 rfl (by kernel_rfl) (nought_spec st _ h p S fz (o * size) size false hD hO1 hfz (by omega) hS (by simp) _ _ (fun j h' s2 hne hj2 hD2 hO2 => ?_) (fun fz' h' s2 hsp hD2 hO2 => ?_))
  · simp (config := { implicitDefEqProofs := false }) only [↓GP, GQ, ↓awp_seq, ↓awp_block, C_ex, Nat.reduceBEq, acap, afieldAddr, aload, astore, abin, anum, astr, aun, isAggD, cond_true, cond_false, ↓reduceIte, C_P, C_G, isTuple, Value.cells, setL, ares, aresL, ares1, reduceCtorEq, Nat.reduceEqDiff, eq_self, Nat.reduceAdd, if_true, if_false, one, Nat.reduceLeDiff, undef, gsl, aextract, aindexAddr, amake, implies_true, forall_const, alen, abuiltin, anil, isC, Int.reduceEq, Int.reduceLT, Int.reduceLE, Int.reduceAdd, Int.reduceToNat, Int.reduceNeg, Nat.reduceMul, Nat.reduceSub, abuild, afill, Int.reduceBNe, Int.reduceBEq]
    refine did_spec s2 _ jp p size which gen num end_ false 50 (hO2.perm (perm_front h' _ _)) _ _ fun s3 hO3 => ?_
    simp (config := { implicitDefEqProofs := false }) only [↓GP, GQ, ↓awp_seq, ↓awp_block, C_ex, Nat.reduceBEq, acap, afieldAddr, aload, astore, abin, anum, astr, aun, isAggD, cond_true, cond_false, ↓reduceIte, C_P, C_G, isTuple, Value.cells, setL, ares, aresL, ares1, reduceCtorEq, Nat.reduceEqDiff, eq_self, Nat.reduceAdd, if_true, if_false, one, Nat.reduceLeDiff, undef, gsl, aextract, aindexAddr, amake, implies_true, forall_const, alen, abuiltin, anil, isC, Int.reduceEq, Int.reduceLT, Int.reduceLE, Int.reduceAdd, Int.reduceToNat, Int.reduceNeg, Nat.reduceMul, Nat.reduceSub, abuild, afill, Int.reduceBNe, Int.reduceBEq, Try.underlying27]
    exact hpow1 j h' s3 (by omega) h2 h3 rfl hne hj2 hD2 hO3
  · simp (config := { implicitDefEqProofs := false }) only [↓GP, GQ, ↓awp_seq, ↓awp_block, C_ex, Nat.reduceBEq, acap, afieldAddr, aload, astore, abin, anum, astr, aun, isAggD, cond_true, cond_false, ↓reduceIte, C_P, C_G, isTuple, Value.cells, setL, ares, aresL, ares1, reduceCtorEq, Nat.reduceEqDiff, eq_self, Nat.reduceAdd, if_true, if_false, one, Nat.reduceLeDiff, undef, gsl, aextract, aindexAddr, amake, implies_true, forall_const, alen, abuiltin, anil, isC, Int.reduceEq, Int.reduceLT, Int.reduceLE, Int.reduceAdd, Int.reduceToNat, Int.reduceNeg, Nat.reduceMul, Nat.reduceSub, abuild, afill, Int.reduceBNe, Int.reduceBEq]
    refine did_spec s2 _ jp p size which gen num end_ false 0 (hO2.perm (perm_front h' _ _)) _ _ fun s3 hO3 => ?_
    have hj3 := hO3.head
    unfold jc at hj3
    simp (config := { implicitDefEqProofs := false }) only [↓GP, GQ, ↓awp_seq, ↓awp_block, C_ex, Nat.reduceBEq, acap, afieldAddr, aload, astore, abin, anum, astr, aun, isAggD, cond_true, cond_false, ↓reduceIte, C_P, C_G, isTuple, Value.cells, setL, ares, aresL, ares1, reduceCtorEq, Nat.reduceEqDiff, eq_self, Nat.reduceAdd, if_true, if_false, one, Nat.reduceLeDiff, undef, gsl, aextract, aindexAddr, amake, implies_true, forall_const, alen, abuiltin, anil, isC, Int.reduceEq, Int.reduceLT, Int.reduceLE, Int.reduceAdd, Int.reduceToNat, Int.reduceNeg, Nat.reduceMul, Nat.reduceSub, abuild, afill, Int.reduceBNe, Int.reduceBEq, Try.underlying27]
    refine ADraw.of [(0, false, []), (1, false, []), (2, false, []), (3, false, []), (4, false, []), (5, false, []), (6, false, []), (7, false, []), (8, false, []), (9, false, []), (10, false, []), (11, false, []), (12, false, []), (13, false, []), (14, false, []), (15, false, []), (16, false, []), (17, false, []), (18, false, []), (19, false, [])] [] [] (by kernel_rfl) ?_
    simp (config := { implicitDefEqProofs := false }) only [↓GP, GQ, ↓awp_seq, ↓awp_block, C_ex, Nat.reduceBEq, acap, afieldAddr, aload, astore, abin, anum, astr, aun, isAggD, cond_true, cond_false, ↓reduceIte, C_P, C_G, isTuple, Value.cells, setL, ares, aresL, ares1, reduceCtorEq, Nat.reduceEqDiff, eq_self, Nat.reduceAdd, if_true, if_false, one, Nat.reduceLeDiff, undef, gsl, aextract, aindexAddr, amake, implies_true, forall_const, alen, abuiltin, anil, isC, Int.reduceEq, Int.reduceLT, Int.reduceLE, Int.reduceAdd, Int.reduceToNat, Int.reduceNeg, Nat.reduceMul, Nat.reduceSub, abuild, afill, Int.reduceBNe, Int.reduceBEq, hj3, afo69_0, afo69_1, afo69_3, asz3, asz26, Try.underlying3, Try.underlying26, wm, wg]
    rw [← hbs]
    have hO4 : Own s3 (h' ++ ((jp, jc p size which gen num end_ false) :: r)) := hO3.perm (perm_front h' _ _).symm
    refine ACallF.enter Try.func35 rfl (by kernel_rfl) (write_spec s3 _ h' p _ fz' (o * size) (gen + 1) 0 bv l hD2 hO4 (hb.sub fun e he => List.mem_cons_of_mem _ he) (by omega) hsp.1 (by rw [appN_length]; omega) (by rw [appN_length]; exact hS) (by omega) (by decide) _ _ (fun S' L' h5 s5 hne hF hD5 hO5 => ?_) (fun fz5 h5 s5 hsp5 hD5 hO5 => ?_))
    · simp (config := { implicitDefEqProofs := false }) only [↓GP, GQ, ↓awp_seq, ↓awp_block, C_ex, Nat.reduceBEq, acap, afieldAddr, aload, astore, abin, anum, astr, aun, isAggD, cond_true, cond_false, ↓reduceIte, C_P, C_G, isTuple, Value.cells, setL, ares, aresL, ares1, reduceCtorEq, Nat.reduceEqDiff, eq_self, Nat.reduceAdd, if_true, if_false, one, Nat.reduceLeDiff, undef, gsl, aextract, aindexAddr, amake, implies_true, forall_const, alen, abuiltin, anil, isC, Int.reduceEq, Int.reduceLT, Int.reduceLE, Int.reduceAdd, Int.reduceToNat, Int.reduceNeg, Nat.reduceMul, Nat.reduceSub, abuild, afill, Int.reduceBNe, Int.reduceBEq]
      refine did_spec s5 _ jp p size which gen num end_ false 50 (hO5.perm (perm_front h5 _ _)) _ _ fun s6 hO6 => ?_
      simp (config := { implicitDefEqProofs := false }) only [↓GP, GQ, ↓awp_seq, ↓awp_block, C_ex, Nat.reduceBEq, acap, afieldAddr, aload, astore, abin, anum, astr, aun, isAggD, cond_true, cond_false, ↓reduceIte, C_P, C_G, isTuple, Value.cells, setL, ares, aresL, ares1, reduceCtorEq, Nat.reduceEqDiff, eq_self, Nat.reduceAdd, if_true, if_false, one, Nat.reduceLeDiff, undef, gsl, aextract, aindexAddr, amake, implies_true, forall_const, alen, abuiltin, anil, isC, Int.reduceEq, Int.reduceLT, Int.reduceLE, Int.reduceAdd, Int.reduceToNat, Int.reduceNeg, Nat.reduceMul, Nat.reduceSub, abuild, afill, Int.reduceBNe, Int.reduceBEq, Try.underlying27]
      exact hpow2 S' L' h5 s6 (by omega) h2 h3 rfl (fun e => hne (hsp.2.1 e)) hF hD5 hO6
    · simp (config := { implicitDefEqProofs := false }) only [↓GP, GQ, ↓awp_seq, ↓awp_block, C_ex, Nat.reduceBEq, acap, afieldAddr, aload, astore, abin, anum, astr, aun, isAggD, cond_true, cond_false, ↓reduceIte, C_P, C_G, isTuple, Value.cells, setL, ares, aresL, ares1, reduceCtorEq, Nat.reduceEqDiff, eq_self, Nat.reduceAdd, if_true, if_false, one, Nat.reduceLeDiff, undef, gsl, aextract, aindexAddr, amake, implies_true, forall_const, alen, abuiltin, anil, isC, Int.reduceEq, Int.reduceLT, Int.reduceLE, Int.reduceAdd, Int.reduceToNat, Int.reduceNeg, Nat.reduceMul, Nat.reduceSub, abuild, afill, Int.reduceBNe, Int.reduceBEq]
      refine did_spec s5 _ jp p size which gen num end_ false 0 (hO5.perm (perm_front h5 _ _)) _ _ fun s6 hO6 => ?_
      have hj6 := hO6.head
      have hO7 := (((hO6.set rfl (jc p size o gen num end_ false) rfl).set rfl (jc p size o (gen + 1) num end_ false) rfl).set rfl (jc p size o (gen + 1) 1 end_ false) rfl).set rfl (jc p size o (gen + 1) 1 (1 + needN l.length) false) rfl
      unfold jc at hj6 hO7
      simp (config := { implicitDefEqProofs := false }) only [↓GP, GQ, ↓awp_seq, ↓awp_block, C_ex, Nat.reduceBEq, acap, afieldAddr, aload, astore, abin, anum, astr, aun, isAggD, cond_true, cond_false, ↓reduceIte, C_P, C_G, isTuple, Value.cells, setL, ares, aresL, ares1, reduceCtorEq, Nat.reduceEqDiff, eq_self, Nat.reduceAdd, if_true, if_false, one, Nat.reduceLeDiff, undef, gsl, aextract, aindexAddr, amake, implies_true, forall_const, alen, abuiltin, anil, isC, Int.reduceEq, Int.reduceLT, Int.reduceLE, Int.reduceAdd, Int.reduceToNat, Int.reduceNeg, Nat.reduceMul, Nat.reduceSub, abuild, afill, Int.reduceBNe, Int.reduceBEq, Try.underlying27]
      refine ADraw.of [(0, false, []), (1, false, []), (2, false, []), (3, false, []), (4, false, []), (5, false, []), (6, false, []), (7, false, []), (8, true, []), (9, false, []), (10, false, []), (11, false, []), (12, false, [8]), (13, false, []), (14, false, []), (15, false, []), (16, false, []), (17, false, []), (18, false, []), (19, false, []), (20, false, []), (21, false, []), (22, false, []), (23, false, []), (24, false, []), (25, false, [])] [8] [(8, 12)] (by kernel_rfl) ?_
      simp (config := { implicitDefEqProofs := false }) only [↓GP, GQ, ↓awp_seq, ↓awp_block, C_ex, Nat.reduceBEq, acap, afieldAddr, aload, astore, abin, anum, astr, aun, isAggD, cond_true, cond_false, ↓reduceIte, C_P, C_G, isTuple, Value.cells, setL, ares, aresL, ares1, reduceCtorEq, Nat.reduceEqDiff, eq_self, Nat.reduceAdd, if_true, if_false, one, Nat.reduceLeDiff, undef, gsl, aextract, aindexAddr, amake, implies_true, forall_const, alen, abuiltin, anil, isC, Int.reduceEq, Int.reduceLT, Int.reduceLE, Int.reduceAdd, Int.reduceToNat, Int.reduceNeg, Nat.reduceMul, Nat.reduceSub, abuild, afill, Int.reduceBNe, Int.reduceBEq, hbs, hj6, afo69_3, asz3, Try.underlying3, Try.underlying23, wg]
      refine ACallF.enter Try.func38 rfl (by kernel_rfl) (need_spec _ l.length (by omega) _ _ ?_)
      simp (config := { implicitDefEqProofs := false }) only [↓GP, GQ, ↓awp_seq, ↓awp_block, C_ex, Nat.reduceBEq, acap, afieldAddr, aload, astore, abin, anum, astr, aun, isAggD, cond_true, cond_false, ↓reduceIte, C_P, C_G, isTuple, Value.cells, setL, ares, aresL, ares1, reduceCtorEq, Nat.reduceEqDiff, eq_self, Nat.reduceAdd, if_true, if_false, one, Nat.reduceLeDiff, undef, gsl, aextract, aindexAddr, amake, implies_true, forall_const, alen, abuiltin, anil, isC, Int.reduceEq, Int.reduceLT, Int.reduceLE, Int.reduceAdd, Int.reduceToNat, Int.reduceNeg, Nat.reduceMul, Nat.reduceSub, abuild, afill, Int.reduceBNe, Int.reduceBEq, hbs, hj6, afo69_2, afo69_3, afo69_4, afo69_5, asz3, Try.underlying3, Try.underlying23, wg, we]
      exact hok fz5 h5 _ (by omega) h2 h3 rfl (hsp.trans hsp5) hD5 hO7
end Go.Proofs.Ytiooigkcliomlaa
