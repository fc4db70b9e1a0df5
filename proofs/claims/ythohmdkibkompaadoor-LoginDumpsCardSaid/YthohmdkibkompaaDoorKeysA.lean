/- The keys of the desk's map, sorted. No conditions. -/
import Derived.Test.YthohmdkibkompaaDoorShelfI
import Derived.Test.YthohmdkibkompaaDoorLoginH
import Derived.Test.YthohmdkibkompaaDoorAbsJ
set_option linter.unusedVariables false
set_option linter.unusedSimpArgs false
namespace Go.Proofs.YthohmdkibkompaaDoor
open Go Go.Abs Go.RowKit Go.Maps Go.Sort Go.Shelf Go.Proofs
variable {base : Nat} {w0 : World} {G : Nat}

theorem sorts_in (m : Nat) : AnyZ.SortsIn Tryd.prog Tryd.sorted29_ren Fence.wide m :=
  ⟨fun blk off cap ss W hH hblk hsz => callsIn_wide.2 (AnyM.slices_Sort_string Tryd.sort44 blk off cap ss W hH hblk hsz),
   fun p cap W => callsIn_wide.2 (AnyM.slices_Sort_string_none Tryd.sort44 p cap W)⟩
theorem keys_calls (mb : Option Nat) (w : World) : Calls Tryd.prog 30 #[.map mb] w fun e w' => e = .returned (.func (.func 45) #[] #[.pointer (some ⟨w.heap.size, 0, none⟩)]) ∧ w' = w.alloc (.cells #[.map mb] 53) :=
  callsIn_wide.1 (AnyZ.keys_in Tryd.keys30 Fence.wide 5 trivial rfl mb w)
set_option maxHeartbeats 1000000 in
theorem sorted_calls (b nn Bm : Nat) (D0 : DataW Unit) (R : Value → Option (DataW Unit × List MemPlace)) (w : World) (hBm : Bm < w.heap.size) (hm : w.cell? ⟨Bm, 0, none⟩ = some (.map (some b))) (hown : w.ownsMap Tryd.prog 9 R b nn D0)
    (hmax : Maps.size D0 ≤ maxLen) (hbytes : Maps.size D0 * 16 ≤ 140737488355328) :
    Calls Tryd.prog 29 #[.func (.func 45) #[] #[.pointer (some ⟨Bm, 0, none⟩)]] w fun e w' => ∃ (v : Value) (ss : List (List UInt8)), e = .returned v ∧ ss.Perm (strKeys D0) ∧
      w'.ownsRow w.heap.size 9 1 v ss.length ((ss.mergeSort (fun x y => decide (x ≤ y))).map encStr) ∧ (v = .slice none 0 0 ↔ ss = []) ∧ Below w.heap.size w w' := by
  have hseq : SeqGives Fence.wide 2 Tryd.prog 45 #[.pointer (some ⟨Bm, 0, none⟩)] encStr (fun ss => ss.Perm (strKeys D0)) (Maps.size D0) w :=
    AnyZ.keys_gives (ρ := Tryd.keys30_ren) { Tryd.keys30 with } Fence.wide _ trivial rfl (by omega) Bm b nn D0 w hBm hm hown
  exact callsIn_wide.1 (AnyZ.sorted_in Tryd.sorted29 Fence.wide 5 trivial trivial trivial trivial rfl (by omega) (sorts_in _) (enters_of Tryd.func44 (by kernel_rfl) rfl) 45 #[.pointer (some ⟨Bm, 0, none⟩)] trivial (enters_of Tryd.func45 (by kernel_rfl) rfl) _ _ hmax hbytes _ hseq)
theorem MKeys_call {st : St} {M : Nat} (k q : Value → St → Prop) (hk : k (.func (.func 45) #[] #[.pointer (some ⟨st.n, 0, none⟩)]) (st.new (.mbox (.map (some M)) 53))) : ACallF (C base w0 G) 30 [.map (some M)] st k q :=
  ACallF.boxMap Tryd.func30 rfl (by kernel_rfl) keys_calls hk
theorem SSorted_call {st : St} {B M clk : Nat} {es : List MapEntry} {F : Fails} (hB : st.H B = some (.mbox (.map (some M)) 53)) (hM : st.H M = some (.map es clk)) (hF : MRelS failV es clk F) (hlen : F.length ≤ 100000) (hkl : ∀ x ∈ F, x.1.length ≤ 100000) (k q : Value → St → Prop)
    (hk : ∀ (K : List (List Nat)) v h st', K.Perm (F.map (·.1)) → (K.map fun a => a.map UInt8.ofNat).Pairwise (fun x y => x ≤ y) → (∀ r, Own st r → Own st' (h ++ r)) → Rws h v 1 (K.map fun a => [.string (str a)]) → k v st') :
    ACallF (C base w0 G) 29 [.func (.func 45) #[] #[.pointer (some ⟨B, 0, none⟩)]] st k q :=
  ACallF.sortedKeys (cx := C base w0 G) Tryd.func29 rfl (by kernel_rfl) Tryd.underlying9 (by kernel_rfl) hB hM hF hlen hkl sorted_calls hk
end Go.Proofs.YthohmdkibkompaaDoor
