/- The shelf's contracts, laid: maps.Keys and slices.Sorted over whole numbers. -/
import Derived.Test.YtcbcpgaehdoekaaLayQ
import Derived.Test.YtcbcpgaehdoekaaProg
import Derived.KernelRfl
set_option linter.unusedVariables false
namespace Go.Proofs
open Go.Shelf Go.RowKit Go.Maps Go.Sort
theorem Try.sortsIn (m : Nat) : AnyZI.SortsIn Try.prog Try.laySorted_ren Fence.wide m :=
  ⟨fun blk off cap ss W hH hblk hsz => callsIn_wide.2 (AnyM.slices_Sort_int Try.laySort blk off cap ss W hH hblk hsz),
   fun p cap W => callsIn_wide.2 (AnyM.slices_Sort_int_none Try.laySort p cap W)⟩
theorem Try.keys_calls (mb : Option Nat) (W : World) : Calls Try.prog 32 #[.map mb] W fun e w' => e = .returned (.func (.func 48) #[] #[.pointer (some ⟨W.heap.size, 0, none⟩)]) ∧ w' = W.alloc (.cells #[.map mb] 52) :=
  (callsIn_wide (n := 5)).1 (AnyZI.keys_in Try.layKeys Fence.wide 5 trivial rfl mb W)
theorem Try.sorted_calls {H : Type} (b box nn : Nat) (D0 : DataW H) (R : Value → Option (DataW H × List MemPlace)) (w : World) (hbox : w.cell? ⟨box, 0, none⟩ = some (.map (some b))) (hbl : box < w.heap.size) (hown : w.ownsMap Try.prog 3 R b nn D0) (hmax : Maps.size D0 ≤ maxLen) (hbytes : Maps.size D0 * 8 ≤ 140737488355328) :
    Calls Try.prog 31 #[.func (.func 48) #[] #[.pointer (some ⟨box, 0, none⟩)]] w fun e w' => ∃ (v : Value) (ss : List Int), e = .returned v ∧ ss.Perm (intKeys D0) ∧
      w'.ownsRow w.heap.size 3 1 v ss.length ((ss.mergeSort (fun x y => decide (x ≤ y))).map encZ) ∧ (v = .slice none 0 0 ↔ ss = []) ∧ Below w.heap.size w w' := by
  have hseq : SeqGives Fence.wide 2 Try.prog 48 #[.pointer (some ⟨box, 0, none⟩)] encZ (fun ss => ss.Perm (intKeys D0)) (Maps.size D0) w :=
    AnyZI.keys_gives (ρ := Try.layKeys_ren) { Try.layKeys with } Fence.wide _ trivial rfl (by omega) box b nn D0 _ hbl hbox hown
  have cS := AnyZI.sorted_in Try.laySorted Fence.wide 5 trivial trivial trivial trivial rfl (by omega) (Try.sortsIn _) (enters_of Try.func47 (by kernel_rfl) rfl) 48 #[.pointer (some ⟨box, 0, none⟩)] trivial (enters_of Try.func48 (by kernel_rfl) rfl) _ _ hmax hbytes _ hseq
  exact (callsIn_wide (n := 5)).1 cS
end Go.Proofs
