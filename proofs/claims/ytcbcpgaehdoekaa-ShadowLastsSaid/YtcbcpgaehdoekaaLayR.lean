/- The shelf's contracts, laid: strings.Repeat, maps.Keys, slices.Sorted. -/
import Derived.Test.YtcbcpgaehdoekaaLayQ
import Derived.Test.YtcbcpgaehdoekaaProg
import Derived.KernelRfl
set_option linter.unusedVariables false
namespace Go.Proofs
open Go.Shelf Go.RowKit
theorem Try.repeatX : Builder.Extra Try.prog Try.layRepeat_ren := {
  sizeBuilder := by kernel_rfl
  liesBuilder := by kernel_rfl
  t5 := Try.layRepeat.t5
  a5 := Try.layRepeat.a5
  z5 := Try.layRepeat.z5
  v5 := Try.layRepeat.v5
  infoByte := by kernel_rfl
  cellsByte := by kernel_rfl
  sizeByte := by kernel_rfl
  neB5 := by decide }
theorem Try.repeat_calls (s : ByteArray) (c : Nat) (w : World) (hc : c ≤ 9223372036854775807) (hlen : s.size * c ≤ 140737488355328) :
    Calls Try.prog 39 #[.string s, .int .i64 c] w fun e w' => e = .returned (.string ⟨(Lib.repeatL s.data.toList c).toArray⟩) ∧ Below w.heap.size w w' :=
  Any.strings_Repeat Try.layRepeat Try.repeatX s c w hc hlen
theorem Try.mul_calls (x y : Nat) (hx : x < 18446744073709551616) (hy : y < 18446744073709551616) (w : World) :
    Calls Try.prog 54 #[.int .u64 x, .int .u64 y] w fun e w' => e = .returned (.tuple #[.int .u64 ((x * y / 18446744073709551616 : Nat) : Int), .int .u64 ((x * y % 18446744073709551616 : Nat) : Int)]) ∧ w' = w :=
  Any.bits_Mul { Try.layRepeat with } x y hx hy w
end Go.Proofs
