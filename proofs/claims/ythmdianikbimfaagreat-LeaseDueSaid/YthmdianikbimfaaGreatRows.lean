/-
  No cell of these rows narrows 'for every input' (looked for: loops, veiled, ifaces, maps, wideKeys, modest, calm, conditions, laid).
  DERIVED. THE GIVEN ROWS OF THIS SEAT. 4 by the template 'for every input the law returns true; each argument reads behind the call as it read before'; 0 by the template 'total and deterministic' (their statements: YthmdianikbimfaaGreatTotals.lean).
  GIVEN WITH THE SEED: the statements are not yours to turn. If you find one false, say at which input.
  Laid BY PROGRAM, IN A SANDBOX (cutbox-rows.mjs): the forced cells as the released guide's own fill.sh prints them over the translation 4da65f979547e044… (all of the seat's roots in one cut). By AI agents, Wed Nov 11 2026. No macro, syntax, notation, axiom, sorry.
-/
import Derived.Test.YthmdianikbimfaaGreatChecked
import GoSem.Claim
import GoSem.ClaimJoined
import GoSem.ClaimMapViews
import Derived.JoinedTies
import Derived.KernelRfl
namespace Go.Proofs.YthmdianikbimfaaGreat
/- THE CELL 'sum', in the pinned program and in every row, IS THE sha256 OF THE DUMP (.gsa) THAT YthmdianikbimfaaGreatProg.lean LOADS. Nothing in Lean hashes anything: it is a label: what it is worth is what the hold of that sum in a sandbox is worth. -/
noncomputable def Tryz.pinned : Pinned := { name := "ythmdianikbimfaagreat", sum := "4da65f979547e0444b405ae10e98bda94966d12c84a9e7d638ffc9d7e8cae1b1", checked := Tryz.checked }
namespace Rows
def none {H : Type} : Left H := { results := [], args := [] }

/-- 'bailiwicklaw16.LeaseKeys': WHATEVER THE INPUT: true; the input reads as it did. -/
def leaseKeysSpec : ChangeSpec := { name := "leaseKeys", fn := fun _ => fun
  | [d1, d2] => { results := [.lit (.bool true)], args := [d1, d2] }
  | _ => none }
def leaseKeysRow : OpenClaim := { program := "ythmdianikbimfaagreat", sum := "4da65f979547e0444b405ae10e98bda94966d12c84a9e7d638ffc9d7e8cae1b1", func := "bailiwick/bailiwicklaw16.LeaseKeys", spec := "leaseKeys", inPlace := ["internal/abi.NoEscape", "internal/bytealg.MakeNoZero"], unfollowed := true, recurses := true, apart := false }
def LeaseKeysSaid : Prop := leaseKeysRow.holds Tryz.pinned (OpenSpec.ofChange leaseKeysSpec)

/-- ITS FALSE NEIGHBOUR: 'it returns false'. Refute it at one input. -/
def leaseKeysWrong : ChangeSpec := { name := "leaseKeys", fn := fun _ => fun
  | [d1, d2] => { results := [.lit (.bool false)], args := [d1, d2] }
  | _ => none }
def LeaseKeysWrongFalsely : Prop := leaseKeysRow.holds Tryz.pinned (OpenSpec.ofChange leaseKeysWrong)

/-- 'bailiwicklaw16.LeaseEnds': WHATEVER THE INPUT: true; the input reads as it did. -/
def leaseEndsSpec : ChangeSpec := { name := "leaseEnds", fn := fun _ => fun
  | [d1, d2, d3] => { results := [.lit (.bool true)], args := [d1, d2, d3] }
  | _ => none }
def leaseEndsRow : OpenClaim := { program := "ythmdianikbimfaagreat", sum := "4da65f979547e0444b405ae10e98bda94966d12c84a9e7d638ffc9d7e8cae1b1", func := "bailiwick/bailiwicklaw16.LeaseEnds", spec := "leaseEnds", inPlace := ["internal/abi.NoEscape", "internal/bytealg.MakeNoZero"], unfollowed := true, recurses := true, apart := false }
def LeaseEndsSaid : Prop := leaseEndsRow.holds Tryz.pinned (OpenSpec.ofChange leaseEndsSpec)

/-- ITS FALSE NEIGHBOUR: 'it returns false'. Refute it at one input. -/
def leaseEndsWrong : ChangeSpec := { name := "leaseEnds", fn := fun _ => fun
  | [d1, d2, d3] => { results := [.lit (.bool false)], args := [d1, d2, d3] }
  | _ => none }
def LeaseEndsWrongFalsely : Prop := leaseEndsRow.holds Tryz.pinned (OpenSpec.ofChange leaseEndsWrong)

/-- 'bailiwicklaw16.LeaseForgets': WHATEVER THE INPUT: true; the input reads as it did. -/
def leaseForgetsSpec : ChangeSpec := { name := "leaseForgets", fn := fun _ => fun
  | [d1, d2] => { results := [.lit (.bool true)], args := [d1, d2] }
  | _ => none }
def leaseForgetsRow : OpenClaim := { program := "ythmdianikbimfaagreat", sum := "4da65f979547e0444b405ae10e98bda94966d12c84a9e7d638ffc9d7e8cae1b1", func := "bailiwick/bailiwicklaw16.LeaseForgets", spec := "leaseForgets", inPlace := ["internal/abi.NoEscape", "internal/bytealg.MakeNoZero"], unfollowed := true, recurses := true, apart := false }
def LeaseForgetsSaid : Prop := leaseForgetsRow.holds Tryz.pinned (OpenSpec.ofChange leaseForgetsSpec)

/-- ITS FALSE NEIGHBOUR: 'it returns false'. Refute it at one input. -/
def leaseForgetsWrong : ChangeSpec := { name := "leaseForgets", fn := fun _ => fun
  | [d1, d2] => { results := [.lit (.bool false)], args := [d1, d2] }
  | _ => none }
def LeaseForgetsWrongFalsely : Prop := leaseForgetsRow.holds Tryz.pinned (OpenSpec.ofChange leaseForgetsWrong)

/-- 'bailiwicklaw16.LeaseDue': WHATEVER THE INPUT: true; the input reads as it did. -/
def leaseDueSpec : ChangeSpec := { name := "leaseDue", fn := fun _ => fun
  | [d1, d2, d3, d4] => { results := [.lit (.bool true)], args := [d1, d2, d3, d4] }
  | _ => none }
def leaseDueRow : OpenClaim := { program := "ythmdianikbimfaagreat", sum := "4da65f979547e0444b405ae10e98bda94966d12c84a9e7d638ffc9d7e8cae1b1", func := "bailiwick/bailiwicklaw16.LeaseDue", spec := "leaseDue", inPlace := ["internal/abi.NoEscape", "internal/bytealg.MakeNoZero"], unfollowed := true, recurses := true, apart := false }
def LeaseDueSaid : Prop := leaseDueRow.holds Tryz.pinned (OpenSpec.ofChange leaseDueSpec)

/-- ITS FALSE NEIGHBOUR: 'it returns false'. Refute it at one input. -/
def leaseDueWrong : ChangeSpec := { name := "leaseDue", fn := fun _ => fun
  | [d1, d2, d3, d4] => { results := [.lit (.bool false)], args := [d1, d2, d3, d4] }
  | _ => none }
def LeaseDueWrongFalsely : Prop := leaseDueRow.holds Tryz.pinned (OpenSpec.ofChange leaseDueWrong)

/- THE SECOND FORM. 'bulk': how many values and letters a reading holds, each counted each time it is reached (what is shared counts as often as it is met; a slice's spare places count too). A statement '..UptoSaid' is the law's where the arguments, and the package variables that the reading takes, are together of bulk at most 1048576: NARROWER than '..Said'. Prove '..Said' where nothing that the law and all that it calls make is longer than what came in: it says more and counts as full. Else prove '..UptoSaid'. A law counts once. -/
mutual
def uptoBulk {H : Type} : DataW H → Nat
  | .lit (.string bytes) => bytes.length + 1
  | .lit _ => 1
  | .nil => 1
  | .ptr d => uptoBulk d + 1
  | .slice elems spare => uptoBulkAll elems + uptoBulkAll spare + 1
  | .agg parts => uptoBulkAll parts + 1
  | .iface _ d => uptoBulk d + 1
  | .map entries => uptoBulkEntries entries + 1
  | .held _ => 1
def uptoBulkAll {H : Type} : List (DataW H) → Nat
  | [] => 0
  | d :: r => uptoBulk d + uptoBulkAll r
def uptoBulkEntries {H : Type} : List (Lit × DataW H) → Nat
  | [] => 0
  | x :: r => uptoBulkEntry x + uptoBulkEntries r
def uptoBulkEntry {H : Type} : Lit × DataW H → Nat
  | (.string bytes, d) => bytes.length + uptoBulk d + 1
  | (_, d) => uptoBulk d + 1
 end
def uptoSmall : (H : Type) → List (DataW H) → Bool := fun _ ds => decide (uptoBulkAll ds ≤ 1048576)
def OpenSpec.upto (s : _root_.Go.ChangeSpec) : _root_.Go.OpenSpec := { _root_.Go.OpenSpec.ofChange s with cond := some uptoSmall }

/-- 'bailiwicklaw16.LeaseKeys', WHERE WHAT IT READS IS OF BULK AT MOST 1048576: true; the input reads as it did. -/
def leaseKeysUptoRow : OpenClaim := { program := "ythmdianikbimfaagreat", sum := "4da65f979547e0444b405ae10e98bda94966d12c84a9e7d638ffc9d7e8cae1b1", func := "bailiwick/bailiwicklaw16.LeaseKeys", spec := "leaseKeys", inPlace := ["internal/abi.NoEscape", "internal/bytealg.MakeNoZero"], unfollowed := true, recurses := true, apart := false, narrowed := true }
def LeaseKeysUptoSaid : Prop := leaseKeysUptoRow.holds Tryz.pinned (OpenSpec.upto leaseKeysSpec)

/-- 'bailiwicklaw16.LeaseEnds', WHERE WHAT IT READS IS OF BULK AT MOST 1048576: true; the input reads as it did. -/
def leaseEndsUptoRow : OpenClaim := { program := "ythmdianikbimfaagreat", sum := "4da65f979547e0444b405ae10e98bda94966d12c84a9e7d638ffc9d7e8cae1b1", func := "bailiwick/bailiwicklaw16.LeaseEnds", spec := "leaseEnds", inPlace := ["internal/abi.NoEscape", "internal/bytealg.MakeNoZero"], unfollowed := true, recurses := true, apart := false, narrowed := true }
def LeaseEndsUptoSaid : Prop := leaseEndsUptoRow.holds Tryz.pinned (OpenSpec.upto leaseEndsSpec)

/-- 'bailiwicklaw16.LeaseForgets', WHERE WHAT IT READS IS OF BULK AT MOST 1048576: true; the input reads as it did. -/
def leaseForgetsUptoRow : OpenClaim := { program := "ythmdianikbimfaagreat", sum := "4da65f979547e0444b405ae10e98bda94966d12c84a9e7d638ffc9d7e8cae1b1", func := "bailiwick/bailiwicklaw16.LeaseForgets", spec := "leaseForgets", inPlace := ["internal/abi.NoEscape", "internal/bytealg.MakeNoZero"], unfollowed := true, recurses := true, apart := false, narrowed := true }
def LeaseForgetsUptoSaid : Prop := leaseForgetsUptoRow.holds Tryz.pinned (OpenSpec.upto leaseForgetsSpec)

/-- 'bailiwicklaw16.LeaseDue', WHERE WHAT IT READS IS OF BULK AT MOST 1048576: true; the input reads as it did. -/
def leaseDueUptoRow : OpenClaim := { program := "ythmdianikbimfaagreat", sum := "4da65f979547e0444b405ae10e98bda94966d12c84a9e7d638ffc9d7e8cae1b1", func := "bailiwick/bailiwicklaw16.LeaseDue", spec := "leaseDue", inPlace := ["internal/abi.NoEscape", "internal/bytealg.MakeNoZero"], unfollowed := true, recurses := true, apart := false, narrowed := true }
def LeaseDueUptoSaid : Prop := leaseDueUptoRow.holds Tryz.pinned (OpenSpec.upto leaseDueSpec)

end Rows
end Go.Proofs.YthmdianikbimfaaGreat
