/-
  No cell of these rows narrows 'for every input' (looked for: loops, veiled, ifaces, maps, wideKeys, modest, calm, conditions, laid).
  DERIVED. THE GIVEN ROWS OF THIS SEAT. 6 by the template 'for every input the law returns true; each argument reads behind the call as it read before'; 0 by the template 'total and deterministic' (their statements: YtpbibhhjbigdhaaGreatTotals.lean).
  GIVEN WITH THE SEED: the statements are not yours to turn. If you find one false, say at which input.
  Laid BY PROGRAM, IN A SANDBOX (cutbox-rows.mjs): the forced cells as the released guide's own fill.sh prints them over the translation 424cfd63e44e830b… (all of the seat's roots in one cut). By AI agents, Wed Nov 11 2026. No macro, syntax, notation, axiom, sorry.
-/
import Derived.Test.YtpbibhhjbigdhaaGreatChecked
import GoSem.Claim
import GoSem.ClaimJoined
import GoSem.ClaimMapViews
import Derived.JoinedTies
import Derived.KernelRfl
namespace Go.Proofs.YtpbibhhjbigdhaaGreat
/- THE CELL 'sum', in the pinned program and in every row, IS THE sha256 OF THE DUMP (.gsa) THAT YtpbibhhjbigdhaaGreatProg.lean LOADS. Nothing in Lean hashes anything: it is a label: what it is worth is what the hold of that sum in a sandbox is worth. -/
noncomputable def Tryz.pinned : Pinned := { name := "ytpbibhhjbigdhaagreat", sum := "424cfd63e44e830b4578954529c0f78d58bce9e80a5d6c714a416ff30bb78efa", checked := Tryz.checked }
namespace Rows
def none {H : Type} : Left H := { results := [], args := [] }

/-- 'bailiwicklaw11.TreeEmpties': WHATEVER THE INPUT: true; the input reads as it did. -/
def treeEmptiesSpec : ChangeSpec := { name := "treeEmpties", fn := fun _ => fun
  | [d1, d2] => { results := [.lit (.bool true)], args := [d1, d2] }
  | _ => none }
def treeEmptiesRow : OpenClaim := { program := "ytpbibhhjbigdhaagreat", sum := "424cfd63e44e830b4578954529c0f78d58bce9e80a5d6c714a416ff30bb78efa", func := "bailiwick/bailiwicklaw11.TreeEmpties", spec := "treeEmpties", inPlace := ["internal/abi.NoEscape", "internal/bytealg.MakeNoZero"], unfollowed := true, recurses := true, apart := false }
def TreeEmptiesSaid : Prop := treeEmptiesRow.holds Tryz.pinned (OpenSpec.ofChange treeEmptiesSpec)

/-- ITS FALSE NEIGHBOUR: 'it returns false'. Refute it at one input. -/
def treeEmptiesWrong : ChangeSpec := { name := "treeEmpties", fn := fun _ => fun
  | [d1, d2] => { results := [.lit (.bool false)], args := [d1, d2] }
  | _ => none }
def TreeEmptiesWrongFalsely : Prop := treeEmptiesRow.holds Tryz.pinned (OpenSpec.ofChange treeEmptiesWrong)

/-- 'bailiwicklaw11.TreeStops': WHATEVER THE INPUT: true; the input reads as it did. -/
def treeStopsSpec : ChangeSpec := { name := "treeStops", fn := fun _ => fun
  | [d1, d2, d3] => { results := [.lit (.bool true)], args := [d1, d2, d3] }
  | _ => none }
def treeStopsRow : OpenClaim := { program := "ytpbibhhjbigdhaagreat", sum := "424cfd63e44e830b4578954529c0f78d58bce9e80a5d6c714a416ff30bb78efa", func := "bailiwick/bailiwicklaw11.TreeStops", spec := "treeStops", inPlace := ["internal/abi.NoEscape", "internal/bytealg.MakeNoZero"], unfollowed := true, recurses := true, apart := false }
def TreeStopsSaid : Prop := treeStopsRow.holds Tryz.pinned (OpenSpec.ofChange treeStopsSpec)

/-- ITS FALSE NEIGHBOUR: 'it returns false'. Refute it at one input. -/
def treeStopsWrong : ChangeSpec := { name := "treeStops", fn := fun _ => fun
  | [d1, d2, d3] => { results := [.lit (.bool false)], args := [d1, d2, d3] }
  | _ => none }
def TreeStopsWrongFalsely : Prop := treeStopsRow.holds Tryz.pinned (OpenSpec.ofChange treeStopsWrong)

/-- 'bailiwicklaw11.TreeRanges': WHATEVER THE INPUT: true; the input reads as it did. -/
def treeRangesSpec : ChangeSpec := { name := "treeRanges", fn := fun _ => fun
  | [d1, d2, d3] => { results := [.lit (.bool true)], args := [d1, d2, d3] }
  | _ => none }
def treeRangesRow : OpenClaim := { program := "ytpbibhhjbigdhaagreat", sum := "424cfd63e44e830b4578954529c0f78d58bce9e80a5d6c714a416ff30bb78efa", func := "bailiwick/bailiwicklaw11.TreeRanges", spec := "treeRanges", inPlace := ["internal/abi.NoEscape", "internal/bytealg.MakeNoZero"], unfollowed := true, recurses := true, apart := false }
def TreeRangesSaid : Prop := treeRangesRow.holds Tryz.pinned (OpenSpec.ofChange treeRangesSpec)

/-- ITS FALSE NEIGHBOUR: 'it returns false'. Refute it at one input. -/
def treeRangesWrong : ChangeSpec := { name := "treeRanges", fn := fun _ => fun
  | [d1, d2, d3] => { results := [.lit (.bool false)], args := [d1, d2, d3] }
  | _ => none }
def TreeRangesWrongFalsely : Prop := treeRangesRow.holds Tryz.pinned (OpenSpec.ofChange treeRangesWrong)

/-- 'bailiwicklaw11.TreeOrders': WHATEVER THE INPUT: true; the input reads as it did. -/
def treeOrdersSpec : ChangeSpec := { name := "treeOrders", fn := fun _ => fun
  | [d] => { results := [.lit (.bool true)], args := [d] }
  | _ => none }
def treeOrdersRow : OpenClaim := { program := "ytpbibhhjbigdhaagreat", sum := "424cfd63e44e830b4578954529c0f78d58bce9e80a5d6c714a416ff30bb78efa", func := "bailiwick/bailiwicklaw11.TreeOrders", spec := "treeOrders", inPlace := ["internal/abi.NoEscape", "internal/bytealg.MakeNoZero"], unfollowed := true, recurses := true, apart := false }
def TreeOrdersSaid : Prop := treeOrdersRow.holds Tryz.pinned (OpenSpec.ofChange treeOrdersSpec)

/-- ITS FALSE NEIGHBOUR: 'it returns false'. Refute it at one input. -/
def treeOrdersWrong : ChangeSpec := { name := "treeOrders", fn := fun _ => fun
  | [d] => { results := [.lit (.bool false)], args := [d] }
  | _ => none }
def TreeOrdersWrongFalsely : Prop := treeOrdersRow.holds Tryz.pinned (OpenSpec.ofChange treeOrdersWrong)

/-- 'bailiwicklaw11.TreeMap': WHATEVER THE INPUT: true; the input reads as it did. -/
def treeMapSpec : ChangeSpec := { name := "treeMap", fn := fun _ => fun
  | [d1, d2] => { results := [.lit (.bool true)], args := [d1, d2] }
  | _ => none }
def treeMapRow : OpenClaim := { program := "ytpbibhhjbigdhaagreat", sum := "424cfd63e44e830b4578954529c0f78d58bce9e80a5d6c714a416ff30bb78efa", func := "bailiwick/bailiwicklaw11.TreeMap", spec := "treeMap", inPlace := ["internal/abi.NoEscape", "internal/bytealg.MakeNoZero"], unfollowed := true, recurses := true, apart := false }
def TreeMapSaid : Prop := treeMapRow.holds Tryz.pinned (OpenSpec.ofChange treeMapSpec)

/-- ITS FALSE NEIGHBOUR: 'it returns false'. Refute it at one input. -/
def treeMapWrong : ChangeSpec := { name := "treeMap", fn := fun _ => fun
  | [d1, d2] => { results := [.lit (.bool false)], args := [d1, d2] }
  | _ => none }
def TreeMapWrongFalsely : Prop := treeMapRow.holds Tryz.pinned (OpenSpec.ofChange treeMapWrong)

/-- 'bailiwicklaw11.TreeShadows': WHATEVER THE INPUT: true; the input reads as it did. -/
def treeShadowsSpec : ChangeSpec := { name := "treeShadows", fn := fun _ => fun
  | [d1, d2] => { results := [.lit (.bool true)], args := [d1, d2] }
  | _ => none }
def treeShadowsRow : OpenClaim := { program := "ytpbibhhjbigdhaagreat", sum := "424cfd63e44e830b4578954529c0f78d58bce9e80a5d6c714a416ff30bb78efa", func := "bailiwick/bailiwicklaw11.TreeShadows", spec := "treeShadows", inPlace := ["internal/abi.NoEscape", "internal/bytealg.MakeNoZero"], unfollowed := true, recurses := true, apart := false }
def TreeShadowsSaid : Prop := treeShadowsRow.holds Tryz.pinned (OpenSpec.ofChange treeShadowsSpec)

/-- ITS FALSE NEIGHBOUR: 'it returns false'. Refute it at one input. -/
def treeShadowsWrong : ChangeSpec := { name := "treeShadows", fn := fun _ => fun
  | [d1, d2] => { results := [.lit (.bool false)], args := [d1, d2] }
  | _ => none }
def TreeShadowsWrongFalsely : Prop := treeShadowsRow.holds Tryz.pinned (OpenSpec.ofChange treeShadowsWrong)

/- THE SECOND FORM. 'bulk': how many values and letters a reading holds, each counted each time it is reached (what is shared counts as often as it is met; a slice's spare places count too). A statement '..UptoSaid' is the law's where the arguments, and the package variables that the reading takes, are together of bulk at most 1048576: NARROWER than '..Said'. Prove '..Said' where nothing that the law and all that it calls make is longer than what came in: it says more and counts as full. Else prove '..UptoSaid'. A law counts once. -/
mutual
def uptoBulk {H : Type} : DataW H → Nat
  | .lit (.string bytes) => bytes.length + 1
  | .lit _ => 1
  | .nil => 1
  | .ptr d => uptoBulk d + 1
  | .slice elems spare => uptoBulkAll elems + uptoBulkAll spare + 1
  | .agg parts => uptoBulkAll parts + 1
  | .iface _ d => uptoBulk d + 1
  | .map entries => uptoBulkEntries entries + 1
  | .held _ => 1
def uptoBulkAll {H : Type} : List (DataW H) → Nat
  | [] => 0
  | d :: r => uptoBulk d + uptoBulkAll r
def uptoBulkEntries {H : Type} : List (Lit × DataW H) → Nat
  | [] => 0
  | x :: r => uptoBulkEntry x + uptoBulkEntries r
def uptoBulkEntry {H : Type} : Lit × DataW H → Nat
  | (.string bytes, d) => bytes.length + uptoBulk d + 1
  | (_, d) => uptoBulk d + 1
 end
def uptoSmall : (H : Type) → List (DataW H) → Bool := fun _ ds => decide (uptoBulkAll ds ≤ 1048576)
def OpenSpec.upto (s : _root_.Go.ChangeSpec) : _root_.Go.OpenSpec := { _root_.Go.OpenSpec.ofChange s with cond := some uptoSmall }

/-- 'bailiwicklaw11.TreeEmpties', WHERE WHAT IT READS IS OF BULK AT MOST 1048576: true; the input reads as it did. -/
def treeEmptiesUptoRow : OpenClaim := { program := "ytpbibhhjbigdhaagreat", sum := "424cfd63e44e830b4578954529c0f78d58bce9e80a5d6c714a416ff30bb78efa", func := "bailiwick/bailiwicklaw11.TreeEmpties", spec := "treeEmpties", inPlace := ["internal/abi.NoEscape", "internal/bytealg.MakeNoZero"], unfollowed := true, recurses := true, apart := false, narrowed := true }
def TreeEmptiesUptoSaid : Prop := treeEmptiesUptoRow.holds Tryz.pinned (OpenSpec.upto treeEmptiesSpec)

/-- 'bailiwicklaw11.TreeStops', WHERE WHAT IT READS IS OF BULK AT MOST 1048576: true; the input reads as it did. -/
def treeStopsUptoRow : OpenClaim := { program := "ytpbibhhjbigdhaagreat", sum := "424cfd63e44e830b4578954529c0f78d58bce9e80a5d6c714a416ff30bb78efa", func := "bailiwick/bailiwicklaw11.TreeStops", spec := "treeStops", inPlace := ["internal/abi.NoEscape", "internal/bytealg.MakeNoZero"], unfollowed := true, recurses := true, apart := false, narrowed := true }
def TreeStopsUptoSaid : Prop := treeStopsUptoRow.holds Tryz.pinned (OpenSpec.upto treeStopsSpec)

/-- 'bailiwicklaw11.TreeRanges', WHERE WHAT IT READS IS OF BULK AT MOST 1048576: true; the input reads as it did. -/
def treeRangesUptoRow : OpenClaim := { program := "ytpbibhhjbigdhaagreat", sum := "424cfd63e44e830b4578954529c0f78d58bce9e80a5d6c714a416ff30bb78efa", func := "bailiwick/bailiwicklaw11.TreeRanges", spec := "treeRanges", inPlace := ["internal/abi.NoEscape", "internal/bytealg.MakeNoZero"], unfollowed := true, recurses := true, apart := false, narrowed := true }
def TreeRangesUptoSaid : Prop := treeRangesUptoRow.holds Tryz.pinned (OpenSpec.upto treeRangesSpec)

/-- 'bailiwicklaw11.TreeOrders', WHERE WHAT IT READS IS OF BULK AT MOST 1048576: true; the input reads as it did. -/
def treeOrdersUptoRow : OpenClaim := { program := "ytpbibhhjbigdhaagreat", sum := "424cfd63e44e830b4578954529c0f78d58bce9e80a5d6c714a416ff30bb78efa", func := "bailiwick/bailiwicklaw11.TreeOrders", spec := "treeOrders", inPlace := ["internal/abi.NoEscape", "internal/bytealg.MakeNoZero"], unfollowed := true, recurses := true, apart := false, narrowed := true }
def TreeOrdersUptoSaid : Prop := treeOrdersUptoRow.holds Tryz.pinned (OpenSpec.upto treeOrdersSpec)

/-- 'bailiwicklaw11.TreeMap', WHERE WHAT IT READS IS OF BULK AT MOST 1048576: true; the input reads as it did. -/
def treeMapUptoRow : OpenClaim := { program := "ytpbibhhjbigdhaagreat", sum := "424cfd63e44e830b4578954529c0f78d58bce9e80a5d6c714a416ff30bb78efa", func := "bailiwick/bailiwicklaw11.TreeMap", spec := "treeMap", inPlace := ["internal/abi.NoEscape", "internal/bytealg.MakeNoZero"], unfollowed := true, recurses := true, apart := false, narrowed := true }
def TreeMapUptoSaid : Prop := treeMapUptoRow.holds Tryz.pinned (OpenSpec.upto treeMapSpec)

/-- 'bailiwicklaw11.TreeShadows', WHERE WHAT IT READS IS OF BULK AT MOST 1048576: true; the input reads as it did. -/
def treeShadowsUptoRow : OpenClaim := { program := "ytpbibhhjbigdhaagreat", sum := "424cfd63e44e830b4578954529c0f78d58bce9e80a5d6c714a416ff30bb78efa", func := "bailiwick/bailiwicklaw11.TreeShadows", spec := "treeShadows", inPlace := ["internal/abi.NoEscape", "internal/bytealg.MakeNoZero"], unfollowed := true, recurses := true, apart := false, narrowed := true }
def TreeShadowsUptoSaid : Prop := treeShadowsUptoRow.holds Tryz.pinned (OpenSpec.upto treeShadowsSpec)

end Rows
end Go.Proofs.YtpbibhhjbigdhaaGreat
