/-
  No cell of these rows narrows 'for every input' (looked for: loops, veiled, ifaces, maps, wideKeys, modest, calm, conditions, laid).
  DERIVED. THE GIVEN ROWS OF THIS SEAT. 6 by the template 'for every input the law returns true; each argument reads behind the call as it read before'; 0 by the template 'total and deterministic' (their statements: YtelfjhemnnbbpaaGreatTotals.lean).
  GIVEN WITH THE SEED: the statements are not yours to turn. If you find one false, say at which input.
  Laid BY PROGRAM, IN A SANDBOX (cutbox-rows.mjs): the forced cells as the released guide's own fill.sh prints them over the translation 1e160c32c8fb9050… (all of the seat's roots in one cut). By AI agents, Wed Nov 11 2026. No macro, syntax, notation, axiom, sorry.
-/
import Derived.Test.YtelfjhemnnbbpaaGreatChecked
import GoSem.Claim
import GoSem.ClaimJoined
import GoSem.ClaimMapViews
import Derived.JoinedTies
import Derived.KernelRfl
namespace Go.Proofs.YtelfjhemnnbbpaaGreat
/- THE CELL 'sum', in the pinned program and in every row, IS THE sha256 OF THE DUMP (.gsa) THAT YtelfjhemnnbbpaaGreatProg.lean LOADS. Nothing in Lean hashes anything: it is a label: what it is worth is what the hold of that sum in a sandbox is worth. -/
noncomputable def Tryz.pinned : Pinned := { name := "ytelfjhemnnbbpaagreat", sum := "1e160c32c8fb9050727c0b5e1ff2f42ab96f05e9a5b48bbb877b490ba9187fbc", checked := Tryz.checked }
namespace Rows
def none {H : Type} : Left H := { results := [], args := [] }

/-- 'bailiwicklaw15.CaptNames': WHATEVER THE INPUT: true; the input reads as it did. -/
def captNamesSpec : ChangeSpec := { name := "captNames", fn := fun _ => fun
  | [d1, d2] => { results := [.lit (.bool true)], args := [d1, d2] }
  | _ => none }
def captNamesRow : OpenClaim := { program := "ytelfjhemnnbbpaagreat", sum := "1e160c32c8fb9050727c0b5e1ff2f42ab96f05e9a5b48bbb877b490ba9187fbc", func := "bailiwick/bailiwicklaw15.CaptNames", spec := "captNames", inPlace := ["internal/abi.NoEscape", "internal/bytealg.MakeNoZero"], unfollowed := true, recurses := true, apart := false }
def CaptNamesSaid : Prop := captNamesRow.holds Tryz.pinned (OpenSpec.ofChange captNamesSpec)

/-- ITS FALSE NEIGHBOUR: 'it returns false'. Refute it at one input. -/
def captNamesWrong : ChangeSpec := { name := "captNames", fn := fun _ => fun
  | [d1, d2] => { results := [.lit (.bool false)], args := [d1, d2] }
  | _ => none }
def CaptNamesWrongFalsely : Prop := captNamesRow.holds Tryz.pinned (OpenSpec.ofChange captNamesWrong)

/-- 'bailiwicklaw15.CaptMoves': WHATEVER THE INPUT: true; the input reads as it did. -/
def captMovesSpec : ChangeSpec := { name := "captMoves", fn := fun _ => fun
  | [d1, d2, d3] => { results := [.lit (.bool true)], args := [d1, d2, d3] }
  | _ => none }
def captMovesRow : OpenClaim := { program := "ytelfjhemnnbbpaagreat", sum := "1e160c32c8fb9050727c0b5e1ff2f42ab96f05e9a5b48bbb877b490ba9187fbc", func := "bailiwick/bailiwicklaw15.CaptMoves", spec := "captMoves", inPlace := ["internal/abi.NoEscape", "internal/bytealg.MakeNoZero"], unfollowed := true, recurses := true, apart := false }
def CaptMovesSaid : Prop := captMovesRow.holds Tryz.pinned (OpenSpec.ofChange captMovesSpec)

/-- ITS FALSE NEIGHBOUR: 'it returns false'. Refute it at one input. -/
def captMovesWrong : ChangeSpec := { name := "captMoves", fn := fun _ => fun
  | [d1, d2, d3] => { results := [.lit (.bool false)], args := [d1, d2, d3] }
  | _ => none }
def CaptMovesWrongFalsely : Prop := captMovesRow.holds Tryz.pinned (OpenSpec.ofChange captMovesWrong)

/-- 'bailiwicklaw15.CaptQuota': WHATEVER THE INPUT: true; the input reads as it did. -/
def captQuotaSpec : ChangeSpec := { name := "captQuota", fn := fun _ => fun
  | [d] => { results := [.lit (.bool true)], args := [d] }
  | _ => none }
def captQuotaRow : OpenClaim := { program := "ytelfjhemnnbbpaagreat", sum := "1e160c32c8fb9050727c0b5e1ff2f42ab96f05e9a5b48bbb877b490ba9187fbc", func := "bailiwick/bailiwicklaw15.CaptQuota", spec := "captQuota", inPlace := ["internal/abi.NoEscape", "internal/bytealg.MakeNoZero"], unfollowed := true, recurses := true, apart := false }
def CaptQuotaSaid : Prop := captQuotaRow.holds Tryz.pinned (OpenSpec.ofChange captQuotaSpec)

/-- ITS FALSE NEIGHBOUR: 'it returns false'. Refute it at one input. -/
def captQuotaWrong : ChangeSpec := { name := "captQuota", fn := fun _ => fun
  | [d] => { results := [.lit (.bool false)], args := [d] }
  | _ => none }
def CaptQuotaWrongFalsely : Prop := captQuotaRow.holds Tryz.pinned (OpenSpec.ofChange captQuotaWrong)

/-- 'bailiwicklaw15.CaptKids': WHATEVER THE INPUT: true; the input reads as it did. -/
def captKidsSpec : ChangeSpec := { name := "captKids", fn := fun _ => fun
  | [d1, d2] => { results := [.lit (.bool true)], args := [d1, d2] }
  | _ => none }
def captKidsRow : OpenClaim := { program := "ytelfjhemnnbbpaagreat", sum := "1e160c32c8fb9050727c0b5e1ff2f42ab96f05e9a5b48bbb877b490ba9187fbc", func := "bailiwick/bailiwicklaw15.CaptKids", spec := "captKids", inPlace := ["internal/abi.NoEscape", "internal/bytealg.MakeNoZero"], unfollowed := true, recurses := true, apart := false }
def CaptKidsSaid : Prop := captKidsRow.holds Tryz.pinned (OpenSpec.ofChange captKidsSpec)

/-- ITS FALSE NEIGHBOUR: 'it returns false'. Refute it at one input. -/
def captKidsWrong : ChangeSpec := { name := "captKids", fn := fun _ => fun
  | [d1, d2] => { results := [.lit (.bool false)], args := [d1, d2] }
  | _ => none }
def CaptKidsWrongFalsely : Prop := captKidsRow.holds Tryz.pinned (OpenSpec.ofChange captKidsWrong)

/-- 'bailiwicklaw15.CaptRevoked': WHATEVER THE INPUT: true; the input reads as it did. -/
def captRevokedSpec : ChangeSpec := { name := "captRevoked", fn := fun _ => fun
  | [d1, d2, d3] => { results := [.lit (.bool true)], args := [d1, d2, d3] }
  | _ => none }
def captRevokedRow : OpenClaim := { program := "ytelfjhemnnbbpaagreat", sum := "1e160c32c8fb9050727c0b5e1ff2f42ab96f05e9a5b48bbb877b490ba9187fbc", func := "bailiwick/bailiwicklaw15.CaptRevoked", spec := "captRevoked", inPlace := ["internal/abi.NoEscape", "internal/bytealg.MakeNoZero"], unfollowed := true, recurses := true, apart := false }
def CaptRevokedSaid : Prop := captRevokedRow.holds Tryz.pinned (OpenSpec.ofChange captRevokedSpec)

/-- ITS FALSE NEIGHBOUR: 'it returns false'. Refute it at one input. -/
def captRevokedWrong : ChangeSpec := { name := "captRevoked", fn := fun _ => fun
  | [d1, d2, d3] => { results := [.lit (.bool false)], args := [d1, d2, d3] }
  | _ => none }
def CaptRevokedWrongFalsely : Prop := captRevokedRow.holds Tryz.pinned (OpenSpec.ofChange captRevokedWrong)

/-- 'bailiwicklaw15.CaptRights': WHATEVER THE INPUT: true; the input reads as it did. -/
def captRightsSpec : ChangeSpec := { name := "captRights", fn := fun _ => fun
  | [d] => { results := [.lit (.bool true)], args := [d] }
  | _ => none }
def captRightsRow : OpenClaim := { program := "ytelfjhemnnbbpaagreat", sum := "1e160c32c8fb9050727c0b5e1ff2f42ab96f05e9a5b48bbb877b490ba9187fbc", func := "bailiwick/bailiwicklaw15.CaptRights", spec := "captRights", inPlace := ["internal/abi.NoEscape", "internal/bytealg.MakeNoZero"], unfollowed := true, recurses := true, apart := false }
def CaptRightsSaid : Prop := captRightsRow.holds Tryz.pinned (OpenSpec.ofChange captRightsSpec)

/-- ITS FALSE NEIGHBOUR: 'it returns false'. Refute it at one input. -/
def captRightsWrong : ChangeSpec := { name := "captRights", fn := fun _ => fun
  | [d] => { results := [.lit (.bool false)], args := [d] }
  | _ => none }
def CaptRightsWrongFalsely : Prop := captRightsRow.holds Tryz.pinned (OpenSpec.ofChange captRightsWrong)

/- THE SECOND FORM. 'bulk': how many values and letters a reading holds, each counted each time it is reached (what is shared counts as often as it is met; a slice's spare places count too). A statement '..UptoSaid' is the law's where the arguments, and the package variables that the reading takes, are together of bulk at most 1048576: NARROWER than '..Said'. Prove '..Said' where nothing that the law and all that it calls make is longer than what came in: it says more and counts as full. Else prove '..UptoSaid'. A law counts once. -/
mutual
def uptoBulk {H : Type} : DataW H → Nat
  | .lit (.string bytes) => bytes.length + 1
  | .lit _ => 1
  | .nil => 1
  | .ptr d => uptoBulk d + 1
  | .slice elems spare => uptoBulkAll elems + uptoBulkAll spare + 1
  | .agg parts => uptoBulkAll parts + 1
  | .iface _ d => uptoBulk d + 1
  | .map entries => uptoBulkEntries entries + 1
  | .held _ => 1
def uptoBulkAll {H : Type} : List (DataW H) → Nat
  | [] => 0
  | d :: r => uptoBulk d + uptoBulkAll r
def uptoBulkEntries {H : Type} : List (Lit × DataW H) → Nat
  | [] => 0
  | x :: r => uptoBulkEntry x + uptoBulkEntries r
def uptoBulkEntry {H : Type} : Lit × DataW H → Nat
  | (.string bytes, d) => bytes.length + uptoBulk d + 1
  | (_, d) => uptoBulk d + 1
 end
def uptoSmall : (H : Type) → List (DataW H) → Bool := fun _ ds => decide (uptoBulkAll ds ≤ 1048576)
def OpenSpec.upto (s : _root_.Go.ChangeSpec) : _root_.Go.OpenSpec := { _root_.Go.OpenSpec.ofChange s with cond := some uptoSmall }

/-- 'bailiwicklaw15.CaptNames', WHERE WHAT IT READS IS OF BULK AT MOST 1048576: true; the input reads as it did. -/
def captNamesUptoRow : OpenClaim := { program := "ytelfjhemnnbbpaagreat", sum := "1e160c32c8fb9050727c0b5e1ff2f42ab96f05e9a5b48bbb877b490ba9187fbc", func := "bailiwick/bailiwicklaw15.CaptNames", spec := "captNames", inPlace := ["internal/abi.NoEscape", "internal/bytealg.MakeNoZero"], unfollowed := true, recurses := true, apart := false, narrowed := true }
def CaptNamesUptoSaid : Prop := captNamesUptoRow.holds Tryz.pinned (OpenSpec.upto captNamesSpec)

/-- 'bailiwicklaw15.CaptMoves', WHERE WHAT IT READS IS OF BULK AT MOST 1048576: true; the input reads as it did. -/
def captMovesUptoRow : OpenClaim := { program := "ytelfjhemnnbbpaagreat", sum := "1e160c32c8fb9050727c0b5e1ff2f42ab96f05e9a5b48bbb877b490ba9187fbc", func := "bailiwick/bailiwicklaw15.CaptMoves", spec := "captMoves", inPlace := ["internal/abi.NoEscape", "internal/bytealg.MakeNoZero"], unfollowed := true, recurses := true, apart := false, narrowed := true }
def CaptMovesUptoSaid : Prop := captMovesUptoRow.holds Tryz.pinned (OpenSpec.upto captMovesSpec)

/-- 'bailiwicklaw15.CaptQuota', WHERE WHAT IT READS IS OF BULK AT MOST 1048576: true; the input reads as it did. -/
def captQuotaUptoRow : OpenClaim := { program := "ytelfjhemnnbbpaagreat", sum := "1e160c32c8fb9050727c0b5e1ff2f42ab96f05e9a5b48bbb877b490ba9187fbc", func := "bailiwick/bailiwicklaw15.CaptQuota", spec := "captQuota", inPlace := ["internal/abi.NoEscape", "internal/bytealg.MakeNoZero"], unfollowed := true, recurses := true, apart := false, narrowed := true }
def CaptQuotaUptoSaid : Prop := captQuotaUptoRow.holds Tryz.pinned (OpenSpec.upto captQuotaSpec)

/-- 'bailiwicklaw15.CaptKids', WHERE WHAT IT READS IS OF BULK AT MOST 1048576: true; the input reads as it did. -/
def captKidsUptoRow : OpenClaim := { program := "ytelfjhemnnbbpaagreat", sum := "1e160c32c8fb9050727c0b5e1ff2f42ab96f05e9a5b48bbb877b490ba9187fbc", func := "bailiwick/bailiwicklaw15.CaptKids", spec := "captKids", inPlace := ["internal/abi.NoEscape", "internal/bytealg.MakeNoZero"], unfollowed := true, recurses := true, apart := false, narrowed := true }
def CaptKidsUptoSaid : Prop := captKidsUptoRow.holds Tryz.pinned (OpenSpec.upto captKidsSpec)

/-- 'bailiwicklaw15.CaptRevoked', WHERE WHAT IT READS IS OF BULK AT MOST 1048576: true; the input reads as it did. -/
def captRevokedUptoRow : OpenClaim := { program := "ytelfjhemnnbbpaagreat", sum := "1e160c32c8fb9050727c0b5e1ff2f42ab96f05e9a5b48bbb877b490ba9187fbc", func := "bailiwick/bailiwicklaw15.CaptRevoked", spec := "captRevoked", inPlace := ["internal/abi.NoEscape", "internal/bytealg.MakeNoZero"], unfollowed := true, recurses := true, apart := false, narrowed := true }
def CaptRevokedUptoSaid : Prop := captRevokedUptoRow.holds Tryz.pinned (OpenSpec.upto captRevokedSpec)

/-- 'bailiwicklaw15.CaptRights', WHERE WHAT IT READS IS OF BULK AT MOST 1048576: true; the input reads as it did. -/
def captRightsUptoRow : OpenClaim := { program := "ytelfjhemnnbbpaagreat", sum := "1e160c32c8fb9050727c0b5e1ff2f42ab96f05e9a5b48bbb877b490ba9187fbc", func := "bailiwick/bailiwicklaw15.CaptRights", spec := "captRights", inPlace := ["internal/abi.NoEscape", "internal/bytealg.MakeNoZero"], unfollowed := true, recurses := true, apart := false, narrowed := true }
def CaptRightsUptoSaid : Prop := captRightsUptoRow.holds Tryz.pinned (OpenSpec.upto captRightsSpec)

end Rows
end Go.Proofs.YtelfjhemnnbbpaaGreat
