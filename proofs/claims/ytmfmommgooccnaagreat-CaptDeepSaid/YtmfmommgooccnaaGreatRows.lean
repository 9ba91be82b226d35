/-
  No cell of these rows narrows 'for every input' (looked for: loops, veiled, ifaces, maps, wideKeys, modest, calm, conditions, laid).
  DERIVED. THE GIVEN ROWS OF THIS SEAT. 14 by the template 'for every input the law returns true; each argument reads behind the call as it read before'; 0 by the template 'total and deterministic' (their statements: YtmfmommgooccnaaGreatTotals.lean).
  GIVEN WITH THE SEED: the statements are not yours to turn. If you find one false, say at which input.
  Laid BY PROGRAM, IN A SANDBOX (cutbox-rows.mjs): the forced cells as the released guide's own fill.sh prints them over the translation 9c4d0009f82f171f… (all of the seat's roots in one cut). By AI agents, Wed Nov 11 2026. No macro, syntax, notation, axiom, sorry.
-/
import Derived.Test.YtmfmommgooccnaaGreatChecked
import GoSem.Claim
import GoSem.ClaimJoined
import GoSem.ClaimMapViews
import Derived.JoinedTies
import Derived.KernelRfl
namespace Go.Proofs.YtmfmommgooccnaaGreat
/- THE CELL 'sum', in the pinned program and in every row, IS THE sha256 OF THE DUMP (.gsa) THAT YtmfmommgooccnaaGreatProg.lean LOADS. Nothing in Lean hashes anything: it is a label: what it is worth is what the hold of that sum in a sandbox is worth. -/
noncomputable def Tryz.pinned : Pinned := { name := "ytmfmommgooccnaagreat", sum := "9c4d0009f82f171ffc5a29fc3a2c53f228983d6cfafe290f6252177536d2a4c8", checked := Tryz.checked }
namespace Rows
def none {H : Type} : Left H := { results := [], args := [] }

/-- 'bailiwicklaw17.SlotLeast': WHATEVER THE INPUT: true; the input reads as it did. -/
def slotLeastSpec : ChangeSpec := { name := "slotLeast", fn := fun _ => fun
  | [d] => { results := [.lit (.bool true)], args := [d] }
  | _ => none }
def slotLeastRow : OpenClaim := { program := "ytmfmommgooccnaagreat", sum := "9c4d0009f82f171ffc5a29fc3a2c53f228983d6cfafe290f6252177536d2a4c8", func := "bailiwick/bailiwicklaw17.SlotLeast", spec := "slotLeast", inPlace := ["internal/abi.NoEscape", "internal/bytealg.MakeNoZero"], unfollowed := true, recurses := true, apart := false }
def SlotLeastSaid : Prop := slotLeastRow.holds Tryz.pinned (OpenSpec.ofChange slotLeastSpec)

/-- ITS FALSE NEIGHBOUR: 'it returns false'. Refute it at one input. -/
def slotLeastWrong : ChangeSpec := { name := "slotLeast", fn := fun _ => fun
  | [d] => { results := [.lit (.bool false)], args := [d] }
  | _ => none }
def SlotLeastWrongFalsely : Prop := slotLeastRow.holds Tryz.pinned (OpenSpec.ofChange slotLeastWrong)

/-- 'bailiwicklaw17.SlotApart': WHATEVER THE INPUT: true; the input reads as it did. -/
def slotApartSpec : ChangeSpec := { name := "slotApart", fn := fun _ => fun
  | [d1, d2] => { results := [.lit (.bool true)], args := [d1, d2] }
  | _ => none }
def slotApartRow : OpenClaim := { program := "ytmfmommgooccnaagreat", sum := "9c4d0009f82f171ffc5a29fc3a2c53f228983d6cfafe290f6252177536d2a4c8", func := "bailiwick/bailiwicklaw17.SlotApart", spec := "slotApart", inPlace := ["internal/abi.NoEscape", "internal/bytealg.MakeNoZero"], unfollowed := true, recurses := true, apart := false }
def SlotApartSaid : Prop := slotApartRow.holds Tryz.pinned (OpenSpec.ofChange slotApartSpec)

/-- ITS FALSE NEIGHBOUR: 'it returns false'. Refute it at one input. -/
def slotApartWrong : ChangeSpec := { name := "slotApart", fn := fun _ => fun
  | [d1, d2] => { results := [.lit (.bool false)], args := [d1, d2] }
  | _ => none }
def SlotApartWrongFalsely : Prop := slotApartRow.holds Tryz.pinned (OpenSpec.ofChange slotApartWrong)

/-- 'bailiwicklaw12.TxnFull': WHATEVER THE INPUT: true; the input reads as it did. -/
def txnFullSpec : ChangeSpec := { name := "txnFull", fn := fun _ => fun
  | [d1, d2] => { results := [.lit (.bool true)], args := [d1, d2] }
  | _ => none }
def txnFullRow : OpenClaim := { program := "ytmfmommgooccnaagreat", sum := "9c4d0009f82f171ffc5a29fc3a2c53f228983d6cfafe290f6252177536d2a4c8", func := "bailiwick/bailiwicklaw12.TxnFull", spec := "txnFull", inPlace := ["internal/abi.NoEscape", "internal/bytealg.MakeNoZero"], unfollowed := true, recurses := true, apart := false }
def TxnFullSaid : Prop := txnFullRow.holds Tryz.pinned (OpenSpec.ofChange txnFullSpec)

/-- ITS FALSE NEIGHBOUR: 'it returns false'. Refute it at one input. -/
def txnFullWrong : ChangeSpec := { name := "txnFull", fn := fun _ => fun
  | [d1, d2] => { results := [.lit (.bool false)], args := [d1, d2] }
  | _ => none }
def TxnFullWrongFalsely : Prop := txnFullRow.holds Tryz.pinned (OpenSpec.ofChange txnFullWrong)

/-- 'bailiwicklaw15.CaptNames': WHATEVER THE INPUT: true; the input reads as it did. -/
def captNamesSpec : ChangeSpec := { name := "captNames", fn := fun _ => fun
  | [d1, d2] => { results := [.lit (.bool true)], args := [d1, d2] }
  | _ => none }
def captNamesRow : OpenClaim := { program := "ytmfmommgooccnaagreat", sum := "9c4d0009f82f171ffc5a29fc3a2c53f228983d6cfafe290f6252177536d2a4c8", func := "bailiwick/bailiwicklaw15.CaptNames", spec := "captNames", inPlace := ["internal/abi.NoEscape", "internal/bytealg.MakeNoZero"], unfollowed := true, recurses := true, apart := false }
def CaptNamesSaid : Prop := captNamesRow.holds Tryz.pinned (OpenSpec.ofChange captNamesSpec)

/-- ITS FALSE NEIGHBOUR: 'it returns false'. Refute it at one input. -/
def captNamesWrong : ChangeSpec := { name := "captNames", fn := fun _ => fun
  | [d1, d2] => { results := [.lit (.bool false)], args := [d1, d2] }
  | _ => none }
def CaptNamesWrongFalsely : Prop := captNamesRow.holds Tryz.pinned (OpenSpec.ofChange captNamesWrong)

/-- 'bailiwicklaw15.CaptDeep': WHATEVER THE INPUT: true; the input reads as it did. -/
def captDeepSpec : ChangeSpec := { name := "captDeep", fn := fun _ => fun
  | [d] => { results := [.lit (.bool true)], args := [d] }
  | _ => none }
def captDeepRow : OpenClaim := { program := "ytmfmommgooccnaagreat", sum := "9c4d0009f82f171ffc5a29fc3a2c53f228983d6cfafe290f6252177536d2a4c8", func := "bailiwick/bailiwicklaw15.CaptDeep", spec := "captDeep", inPlace := ["internal/abi.NoEscape", "internal/bytealg.MakeNoZero"], unfollowed := true, recurses := true, apart := false }
def CaptDeepSaid : Prop := captDeepRow.holds Tryz.pinned (OpenSpec.ofChange captDeepSpec)

/-- ITS FALSE NEIGHBOUR: 'it returns false'. Refute it at one input. -/
def captDeepWrong : ChangeSpec := { name := "captDeep", fn := fun _ => fun
  | [d] => { results := [.lit (.bool false)], args := [d] }
  | _ => none }
def CaptDeepWrongFalsely : Prop := captDeepRow.holds Tryz.pinned (OpenSpec.ofChange captDeepWrong)

/-- 'bailiwicklaw15.CaptMoves': WHATEVER THE INPUT: true; the input reads as it did. -/
def captMovesSpec : ChangeSpec := { name := "captMoves", fn := fun _ => fun
  | [d1, d2, d3] => { results := [.lit (.bool true)], args := [d1, d2, d3] }
  | _ => none }
def captMovesRow : OpenClaim := { program := "ytmfmommgooccnaagreat", sum := "9c4d0009f82f171ffc5a29fc3a2c53f228983d6cfafe290f6252177536d2a4c8", func := "bailiwick/bailiwicklaw15.CaptMoves", spec := "captMoves", inPlace := ["internal/abi.NoEscape", "internal/bytealg.MakeNoZero"], unfollowed := true, recurses := true, apart := false }
def CaptMovesSaid : Prop := captMovesRow.holds Tryz.pinned (OpenSpec.ofChange captMovesSpec)

/-- ITS FALSE NEIGHBOUR: 'it returns false'. Refute it at one input. -/
def captMovesWrong : ChangeSpec := { name := "captMoves", fn := fun _ => fun
  | [d1, d2, d3] => { results := [.lit (.bool false)], args := [d1, d2, d3] }
  | _ => none }
def CaptMovesWrongFalsely : Prop := captMovesRow.holds Tryz.pinned (OpenSpec.ofChange captMovesWrong)

/-- 'bailiwicklaw16.LeaseKeys': WHATEVER THE INPUT: true; the input reads as it did. -/
def leaseKeysSpec : ChangeSpec := { name := "leaseKeys", fn := fun _ => fun
  | [d1, d2] => { results := [.lit (.bool true)], args := [d1, d2] }
  | _ => none }
def leaseKeysRow : OpenClaim := { program := "ytmfmommgooccnaagreat", sum := "9c4d0009f82f171ffc5a29fc3a2c53f228983d6cfafe290f6252177536d2a4c8", func := "bailiwick/bailiwicklaw16.LeaseKeys", spec := "leaseKeys", inPlace := ["internal/abi.NoEscape", "internal/bytealg.MakeNoZero"], unfollowed := true, recurses := true, apart := false }
def LeaseKeysSaid : Prop := leaseKeysRow.holds Tryz.pinned (OpenSpec.ofChange leaseKeysSpec)

/-- ITS FALSE NEIGHBOUR: 'it returns false'. Refute it at one input. -/
def leaseKeysWrong : ChangeSpec := { name := "leaseKeys", fn := fun _ => fun
  | [d1, d2] => { results := [.lit (.bool false)], args := [d1, d2] }
  | _ => none }
def LeaseKeysWrongFalsely : Prop := leaseKeysRow.holds Tryz.pinned (OpenSpec.ofChange leaseKeysWrong)

/-- 'bailiwicklaw16.LeaseEnds': WHATEVER THE INPUT: true; the input reads as it did. -/
def leaseEndsSpec : ChangeSpec := { name := "leaseEnds", fn := fun _ => fun
  | [d1, d2, d3] => { results := [.lit (.bool true)], args := [d1, d2, d3] }
  | _ => none }
def leaseEndsRow : OpenClaim := { program := "ytmfmommgooccnaagreat", sum := "9c4d0009f82f171ffc5a29fc3a2c53f228983d6cfafe290f6252177536d2a4c8", func := "bailiwick/bailiwicklaw16.LeaseEnds", spec := "leaseEnds", inPlace := ["internal/abi.NoEscape", "internal/bytealg.MakeNoZero"], unfollowed := true, recurses := true, apart := false }
def LeaseEndsSaid : Prop := leaseEndsRow.holds Tryz.pinned (OpenSpec.ofChange leaseEndsSpec)

/-- ITS FALSE NEIGHBOUR: 'it returns false'. Refute it at one input. -/
def leaseEndsWrong : ChangeSpec := { name := "leaseEnds", fn := fun _ => fun
  | [d1, d2, d3] => { results := [.lit (.bool false)], args := [d1, d2, d3] }
  | _ => none }
def LeaseEndsWrongFalsely : Prop := leaseEndsRow.holds Tryz.pinned (OpenSpec.ofChange leaseEndsWrong)

/-- 'bailiwicklaw16.LeaseForgets': WHATEVER THE INPUT: true; the input reads as it did. -/
def leaseForgetsSpec : ChangeSpec := { name := "leaseForgets", fn := fun _ => fun
  | [d1, d2] => { results := [.lit (.bool true)], args := [d1, d2] }
  | _ => none }
def leaseForgetsRow : OpenClaim := { program := "ytmfmommgooccnaagreat", sum := "9c4d0009f82f171ffc5a29fc3a2c53f228983d6cfafe290f6252177536d2a4c8", func := "bailiwick/bailiwicklaw16.LeaseForgets", spec := "leaseForgets", inPlace := ["internal/abi.NoEscape", "internal/bytealg.MakeNoZero"], unfollowed := true, recurses := true, apart := false }
def LeaseForgetsSaid : Prop := leaseForgetsRow.holds Tryz.pinned (OpenSpec.ofChange leaseForgetsSpec)

/-- ITS FALSE NEIGHBOUR: 'it returns false'. Refute it at one input. -/
def leaseForgetsWrong : ChangeSpec := { name := "leaseForgets", fn := fun _ => fun
  | [d1, d2] => { results := [.lit (.bool false)], args := [d1, d2] }
  | _ => none }
def LeaseForgetsWrongFalsely : Prop := leaseForgetsRow.holds Tryz.pinned (OpenSpec.ofChange leaseForgetsWrong)

/-- 'bailiwicklaw16.LeaseDue': WHATEVER THE INPUT: true; the input reads as it did. -/
def leaseDueSpec : ChangeSpec := { name := "leaseDue", fn := fun _ => fun
  | [d1, d2, d3, d4] => { results := [.lit (.bool true)], args := [d1, d2, d3, d4] }
  | _ => none }
def leaseDueRow : OpenClaim := { program := "ytmfmommgooccnaagreat", sum := "9c4d0009f82f171ffc5a29fc3a2c53f228983d6cfafe290f6252177536d2a4c8", func := "bailiwick/bailiwicklaw16.LeaseDue", spec := "leaseDue", inPlace := ["internal/abi.NoEscape", "internal/bytealg.MakeNoZero"], unfollowed := true, recurses := true, apart := false }
def LeaseDueSaid : Prop := leaseDueRow.holds Tryz.pinned (OpenSpec.ofChange leaseDueSpec)

/-- ITS FALSE NEIGHBOUR: 'it returns false'. Refute it at one input. -/
def leaseDueWrong : ChangeSpec := { name := "leaseDue", fn := fun _ => fun
  | [d1, d2, d3, d4] => { results := [.lit (.bool false)], args := [d1, d2, d3, d4] }
  | _ => none }
def LeaseDueWrongFalsely : Prop := leaseDueRow.holds Tryz.pinned (OpenSpec.ofChange leaseDueWrong)

/-- 'bailiwicklaw15.CaptQuota': WHATEVER THE INPUT: true; the input reads as it did. -/
def captQuotaSpec : ChangeSpec := { name := "captQuota", fn := fun _ => fun
  | [d] => { results := [.lit (.bool true)], args := [d] }
  | _ => none }
def captQuotaRow : OpenClaim := { program := "ytmfmommgooccnaagreat", sum := "9c4d0009f82f171ffc5a29fc3a2c53f228983d6cfafe290f6252177536d2a4c8", func := "bailiwick/bailiwicklaw15.CaptQuota", spec := "captQuota", inPlace := ["internal/abi.NoEscape", "internal/bytealg.MakeNoZero"], unfollowed := true, recurses := true, apart := false }
def CaptQuotaSaid : Prop := captQuotaRow.holds Tryz.pinned (OpenSpec.ofChange captQuotaSpec)

/-- ITS FALSE NEIGHBOUR: 'it returns false'. Refute it at one input. -/
def captQuotaWrong : ChangeSpec := { name := "captQuota", fn := fun _ => fun
  | [d] => { results := [.lit (.bool false)], args := [d] }
  | _ => none }
def CaptQuotaWrongFalsely : Prop := captQuotaRow.holds Tryz.pinned (OpenSpec.ofChange captQuotaWrong)

/-- 'bailiwicklaw15.CaptKids': WHATEVER THE INPUT: true; the input reads as it did. -/
def captKidsSpec : ChangeSpec := { name := "captKids", fn := fun _ => fun
  | [d1, d2] => { results := [.lit (.bool true)], args := [d1, d2] }
  | _ => none }
def captKidsRow : OpenClaim := { program := "ytmfmommgooccnaagreat", sum := "9c4d0009f82f171ffc5a29fc3a2c53f228983d6cfafe290f6252177536d2a4c8", func := "bailiwick/bailiwicklaw15.CaptKids", spec := "captKids", inPlace := ["internal/abi.NoEscape", "internal/bytealg.MakeNoZero"], unfollowed := true, recurses := true, apart := false }
def CaptKidsSaid : Prop := captKidsRow.holds Tryz.pinned (OpenSpec.ofChange captKidsSpec)

/-- ITS FALSE NEIGHBOUR: 'it returns false'. Refute it at one input. -/
def captKidsWrong : ChangeSpec := { name := "captKids", fn := fun _ => fun
  | [d1, d2] => { results := [.lit (.bool false)], args := [d1, d2] }
  | _ => none }
def CaptKidsWrongFalsely : Prop := captKidsRow.holds Tryz.pinned (OpenSpec.ofChange captKidsWrong)

/-- 'bailiwicklaw15.CaptRevoked': WHATEVER THE INPUT: true; the input reads as it did. -/
def captRevokedSpec : ChangeSpec := { name := "captRevoked", fn := fun _ => fun
  | [d1, d2, d3] => { results := [.lit (.bool true)], args := [d1, d2, d3] }
  | _ => none }
def captRevokedRow : OpenClaim := { program := "ytmfmommgooccnaagreat", sum := "9c4d0009f82f171ffc5a29fc3a2c53f228983d6cfafe290f6252177536d2a4c8", func := "bailiwick/bailiwicklaw15.CaptRevoked", spec := "captRevoked", inPlace := ["internal/abi.NoEscape", "internal/bytealg.MakeNoZero"], unfollowed := true, recurses := true, apart := false }
def CaptRevokedSaid : Prop := captRevokedRow.holds Tryz.pinned (OpenSpec.ofChange captRevokedSpec)

/-- ITS FALSE NEIGHBOUR: 'it returns false'. Refute it at one input. -/
def captRevokedWrong : ChangeSpec := { name := "captRevoked", fn := fun _ => fun
  | [d1, d2, d3] => { results := [.lit (.bool false)], args := [d1, d2, d3] }
  | _ => none }
def CaptRevokedWrongFalsely : Prop := captRevokedRow.holds Tryz.pinned (OpenSpec.ofChange captRevokedWrong)

/-- 'bailiwicklaw15.CaptRights': WHATEVER THE INPUT: true; the input reads as it did. -/
def captRightsSpec : ChangeSpec := { name := "captRights", fn := fun _ => fun
  | [d] => { results := [.lit (.bool true)], args := [d] }
  | _ => none }
def captRightsRow : OpenClaim := { program := "ytmfmommgooccnaagreat", sum := "9c4d0009f82f171ffc5a29fc3a2c53f228983d6cfafe290f6252177536d2a4c8", func := "bailiwick/bailiwicklaw15.CaptRights", spec := "captRights", inPlace := ["internal/abi.NoEscape", "internal/bytealg.MakeNoZero"], unfollowed := true, recurses := true, apart := false }
def CaptRightsSaid : Prop := captRightsRow.holds Tryz.pinned (OpenSpec.ofChange captRightsSpec)

/-- ITS FALSE NEIGHBOUR: 'it returns false'. Refute it at one input. -/
def captRightsWrong : ChangeSpec := { name := "captRights", fn := fun _ => fun
  | [d] => { results := [.lit (.bool false)], args := [d] }
  | _ => none }
def CaptRightsWrongFalsely : Prop := captRightsRow.holds Tryz.pinned (OpenSpec.ofChange captRightsWrong)

/- THE SECOND FORM. 'bulk': how many values and letters a reading holds, each counted each time it is reached (what is shared counts as often as it is met; a slice's spare places count too). A statement '..UptoSaid' is the law's where the arguments, and the package variables that the reading takes, are together of bulk at most 1048576: NARROWER than '..Said'. Prove '..Said' where nothing that the law and all that it calls make is longer than what came in: it says more and counts as full. Else prove '..UptoSaid'. A law counts once. -/
mutual
def uptoBulk {H : Type} : DataW H → Nat
  | .lit (.string bytes) => bytes.length + 1
  | .lit _ => 1
  | .nil => 1
  | .ptr d => uptoBulk d + 1
  | .slice elems spare => uptoBulkAll elems + uptoBulkAll spare + 1
  | .agg parts => uptoBulkAll parts + 1
  | .iface _ d => uptoBulk d + 1
  | .map entries => uptoBulkEntries entries + 1
  | .held _ => 1
def uptoBulkAll {H : Type} : List (DataW H) → Nat
  | [] => 0
  | d :: r => uptoBulk d + uptoBulkAll r
def uptoBulkEntries {H : Type} : List (Lit × DataW H) → Nat
  | [] => 0
  | x :: r => uptoBulkEntry x + uptoBulkEntries r
def uptoBulkEntry {H : Type} : Lit × DataW H → Nat
  | (.string bytes, d) => bytes.length + uptoBulk d + 1
  | (_, d) => uptoBulk d + 1
 end
def uptoSmall : (H : Type) → List (DataW H) → Bool := fun _ ds => decide (uptoBulkAll ds ≤ 1048576)
def OpenSpec.upto (s : _root_.Go.ChangeSpec) : _root_.Go.OpenSpec := { _root_.Go.OpenSpec.ofChange s with cond := some uptoSmall }

/-- 'bailiwicklaw17.SlotLeast', WHERE WHAT IT READS IS OF BULK AT MOST 1048576: true; the input reads as it did. -/
def slotLeastUptoRow : OpenClaim := { program := "ytmfmommgooccnaagreat", sum := "9c4d0009f82f171ffc5a29fc3a2c53f228983d6cfafe290f6252177536d2a4c8", func := "bailiwick/bailiwicklaw17.SlotLeast", spec := "slotLeast", inPlace := ["internal/abi.NoEscape", "internal/bytealg.MakeNoZero"], unfollowed := true, recurses := true, apart := false, narrowed := true }
def SlotLeastUptoSaid : Prop := slotLeastUptoRow.holds Tryz.pinned (OpenSpec.upto slotLeastSpec)

/-- 'bailiwicklaw17.SlotApart', WHERE WHAT IT READS IS OF BULK AT MOST 1048576: true; the input reads as it did. -/
def slotApartUptoRow : OpenClaim := { program := "ytmfmommgooccnaagreat", sum := "9c4d0009f82f171ffc5a29fc3a2c53f228983d6cfafe290f6252177536d2a4c8", func := "bailiwick/bailiwicklaw17.SlotApart", spec := "slotApart", inPlace := ["internal/abi.NoEscape", "internal/bytealg.MakeNoZero"], unfollowed := true, recurses := true, apart := false, narrowed := true }
def SlotApartUptoSaid : Prop := slotApartUptoRow.holds Tryz.pinned (OpenSpec.upto slotApartSpec)

/-- 'bailiwicklaw12.TxnFull', WHERE WHAT IT READS IS OF BULK AT MOST 1048576: true; the input reads as it did. -/
def txnFullUptoRow : OpenClaim := { program := "ytmfmommgooccnaagreat", sum := "9c4d0009f82f171ffc5a29fc3a2c53f228983d6cfafe290f6252177536d2a4c8", func := "bailiwick/bailiwicklaw12.TxnFull", spec := "txnFull", inPlace := ["internal/abi.NoEscape", "internal/bytealg.MakeNoZero"], unfollowed := true, recurses := true, apart := false, narrowed := true }
def TxnFullUptoSaid : Prop := txnFullUptoRow.holds Tryz.pinned (OpenSpec.upto txnFullSpec)

/-- 'bailiwicklaw15.CaptNames', WHERE WHAT IT READS IS OF BULK AT MOST 1048576: true; the input reads as it did. -/
def captNamesUptoRow : OpenClaim := { program := "ytmfmommgooccnaagreat", sum := "9c4d0009f82f171ffc5a29fc3a2c53f228983d6cfafe290f6252177536d2a4c8", func := "bailiwick/bailiwicklaw15.CaptNames", spec := "captNames", inPlace := ["internal/abi.NoEscape", "internal/bytealg.MakeNoZero"], unfollowed := true, recurses := true, apart := false, narrowed := true }
def CaptNamesUptoSaid : Prop := captNamesUptoRow.holds Tryz.pinned (OpenSpec.upto captNamesSpec)

/-- 'bailiwicklaw15.CaptDeep', WHERE WHAT IT READS IS OF BULK AT MOST 1048576: true; the input reads as it did. -/
def captDeepUptoRow : OpenClaim := { program := "ytmfmommgooccnaagreat", sum := "9c4d0009f82f171ffc5a29fc3a2c53f228983d6cfafe290f6252177536d2a4c8", func := "bailiwick/bailiwicklaw15.CaptDeep", spec := "captDeep", inPlace := ["internal/abi.NoEscape", "internal/bytealg.MakeNoZero"], unfollowed := true, recurses := true, apart := false, narrowed := true }
def CaptDeepUptoSaid : Prop := captDeepUptoRow.holds Tryz.pinned (OpenSpec.upto captDeepSpec)

/-- 'bailiwicklaw15.CaptMoves', WHERE WHAT IT READS IS OF BULK AT MOST 1048576: true; the input reads as it did. -/
def captMovesUptoRow : OpenClaim := { program := "ytmfmommgooccnaagreat", sum := "9c4d0009f82f171ffc5a29fc3a2c53f228983d6cfafe290f6252177536d2a4c8", func := "bailiwick/bailiwicklaw15.CaptMoves", spec := "captMoves", inPlace := ["internal/abi.NoEscape", "internal/bytealg.MakeNoZero"], unfollowed := true, recurses := true, apart := false, narrowed := true }
def CaptMovesUptoSaid : Prop := captMovesUptoRow.holds Tryz.pinned (OpenSpec.upto captMovesSpec)

/-- 'bailiwicklaw16.LeaseKeys', WHERE WHAT IT READS IS OF BULK AT MOST 1048576: true; the input reads as it did. -/
def leaseKeysUptoRow : OpenClaim := { program := "ytmfmommgooccnaagreat", sum := "9c4d0009f82f171ffc5a29fc3a2c53f228983d6cfafe290f6252177536d2a4c8", func := "bailiwick/bailiwicklaw16.LeaseKeys", spec := "leaseKeys", inPlace := ["internal/abi.NoEscape", "internal/bytealg.MakeNoZero"], unfollowed := true, recurses := true, apart := false, narrowed := true }
def LeaseKeysUptoSaid : Prop := leaseKeysUptoRow.holds Tryz.pinned (OpenSpec.upto leaseKeysSpec)

/-- 'bailiwicklaw16.LeaseEnds', WHERE WHAT IT READS IS OF BULK AT MOST 1048576: true; the input reads as it did. -/
def leaseEndsUptoRow : OpenClaim := { program := "ytmfmommgooccnaagreat", sum := "9c4d0009f82f171ffc5a29fc3a2c53f228983d6cfafe290f6252177536d2a4c8", func := "bailiwick/bailiwicklaw16.LeaseEnds", spec := "leaseEnds", inPlace := ["internal/abi.NoEscape", "internal/bytealg.MakeNoZero"], unfollowed := true, recurses := true, apart := false, narrowed := true }
def LeaseEndsUptoSaid : Prop := leaseEndsUptoRow.holds Tryz.pinned (OpenSpec.upto leaseEndsSpec)

/-- 'bailiwicklaw16.LeaseForgets', WHERE WHAT IT READS IS OF BULK AT MOST 1048576: true; the input reads as it did. -/
def leaseForgetsUptoRow : OpenClaim := { program := "ytmfmommgooccnaagreat", sum := "9c4d0009f82f171ffc5a29fc3a2c53f228983d6cfafe290f6252177536d2a4c8", func := "bailiwick/bailiwicklaw16.LeaseForgets", spec := "leaseForgets", inPlace := ["internal/abi.NoEscape", "internal/bytealg.MakeNoZero"], unfollowed := true, recurses := true, apart := false, narrowed := true }
def LeaseForgetsUptoSaid : Prop := leaseForgetsUptoRow.holds Tryz.pinned (OpenSpec.upto leaseForgetsSpec)

/-- 'bailiwicklaw16.LeaseDue', WHERE WHAT IT READS IS OF BULK AT MOST 1048576: true; the input reads as it did. -/
def leaseDueUptoRow : OpenClaim := { program := "ytmfmommgooccnaagreat", sum := "9c4d0009f82f171ffc5a29fc3a2c53f228983d6cfafe290f6252177536d2a4c8", func := "bailiwick/bailiwicklaw16.LeaseDue", spec := "leaseDue", inPlace := ["internal/abi.NoEscape", "internal/bytealg.MakeNoZero"], unfollowed := true, recurses := true, apart := false, narrowed := true }
def LeaseDueUptoSaid : Prop := leaseDueUptoRow.holds Tryz.pinned (OpenSpec.upto leaseDueSpec)

/-- 'bailiwicklaw15.CaptQuota', WHERE WHAT IT READS IS OF BULK AT MOST 1048576: true; the input reads as it did. -/
def captQuotaUptoRow : OpenClaim := { program := "ytmfmommgooccnaagreat", sum := "9c4d0009f82f171ffc5a29fc3a2c53f228983d6cfafe290f6252177536d2a4c8", func := "bailiwick/bailiwicklaw15.CaptQuota", spec := "captQuota", inPlace := ["internal/abi.NoEscape", "internal/bytealg.MakeNoZero"], unfollowed := true, recurses := true, apart := false, narrowed := true }
def CaptQuotaUptoSaid : Prop := captQuotaUptoRow.holds Tryz.pinned (OpenSpec.upto captQuotaSpec)

/-- 'bailiwicklaw15.CaptKids', WHERE WHAT IT READS IS OF BULK AT MOST 1048576: true; the input reads as it did. -/
def captKidsUptoRow : OpenClaim := { program := "ytmfmommgooccnaagreat", sum := "9c4d0009f82f171ffc5a29fc3a2c53f228983d6cfafe290f6252177536d2a4c8", func := "bailiwick/bailiwicklaw15.CaptKids", spec := "captKids", inPlace := ["internal/abi.NoEscape", "internal/bytealg.MakeNoZero"], unfollowed := true, recurses := true, apart := false, narrowed := true }
def CaptKidsUptoSaid : Prop := captKidsUptoRow.holds Tryz.pinned (OpenSpec.upto captKidsSpec)

/-- 'bailiwicklaw15.CaptRevoked', WHERE WHAT IT READS IS OF BULK AT MOST 1048576: true; the input reads as it did. -/
def captRevokedUptoRow : OpenClaim := { program := "ytmfmommgooccnaagreat", sum := "9c4d0009f82f171ffc5a29fc3a2c53f228983d6cfafe290f6252177536d2a4c8", func := "bailiwick/bailiwicklaw15.CaptRevoked", spec := "captRevoked", inPlace := ["internal/abi.NoEscape", "internal/bytealg.MakeNoZero"], unfollowed := true, recurses := true, apart := false, narrowed := true }
def CaptRevokedUptoSaid : Prop := captRevokedUptoRow.holds Tryz.pinned (OpenSpec.upto captRevokedSpec)

/-- 'bailiwicklaw15.CaptRights', WHERE WHAT IT READS IS OF BULK AT MOST 1048576: true; the input reads as it did. -/
def captRightsUptoRow : OpenClaim := { program := "ytmfmommgooccnaagreat", sum := "9c4d0009f82f171ffc5a29fc3a2c53f228983d6cfafe290f6252177536d2a4c8", func := "bailiwick/bailiwicklaw15.CaptRights", spec := "captRights", inPlace := ["internal/abi.NoEscape", "internal/bytealg.MakeNoZero"], unfollowed := true, recurses := true, apart := false, narrowed := true }
def CaptRightsUptoSaid : Prop := captRightsUptoRow.holds Tryz.pinned (OpenSpec.upto captRightsSpec)

end Rows
end Go.Proofs.YtmfmommgooccnaaGreat
