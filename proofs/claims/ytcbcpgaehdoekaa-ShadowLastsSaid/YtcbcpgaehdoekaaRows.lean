/-
  No cell of these rows narrows 'for every input' (looked for: loops, veiled, ifaces, maps, wideKeys, modest, calm, conditions, laid).
  DERIVED. THE GIVEN ROWS OF THIS SEAT. 4 by the template 'for every input the law returns true; each argument reads behind the call as it read before'; 0 by the template 'total and deterministic' (their statements: YtcbcpgaehdoekaaTotals.lean).
  GIVEN WITH THE SEED: the statements are not yours to turn. If you find one false, say at which input.
  Laid BY PROGRAM, IN A SANDBOX (cutbox-rows.mjs): the forced cells as the released guide's own fill.sh prints them over the translation 4e2ec0fe06b8baf6… (all of the seat's roots in one cut). By AI agents, Wed Nov 11 2026. No macro, syntax, notation, axiom, sorry.
-/
import Derived.Test.YtcbcpgaehdoekaaChecked
import GoSem.Claim
import GoSem.ClaimJoined
import GoSem.ClaimMapViews
import Derived.JoinedTies
import Derived.KernelRfl
namespace Go.Proofs.Ytcbcpgaehdoekaa
/- THE CELL 'sum', in the pinned program and in every row, IS THE sha256 OF THE DUMP (.gsa) THAT YtcbcpgaehdoekaaProg.lean LOADS. Nothing in Lean hashes anything: it is a label: what it is worth is what the hold of that sum in a sandbox is worth. -/
noncomputable def Try.pinned : Pinned := { name := "ytcbcpgaehdoekaa", sum := "4e2ec0fe06b8baf618c6c45ad4f5c9829c802e16f2be9ccff3bb9bd0ed9c74fc", checked := Try.checked }
namespace Rows
def none {H : Type} : Left H := { results := [], args := [] }

/-- 'bailiwicklaw09.ShadowHands': WHATEVER THE INPUT: true; the input reads as it did. -/
def shadowHandsSpec : ChangeSpec := { name := "shadowHands", fn := fun _ => fun
  | [d1, d2] => { results := [.lit (.bool true)], args := [d1, d2] }
  | _ => none }
def shadowHandsRow : OpenClaim := { program := "ytcbcpgaehdoekaa", sum := "4e2ec0fe06b8baf618c6c45ad4f5c9829c802e16f2be9ccff3bb9bd0ed9c74fc", func := "bailiwick/bailiwicklaw09.ShadowHands", spec := "shadowHands", inPlace := ["internal/abi.NoEscape", "internal/bytealg.MakeNoZero"], unfollowed := true, recurses := true, apart := false }
def ShadowHandsSaid : Prop := shadowHandsRow.holds Try.pinned (OpenSpec.ofChange shadowHandsSpec)

/-- ITS FALSE NEIGHBOUR: 'it returns false'. Refute it at one input. -/
def shadowHandsWrong : ChangeSpec := { name := "shadowHands", fn := fun _ => fun
  | [d1, d2] => { results := [.lit (.bool false)], args := [d1, d2] }
  | _ => none }
def ShadowHandsWrongFalsely : Prop := shadowHandsRow.holds Try.pinned (OpenSpec.ofChange shadowHandsWrong)

/-- 'bailiwicklaw09.ShadowGives': WHATEVER THE INPUT: true; the input reads as it did. -/
def shadowGivesSpec : ChangeSpec := { name := "shadowGives", fn := fun _ => fun
  | [d1, d2] => { results := [.lit (.bool true)], args := [d1, d2] }
  | _ => none }
def shadowGivesRow : OpenClaim := { program := "ytcbcpgaehdoekaa", sum := "4e2ec0fe06b8baf618c6c45ad4f5c9829c802e16f2be9ccff3bb9bd0ed9c74fc", func := "bailiwick/bailiwicklaw09.ShadowGives", spec := "shadowGives", inPlace := ["internal/abi.NoEscape", "internal/bytealg.MakeNoZero"], unfollowed := true, recurses := true, apart := false }
def ShadowGivesSaid : Prop := shadowGivesRow.holds Try.pinned (OpenSpec.ofChange shadowGivesSpec)

/-- ITS FALSE NEIGHBOUR: 'it returns false'. Refute it at one input. -/
def shadowGivesWrong : ChangeSpec := { name := "shadowGives", fn := fun _ => fun
  | [d1, d2] => { results := [.lit (.bool false)], args := [d1, d2] }
  | _ => none }
def ShadowGivesWrongFalsely : Prop := shadowGivesRow.holds Try.pinned (OpenSpec.ofChange shadowGivesWrong)

/-- 'bailiwicklaw09.ShadowAgain': WHATEVER THE INPUT: true; the input reads as it did. -/
def shadowAgainSpec : ChangeSpec := { name := "shadowAgain", fn := fun _ => fun
  | [d1, d2, d3] => { results := [.lit (.bool true)], args := [d1, d2, d3] }
  | _ => none }
def shadowAgainRow : OpenClaim := { program := "ytcbcpgaehdoekaa", sum := "4e2ec0fe06b8baf618c6c45ad4f5c9829c802e16f2be9ccff3bb9bd0ed9c74fc", func := "bailiwick/bailiwicklaw09.ShadowAgain", spec := "shadowAgain", inPlace := ["internal/abi.NoEscape", "internal/bytealg.MakeNoZero"], unfollowed := true, recurses := true, apart := false }
def ShadowAgainSaid : Prop := shadowAgainRow.holds Try.pinned (OpenSpec.ofChange shadowAgainSpec)

/-- ITS FALSE NEIGHBOUR: 'it returns false'. Refute it at one input. -/
def shadowAgainWrong : ChangeSpec := { name := "shadowAgain", fn := fun _ => fun
  | [d1, d2, d3] => { results := [.lit (.bool false)], args := [d1, d2, d3] }
  | _ => none }
def ShadowAgainWrongFalsely : Prop := shadowAgainRow.holds Try.pinned (OpenSpec.ofChange shadowAgainWrong)

/-- 'bailiwicklaw09.ShadowLasts': WHATEVER THE INPUT: true; the input reads as it did. -/
def shadowLastsSpec : ChangeSpec := { name := "shadowLasts", fn := fun _ => fun
  | [d1, d2, d3] => { results := [.lit (.bool true)], args := [d1, d2, d3] }
  | _ => none }
def shadowLastsRow : OpenClaim := { program := "ytcbcpgaehdoekaa", sum := "4e2ec0fe06b8baf618c6c45ad4f5c9829c802e16f2be9ccff3bb9bd0ed9c74fc", func := "bailiwick/bailiwicklaw09.ShadowLasts", spec := "shadowLasts", inPlace := ["internal/abi.NoEscape", "internal/bytealg.MakeNoZero"], unfollowed := true, recurses := true, apart := false }
def ShadowLastsSaid : Prop := shadowLastsRow.holds Try.pinned (OpenSpec.ofChange shadowLastsSpec)

/-- ITS FALSE NEIGHBOUR: 'it returns false'. Refute it at one input. -/
def shadowLastsWrong : ChangeSpec := { name := "shadowLasts", fn := fun _ => fun
  | [d1, d2, d3] => { results := [.lit (.bool false)], args := [d1, d2, d3] }
  | _ => none }
def ShadowLastsWrongFalsely : Prop := shadowLastsRow.holds Try.pinned (OpenSpec.ofChange shadowLastsWrong)

/- THE SECOND FORM. 'bulk': how many values and letters a reading holds, each counted each time it is reached (what is shared counts as often as it is met; a slice's spare places count too). A statement '..UptoSaid' is the law's where the arguments, and the package variables that the reading takes, are together of bulk at most 1048576: NARROWER than '..Said'. Prove '..Said' where nothing that the law and all that it calls make is longer than what came in: it says more and counts as full. Else prove '..UptoSaid'. A law counts once. -/
mutual
def uptoBulk {H : Type} : DataW H → Nat
  | .lit (.string bytes) => bytes.length + 1
  | .lit _ => 1
  | .nil => 1
  | .ptr d => uptoBulk d + 1
  | .slice elems spare => uptoBulkAll elems + uptoBulkAll spare + 1
  | .agg parts => uptoBulkAll parts + 1
  | .iface _ d => uptoBulk d + 1
  | .map entries => uptoBulkEntries entries + 1
  | .held _ => 1
def uptoBulkAll {H : Type} : List (DataW H) → Nat
  | [] => 0
  | d :: r => uptoBulk d + uptoBulkAll r
def uptoBulkEntries {H : Type} : List (Lit × DataW H) → Nat
  | [] => 0
  | x :: r => uptoBulkEntry x + uptoBulkEntries r
def uptoBulkEntry {H : Type} : Lit × DataW H → Nat
  | (.string bytes, d) => bytes.length + uptoBulk d + 1
  | (_, d) => uptoBulk d + 1
 end
def uptoSmall : (H : Type) → List (DataW H) → Bool := fun _ ds => decide (uptoBulkAll ds ≤ 1048576)
def OpenSpec.upto (s : _root_.Go.ChangeSpec) : _root_.Go.OpenSpec := { _root_.Go.OpenSpec.ofChange s with cond := some uptoSmall }

/-- 'bailiwicklaw09.ShadowHands', WHERE WHAT IT READS IS OF BULK AT MOST 1048576: true; the input reads as it did. -/
def shadowHandsUptoRow : OpenClaim := { program := "ytcbcpgaehdoekaa", sum := "4e2ec0fe06b8baf618c6c45ad4f5c9829c802e16f2be9ccff3bb9bd0ed9c74fc", func := "bailiwick/bailiwicklaw09.ShadowHands", spec := "shadowHands", inPlace := ["internal/abi.NoEscape", "internal/bytealg.MakeNoZero"], unfollowed := true, recurses := true, apart := false, narrowed := true }
def ShadowHandsUptoSaid : Prop := shadowHandsUptoRow.holds Try.pinned (OpenSpec.upto shadowHandsSpec)

/-- 'bailiwicklaw09.ShadowGives', WHERE WHAT IT READS IS OF BULK AT MOST 1048576: true; the input reads as it did. -/
def shadowGivesUptoRow : OpenClaim := { program := "ytcbcpgaehdoekaa", sum := "4e2ec0fe06b8baf618c6c45ad4f5c9829c802e16f2be9ccff3bb9bd0ed9c74fc", func := "bailiwick/bailiwicklaw09.ShadowGives", spec := "shadowGives", inPlace := ["internal/abi.NoEscape", "internal/bytealg.MakeNoZero"], unfollowed := true, recurses := true, apart := false, narrowed := true }
def ShadowGivesUptoSaid : Prop := shadowGivesUptoRow.holds Try.pinned (OpenSpec.upto shadowGivesSpec)

/-- 'bailiwicklaw09.ShadowAgain', WHERE WHAT IT READS IS OF BULK AT MOST 1048576: true; the input reads as it did. -/
def shadowAgainUptoRow : OpenClaim := { program := "ytcbcpgaehdoekaa", sum := "4e2ec0fe06b8baf618c6c45ad4f5c9829c802e16f2be9ccff3bb9bd0ed9c74fc", func := "bailiwick/bailiwicklaw09.ShadowAgain", spec := "shadowAgain", inPlace := ["internal/abi.NoEscape", "internal/bytealg.MakeNoZero"], unfollowed := true, recurses := true, apart := false, narrowed := true }
def ShadowAgainUptoSaid : Prop := shadowAgainUptoRow.holds Try.pinned (OpenSpec.upto shadowAgainSpec)

/-- 'bailiwicklaw09.ShadowLasts', WHERE WHAT IT READS IS OF BULK AT MOST 1048576: true; the input reads as it did. -/
def shadowLastsUptoRow : OpenClaim := { program := "ytcbcpgaehdoekaa", sum := "4e2ec0fe06b8baf618c6c45ad4f5c9829c802e16f2be9ccff3bb9bd0ed9c74fc", func := "bailiwick/bailiwicklaw09.ShadowLasts", spec := "shadowLasts", inPlace := ["internal/abi.NoEscape", "internal/bytealg.MakeNoZero"], unfollowed := true, recurses := true, apart := false, narrowed := true }
def ShadowLastsUptoSaid : Prop := shadowLastsUptoRow.holds Try.pinned (OpenSpec.upto shadowLastsSpec)

end Rows
end Go.Proofs.Ytcbcpgaehdoekaa
