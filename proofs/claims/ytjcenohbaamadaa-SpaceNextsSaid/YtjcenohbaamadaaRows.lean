/-
  No cell of these rows narrows 'for every input' (looked for: loops, veiled, ifaces, maps, wideKeys, modest, calm, conditions, laid).
  DERIVED. THE GIVEN ROWS OF THIS SEAT. 5 by the template 'for every input the law returns true; each argument reads behind the call as it read before'; 0 by the template 'total and deterministic' (their statements: YtjcenohbaamadaaTotals.lean).
  GIVEN WITH THE SEED: the statements are not yours to turn. If you find one false, say at which input.
  Laid BY PROGRAM, IN A SANDBOX (cutbox-rows.mjs): the forced cells as the released guide's own fill.sh prints them over the translation f4c746dd94f0902d… (all of the seat's roots in one cut). By AI agents, Wed Nov 11 2026. No macro, syntax, notation, axiom, sorry.
-/
import Derived.Test.YtjcenohbaamadaaChecked
import GoSem.Claim
import GoSem.ClaimJoined
import GoSem.ClaimMapViews
import Derived.JoinedTies
import Derived.KernelRfl
namespace Go.Proofs.Ytjcenohbaamadaa
/- THE CELL 'sum', in the pinned program and in every row, IS THE sha256 OF THE DUMP (.gsa) THAT YtjcenohbaamadaaProg.lean LOADS. Nothing in Lean hashes anything: it is a label: what it is worth is what the hold of that sum in a sandbox is worth. -/
noncomputable def Try.pinned : Pinned := { name := "ytjcenohbaamadaa", sum := "f4c746dd94f0902d6c3e2d8e24e0d867065123361b3957bdbadfb44f9caca27e", checked := Try.checked }
namespace Rows
def none {H : Type} : Left H := { results := [], args := [] }

/-- 'bailiwicklaw13.SpaceWithin': WHATEVER THE INPUT: true; the input reads as it did. -/
def spaceWithinSpec : ChangeSpec := { name := "spaceWithin", fn := fun _ => fun
  | [d1, d2, d3, d4, d5] => { results := [.lit (.bool true)], args := [d1, d2, d3, d4, d5] }
  | _ => none }
def spaceWithinRow : OpenClaim := { program := "ytjcenohbaamadaa", sum := "f4c746dd94f0902d6c3e2d8e24e0d867065123361b3957bdbadfb44f9caca27e", func := "bailiwick/bailiwicklaw13.SpaceWithin", spec := "spaceWithin", apart := false }
def SpaceWithinSaid : Prop := spaceWithinRow.holds Try.pinned (OpenSpec.ofChange spaceWithinSpec)

/-- ITS FALSE NEIGHBOUR: 'it returns false'. Refute it at one input. -/
def spaceWithinWrong : ChangeSpec := { name := "spaceWithin", fn := fun _ => fun
  | [d1, d2, d3, d4, d5] => { results := [.lit (.bool false)], args := [d1, d2, d3, d4, d5] }
  | _ => none }
def SpaceWithinWrongFalsely : Prop := spaceWithinRow.holds Try.pinned (OpenSpec.ofChange spaceWithinWrong)

/-- 'bailiwicklaw13.SpaceBack': WHATEVER THE INPUT: true; the input reads as it did. -/
def spaceBackSpec : ChangeSpec := { name := "spaceBack", fn := fun _ => fun
  | [d1, d2, d3, d4] => { results := [.lit (.bool true)], args := [d1, d2, d3, d4] }
  | _ => none }
def spaceBackRow : OpenClaim := { program := "ytjcenohbaamadaa", sum := "f4c746dd94f0902d6c3e2d8e24e0d867065123361b3957bdbadfb44f9caca27e", func := "bailiwick/bailiwicklaw13.SpaceBack", spec := "spaceBack", apart := false }
def SpaceBackSaid : Prop := spaceBackRow.holds Try.pinned (OpenSpec.ofChange spaceBackSpec)

/-- ITS FALSE NEIGHBOUR: 'it returns false'. Refute it at one input. -/
def spaceBackWrong : ChangeSpec := { name := "spaceBack", fn := fun _ => fun
  | [d1, d2, d3, d4] => { results := [.lit (.bool false)], args := [d1, d2, d3, d4] }
  | _ => none }
def SpaceBackWrongFalsely : Prop := spaceBackRow.holds Try.pinned (OpenSpec.ofChange spaceBackWrong)

/-- 'bailiwicklaw13.SpaceOrder': WHATEVER THE INPUT: true; the input reads as it did. -/
def spaceOrderSpec : ChangeSpec := { name := "spaceOrder", fn := fun _ => fun
  | [d1, d2, d3, d4, d5, d6] => { results := [.lit (.bool true)], args := [d1, d2, d3, d4, d5, d6] }
  | _ => none }
def spaceOrderRow : OpenClaim := { program := "ytjcenohbaamadaa", sum := "f4c746dd94f0902d6c3e2d8e24e0d867065123361b3957bdbadfb44f9caca27e", func := "bailiwick/bailiwicklaw13.SpaceOrder", spec := "spaceOrder", apart := false }
def SpaceOrderSaid : Prop := spaceOrderRow.holds Try.pinned (OpenSpec.ofChange spaceOrderSpec)

/-- ITS FALSE NEIGHBOUR: 'it returns false'. Refute it at one input. -/
def spaceOrderWrong : ChangeSpec := { name := "spaceOrder", fn := fun _ => fun
  | [d1, d2, d3, d4, d5, d6] => { results := [.lit (.bool false)], args := [d1, d2, d3, d4, d5, d6] }
  | _ => none }
def SpaceOrderWrongFalsely : Prop := spaceOrderRow.holds Try.pinned (OpenSpec.ofChange spaceOrderWrong)

/-- 'bailiwicklaw13.SpaceKeys': WHATEVER THE INPUT: true; the input reads as it did. -/
def spaceKeysSpec : ChangeSpec := { name := "spaceKeys", fn := fun _ => fun
  | [d1, d2, d3, d4] => { results := [.lit (.bool true)], args := [d1, d2, d3, d4] }
  | _ => none }
def spaceKeysRow : OpenClaim := { program := "ytjcenohbaamadaa", sum := "f4c746dd94f0902d6c3e2d8e24e0d867065123361b3957bdbadfb44f9caca27e", func := "bailiwick/bailiwicklaw13.SpaceKeys", spec := "spaceKeys", apart := false }
def SpaceKeysSaid : Prop := spaceKeysRow.holds Try.pinned (OpenSpec.ofChange spaceKeysSpec)

/-- ITS FALSE NEIGHBOUR: 'it returns false'. Refute it at one input. -/
def spaceKeysWrong : ChangeSpec := { name := "spaceKeys", fn := fun _ => fun
  | [d1, d2, d3, d4] => { results := [.lit (.bool false)], args := [d1, d2, d3, d4] }
  | _ => none }
def SpaceKeysWrongFalsely : Prop := spaceKeysRow.holds Try.pinned (OpenSpec.ofChange spaceKeysWrong)

/-- 'bailiwicklaw13.SpaceNexts': WHATEVER THE INPUT: true; the input reads as it did. -/
def spaceNextsSpec : ChangeSpec := { name := "spaceNexts", fn := fun _ => fun
  | [d1, d2] => { results := [.lit (.bool true)], args := [d1, d2] }
  | _ => none }
def spaceNextsRow : OpenClaim := { program := "ytjcenohbaamadaa", sum := "f4c746dd94f0902d6c3e2d8e24e0d867065123361b3957bdbadfb44f9caca27e", func := "bailiwick/bailiwicklaw13.SpaceNexts", spec := "spaceNexts", apart := false }
def SpaceNextsSaid : Prop := spaceNextsRow.holds Try.pinned (OpenSpec.ofChange spaceNextsSpec)

/-- ITS FALSE NEIGHBOUR: 'it returns false'. Refute it at one input. -/
def spaceNextsWrong : ChangeSpec := { name := "spaceNexts", fn := fun _ => fun
  | [d1, d2] => { results := [.lit (.bool false)], args := [d1, d2] }
  | _ => none }
def SpaceNextsWrongFalsely : Prop := spaceNextsRow.holds Try.pinned (OpenSpec.ofChange spaceNextsWrong)

/- THE SECOND FORM. 'bulk': how many values and letters a reading holds, each counted each time it is reached (what is shared counts as often as it is met; a slice's spare places count too). A statement '..UptoSaid' is the law's where the arguments, and the package variables that the reading takes, are together of bulk at most 1048576: NARROWER than '..Said'. Prove '..Said' where nothing that the law and all that it calls make is longer than what came in: it says more and counts as full. Else prove '..UptoSaid'. A law counts once. -/
mutual
def uptoBulk {H : Type} : DataW H → Nat
  | .lit (.string bytes) => bytes.length + 1
  | .lit _ => 1
  | .nil => 1
  | .ptr d => uptoBulk d + 1
  | .slice elems spare => uptoBulkAll elems + uptoBulkAll spare + 1
  | .agg parts => uptoBulkAll parts + 1
  | .iface _ d => uptoBulk d + 1
  | .map entries => uptoBulkEntries entries + 1
  | .held _ => 1
def uptoBulkAll {H : Type} : List (DataW H) → Nat
  | [] => 0
  | d :: r => uptoBulk d + uptoBulkAll r
def uptoBulkEntries {H : Type} : List (Lit × DataW H) → Nat
  | [] => 0
  | x :: r => uptoBulkEntry x + uptoBulkEntries r
def uptoBulkEntry {H : Type} : Lit × DataW H → Nat
  | (.string bytes, d) => bytes.length + uptoBulk d + 1
  | (_, d) => uptoBulk d + 1
 end
def uptoSmall : (H : Type) → List (DataW H) → Bool := fun _ ds => decide (uptoBulkAll ds ≤ 1048576)
def OpenSpec.upto (s : _root_.Go.ChangeSpec) : _root_.Go.OpenSpec := { _root_.Go.OpenSpec.ofChange s with cond := some uptoSmall }

/-- 'bailiwicklaw13.SpaceWithin', WHERE WHAT IT READS IS OF BULK AT MOST 1048576: true; the input reads as it did. -/
def spaceWithinUptoRow : OpenClaim := { program := "ytjcenohbaamadaa", sum := "f4c746dd94f0902d6c3e2d8e24e0d867065123361b3957bdbadfb44f9caca27e", func := "bailiwick/bailiwicklaw13.SpaceWithin", spec := "spaceWithin", apart := false, narrowed := true }
def SpaceWithinUptoSaid : Prop := spaceWithinUptoRow.holds Try.pinned (OpenSpec.upto spaceWithinSpec)

/-- 'bailiwicklaw13.SpaceBack', WHERE WHAT IT READS IS OF BULK AT MOST 1048576: true; the input reads as it did. -/
def spaceBackUptoRow : OpenClaim := { program := "ytjcenohbaamadaa", sum := "f4c746dd94f0902d6c3e2d8e24e0d867065123361b3957bdbadfb44f9caca27e", func := "bailiwick/bailiwicklaw13.SpaceBack", spec := "spaceBack", apart := false, narrowed := true }
def SpaceBackUptoSaid : Prop := spaceBackUptoRow.holds Try.pinned (OpenSpec.upto spaceBackSpec)

/-- 'bailiwicklaw13.SpaceOrder', WHERE WHAT IT READS IS OF BULK AT MOST 1048576: true; the input reads as it did. -/
def spaceOrderUptoRow : OpenClaim := { program := "ytjcenohbaamadaa", sum := "f4c746dd94f0902d6c3e2d8e24e0d867065123361b3957bdbadfb44f9caca27e", func := "bailiwick/bailiwicklaw13.SpaceOrder", spec := "spaceOrder", apart := false, narrowed := true }
def SpaceOrderUptoSaid : Prop := spaceOrderUptoRow.holds Try.pinned (OpenSpec.upto spaceOrderSpec)

/-- 'bailiwicklaw13.SpaceKeys', WHERE WHAT IT READS IS OF BULK AT MOST 1048576: true; the input reads as it did. -/
def spaceKeysUptoRow : OpenClaim := { program := "ytjcenohbaamadaa", sum := "f4c746dd94f0902d6c3e2d8e24e0d867065123361b3957bdbadfb44f9caca27e", func := "bailiwick/bailiwicklaw13.SpaceKeys", spec := "spaceKeys", apart := false, narrowed := true }
def SpaceKeysUptoSaid : Prop := spaceKeysUptoRow.holds Try.pinned (OpenSpec.upto spaceKeysSpec)

/-- 'bailiwicklaw13.SpaceNexts', WHERE WHAT IT READS IS OF BULK AT MOST 1048576: true; the input reads as it did. -/
def spaceNextsUptoRow : OpenClaim := { program := "ytjcenohbaamadaa", sum := "f4c746dd94f0902d6c3e2d8e24e0d867065123361b3957bdbadfb44f9caca27e", func := "bailiwick/bailiwicklaw13.SpaceNexts", spec := "spaceNexts", apart := false, narrowed := true }
def SpaceNextsUptoSaid : Prop := spaceNextsUptoRow.holds Try.pinned (OpenSpec.upto spaceNextsSpec)

end Rows
end Go.Proofs.Ytjcenohbaamadaa
