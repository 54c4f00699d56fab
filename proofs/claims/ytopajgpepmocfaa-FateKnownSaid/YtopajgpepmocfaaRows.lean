/-
  No cell of these rows narrows 'for every input' (looked for: loops, veiled, ifaces, maps, wideKeys, modest, calm, conditions, laid).
  DERIVED. THE GIVEN ROWS OF THIS SEAT. 3 by the template 'for every input the law returns true; each argument reads behind the call as it read before'; 0 by the template 'total and deterministic' (their statements: YtopajgpepmocfaaTotals.lean).
  GIVEN WITH THE SEED: the statements are not yours to turn. If you find one false, say at which input.
  Laid BY PROGRAM, IN A SANDBOX (cutbox-rows.mjs): the forced cells as the released guide's own fill.sh prints them over the translation 97da52c7953c9111… (all of the seat's roots in one cut). By AI agents, Wed Nov 11 2026. No macro, syntax, notation, axiom, sorry.
-/
import Derived.Test.YtopajgpepmocfaaChecked
import GoSem.Claim
import GoSem.ClaimJoined
import GoSem.ClaimMapViews
import Derived.JoinedTies
import Derived.KernelRfl
namespace Go.Proofs.Ytopajgpepmocfaa
/- THE CELL 'sum', in the pinned program and in every row, IS THE sha256 OF THE DUMP (.gsa) THAT YtopajgpepmocfaaProg.lean LOADS. Nothing in Lean hashes anything: it is a label: what it is worth is what the hold of that sum in a sandbox is worth. -/
noncomputable def Try.pinned : Pinned := { name := "ytopajgpepmocfaa", sum := "97da52c7953c91116189f3d4082d5b154e86dcf81db669df8151edff2e6a9a9f", checked := Try.checked }
namespace Rows
def none {H : Type} : Left H := { results := [], args := [] }

/-- 'blackboardlaw9.FateTells': WHATEVER THE INPUT: true; the input reads as it did. -/
def fateTellsSpec : ChangeSpec := { name := "fateTells", fn := fun _ => fun
  | [d1, d2] => { results := [.lit (.bool true)], args := [d1, d2] }
  | _ => none }
def fateTellsRow : OpenClaim := { program := "ytopajgpepmocfaa", sum := "97da52c7953c91116189f3d4082d5b154e86dcf81db669df8151edff2e6a9a9f", func := "blackboard/blackboardlaw9.FateTells", spec := "fateTells", apart := false }
def FateTellsSaid : Prop := fateTellsRow.holds Try.pinned (OpenSpec.ofChange fateTellsSpec)

/-- ITS FALSE NEIGHBOUR: 'it returns false'. Refute it at one input. -/
def fateTellsWrong : ChangeSpec := { name := "fateTells", fn := fun _ => fun
  | [d1, d2] => { results := [.lit (.bool false)], args := [d1, d2] }
  | _ => none }
def FateTellsWrongFalsely : Prop := fateTellsRow.holds Try.pinned (OpenSpec.ofChange fateTellsWrong)

/-- 'blackboardlaw9.FateKnown': WHATEVER THE INPUT: true; the input reads as it did. -/
def fateKnownSpec : ChangeSpec := { name := "fateKnown", fn := fun _ => fun
  | [] => { results := [.lit (.bool true)], args := [] }
  | _ => none }
def fateKnownRow : OpenClaim := { program := "ytopajgpepmocfaa", sum := "97da52c7953c91116189f3d4082d5b154e86dcf81db669df8151edff2e6a9a9f", func := "blackboard/blackboardlaw9.FateKnown", spec := "fateKnown", apart := false }
def FateKnownSaid : Prop := fateKnownRow.holds Try.pinned (OpenSpec.ofChange fateKnownSpec)

/-- ITS FALSE NEIGHBOUR: 'it returns false'. Refute it at one input. -/
def fateKnownWrong : ChangeSpec := { name := "fateKnown", fn := fun _ => fun
  | [] => { results := [.lit (.bool false)], args := [] }
  | _ => none }
def FateKnownWrongFalsely : Prop := fateKnownRow.holds Try.pinned (OpenSpec.ofChange fateKnownWrong)

/-- 'blackboardlaw9.FateOrders': WHATEVER THE INPUT: true; the input reads as it did. -/
def fateOrdersSpec : ChangeSpec := { name := "fateOrders", fn := fun _ => fun
  | [d1, d2] => { results := [.lit (.bool true)], args := [d1, d2] }
  | _ => none }
def fateOrdersRow : OpenClaim := { program := "ytopajgpepmocfaa", sum := "97da52c7953c91116189f3d4082d5b154e86dcf81db669df8151edff2e6a9a9f", func := "blackboard/blackboardlaw9.FateOrders", spec := "fateOrders", apart := false }
def FateOrdersSaid : Prop := fateOrdersRow.holds Try.pinned (OpenSpec.ofChange fateOrdersSpec)

/-- ITS FALSE NEIGHBOUR: 'it returns false'. Refute it at one input. -/
def fateOrdersWrong : ChangeSpec := { name := "fateOrders", fn := fun _ => fun
  | [d1, d2] => { results := [.lit (.bool false)], args := [d1, d2] }
  | _ => none }
def FateOrdersWrongFalsely : Prop := fateOrdersRow.holds Try.pinned (OpenSpec.ofChange fateOrdersWrong)

/- THE SECOND FORM. 'bulk': how many values and letters a reading holds, each counted each time it is reached (what is shared counts as often as it is met; a slice's spare places count too). A statement '..UptoSaid' is the law's where the arguments, and the package variables that the reading takes, are together of bulk at most 1048576: NARROWER than '..Said'. Prove '..Said' where nothing that the law and all that it calls make is longer than what came in: it says more and counts as full. Else prove '..UptoSaid'. A law counts once. -/
mutual
def uptoBulk {H : Type} : DataW H → Nat
  | .lit (.string bytes) => bytes.length + 1
  | .lit _ => 1
  | .nil => 1
  | .ptr d => uptoBulk d + 1
  | .slice elems spare => uptoBulkAll elems + uptoBulkAll spare + 1
  | .agg parts => uptoBulkAll parts + 1
  | .iface _ d => uptoBulk d + 1
  | .map entries => uptoBulkEntries entries + 1
  | .held _ => 1
def uptoBulkAll {H : Type} : List (DataW H) → Nat
  | [] => 0
  | d :: r => uptoBulk d + uptoBulkAll r
def uptoBulkEntries {H : Type} : List (Lit × DataW H) → Nat
  | [] => 0
  | x :: r => uptoBulkEntry x + uptoBulkEntries r
def uptoBulkEntry {H : Type} : Lit × DataW H → Nat
  | (.string bytes, d) => bytes.length + uptoBulk d + 1
  | (_, d) => uptoBulk d + 1
 end
def uptoSmall : (H : Type) → List (DataW H) → Bool := fun _ ds => decide (uptoBulkAll ds ≤ 1048576)
def OpenSpec.upto (s : _root_.Go.ChangeSpec) : _root_.Go.OpenSpec := { _root_.Go.OpenSpec.ofChange s with cond := some uptoSmall }

/-- 'blackboardlaw9.FateTells', WHERE WHAT IT READS IS OF BULK AT MOST 1048576: true; the input reads as it did. -/
def fateTellsUptoRow : OpenClaim := { program := "ytopajgpepmocfaa", sum := "97da52c7953c91116189f3d4082d5b154e86dcf81db669df8151edff2e6a9a9f", func := "blackboard/blackboardlaw9.FateTells", spec := "fateTells", apart := false, narrowed := true }
def FateTellsUptoSaid : Prop := fateTellsUptoRow.holds Try.pinned (OpenSpec.upto fateTellsSpec)

/-- 'blackboardlaw9.FateKnown', WHERE WHAT IT READS IS OF BULK AT MOST 1048576: true; the input reads as it did. -/
def fateKnownUptoRow : OpenClaim := { program := "ytopajgpepmocfaa", sum := "97da52c7953c91116189f3d4082d5b154e86dcf81db669df8151edff2e6a9a9f", func := "blackboard/blackboardlaw9.FateKnown", spec := "fateKnown", apart := false, narrowed := true }
def FateKnownUptoSaid : Prop := fateKnownUptoRow.holds Try.pinned (OpenSpec.upto fateKnownSpec)

/-- 'blackboardlaw9.FateOrders', WHERE WHAT IT READS IS OF BULK AT MOST 1048576: true; the input reads as it did. -/
def fateOrdersUptoRow : OpenClaim := { program := "ytopajgpepmocfaa", sum := "97da52c7953c91116189f3d4082d5b154e86dcf81db669df8151edff2e6a9a9f", func := "blackboard/blackboardlaw9.FateOrders", spec := "fateOrders", apart := false, narrowed := true }
def FateOrdersUptoSaid : Prop := fateOrdersUptoRow.holds Try.pinned (OpenSpec.upto fateOrdersSpec)

end Rows
end Go.Proofs.Ytopajgpepmocfaa
