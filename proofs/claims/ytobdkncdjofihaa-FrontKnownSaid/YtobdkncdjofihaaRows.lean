/-
  No cell of these rows narrows 'for every input' (looked for: loops, veiled, ifaces, maps, wideKeys, modest, calm, conditions, laid).
  DERIVED. THE GIVEN ROWS OF THIS SEAT. 4 by the template 'for every input the law returns true; each argument reads behind the call as it read before'; 0 by the template 'total and deterministic' (their statements: YtobdkncdjofihaaTotals.lean).
  GIVEN WITH THE SEED: the statements are not yours to turn. If you find one false, say at which input.
  Laid BY PROGRAM, IN A SANDBOX (cutbox-rows.mjs): the forced cells as the released guide's own fill.sh prints them over the translation 3c38198a99fe7c07… (all of the seat's roots in one cut). By AI agents, Wed Nov 11 2026. No macro, syntax, notation, axiom, sorry.
-/
import Derived.Test.YtobdkncdjofihaaChecked
import GoSem.Claim
import GoSem.ClaimJoined
import GoSem.ClaimMapViews
import Derived.JoinedTies
import Derived.KernelRfl
namespace Go.Proofs.Ytobdkncdjofihaa
/- THE CELL 'sum', in the pinned program and in every row, IS THE sha256 OF THE DUMP (.gsa) THAT YtobdkncdjofihaaProg.lean LOADS. Nothing in Lean hashes anything: it is a label: what it is worth is what the hold of that sum in a sandbox is worth. -/
noncomputable def Try.pinned : Pinned := { name := "ytobdkncdjofihaa", sum := "3c38198a99fe7c07c778f6fff1c3d2ab4e9abb085af1a8eda4cd2dade29f6010", checked := Try.checked }
namespace Rows
def none {H : Type} : Left H := { results := [], args := [] }

/-- 'blackboardlaw17.FrontPlays': WHATEVER THE INPUT: true; the input reads as it did. -/
def frontPlaysSpec : ChangeSpec := { name := "frontPlays", fn := fun _ => fun
  | [d1, d2] => { results := [.lit (.bool true)], args := [d1, d2] }
  | _ => none }
def frontPlaysRow : OpenClaim := { program := "ytobdkncdjofihaa", sum := "3c38198a99fe7c07c778f6fff1c3d2ab4e9abb085af1a8eda4cd2dade29f6010", func := "blackboard/blackboardlaw17.FrontPlays", spec := "frontPlays", apart := false }
def FrontPlaysSaid : Prop := frontPlaysRow.holds Try.pinned (OpenSpec.ofChange frontPlaysSpec)

/-- ITS FALSE NEIGHBOUR: 'it returns false'. Refute it at one input. -/
def frontPlaysWrong : ChangeSpec := { name := "frontPlays", fn := fun _ => fun
  | [d1, d2] => { results := [.lit (.bool false)], args := [d1, d2] }
  | _ => none }
def FrontPlaysWrongFalsely : Prop := frontPlaysRow.holds Try.pinned (OpenSpec.ofChange frontPlaysWrong)

/-- 'blackboardlaw17.FrontTakes': WHATEVER THE INPUT: true; the input reads as it did. -/
def frontTakesSpec : ChangeSpec := { name := "frontTakes", fn := fun _ => fun
  | [d1, d2, d3] => { results := [.lit (.bool true)], args := [d1, d2, d3] }
  | _ => none }
def frontTakesRow : OpenClaim := { program := "ytobdkncdjofihaa", sum := "3c38198a99fe7c07c778f6fff1c3d2ab4e9abb085af1a8eda4cd2dade29f6010", func := "blackboard/blackboardlaw17.FrontTakes", spec := "frontTakes", apart := false }
def FrontTakesSaid : Prop := frontTakesRow.holds Try.pinned (OpenSpec.ofChange frontTakesSpec)

/-- ITS FALSE NEIGHBOUR: 'it returns false'. Refute it at one input. -/
def frontTakesWrong : ChangeSpec := { name := "frontTakes", fn := fun _ => fun
  | [d1, d2, d3] => { results := [.lit (.bool false)], args := [d1, d2, d3] }
  | _ => none }
def FrontTakesWrongFalsely : Prop := frontTakesRow.holds Try.pinned (OpenSpec.ofChange frontTakesWrong)

/-- 'blackboardlaw17.FrontKnown': WHATEVER THE INPUT: true; the input reads as it did. -/
def frontKnownSpec : ChangeSpec := { name := "frontKnown", fn := fun _ => fun
  | [] => { results := [.lit (.bool true)], args := [] }
  | _ => none }
def frontKnownRow : OpenClaim := { program := "ytobdkncdjofihaa", sum := "3c38198a99fe7c07c778f6fff1c3d2ab4e9abb085af1a8eda4cd2dade29f6010", func := "blackboard/blackboardlaw17.FrontKnown", spec := "frontKnown", apart := false }
def FrontKnownSaid : Prop := frontKnownRow.holds Try.pinned (OpenSpec.ofChange frontKnownSpec)

/-- ITS FALSE NEIGHBOUR: 'it returns false'. Refute it at one input. -/
def frontKnownWrong : ChangeSpec := { name := "frontKnown", fn := fun _ => fun
  | [] => { results := [.lit (.bool false)], args := [] }
  | _ => none }
def FrontKnownWrongFalsely : Prop := frontKnownRow.holds Try.pinned (OpenSpec.ofChange frontKnownWrong)

/-- 'blackboardlaw17.FrontShuts': WHATEVER THE INPUT: true; the input reads as it did. -/
def frontShutsSpec : ChangeSpec := { name := "frontShuts", fn := fun _ => fun
  | [d1, d2, d3] => { results := [.lit (.bool true)], args := [d1, d2, d3] }
  | _ => none }
def frontShutsRow : OpenClaim := { program := "ytobdkncdjofihaa", sum := "3c38198a99fe7c07c778f6fff1c3d2ab4e9abb085af1a8eda4cd2dade29f6010", func := "blackboard/blackboardlaw17.FrontShuts", spec := "frontShuts", apart := false }
def FrontShutsSaid : Prop := frontShutsRow.holds Try.pinned (OpenSpec.ofChange frontShutsSpec)

/-- ITS FALSE NEIGHBOUR: 'it returns false'. Refute it at one input. -/
def frontShutsWrong : ChangeSpec := { name := "frontShuts", fn := fun _ => fun
  | [d1, d2, d3] => { results := [.lit (.bool false)], args := [d1, d2, d3] }
  | _ => none }
def FrontShutsWrongFalsely : Prop := frontShutsRow.holds Try.pinned (OpenSpec.ofChange frontShutsWrong)

/- THE SECOND FORM. 'bulk': how many values and letters a reading holds, each counted each time it is reached (what is shared counts as often as it is met; a slice's spare places count too). A statement '..UptoSaid' is the law's where the arguments, and the package variables that the reading takes, are together of bulk at most 1048576: NARROWER than '..Said'. Prove '..Said' where nothing that the law and all that it calls make is longer than what came in: it says more and counts as full. Else prove '..UptoSaid'. A law counts once. -/
mutual
def uptoBulk {H : Type} : DataW H → Nat
  | .lit (.string bytes) => bytes.length + 1
  | .lit _ => 1
  | .nil => 1
  | .ptr d => uptoBulk d + 1
  | .slice elems spare => uptoBulkAll elems + uptoBulkAll spare + 1
  | .agg parts => uptoBulkAll parts + 1
  | .iface _ d => uptoBulk d + 1
  | .map entries => uptoBulkEntries entries + 1
  | .held _ => 1
def uptoBulkAll {H : Type} : List (DataW H) → Nat
  | [] => 0
  | d :: r => uptoBulk d + uptoBulkAll r
def uptoBulkEntries {H : Type} : List (Lit × DataW H) → Nat
  | [] => 0
  | x :: r => uptoBulkEntry x + uptoBulkEntries r
def uptoBulkEntry {H : Type} : Lit × DataW H → Nat
  | (.string bytes, d) => bytes.length + uptoBulk d + 1
  | (_, d) => uptoBulk d + 1
 end
def uptoSmall : (H : Type) → List (DataW H) → Bool := fun _ ds => decide (uptoBulkAll ds ≤ 1048576)
def OpenSpec.upto (s : _root_.Go.ChangeSpec) : _root_.Go.OpenSpec := { _root_.Go.OpenSpec.ofChange s with cond := some uptoSmall }

/-- 'blackboardlaw17.FrontPlays', WHERE WHAT IT READS IS OF BULK AT MOST 1048576: true; the input reads as it did. -/
def frontPlaysUptoRow : OpenClaim := { program := "ytobdkncdjofihaa", sum := "3c38198a99fe7c07c778f6fff1c3d2ab4e9abb085af1a8eda4cd2dade29f6010", func := "blackboard/blackboardlaw17.FrontPlays", spec := "frontPlays", apart := false, narrowed := true }
def FrontPlaysUptoSaid : Prop := frontPlaysUptoRow.holds Try.pinned (OpenSpec.upto frontPlaysSpec)

/-- 'blackboardlaw17.FrontTakes', WHERE WHAT IT READS IS OF BULK AT MOST 1048576: true; the input reads as it did. -/
def frontTakesUptoRow : OpenClaim := { program := "ytobdkncdjofihaa", sum := "3c38198a99fe7c07c778f6fff1c3d2ab4e9abb085af1a8eda4cd2dade29f6010", func := "blackboard/blackboardlaw17.FrontTakes", spec := "frontTakes", apart := false, narrowed := true }
def FrontTakesUptoSaid : Prop := frontTakesUptoRow.holds Try.pinned (OpenSpec.upto frontTakesSpec)

/-- 'blackboardlaw17.FrontKnown', WHERE WHAT IT READS IS OF BULK AT MOST 1048576: true; the input reads as it did. -/
def frontKnownUptoRow : OpenClaim := { program := "ytobdkncdjofihaa", sum := "3c38198a99fe7c07c778f6fff1c3d2ab4e9abb085af1a8eda4cd2dade29f6010", func := "blackboard/blackboardlaw17.FrontKnown", spec := "frontKnown", apart := false, narrowed := true }
def FrontKnownUptoSaid : Prop := frontKnownUptoRow.holds Try.pinned (OpenSpec.upto frontKnownSpec)

/-- 'blackboardlaw17.FrontShuts', WHERE WHAT IT READS IS OF BULK AT MOST 1048576: true; the input reads as it did. -/
def frontShutsUptoRow : OpenClaim := { program := "ytobdkncdjofihaa", sum := "3c38198a99fe7c07c778f6fff1c3d2ab4e9abb085af1a8eda4cd2dade29f6010", func := "blackboard/blackboardlaw17.FrontShuts", spec := "frontShuts", apart := false, narrowed := true }
def FrontShutsUptoSaid : Prop := frontShutsUptoRow.holds Try.pinned (OpenSpec.upto frontShutsSpec)

end Rows
end Go.Proofs.Ytobdkncdjofihaa
