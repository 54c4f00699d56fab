/-
  No cell of these rows narrows 'for every input' (looked for: loops, veiled, ifaces, maps, wideKeys, modest, calm, conditions, laid).
  DERIVED. THE GIVEN ROWS OF THIS SEAT. 6 by the template 'for every input the law returns true; each argument reads behind the call as it read before'; 0 by the template 'total and deterministic' (their statements: YteoiedjnlljbmaaTotals.lean).
  GIVEN WITH THE SEED: the statements are not yours to turn. If you find one false, say at which input.
  Laid BY PROGRAM, IN A SANDBOX (cutbox-rows.mjs): the forced cells as the released guide's own fill.sh prints them over the translation 45363bab0972477e… (all of the seat's roots in one cut). By AI agents, Wed Nov 11 2026. No macro, syntax, notation, axiom, sorry.
-/
import Derived.Test.YteoiedjnlljbmaaChecked
import GoSem.Claim
import GoSem.ClaimJoined
import GoSem.ClaimMapViews
import Derived.JoinedTies
import Derived.KernelRfl
namespace Go.Proofs.Yteoiedjnlljbmaa
/- THE CELL 'sum', in the pinned program and in every row, IS THE sha256 OF THE DUMP (.gsa) THAT YteoiedjnlljbmaaProg.lean LOADS. Nothing in Lean hashes anything: it is a label: what it is worth is what the hold of that sum in a sandbox is worth. -/
noncomputable def Try.pinned : Pinned := { name := "yteoiedjnlljbmaa", sum := "45363bab0972477e5172675947b082959d6b8bfc2f2cb7a09839a928276e690a", checked := Try.checked }
namespace Rows
def none {H : Type} : Left H := { results := [], args := [] }

/-- 'blackboardlaw2.FieldLaws': WHATEVER THE INPUT: true; the input reads as it did. -/
def fieldLawsSpec : ChangeSpec := { name := "fieldLaws", fn := fun _ => fun
  | [d1, d2, d3] => { results := [.lit (.bool true)], args := [d1, d2, d3] }
  | _ => none }
def fieldLawsRow : OpenClaim := { program := "yteoiedjnlljbmaa", sum := "45363bab0972477e5172675947b082959d6b8bfc2f2cb7a09839a928276e690a", func := "blackboard/blackboardlaw2.FieldLaws", spec := "fieldLaws", apart := false }
def FieldLawsSaid : Prop := fieldLawsRow.holds Try.pinned (OpenSpec.ofChange fieldLawsSpec)

/-- ITS FALSE NEIGHBOUR: 'it returns false'. Refute it at one input. -/
def fieldLawsWrong : ChangeSpec := { name := "fieldLaws", fn := fun _ => fun
  | [d1, d2, d3] => { results := [.lit (.bool false)], args := [d1, d2, d3] }
  | _ => none }
def FieldLawsWrongFalsely : Prop := fieldLawsRow.holds Try.pinned (OpenSpec.ofChange fieldLawsWrong)

/-- 'blackboardlaw2.FieldInverse': WHATEVER THE INPUT: true; the input reads as it did. -/
def fieldInverseSpec : ChangeSpec := { name := "fieldInverse", fn := fun _ => fun
  | [d1, d2] => { results := [.lit (.bool true)], args := [d1, d2] }
  | _ => none }
def fieldInverseRow : OpenClaim := { program := "yteoiedjnlljbmaa", sum := "45363bab0972477e5172675947b082959d6b8bfc2f2cb7a09839a928276e690a", func := "blackboard/blackboardlaw2.FieldInverse", spec := "fieldInverse", apart := false }
def FieldInverseSaid : Prop := fieldInverseRow.holds Try.pinned (OpenSpec.ofChange fieldInverseSpec)

/-- ITS FALSE NEIGHBOUR: 'it returns false'. Refute it at one input. -/
def fieldInverseWrong : ChangeSpec := { name := "fieldInverse", fn := fun _ => fun
  | [d1, d2] => { results := [.lit (.bool false)], args := [d1, d2] }
  | _ => none }
def FieldInverseWrongFalsely : Prop := fieldInverseRow.holds Try.pinned (OpenSpec.ofChange fieldInverseWrong)

/-- 'blackboardlaw2.FieldReckons': WHATEVER THE INPUT: true; the input reads as it did. -/
def fieldReckonsSpec : ChangeSpec := { name := "fieldReckons", fn := fun _ => fun
  | [d1, d2, d3] => { results := [.lit (.bool true)], args := [d1, d2, d3] }
  | _ => none }
def fieldReckonsRow : OpenClaim := { program := "yteoiedjnlljbmaa", sum := "45363bab0972477e5172675947b082959d6b8bfc2f2cb7a09839a928276e690a", func := "blackboard/blackboardlaw2.FieldReckons", spec := "fieldReckons", apart := false }
def FieldReckonsSaid : Prop := fieldReckonsRow.holds Try.pinned (OpenSpec.ofChange fieldReckonsSpec)

/-- ITS FALSE NEIGHBOUR: 'it returns false'. Refute it at one input. -/
def fieldReckonsWrong : ChangeSpec := { name := "fieldReckons", fn := fun _ => fun
  | [d1, d2, d3] => { results := [.lit (.bool false)], args := [d1, d2, d3] }
  | _ => none }
def FieldReckonsWrongFalsely : Prop := fieldReckonsRow.holds Try.pinned (OpenSpec.ofChange fieldReckonsWrong)

/-- 'blackboardlaw2.FieldKnown': WHATEVER THE INPUT: true; the input reads as it did. -/
def fieldKnownSpec : ChangeSpec := { name := "fieldKnown", fn := fun _ => fun
  | [] => { results := [.lit (.bool true)], args := [] }
  | _ => none }
def fieldKnownRow : OpenClaim := { program := "yteoiedjnlljbmaa", sum := "45363bab0972477e5172675947b082959d6b8bfc2f2cb7a09839a928276e690a", func := "blackboard/blackboardlaw2.FieldKnown", spec := "fieldKnown", apart := false }
def FieldKnownSaid : Prop := fieldKnownRow.holds Try.pinned (OpenSpec.ofChange fieldKnownSpec)

/-- ITS FALSE NEIGHBOUR: 'it returns false'. Refute it at one input. -/
def fieldKnownWrong : ChangeSpec := { name := "fieldKnown", fn := fun _ => fun
  | [] => { results := [.lit (.bool false)], args := [] }
  | _ => none }
def FieldKnownWrongFalsely : Prop := fieldKnownRow.holds Try.pinned (OpenSpec.ofChange fieldKnownWrong)

/-- 'blackboardlaw2.FieldPowers': WHATEVER THE INPUT: true; the input reads as it did. -/
def fieldPowersSpec : ChangeSpec := { name := "fieldPowers", fn := fun _ => fun
  | [d1, d2, d3] => { results := [.lit (.bool true)], args := [d1, d2, d3] }
  | _ => none }
def fieldPowersRow : OpenClaim := { program := "yteoiedjnlljbmaa", sum := "45363bab0972477e5172675947b082959d6b8bfc2f2cb7a09839a928276e690a", func := "blackboard/blackboardlaw2.FieldPowers", spec := "fieldPowers", apart := false }
def FieldPowersSaid : Prop := fieldPowersRow.holds Try.pinned (OpenSpec.ofChange fieldPowersSpec)

/-- ITS FALSE NEIGHBOUR: 'it returns false'. Refute it at one input. -/
def fieldPowersWrong : ChangeSpec := { name := "fieldPowers", fn := fun _ => fun
  | [d1, d2, d3] => { results := [.lit (.bool false)], args := [d1, d2, d3] }
  | _ => none }
def FieldPowersWrongFalsely : Prop := fieldPowersRow.holds Try.pinned (OpenSpec.ofChange fieldPowersWrong)

/-- 'blackboardlaw2.FieldSquares': WHATEVER THE INPUT: true; the input reads as it did. -/
def fieldSquaresSpec : ChangeSpec := { name := "fieldSquares", fn := fun _ => fun
  | [d1, d2] => { results := [.lit (.bool true)], args := [d1, d2] }
  | _ => none }
def fieldSquaresRow : OpenClaim := { program := "yteoiedjnlljbmaa", sum := "45363bab0972477e5172675947b082959d6b8bfc2f2cb7a09839a928276e690a", func := "blackboard/blackboardlaw2.FieldSquares", spec := "fieldSquares", apart := false }
def FieldSquaresSaid : Prop := fieldSquaresRow.holds Try.pinned (OpenSpec.ofChange fieldSquaresSpec)

/-- ITS FALSE NEIGHBOUR: 'it returns false'. Refute it at one input. -/
def fieldSquaresWrong : ChangeSpec := { name := "fieldSquares", fn := fun _ => fun
  | [d1, d2] => { results := [.lit (.bool false)], args := [d1, d2] }
  | _ => none }
def FieldSquaresWrongFalsely : Prop := fieldSquaresRow.holds Try.pinned (OpenSpec.ofChange fieldSquaresWrong)

/- THE SECOND FORM. 'bulk': how many values and letters a reading holds, each counted each time it is reached (what is shared counts as often as it is met; a slice's spare places count too). A statement '..UptoSaid' is the law's where the arguments, and the package variables that the reading takes, are together of bulk at most 1048576: NARROWER than '..Said'. Prove '..Said' where nothing that the law and all that it calls make is longer than what came in: it says more and counts as full. Else prove '..UptoSaid'. A law counts once. -/
mutual
def uptoBulk {H : Type} : DataW H → Nat
  | .lit (.string bytes) => bytes.length + 1
  | .lit _ => 1
  | .nil => 1
  | .ptr d => uptoBulk d + 1
  | .slice elems spare => uptoBulkAll elems + uptoBulkAll spare + 1
  | .agg parts => uptoBulkAll parts + 1
  | .iface _ d => uptoBulk d + 1
  | .map entries => uptoBulkEntries entries + 1
  | .held _ => 1
def uptoBulkAll {H : Type} : List (DataW H) → Nat
  | [] => 0
  | d :: r => uptoBulk d + uptoBulkAll r
def uptoBulkEntries {H : Type} : List (Lit × DataW H) → Nat
  | [] => 0
  | x :: r => uptoBulkEntry x + uptoBulkEntries r
def uptoBulkEntry {H : Type} : Lit × DataW H → Nat
  | (.string bytes, d) => bytes.length + uptoBulk d + 1
  | (_, d) => uptoBulk d + 1
 end
def uptoSmall : (H : Type) → List (DataW H) → Bool := fun _ ds => decide (uptoBulkAll ds ≤ 1048576)
def OpenSpec.upto (s : _root_.Go.ChangeSpec) : _root_.Go.OpenSpec := { _root_.Go.OpenSpec.ofChange s with cond := some uptoSmall }

/-- 'blackboardlaw2.FieldLaws', WHERE WHAT IT READS IS OF BULK AT MOST 1048576: true; the input reads as it did. -/
def fieldLawsUptoRow : OpenClaim := { program := "yteoiedjnlljbmaa", sum := "45363bab0972477e5172675947b082959d6b8bfc2f2cb7a09839a928276e690a", func := "blackboard/blackboardlaw2.FieldLaws", spec := "fieldLaws", apart := false, narrowed := true }
def FieldLawsUptoSaid : Prop := fieldLawsUptoRow.holds Try.pinned (OpenSpec.upto fieldLawsSpec)

/-- 'blackboardlaw2.FieldInverse', WHERE WHAT IT READS IS OF BULK AT MOST 1048576: true; the input reads as it did. -/
def fieldInverseUptoRow : OpenClaim := { program := "yteoiedjnlljbmaa", sum := "45363bab0972477e5172675947b082959d6b8bfc2f2cb7a09839a928276e690a", func := "blackboard/blackboardlaw2.FieldInverse", spec := "fieldInverse", apart := false, narrowed := true }
def FieldInverseUptoSaid : Prop := fieldInverseUptoRow.holds Try.pinned (OpenSpec.upto fieldInverseSpec)

/-- 'blackboardlaw2.FieldReckons', WHERE WHAT IT READS IS OF BULK AT MOST 1048576: true; the input reads as it did. -/
def fieldReckonsUptoRow : OpenClaim := { program := "yteoiedjnlljbmaa", sum := "45363bab0972477e5172675947b082959d6b8bfc2f2cb7a09839a928276e690a", func := "blackboard/blackboardlaw2.FieldReckons", spec := "fieldReckons", apart := false, narrowed := true }
def FieldReckonsUptoSaid : Prop := fieldReckonsUptoRow.holds Try.pinned (OpenSpec.upto fieldReckonsSpec)

/-- 'blackboardlaw2.FieldKnown', WHERE WHAT IT READS IS OF BULK AT MOST 1048576: true; the input reads as it did. -/
def fieldKnownUptoRow : OpenClaim := { program := "yteoiedjnlljbmaa", sum := "45363bab0972477e5172675947b082959d6b8bfc2f2cb7a09839a928276e690a", func := "blackboard/blackboardlaw2.FieldKnown", spec := "fieldKnown", apart := false, narrowed := true }
def FieldKnownUptoSaid : Prop := fieldKnownUptoRow.holds Try.pinned (OpenSpec.upto fieldKnownSpec)

/-- 'blackboardlaw2.FieldPowers', WHERE WHAT IT READS IS OF BULK AT MOST 1048576: true; the input reads as it did. -/
def fieldPowersUptoRow : OpenClaim := { program := "yteoiedjnlljbmaa", sum := "45363bab0972477e5172675947b082959d6b8bfc2f2cb7a09839a928276e690a", func := "blackboard/blackboardlaw2.FieldPowers", spec := "fieldPowers", apart := false, narrowed := true }
def FieldPowersUptoSaid : Prop := fieldPowersUptoRow.holds Try.pinned (OpenSpec.upto fieldPowersSpec)

/-- 'blackboardlaw2.FieldSquares', WHERE WHAT IT READS IS OF BULK AT MOST 1048576: true; the input reads as it did. -/
def fieldSquaresUptoRow : OpenClaim := { program := "yteoiedjnlljbmaa", sum := "45363bab0972477e5172675947b082959d6b8bfc2f2cb7a09839a928276e690a", func := "blackboard/blackboardlaw2.FieldSquares", spec := "fieldSquares", apart := false, narrowed := true }
def FieldSquaresUptoSaid : Prop := fieldSquaresUptoRow.holds Try.pinned (OpenSpec.upto fieldSquaresSpec)

end Rows
end Go.Proofs.Yteoiedjnlljbmaa
