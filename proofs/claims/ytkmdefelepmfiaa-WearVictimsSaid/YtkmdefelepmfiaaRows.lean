/-
  No cell of these rows narrows 'for every input' (looked for: loops, veiled, ifaces, maps, wideKeys, modest, calm, conditions, laid).
  DERIVED. THE GIVEN ROWS OF THIS SEAT. 5 by the template 'for every input the law returns true; each argument reads behind the call as it read before'; 0 by the template 'total and deterministic' (their statements: YtkmdefelepmfiaaTotals.lean).
  GIVEN WITH THE SEED: the statements are not yours to turn. If you find one false, say at which input.
  Laid BY PROGRAM, IN A SANDBOX (cutbox-rows.mjs): the forced cells as the released guide's own fill.sh prints them over the translation 627be15d461faa89… (all of the seat's roots in one cut). By AI agents, Wed Nov 11 2026. No macro, syntax, notation, axiom, sorry.
-/
import Derived.Test.YtkmdefelepmfiaaChecked
import GoSem.Claim
import GoSem.ClaimJoined
import GoSem.ClaimMapViews
import Derived.JoinedTies
import Derived.KernelRfl
namespace Go.Proofs.Ytkmdefelepmfiaa
/- THE CELL 'sum', in the pinned program and in every row, IS THE sha256 OF THE DUMP (.gsa) THAT YtkmdefelepmfiaaProg.lean LOADS. Nothing in Lean hashes anything: it is a label: what it is worth is what the hold of that sum in a sandbox is worth. -/
noncomputable def Try.pinned : Pinned := { name := "ytkmdefelepmfiaa", sum := "627be15d461faa89d3b05485a089c81419ba2ea83237ced209acb5bdb0f86c9d", checked := Try.checked }
namespace Rows
def none {H : Type} : Left H := { results := [], args := [] }

/-- 'blackboardlaw13.WearLevels': WHATEVER THE INPUT: true; the input reads as it did. -/
def wearLevelsSpec : ChangeSpec := { name := "wearLevels", fn := fun _ => fun
  | [d1, d2] => { results := [.lit (.bool true)], args := [d1, d2] }
  | _ => none }
def wearLevelsRow : OpenClaim := { program := "ytkmdefelepmfiaa", sum := "627be15d461faa89d3b05485a089c81419ba2ea83237ced209acb5bdb0f86c9d", func := "blackboard/blackboardlaw13.WearLevels", spec := "wearLevels", apart := false }
def WearLevelsSaid : Prop := wearLevelsRow.holds Try.pinned (OpenSpec.ofChange wearLevelsSpec)

/-- ITS FALSE NEIGHBOUR: 'it returns false'. Refute it at one input. -/
def wearLevelsWrong : ChangeSpec := { name := "wearLevels", fn := fun _ => fun
  | [d1, d2] => { results := [.lit (.bool false)], args := [d1, d2] }
  | _ => none }
def WearLevelsWrongFalsely : Prop := wearLevelsRow.holds Try.pinned (OpenSpec.ofChange wearLevelsWrong)

/-- 'blackboardlaw13.WearGaps': WHATEVER THE INPUT: true; the input reads as it did. -/
def wearGapsSpec : ChangeSpec := { name := "wearGaps", fn := fun _ => fun
  | [d1, d2] => { results := [.lit (.bool true)], args := [d1, d2] }
  | _ => none }
def wearGapsRow : OpenClaim := { program := "ytkmdefelepmfiaa", sum := "627be15d461faa89d3b05485a089c81419ba2ea83237ced209acb5bdb0f86c9d", func := "blackboard/blackboardlaw13.WearGaps", spec := "wearGaps", apart := false }
def WearGapsSaid : Prop := wearGapsRow.holds Try.pinned (OpenSpec.ofChange wearGapsSpec)

/-- ITS FALSE NEIGHBOUR: 'it returns false'. Refute it at one input. -/
def wearGapsWrong : ChangeSpec := { name := "wearGaps", fn := fun _ => fun
  | [d1, d2] => { results := [.lit (.bool false)], args := [d1, d2] }
  | _ => none }
def WearGapsWrongFalsely : Prop := wearGapsRow.holds Try.pinned (OpenSpec.ofChange wearGapsWrong)

/-- 'blackboardlaw13.WearPicks': WHATEVER THE INPUT: true; the input reads as it did. -/
def wearPicksSpec : ChangeSpec := { name := "wearPicks", fn := fun _ => fun
  | [d1, d2, d3] => { results := [.lit (.bool true)], args := [d1, d2, d3] }
  | _ => none }
def wearPicksRow : OpenClaim := { program := "ytkmdefelepmfiaa", sum := "627be15d461faa89d3b05485a089c81419ba2ea83237ced209acb5bdb0f86c9d", func := "blackboard/blackboardlaw13.WearPicks", spec := "wearPicks", apart := false }
def WearPicksSaid : Prop := wearPicksRow.holds Try.pinned (OpenSpec.ofChange wearPicksSpec)

/-- ITS FALSE NEIGHBOUR: 'it returns false'. Refute it at one input. -/
def wearPicksWrong : ChangeSpec := { name := "wearPicks", fn := fun _ => fun
  | [d1, d2, d3] => { results := [.lit (.bool false)], args := [d1, d2, d3] }
  | _ => none }
def WearPicksWrongFalsely : Prop := wearPicksRow.holds Try.pinned (OpenSpec.ofChange wearPicksWrong)

/-- 'blackboardlaw13.WearKnown': WHATEVER THE INPUT: true; the input reads as it did. -/
def wearKnownSpec : ChangeSpec := { name := "wearKnown", fn := fun _ => fun
  | [] => { results := [.lit (.bool true)], args := [] }
  | _ => none }
def wearKnownRow : OpenClaim := { program := "ytkmdefelepmfiaa", sum := "627be15d461faa89d3b05485a089c81419ba2ea83237ced209acb5bdb0f86c9d", func := "blackboard/blackboardlaw13.WearKnown", spec := "wearKnown", apart := false }
def WearKnownSaid : Prop := wearKnownRow.holds Try.pinned (OpenSpec.ofChange wearKnownSpec)

/-- ITS FALSE NEIGHBOUR: 'it returns false'. Refute it at one input. -/
def wearKnownWrong : ChangeSpec := { name := "wearKnown", fn := fun _ => fun
  | [] => { results := [.lit (.bool false)], args := [] }
  | _ => none }
def WearKnownWrongFalsely : Prop := wearKnownRow.holds Try.pinned (OpenSpec.ofChange wearKnownWrong)

/-- 'blackboardlaw13.WearVictims': WHATEVER THE INPUT: true; the input reads as it did. -/
def wearVictimsSpec : ChangeSpec := { name := "wearVictims", fn := fun _ => fun
  | [d] => { results := [.lit (.bool true)], args := [d] }
  | _ => none }
def wearVictimsRow : OpenClaim := { program := "ytkmdefelepmfiaa", sum := "627be15d461faa89d3b05485a089c81419ba2ea83237ced209acb5bdb0f86c9d", func := "blackboard/blackboardlaw13.WearVictims", spec := "wearVictims", apart := false }
def WearVictimsSaid : Prop := wearVictimsRow.holds Try.pinned (OpenSpec.ofChange wearVictimsSpec)

/-- ITS FALSE NEIGHBOUR: 'it returns false'. Refute it at one input. -/
def wearVictimsWrong : ChangeSpec := { name := "wearVictims", fn := fun _ => fun
  | [d] => { results := [.lit (.bool false)], args := [d] }
  | _ => none }
def WearVictimsWrongFalsely : Prop := wearVictimsRow.holds Try.pinned (OpenSpec.ofChange wearVictimsWrong)

/- THE SECOND FORM. 'bulk': how many values and letters a reading holds, each counted each time it is reached (what is shared counts as often as it is met; a slice's spare places count too). A statement '..UptoSaid' is the law's where the arguments, and the package variables that the reading takes, are together of bulk at most 1048576: NARROWER than '..Said'. Prove '..Said' where nothing that the law and all that it calls make is longer than what came in: it says more and counts as full. Else prove '..UptoSaid'. A law counts once. -/
mutual
def uptoBulk {H : Type} : DataW H → Nat
  | .lit (.string bytes) => bytes.length + 1
  | .lit _ => 1
  | .nil => 1
  | .ptr d => uptoBulk d + 1
  | .slice elems spare => uptoBulkAll elems + uptoBulkAll spare + 1
  | .agg parts => uptoBulkAll parts + 1
  | .iface _ d => uptoBulk d + 1
  | .map entries => uptoBulkEntries entries + 1
  | .held _ => 1
def uptoBulkAll {H : Type} : List (DataW H) → Nat
  | [] => 0
  | d :: r => uptoBulk d + uptoBulkAll r
def uptoBulkEntries {H : Type} : List (Lit × DataW H) → Nat
  | [] => 0
  | x :: r => uptoBulkEntry x + uptoBulkEntries r
def uptoBulkEntry {H : Type} : Lit × DataW H → Nat
  | (.string bytes, d) => bytes.length + uptoBulk d + 1
  | (_, d) => uptoBulk d + 1
 end
def uptoSmall : (H : Type) → List (DataW H) → Bool := fun _ ds => decide (uptoBulkAll ds ≤ 1048576)
def OpenSpec.upto (s : _root_.Go.ChangeSpec) : _root_.Go.OpenSpec := { _root_.Go.OpenSpec.ofChange s with cond := some uptoSmall }

/-- 'blackboardlaw13.WearLevels', WHERE WHAT IT READS IS OF BULK AT MOST 1048576: true; the input reads as it did. -/
def wearLevelsUptoRow : OpenClaim := { program := "ytkmdefelepmfiaa", sum := "627be15d461faa89d3b05485a089c81419ba2ea83237ced209acb5bdb0f86c9d", func := "blackboard/blackboardlaw13.WearLevels", spec := "wearLevels", apart := false, narrowed := true }
def WearLevelsUptoSaid : Prop := wearLevelsUptoRow.holds Try.pinned (OpenSpec.upto wearLevelsSpec)

/-- 'blackboardlaw13.WearGaps', WHERE WHAT IT READS IS OF BULK AT MOST 1048576: true; the input reads as it did. -/
def wearGapsUptoRow : OpenClaim := { program := "ytkmdefelepmfiaa", sum := "627be15d461faa89d3b05485a089c81419ba2ea83237ced209acb5bdb0f86c9d", func := "blackboard/blackboardlaw13.WearGaps", spec := "wearGaps", apart := false, narrowed := true }
def WearGapsUptoSaid : Prop := wearGapsUptoRow.holds Try.pinned (OpenSpec.upto wearGapsSpec)

/-- 'blackboardlaw13.WearPicks', WHERE WHAT IT READS IS OF BULK AT MOST 1048576: true; the input reads as it did. -/
def wearPicksUptoRow : OpenClaim := { program := "ytkmdefelepmfiaa", sum := "627be15d461faa89d3b05485a089c81419ba2ea83237ced209acb5bdb0f86c9d", func := "blackboard/blackboardlaw13.WearPicks", spec := "wearPicks", apart := false, narrowed := true }
def WearPicksUptoSaid : Prop := wearPicksUptoRow.holds Try.pinned (OpenSpec.upto wearPicksSpec)

/-- 'blackboardlaw13.WearKnown', WHERE WHAT IT READS IS OF BULK AT MOST 1048576: true; the input reads as it did. -/
def wearKnownUptoRow : OpenClaim := { program := "ytkmdefelepmfiaa", sum := "627be15d461faa89d3b05485a089c81419ba2ea83237ced209acb5bdb0f86c9d", func := "blackboard/blackboardlaw13.WearKnown", spec := "wearKnown", apart := false, narrowed := true }
def WearKnownUptoSaid : Prop := wearKnownUptoRow.holds Try.pinned (OpenSpec.upto wearKnownSpec)

/-- 'blackboardlaw13.WearVictims', WHERE WHAT IT READS IS OF BULK AT MOST 1048576: true; the input reads as it did. -/
def wearVictimsUptoRow : OpenClaim := { program := "ytkmdefelepmfiaa", sum := "627be15d461faa89d3b05485a089c81419ba2ea83237ced209acb5bdb0f86c9d", func := "blackboard/blackboardlaw13.WearVictims", spec := "wearVictims", apart := false, narrowed := true }
def WearVictimsUptoSaid : Prop := wearVictimsUptoRow.holds Try.pinned (OpenSpec.upto wearVictimsSpec)

end Rows
end Go.Proofs.Ytkmdefelepmfiaa
