/-
  No cell of these rows narrows 'for every input' (looked for: loops, veiled, ifaces, maps, wideKeys, modest, calm, conditions, laid).
  DERIVED. THE GIVEN ROWS OF THIS SEAT. 4 by the template 'for every input the law returns true; each argument reads behind the call as it read before'; 0 by the template 'total and deterministic' (their statements: YtfdeaepelhbhiaaTotals.lean).
  GIVEN WITH THE SEED: the statements are not yours to turn. If you find one false, say at which input.
  Laid BY PROGRAM, IN A SANDBOX (cutbox-rows.mjs): the forced cells as the released guide's own fill.sh prints them over the translation 517e7857013efc2e… (all of the seat's roots in one cut). By AI agents, Wed Nov 11 2026. No macro, syntax, notation, axiom, sorry.
-/
import Derived.Test.YtfdeaepelhbhiaaChecked
import GoSem.Claim
import GoSem.ClaimJoined
import GoSem.ClaimMapViews
import Derived.JoinedTies
import Derived.KernelRfl
namespace Go.Proofs.Ytfdeaepelhbhiaa
/- THE CELL 'sum', in the pinned program and in every row, IS THE sha256 OF THE DUMP (.gsa) THAT YtfdeaepelhbhiaaProg.lean LOADS. Nothing in Lean hashes anything: it is a label: what it is worth is what the hold of that sum in a sandbox is worth. -/
noncomputable def Try.pinned : Pinned := { name := "ytfdeaepelhbhiaa", sum := "517e7857013efc2e6fd5a8a0d107219c229d611a6315631c34c94451e94b888a", checked := Try.checked }
namespace Rows
def none {H : Type} : Left H := { results := [], args := [] }

/-- 'blackboardlaw8.CellsMove': WHATEVER THE INPUT: true; the input reads as it did. -/
def cellsMoveSpec : ChangeSpec := { name := "cellsMove", fn := fun _ => fun
  | [d1, d2, d3] => { results := [.lit (.bool true)], args := [d1, d2, d3] }
  | _ => none }
def cellsMoveRow : OpenClaim := { program := "ytfdeaepelhbhiaa", sum := "517e7857013efc2e6fd5a8a0d107219c229d611a6315631c34c94451e94b888a", func := "blackboard/blackboardlaw8.CellsMove", spec := "cellsMove", inPlace := ["math.archTrunc", "math.Float64bits", "math.Float64frombits", "math.archFloor"], unfollowed := true, recurses := true, apart := false }
def CellsMoveSaid : Prop := cellsMoveRow.holds Try.pinned (OpenSpec.ofChange cellsMoveSpec)

/-- ITS FALSE NEIGHBOUR: 'it returns false'. Refute it at one input. -/
def cellsMoveWrong : ChangeSpec := { name := "cellsMove", fn := fun _ => fun
  | [d1, d2, d3] => { results := [.lit (.bool false)], args := [d1, d2, d3] }
  | _ => none }
def CellsMoveWrongFalsely : Prop := cellsMoveRow.holds Try.pinned (OpenSpec.ofChange cellsMoveWrong)

/-- 'blackboardlaw8.CellsHands': WHATEVER THE INPUT: true; the input reads as it did. -/
def cellsHandsSpec : ChangeSpec := { name := "cellsHands", fn := fun _ => fun
  | [d] => { results := [.lit (.bool true)], args := [d] }
  | _ => none }
def cellsHandsRow : OpenClaim := { program := "ytfdeaepelhbhiaa", sum := "517e7857013efc2e6fd5a8a0d107219c229d611a6315631c34c94451e94b888a", func := "blackboard/blackboardlaw8.CellsHands", spec := "cellsHands", inPlace := ["math.archTrunc", "math.Float64bits", "math.Float64frombits", "math.archFloor"], unfollowed := true, recurses := true, apart := false }
def CellsHandsSaid : Prop := cellsHandsRow.holds Try.pinned (OpenSpec.ofChange cellsHandsSpec)

/-- ITS FALSE NEIGHBOUR: 'it returns false'. Refute it at one input. -/
def cellsHandsWrong : ChangeSpec := { name := "cellsHands", fn := fun _ => fun
  | [d] => { results := [.lit (.bool false)], args := [d] }
  | _ => none }
def CellsHandsWrongFalsely : Prop := cellsHandsRow.holds Try.pinned (OpenSpec.ofChange cellsHandsWrong)

/-- 'blackboardlaw8.CellsKnown': WHATEVER THE INPUT: true; the input reads as it did. -/
def cellsKnownSpec : ChangeSpec := { name := "cellsKnown", fn := fun _ => fun
  | [] => { results := [.lit (.bool true)], args := [] }
  | _ => none }
def cellsKnownRow : OpenClaim := { program := "ytfdeaepelhbhiaa", sum := "517e7857013efc2e6fd5a8a0d107219c229d611a6315631c34c94451e94b888a", func := "blackboard/blackboardlaw8.CellsKnown", spec := "cellsKnown", inPlace := ["math.archTrunc", "math.Float64bits", "math.Float64frombits", "math.archFloor"], unfollowed := true, recurses := true, apart := false }
def CellsKnownSaid : Prop := cellsKnownRow.holds Try.pinned (OpenSpec.ofChange cellsKnownSpec)

/-- ITS FALSE NEIGHBOUR: 'it returns false'. Refute it at one input. -/
def cellsKnownWrong : ChangeSpec := { name := "cellsKnown", fn := fun _ => fun
  | [] => { results := [.lit (.bool false)], args := [] }
  | _ => none }
def CellsKnownWrongFalsely : Prop := cellsKnownRow.holds Try.pinned (OpenSpec.ofChange cellsKnownWrong)

/-- 'blackboardlaw8.CellsTorn': WHATEVER THE INPUT: true; the input reads as it did. -/
def cellsTornSpec : ChangeSpec := { name := "cellsTorn", fn := fun _ => fun
  | [d1, d2, d3] => { results := [.lit (.bool true)], args := [d1, d2, d3] }
  | _ => none }
def cellsTornRow : OpenClaim := { program := "ytfdeaepelhbhiaa", sum := "517e7857013efc2e6fd5a8a0d107219c229d611a6315631c34c94451e94b888a", func := "blackboard/blackboardlaw8.CellsTorn", spec := "cellsTorn", inPlace := ["math.archTrunc", "math.Float64bits", "math.Float64frombits", "math.archFloor"], unfollowed := true, recurses := true, apart := false }
def CellsTornSaid : Prop := cellsTornRow.holds Try.pinned (OpenSpec.ofChange cellsTornSpec)

/-- ITS FALSE NEIGHBOUR: 'it returns false'. Refute it at one input. -/
def cellsTornWrong : ChangeSpec := { name := "cellsTorn", fn := fun _ => fun
  | [d1, d2, d3] => { results := [.lit (.bool false)], args := [d1, d2, d3] }
  | _ => none }
def CellsTornWrongFalsely : Prop := cellsTornRow.holds Try.pinned (OpenSpec.ofChange cellsTornWrong)

/- THE SECOND FORM. 'bulk': how many values and letters a reading holds, each counted each time it is reached (what is shared counts as often as it is met; a slice's spare places count too). A statement '..UptoSaid' is the law's where the arguments, and the package variables that the reading takes, are together of bulk at most 1048576: NARROWER than '..Said'. Prove '..Said' where nothing that the law and all that it calls make is longer than what came in: it says more and counts as full. Else prove '..UptoSaid'. A law counts once. -/
mutual
def uptoBulk {H : Type} : DataW H → Nat
  | .lit (.string bytes) => bytes.length + 1
  | .lit _ => 1
  | .nil => 1
  | .ptr d => uptoBulk d + 1
  | .slice elems spare => uptoBulkAll elems + uptoBulkAll spare + 1
  | .agg parts => uptoBulkAll parts + 1
  | .iface _ d => uptoBulk d + 1
  | .map entries => uptoBulkEntries entries + 1
  | .held _ => 1
def uptoBulkAll {H : Type} : List (DataW H) → Nat
  | [] => 0
  | d :: r => uptoBulk d + uptoBulkAll r
def uptoBulkEntries {H : Type} : List (Lit × DataW H) → Nat
  | [] => 0
  | x :: r => uptoBulkEntry x + uptoBulkEntries r
def uptoBulkEntry {H : Type} : Lit × DataW H → Nat
  | (.string bytes, d) => bytes.length + uptoBulk d + 1
  | (_, d) => uptoBulk d + 1
 end
def uptoSmall : (H : Type) → List (DataW H) → Bool := fun _ ds => decide (uptoBulkAll ds ≤ 1048576)
def OpenSpec.upto (s : _root_.Go.ChangeSpec) : _root_.Go.OpenSpec := { _root_.Go.OpenSpec.ofChange s with cond := some uptoSmall }

/-- 'blackboardlaw8.CellsMove', WHERE WHAT IT READS IS OF BULK AT MOST 1048576: true; the input reads as it did. -/
def cellsMoveUptoRow : OpenClaim := { program := "ytfdeaepelhbhiaa", sum := "517e7857013efc2e6fd5a8a0d107219c229d611a6315631c34c94451e94b888a", func := "blackboard/blackboardlaw8.CellsMove", spec := "cellsMove", inPlace := ["math.archTrunc", "math.Float64bits", "math.Float64frombits", "math.archFloor"], unfollowed := true, recurses := true, apart := false, narrowed := true }
def CellsMoveUptoSaid : Prop := cellsMoveUptoRow.holds Try.pinned (OpenSpec.upto cellsMoveSpec)

/-- 'blackboardlaw8.CellsHands', WHERE WHAT IT READS IS OF BULK AT MOST 1048576: true; the input reads as it did. -/
def cellsHandsUptoRow : OpenClaim := { program := "ytfdeaepelhbhiaa", sum := "517e7857013efc2e6fd5a8a0d107219c229d611a6315631c34c94451e94b888a", func := "blackboard/blackboardlaw8.CellsHands", spec := "cellsHands", inPlace := ["math.archTrunc", "math.Float64bits", "math.Float64frombits", "math.archFloor"], unfollowed := true, recurses := true, apart := false, narrowed := true }
def CellsHandsUptoSaid : Prop := cellsHandsUptoRow.holds Try.pinned (OpenSpec.upto cellsHandsSpec)

/-- 'blackboardlaw8.CellsKnown', WHERE WHAT IT READS IS OF BULK AT MOST 1048576: true; the input reads as it did. -/
def cellsKnownUptoRow : OpenClaim := { program := "ytfdeaepelhbhiaa", sum := "517e7857013efc2e6fd5a8a0d107219c229d611a6315631c34c94451e94b888a", func := "blackboard/blackboardlaw8.CellsKnown", spec := "cellsKnown", inPlace := ["math.archTrunc", "math.Float64bits", "math.Float64frombits", "math.archFloor"], unfollowed := true, recurses := true, apart := false, narrowed := true }
def CellsKnownUptoSaid : Prop := cellsKnownUptoRow.holds Try.pinned (OpenSpec.upto cellsKnownSpec)

/-- 'blackboardlaw8.CellsTorn', WHERE WHAT IT READS IS OF BULK AT MOST 1048576: true; the input reads as it did. -/
def cellsTornUptoRow : OpenClaim := { program := "ytfdeaepelhbhiaa", sum := "517e7857013efc2e6fd5a8a0d107219c229d611a6315631c34c94451e94b888a", func := "blackboard/blackboardlaw8.CellsTorn", spec := "cellsTorn", inPlace := ["math.archTrunc", "math.Float64bits", "math.Float64frombits", "math.archFloor"], unfollowed := true, recurses := true, apart := false, narrowed := true }
def CellsTornUptoSaid : Prop := cellsTornUptoRow.holds Try.pinned (OpenSpec.upto cellsTornSpec)

end Rows
end Go.Proofs.Ytfdeaepelhbhiaa
