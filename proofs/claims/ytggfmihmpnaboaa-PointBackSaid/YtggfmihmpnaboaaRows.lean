/-
  No cell of these rows narrows 'for every input' (looked for: loops, veiled, ifaces, maps, wideKeys, modest, calm, conditions, laid).
  DERIVED. THE GIVEN ROWS OF THIS SEAT. 7 by the template 'for every input the law returns true; each argument reads behind the call as it read before'; 0 by the template 'total and deterministic' (their statements: YtggfmihmpnaboaaTotals.lean).
  GIVEN WITH THE SEED: the statements are not yours to turn. If you find one false, say at which input.
  Laid BY PROGRAM, IN A SANDBOX (cutbox-rows.mjs): the forced cells as the released guide's own fill.sh prints them over the translation 0bf4c1d5f5aea113… (all of the seat's roots in one cut). By AI agents, Wed Nov 11 2026. No macro, syntax, notation, axiom, sorry.
-/
import Derived.Test.YtggfmihmpnaboaaChecked
import GoSem.Claim
import GoSem.ClaimJoined
import GoSem.ClaimMapViews
import Derived.JoinedTies
import Derived.KernelRfl
namespace Go.Proofs.Ytggfmihmpnaboaa
/- THE CELL 'sum', in the pinned program and in every row, IS THE sha256 OF THE DUMP (.gsa) THAT YtggfmihmpnaboaaProg.lean LOADS. Nothing in Lean hashes anything: it is a label: what it is worth is what the hold of that sum in a sandbox is worth. -/
noncomputable def Try.pinned : Pinned := { name := "ytggfmihmpnaboaa", sum := "0bf4c1d5f5aea113c448eaa8ba256d546f91fa454481b856b834b49ee80acf73", checked := Try.checked }
namespace Rows
def none {H : Type} : Left H := { results := [], args := [] }

/-- 'blackboardlaw1.PointNear': WHATEVER THE INPUT: true; the input reads as it did. -/
def pointNearSpec : ChangeSpec := { name := "pointNear", fn := fun _ => fun
  | [d1, d2] => { results := [.lit (.bool true)], args := [d1, d2] }
  | _ => none }
def pointNearRow : OpenClaim := { program := "ytggfmihmpnaboaa", sum := "0bf4c1d5f5aea113c448eaa8ba256d546f91fa454481b856b834b49ee80acf73", func := "blackboard/blackboardlaw1.PointNear", spec := "pointNear", inPlace := ["math.archFloor", "math.Float64bits", "math.Float64frombits", "math.archTrunc"], unfollowed := true, recurses := true, apart := false }
def PointNearSaid : Prop := pointNearRow.holds Try.pinned (OpenSpec.ofChange pointNearSpec)

/-- ITS FALSE NEIGHBOUR: 'it returns false'. Refute it at one input. -/
def pointNearWrong : ChangeSpec := { name := "pointNear", fn := fun _ => fun
  | [d1, d2] => { results := [.lit (.bool false)], args := [d1, d2] }
  | _ => none }
def PointNearWrongFalsely : Prop := pointNearRow.holds Try.pinned (OpenSpec.ofChange pointNearWrong)

/-- 'blackboardlaw1.PointRound': WHATEVER THE INPUT: true; the input reads as it did. -/
def pointRoundSpec : ChangeSpec := { name := "pointRound", fn := fun _ => fun
  | [d1, d2, d3] => { results := [.lit (.bool true)], args := [d1, d2, d3] }
  | _ => none }
def pointRoundRow : OpenClaim := { program := "ytggfmihmpnaboaa", sum := "0bf4c1d5f5aea113c448eaa8ba256d546f91fa454481b856b834b49ee80acf73", func := "blackboard/blackboardlaw1.PointRound", spec := "pointRound", inPlace := ["math.archFloor", "math.Float64bits", "math.Float64frombits", "math.archTrunc"], apart := false }
def PointRoundSaid : Prop := pointRoundRow.holds Try.pinned (OpenSpec.ofChange pointRoundSpec)

/-- ITS FALSE NEIGHBOUR: 'it returns false'. Refute it at one input. -/
def pointRoundWrong : ChangeSpec := { name := "pointRound", fn := fun _ => fun
  | [d1, d2, d3] => { results := [.lit (.bool false)], args := [d1, d2, d3] }
  | _ => none }
def PointRoundWrongFalsely : Prop := pointRoundRow.holds Try.pinned (OpenSpec.ofChange pointRoundWrong)

/-- 'blackboardlaw1.PointApart': WHATEVER THE INPUT: true; the input reads as it did. -/
def pointApartSpec : ChangeSpec := { name := "pointApart", fn := fun _ => fun
  | [d1, d2] => { results := [.lit (.bool true)], args := [d1, d2] }
  | _ => none }
def pointApartRow : OpenClaim := { program := "ytggfmihmpnaboaa", sum := "0bf4c1d5f5aea113c448eaa8ba256d546f91fa454481b856b834b49ee80acf73", func := "blackboard/blackboardlaw1.PointApart", spec := "pointApart", inPlace := ["math.archFloor", "math.Float64bits", "math.Float64frombits", "math.archTrunc"], apart := false }
def PointApartSaid : Prop := pointApartRow.holds Try.pinned (OpenSpec.ofChange pointApartSpec)

/-- ITS FALSE NEIGHBOUR: 'it returns false'. Refute it at one input. -/
def pointApartWrong : ChangeSpec := { name := "pointApart", fn := fun _ => fun
  | [d1, d2] => { results := [.lit (.bool false)], args := [d1, d2] }
  | _ => none }
def PointApartWrongFalsely : Prop := pointApartRow.holds Try.pinned (OpenSpec.ofChange pointApartWrong)

/-- 'blackboardlaw1.PointBack': WHATEVER THE INPUT: true; the input reads as it did. -/
def pointBackSpec : ChangeSpec := { name := "pointBack", fn := fun _ => fun
  | [d1, d2] => { results := [.lit (.bool true)], args := [d1, d2] }
  | _ => none }
def pointBackRow : OpenClaim := { program := "ytggfmihmpnaboaa", sum := "0bf4c1d5f5aea113c448eaa8ba256d546f91fa454481b856b834b49ee80acf73", func := "blackboard/blackboardlaw1.PointBack", spec := "pointBack", inPlace := ["math.archFloor", "math.Float64bits", "math.Float64frombits", "math.archTrunc"], apart := false }
def PointBackSaid : Prop := pointBackRow.holds Try.pinned (OpenSpec.ofChange pointBackSpec)

/-- ITS FALSE NEIGHBOUR: 'it returns false'. Refute it at one input. -/
def pointBackWrong : ChangeSpec := { name := "pointBack", fn := fun _ => fun
  | [d1, d2] => { results := [.lit (.bool false)], args := [d1, d2] }
  | _ => none }
def PointBackWrongFalsely : Prop := pointBackRow.holds Try.pinned (OpenSpec.ofChange pointBackWrong)

/-- 'blackboardlaw1.PointOffs': WHATEVER THE INPUT: true; the input reads as it did. -/
def pointOffsSpec : ChangeSpec := { name := "pointOffs", fn := fun _ => fun
  | [d1, d2] => { results := [.lit (.bool true)], args := [d1, d2] }
  | _ => none }
def pointOffsRow : OpenClaim := { program := "ytggfmihmpnaboaa", sum := "0bf4c1d5f5aea113c448eaa8ba256d546f91fa454481b856b834b49ee80acf73", func := "blackboard/blackboardlaw1.PointOffs", spec := "pointOffs", inPlace := ["math.archFloor", "math.Float64bits", "math.Float64frombits", "math.archTrunc"], apart := false }
def PointOffsSaid : Prop := pointOffsRow.holds Try.pinned (OpenSpec.ofChange pointOffsSpec)

/-- ITS FALSE NEIGHBOUR: 'it returns false'. Refute it at one input. -/
def pointOffsWrong : ChangeSpec := { name := "pointOffs", fn := fun _ => fun
  | [d1, d2] => { results := [.lit (.bool false)], args := [d1, d2] }
  | _ => none }
def PointOffsWrongFalsely : Prop := pointOffsRow.holds Try.pinned (OpenSpec.ofChange pointOffsWrong)

/-- 'blackboardlaw1.PointGray': WHATEVER THE INPUT: true; the input reads as it did. -/
def pointGraySpec : ChangeSpec := { name := "pointGray", fn := fun _ => fun
  | [d1, d2] => { results := [.lit (.bool true)], args := [d1, d2] }
  | _ => none }
def pointGrayRow : OpenClaim := { program := "ytggfmihmpnaboaa", sum := "0bf4c1d5f5aea113c448eaa8ba256d546f91fa454481b856b834b49ee80acf73", func := "blackboard/blackboardlaw1.PointGray", spec := "pointGray", inPlace := ["math.archFloor", "math.Float64bits", "math.Float64frombits", "math.archTrunc"], apart := false }
def PointGraySaid : Prop := pointGrayRow.holds Try.pinned (OpenSpec.ofChange pointGraySpec)

/-- ITS FALSE NEIGHBOUR: 'it returns false'. Refute it at one input. -/
def pointGrayWrong : ChangeSpec := { name := "pointGray", fn := fun _ => fun
  | [d1, d2] => { results := [.lit (.bool false)], args := [d1, d2] }
  | _ => none }
def PointGrayWrongFalsely : Prop := pointGrayRow.holds Try.pinned (OpenSpec.ofChange pointGrayWrong)

/-- 'blackboardlaw1.PointKnown': WHATEVER THE INPUT: true; the input reads as it did. -/
def pointKnownSpec : ChangeSpec := { name := "pointKnown", fn := fun _ => fun
  | [] => { results := [.lit (.bool true)], args := [] }
  | _ => none }
def pointKnownRow : OpenClaim := { program := "ytggfmihmpnaboaa", sum := "0bf4c1d5f5aea113c448eaa8ba256d546f91fa454481b856b834b49ee80acf73", func := "blackboard/blackboardlaw1.PointKnown", spec := "pointKnown", inPlace := ["math.archFloor", "math.Float64bits", "math.Float64frombits", "math.archTrunc"], apart := false }
def PointKnownSaid : Prop := pointKnownRow.holds Try.pinned (OpenSpec.ofChange pointKnownSpec)

/-- ITS FALSE NEIGHBOUR: 'it returns false'. Refute it at one input. -/
def pointKnownWrong : ChangeSpec := { name := "pointKnown", fn := fun _ => fun
  | [] => { results := [.lit (.bool false)], args := [] }
  | _ => none }
def PointKnownWrongFalsely : Prop := pointKnownRow.holds Try.pinned (OpenSpec.ofChange pointKnownWrong)

/- THE SECOND FORM. 'bulk': how many values and letters a reading holds, each counted each time it is reached (what is shared counts as often as it is met; a slice's spare places count too). A statement '..UptoSaid' is the law's where the arguments, and the package variables that the reading takes, are together of bulk at most 1048576: NARROWER than '..Said'. Prove '..Said' where nothing that the law and all that it calls make is longer than what came in: it says more and counts as full. Else prove '..UptoSaid'. A law counts once. -/
mutual
def uptoBulk {H : Type} : DataW H → Nat
  | .lit (.string bytes) => bytes.length + 1
  | .lit _ => 1
  | .nil => 1
  | .ptr d => uptoBulk d + 1
  | .slice elems spare => uptoBulkAll elems + uptoBulkAll spare + 1
  | .agg parts => uptoBulkAll parts + 1
  | .iface _ d => uptoBulk d + 1
  | .map entries => uptoBulkEntries entries + 1
  | .held _ => 1
def uptoBulkAll {H : Type} : List (DataW H) → Nat
  | [] => 0
  | d :: r => uptoBulk d + uptoBulkAll r
def uptoBulkEntries {H : Type} : List (Lit × DataW H) → Nat
  | [] => 0
  | x :: r => uptoBulkEntry x + uptoBulkEntries r
def uptoBulkEntry {H : Type} : Lit × DataW H → Nat
  | (.string bytes, d) => bytes.length + uptoBulk d + 1
  | (_, d) => uptoBulk d + 1
 end
def uptoSmall : (H : Type) → List (DataW H) → Bool := fun _ ds => decide (uptoBulkAll ds ≤ 1048576)
def OpenSpec.upto (s : _root_.Go.ChangeSpec) : _root_.Go.OpenSpec := { _root_.Go.OpenSpec.ofChange s with cond := some uptoSmall }

/-- 'blackboardlaw1.PointNear', WHERE WHAT IT READS IS OF BULK AT MOST 1048576: true; the input reads as it did. -/
def pointNearUptoRow : OpenClaim := { program := "ytggfmihmpnaboaa", sum := "0bf4c1d5f5aea113c448eaa8ba256d546f91fa454481b856b834b49ee80acf73", func := "blackboard/blackboardlaw1.PointNear", spec := "pointNear", inPlace := ["math.archFloor", "math.Float64bits", "math.Float64frombits", "math.archTrunc"], unfollowed := true, recurses := true, apart := false, narrowed := true }
def PointNearUptoSaid : Prop := pointNearUptoRow.holds Try.pinned (OpenSpec.upto pointNearSpec)

/-- 'blackboardlaw1.PointRound', WHERE WHAT IT READS IS OF BULK AT MOST 1048576: true; the input reads as it did. -/
def pointRoundUptoRow : OpenClaim := { program := "ytggfmihmpnaboaa", sum := "0bf4c1d5f5aea113c448eaa8ba256d546f91fa454481b856b834b49ee80acf73", func := "blackboard/blackboardlaw1.PointRound", spec := "pointRound", inPlace := ["math.archFloor", "math.Float64bits", "math.Float64frombits", "math.archTrunc"], apart := false, narrowed := true }
def PointRoundUptoSaid : Prop := pointRoundUptoRow.holds Try.pinned (OpenSpec.upto pointRoundSpec)

/-- 'blackboardlaw1.PointApart', WHERE WHAT IT READS IS OF BULK AT MOST 1048576: true; the input reads as it did. -/
def pointApartUptoRow : OpenClaim := { program := "ytggfmihmpnaboaa", sum := "0bf4c1d5f5aea113c448eaa8ba256d546f91fa454481b856b834b49ee80acf73", func := "blackboard/blackboardlaw1.PointApart", spec := "pointApart", inPlace := ["math.archFloor", "math.Float64bits", "math.Float64frombits", "math.archTrunc"], apart := false, narrowed := true }
def PointApartUptoSaid : Prop := pointApartUptoRow.holds Try.pinned (OpenSpec.upto pointApartSpec)

/-- 'blackboardlaw1.PointBack', WHERE WHAT IT READS IS OF BULK AT MOST 1048576: true; the input reads as it did. -/
def pointBackUptoRow : OpenClaim := { program := "ytggfmihmpnaboaa", sum := "0bf4c1d5f5aea113c448eaa8ba256d546f91fa454481b856b834b49ee80acf73", func := "blackboard/blackboardlaw1.PointBack", spec := "pointBack", inPlace := ["math.archFloor", "math.Float64bits", "math.Float64frombits", "math.archTrunc"], apart := false, narrowed := true }
def PointBackUptoSaid : Prop := pointBackUptoRow.holds Try.pinned (OpenSpec.upto pointBackSpec)

/-- 'blackboardlaw1.PointOffs', WHERE WHAT IT READS IS OF BULK AT MOST 1048576: true; the input reads as it did. -/
def pointOffsUptoRow : OpenClaim := { program := "ytggfmihmpnaboaa", sum := "0bf4c1d5f5aea113c448eaa8ba256d546f91fa454481b856b834b49ee80acf73", func := "blackboard/blackboardlaw1.PointOffs", spec := "pointOffs", inPlace := ["math.archFloor", "math.Float64bits", "math.Float64frombits", "math.archTrunc"], apart := false, narrowed := true }
def PointOffsUptoSaid : Prop := pointOffsUptoRow.holds Try.pinned (OpenSpec.upto pointOffsSpec)

/-- 'blackboardlaw1.PointGray', WHERE WHAT IT READS IS OF BULK AT MOST 1048576: true; the input reads as it did. -/
def pointGrayUptoRow : OpenClaim := { program := "ytggfmihmpnaboaa", sum := "0bf4c1d5f5aea113c448eaa8ba256d546f91fa454481b856b834b49ee80acf73", func := "blackboard/blackboardlaw1.PointGray", spec := "pointGray", inPlace := ["math.archFloor", "math.Float64bits", "math.Float64frombits", "math.archTrunc"], apart := false, narrowed := true }
def PointGrayUptoSaid : Prop := pointGrayUptoRow.holds Try.pinned (OpenSpec.upto pointGraySpec)

/-- 'blackboardlaw1.PointKnown', WHERE WHAT IT READS IS OF BULK AT MOST 1048576: true; the input reads as it did. -/
def pointKnownUptoRow : OpenClaim := { program := "ytggfmihmpnaboaa", sum := "0bf4c1d5f5aea113c448eaa8ba256d546f91fa454481b856b834b49ee80acf73", func := "blackboard/blackboardlaw1.PointKnown", spec := "pointKnown", inPlace := ["math.archFloor", "math.Float64bits", "math.Float64frombits", "math.archTrunc"], apart := false, narrowed := true }
def PointKnownUptoSaid : Prop := pointKnownUptoRow.holds Try.pinned (OpenSpec.upto pointKnownSpec)

end Rows
end Go.Proofs.Ytggfmihmpnaboaa
