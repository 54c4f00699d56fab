/-
  No cell of these rows narrows 'for every input' (looked for: loops, veiled, ifaces, maps, wideKeys, modest, calm, conditions, laid).
  DERIVED. THE GIVEN ROWS OF THIS SEAT. 5 by the template 'for every input the law returns true; each argument reads behind the call as it read before'; 0 by the template 'total and deterministic' (their statements: YtmddafefdleimaaTotals.lean).
  GIVEN WITH THE SEED: the statements are not yours to turn. If you find one false, say at which input.
  Laid BY PROGRAM, IN A SANDBOX (cutbox-rows.mjs): the forced cells as the released guide's own fill.sh prints them over the translation 6a8d132be568fa38… (all of the seat's roots in one cut). By AI agents, Wed Nov 11 2026. No macro, syntax, notation, axiom, sorry.
-/
import Derived.Test.YtmddafefdleimaaChecked
import GoSem.Claim
import GoSem.ClaimJoined
import GoSem.ClaimMapViews
import Derived.JoinedTies
import Derived.KernelRfl
namespace Go.Proofs.Ytmddafefdleimaa
/- THE CELL 'sum', in the pinned program and in every row, IS THE sha256 OF THE DUMP (.gsa) THAT YtmddafefdleimaaProg.lean LOADS. Nothing in Lean hashes anything: it is a label: what it is worth is what the hold of that sum in a sandbox is worth. -/
noncomputable def Try.pinned : Pinned := { name := "ytmddafefdleimaa", sum := "6a8d132be568fa38a9bf10a94c8182883612b61130e3ca2c4a68f5359f7d2015", checked := Try.checked }
namespace Rows
def none {H : Type} : Left H := { results := [], args := [] }

/-- 'blackboardlaw10.ChipOrder': WHATEVER THE INPUT: true; the input reads as it did. -/
def chipOrderSpec : ChangeSpec := { name := "chipOrder", fn := fun _ => fun
  | [d1, d2] => { results := [.lit (.bool true)], args := [d1, d2] }
  | _ => none }
def chipOrderRow : OpenClaim := { program := "ytmddafefdleimaa", sum := "6a8d132be568fa38a9bf10a94c8182883612b61130e3ca2c4a68f5359f7d2015", func := "blackboard/blackboardlaw10.ChipOrder", spec := "chipOrder", unfollowed := true, recurses := true, apart := false }
def ChipOrderSaid : Prop := chipOrderRow.holds Try.pinned (OpenSpec.ofChange chipOrderSpec)

/-- ITS FALSE NEIGHBOUR: 'it returns false'. Refute it at one input. -/
def chipOrderWrong : ChangeSpec := { name := "chipOrder", fn := fun _ => fun
  | [d1, d2] => { results := [.lit (.bool false)], args := [d1, d2] }
  | _ => none }
def ChipOrderWrongFalsely : Prop := chipOrderRow.holds Try.pinned (OpenSpec.ofChange chipOrderWrong)

/-- 'blackboardlaw10.ChipFails': WHATEVER THE INPUT: true; the input reads as it did. -/
def chipFailsSpec : ChangeSpec := { name := "chipFails", fn := fun _ => fun
  | [d1, d2, d3] => { results := [.lit (.bool true)], args := [d1, d2, d3] }
  | _ => none }
def chipFailsRow : OpenClaim := { program := "ytmddafefdleimaa", sum := "6a8d132be568fa38a9bf10a94c8182883612b61130e3ca2c4a68f5359f7d2015", func := "blackboard/blackboardlaw10.ChipFails", spec := "chipFails", unfollowed := true, recurses := true, apart := false }
def ChipFailsSaid : Prop := chipFailsRow.holds Try.pinned (OpenSpec.ofChange chipFailsSpec)

/-- ITS FALSE NEIGHBOUR: 'it returns false'. Refute it at one input. -/
def chipFailsWrong : ChangeSpec := { name := "chipFails", fn := fun _ => fun
  | [d1, d2, d3] => { results := [.lit (.bool false)], args := [d1, d2, d3] }
  | _ => none }
def ChipFailsWrongFalsely : Prop := chipFailsRow.holds Try.pinned (OpenSpec.ofChange chipFailsWrong)

/-- 'blackboardlaw10.ChipPower': WHATEVER THE INPUT: true; the input reads as it did. -/
def chipPowerSpec : ChangeSpec := { name := "chipPower", fn := fun _ => fun
  | [d1, d2, d3] => { results := [.lit (.bool true)], args := [d1, d2, d3] }
  | _ => none }
def chipPowerRow : OpenClaim := { program := "ytmddafefdleimaa", sum := "6a8d132be568fa38a9bf10a94c8182883612b61130e3ca2c4a68f5359f7d2015", func := "blackboard/blackboardlaw10.ChipPower", spec := "chipPower", unfollowed := true, recurses := true, apart := false }
def ChipPowerSaid : Prop := chipPowerRow.holds Try.pinned (OpenSpec.ofChange chipPowerSpec)

/-- ITS FALSE NEIGHBOUR: 'it returns false'. Refute it at one input. -/
def chipPowerWrong : ChangeSpec := { name := "chipPower", fn := fun _ => fun
  | [d1, d2, d3] => { results := [.lit (.bool false)], args := [d1, d2, d3] }
  | _ => none }
def ChipPowerWrongFalsely : Prop := chipPowerRow.holds Try.pinned (OpenSpec.ofChange chipPowerWrong)

/-- 'blackboardlaw10.ChipWorst': WHATEVER THE INPUT: true; the input reads as it did. -/
def chipWorstSpec : ChangeSpec := { name := "chipWorst", fn := fun _ => fun
  | [d1, d2] => { results := [.lit (.bool true)], args := [d1, d2] }
  | _ => none }
def chipWorstRow : OpenClaim := { program := "ytmddafefdleimaa", sum := "6a8d132be568fa38a9bf10a94c8182883612b61130e3ca2c4a68f5359f7d2015", func := "blackboard/blackboardlaw10.ChipWorst", spec := "chipWorst", inPlace := ["math.archTrunc", "math.Float64bits", "math.Float64frombits", "math.archFloor"], unfollowed := true, recurses := true, apart := false }
def ChipWorstSaid : Prop := chipWorstRow.holds Try.pinned (OpenSpec.ofChange chipWorstSpec)

/-- ITS FALSE NEIGHBOUR: 'it returns false'. Refute it at one input. -/
def chipWorstWrong : ChangeSpec := { name := "chipWorst", fn := fun _ => fun
  | [d1, d2] => { results := [.lit (.bool false)], args := [d1, d2] }
  | _ => none }
def ChipWorstWrongFalsely : Prop := chipWorstRow.holds Try.pinned (OpenSpec.ofChange chipWorstWrong)

/-- 'blackboardlaw10.ChipKnown': WHATEVER THE INPUT: true; the input reads as it did. -/
def chipKnownSpec : ChangeSpec := { name := "chipKnown", fn := fun _ => fun
  | [] => { results := [.lit (.bool true)], args := [] }
  | _ => none }
def chipKnownRow : OpenClaim := { program := "ytmddafefdleimaa", sum := "6a8d132be568fa38a9bf10a94c8182883612b61130e3ca2c4a68f5359f7d2015", func := "blackboard/blackboardlaw10.ChipKnown", spec := "chipKnown", inPlace := ["math.archTrunc", "math.Float64bits", "math.Float64frombits", "math.archFloor"], unfollowed := true, recurses := true, apart := false }
def ChipKnownSaid : Prop := chipKnownRow.holds Try.pinned (OpenSpec.ofChange chipKnownSpec)

/-- ITS FALSE NEIGHBOUR: 'it returns false'. Refute it at one input. -/
def chipKnownWrong : ChangeSpec := { name := "chipKnown", fn := fun _ => fun
  | [] => { results := [.lit (.bool false)], args := [] }
  | _ => none }
def ChipKnownWrongFalsely : Prop := chipKnownRow.holds Try.pinned (OpenSpec.ofChange chipKnownWrong)

/- THE SECOND FORM. 'bulk': how many values and letters a reading holds, each counted each time it is reached (what is shared counts as often as it is met; a slice's spare places count too). A statement '..UptoSaid' is the law's where the arguments, and the package variables that the reading takes, are together of bulk at most 1048576: NARROWER than '..Said'. Prove '..Said' where nothing that the law and all that it calls make is longer than what came in: it says more and counts as full. Else prove '..UptoSaid'. A law counts once. -/
mutual
def uptoBulk {H : Type} : DataW H → Nat
  | .lit (.string bytes) => bytes.length + 1
  | .lit _ => 1
  | .nil => 1
  | .ptr d => uptoBulk d + 1
  | .slice elems spare => uptoBulkAll elems + uptoBulkAll spare + 1
  | .agg parts => uptoBulkAll parts + 1
  | .iface _ d => uptoBulk d + 1
  | .map entries => uptoBulkEntries entries + 1
  | .held _ => 1
def uptoBulkAll {H : Type} : List (DataW H) → Nat
  | [] => 0
  | d :: r => uptoBulk d + uptoBulkAll r
def uptoBulkEntries {H : Type} : List (Lit × DataW H) → Nat
  | [] => 0
  | x :: r => uptoBulkEntry x + uptoBulkEntries r
def uptoBulkEntry {H : Type} : Lit × DataW H → Nat
  | (.string bytes, d) => bytes.length + uptoBulk d + 1
  | (_, d) => uptoBulk d + 1
 end
def uptoSmall : (H : Type) → List (DataW H) → Bool := fun _ ds => decide (uptoBulkAll ds ≤ 1048576)
def OpenSpec.upto (s : _root_.Go.ChangeSpec) : _root_.Go.OpenSpec := { _root_.Go.OpenSpec.ofChange s with cond := some uptoSmall }

/-- 'blackboardlaw10.ChipOrder', WHERE WHAT IT READS IS OF BULK AT MOST 1048576: true; the input reads as it did. -/
def chipOrderUptoRow : OpenClaim := { program := "ytmddafefdleimaa", sum := "6a8d132be568fa38a9bf10a94c8182883612b61130e3ca2c4a68f5359f7d2015", func := "blackboard/blackboardlaw10.ChipOrder", spec := "chipOrder", unfollowed := true, recurses := true, apart := false, narrowed := true }
def ChipOrderUptoSaid : Prop := chipOrderUptoRow.holds Try.pinned (OpenSpec.upto chipOrderSpec)

/-- 'blackboardlaw10.ChipFails', WHERE WHAT IT READS IS OF BULK AT MOST 1048576: true; the input reads as it did. -/
def chipFailsUptoRow : OpenClaim := { program := "ytmddafefdleimaa", sum := "6a8d132be568fa38a9bf10a94c8182883612b61130e3ca2c4a68f5359f7d2015", func := "blackboard/blackboardlaw10.ChipFails", spec := "chipFails", unfollowed := true, recurses := true, apart := false, narrowed := true }
def ChipFailsUptoSaid : Prop := chipFailsUptoRow.holds Try.pinned (OpenSpec.upto chipFailsSpec)

/-- 'blackboardlaw10.ChipPower', WHERE WHAT IT READS IS OF BULK AT MOST 1048576: true; the input reads as it did. -/
def chipPowerUptoRow : OpenClaim := { program := "ytmddafefdleimaa", sum := "6a8d132be568fa38a9bf10a94c8182883612b61130e3ca2c4a68f5359f7d2015", func := "blackboard/blackboardlaw10.ChipPower", spec := "chipPower", unfollowed := true, recurses := true, apart := false, narrowed := true }
def ChipPowerUptoSaid : Prop := chipPowerUptoRow.holds Try.pinned (OpenSpec.upto chipPowerSpec)

/-- 'blackboardlaw10.ChipWorst', WHERE WHAT IT READS IS OF BULK AT MOST 1048576: true; the input reads as it did. -/
def chipWorstUptoRow : OpenClaim := { program := "ytmddafefdleimaa", sum := "6a8d132be568fa38a9bf10a94c8182883612b61130e3ca2c4a68f5359f7d2015", func := "blackboard/blackboardlaw10.ChipWorst", spec := "chipWorst", inPlace := ["math.archTrunc", "math.Float64bits", "math.Float64frombits", "math.archFloor"], unfollowed := true, recurses := true, apart := false, narrowed := true }
def ChipWorstUptoSaid : Prop := chipWorstUptoRow.holds Try.pinned (OpenSpec.upto chipWorstSpec)

/-- 'blackboardlaw10.ChipKnown', WHERE WHAT IT READS IS OF BULK AT MOST 1048576: true; the input reads as it did. -/
def chipKnownUptoRow : OpenClaim := { program := "ytmddafefdleimaa", sum := "6a8d132be568fa38a9bf10a94c8182883612b61130e3ca2c4a68f5359f7d2015", func := "blackboard/blackboardlaw10.ChipKnown", spec := "chipKnown", inPlace := ["math.archTrunc", "math.Float64bits", "math.Float64frombits", "math.archFloor"], unfollowed := true, recurses := true, apart := false, narrowed := true }
def ChipKnownUptoSaid : Prop := chipKnownUptoRow.holds Try.pinned (OpenSpec.upto chipKnownSpec)

end Rows
end Go.Proofs.Ytmddafefdleimaa
