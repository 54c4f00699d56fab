/-
  No cell of these rows narrows 'for every input' (looked for: loops, veiled, ifaces, maps, wideKeys, modest, calm, conditions, laid).
  DERIVED. THE GIVEN ROWS OF THIS SEAT. 5 by the template 'for every input the law returns true; each argument reads behind the call as it read before'; 0 by the template 'total and deterministic' (their statements: YtfgfjgjabcmheaaTotals.lean).
  GIVEN WITH THE SEED: the statements are not yours to turn. If you find one false, say at which input.
  Laid BY PROGRAM, IN A SANDBOX (cutbox-rows.mjs): the forced cells as the released guide's own fill.sh prints them over the translation 92f2fdc319875e8a… (all of the seat's roots in one cut). By AI agents, Wed Nov 11 2026. No macro, syntax, notation, axiom, sorry.
-/
import Derived.Test.YtfgfjgjabcmheaaChecked
import GoSem.Claim
import GoSem.ClaimJoined
import GoSem.ClaimMapViews
import Derived.JoinedTies
import Derived.KernelRfl
namespace Go.Proofs.Ytfgfjgjabcmheaa
/- THE CELL 'sum', in the pinned program and in every row, IS THE sha256 OF THE DUMP (.gsa) THAT YtfgfjgjabcmheaaProg.lean LOADS. Nothing in Lean hashes anything: it is a label: what it is worth is what the hold of that sum in a sandbox is worth. -/
noncomputable def Try.pinned : Pinned := { name := "ytfgfjgjabcmheaa", sum := "92f2fdc319875e8a43194cdb556006e616d51b96e8801b4ba537322e7582001c", checked := Try.checked }
namespace Rows
def none {H : Type} : Left H := { results := [], args := [] }

/-- 'blackboardlaw16.YardBad': WHATEVER THE INPUT: true; the input reads as it did. -/
def yardBadSpec : ChangeSpec := { name := "yardBad", fn := fun _ => fun
  | [d1, d2] => { results := [.lit (.bool true)], args := [d1, d2] }
  | _ => none }
def yardBadRow : OpenClaim := { program := "ytfgfjgjabcmheaa", sum := "92f2fdc319875e8a43194cdb556006e616d51b96e8801b4ba537322e7582001c", func := "blackboard/blackboardlaw16.YardBad", spec := "yardBad", apart := false }
def YardBadSaid : Prop := yardBadRow.holds Try.pinned (OpenSpec.ofChange yardBadSpec)

/-- ITS FALSE NEIGHBOUR: 'it returns false'. Refute it at one input. -/
def yardBadWrong : ChangeSpec := { name := "yardBad", fn := fun _ => fun
  | [d1, d2] => { results := [.lit (.bool false)], args := [d1, d2] }
  | _ => none }
def YardBadWrongFalsely : Prop := yardBadRow.holds Try.pinned (OpenSpec.ofChange yardBadWrong)

/-- 'blackboardlaw16.YardPlays': WHATEVER THE INPUT: true; the input reads as it did. -/
def yardPlaysSpec : ChangeSpec := { name := "yardPlays", fn := fun _ => fun
  | [d1, d2] => { results := [.lit (.bool true)], args := [d1, d2] }
  | _ => none }
def yardPlaysRow : OpenClaim := { program := "ytfgfjgjabcmheaa", sum := "92f2fdc319875e8a43194cdb556006e616d51b96e8801b4ba537322e7582001c", func := "blackboard/blackboardlaw16.YardPlays", spec := "yardPlays", apart := false }
def YardPlaysSaid : Prop := yardPlaysRow.holds Try.pinned (OpenSpec.ofChange yardPlaysSpec)

/-- ITS FALSE NEIGHBOUR: 'it returns false'. Refute it at one input. -/
def yardPlaysWrong : ChangeSpec := { name := "yardPlays", fn := fun _ => fun
  | [d1, d2] => { results := [.lit (.bool false)], args := [d1, d2] }
  | _ => none }
def YardPlaysWrongFalsely : Prop := yardPlaysRow.holds Try.pinned (OpenSpec.ofChange yardPlaysWrong)

/-- 'blackboardlaw16.YardKnown': WHATEVER THE INPUT: true; the input reads as it did. -/
def yardKnownSpec : ChangeSpec := { name := "yardKnown", fn := fun _ => fun
  | [] => { results := [.lit (.bool true)], args := [] }
  | _ => none }
def yardKnownRow : OpenClaim := { program := "ytfgfjgjabcmheaa", sum := "92f2fdc319875e8a43194cdb556006e616d51b96e8801b4ba537322e7582001c", func := "blackboard/blackboardlaw16.YardKnown", spec := "yardKnown", apart := false }
def YardKnownSaid : Prop := yardKnownRow.holds Try.pinned (OpenSpec.ofChange yardKnownSpec)

/-- ITS FALSE NEIGHBOUR: 'it returns false'. Refute it at one input. -/
def yardKnownWrong : ChangeSpec := { name := "yardKnown", fn := fun _ => fun
  | [] => { results := [.lit (.bool false)], args := [] }
  | _ => none }
def YardKnownWrongFalsely : Prop := yardKnownRow.holds Try.pinned (OpenSpec.ofChange yardKnownWrong)

/-- 'blackboardlaw16.YardPicks': WHATEVER THE INPUT: true; the input reads as it did. -/
def yardPicksSpec : ChangeSpec := { name := "yardPicks", fn := fun _ => fun
  | [d1, d2] => { results := [.lit (.bool true)], args := [d1, d2] }
  | _ => none }
def yardPicksRow : OpenClaim := { program := "ytfgfjgjabcmheaa", sum := "92f2fdc319875e8a43194cdb556006e616d51b96e8801b4ba537322e7582001c", func := "blackboard/blackboardlaw16.YardPicks", spec := "yardPicks", apart := false }
def YardPicksSaid : Prop := yardPicksRow.holds Try.pinned (OpenSpec.ofChange yardPicksSpec)

/-- ITS FALSE NEIGHBOUR: 'it returns false'. Refute it at one input. -/
def yardPicksWrong : ChangeSpec := { name := "yardPicks", fn := fun _ => fun
  | [d1, d2] => { results := [.lit (.bool false)], args := [d1, d2] }
  | _ => none }
def YardPicksWrongFalsely : Prop := yardPicksRow.holds Try.pinned (OpenSpec.ofChange yardPicksWrong)

/-- 'blackboardlaw16.YardWears': WHATEVER THE INPUT: true; the input reads as it did. -/
def yardWearsSpec : ChangeSpec := { name := "yardWears", fn := fun _ => fun
  | [d1, d2] => { results := [.lit (.bool true)], args := [d1, d2] }
  | _ => none }
def yardWearsRow : OpenClaim := { program := "ytfgfjgjabcmheaa", sum := "92f2fdc319875e8a43194cdb556006e616d51b96e8801b4ba537322e7582001c", func := "blackboard/blackboardlaw16.YardWears", spec := "yardWears", apart := false }
def YardWearsSaid : Prop := yardWearsRow.holds Try.pinned (OpenSpec.ofChange yardWearsSpec)

/-- ITS FALSE NEIGHBOUR: 'it returns false'. Refute it at one input. -/
def yardWearsWrong : ChangeSpec := { name := "yardWears", fn := fun _ => fun
  | [d1, d2] => { results := [.lit (.bool false)], args := [d1, d2] }
  | _ => none }
def YardWearsWrongFalsely : Prop := yardWearsRow.holds Try.pinned (OpenSpec.ofChange yardWearsWrong)

/- THE SECOND FORM. 'bulk': how many values and letters a reading holds, each counted each time it is reached (what is shared counts as often as it is met; a slice's spare places count too). A statement '..UptoSaid' is the law's where the arguments, and the package variables that the reading takes, are together of bulk at most 1048576: NARROWER than '..Said'. Prove '..Said' where nothing that the law and all that it calls make is longer than what came in: it says more and counts as full. Else prove '..UptoSaid'. A law counts once. -/
mutual
def uptoBulk {H : Type} : DataW H → Nat
  | .lit (.string bytes) => bytes.length + 1
  | .lit _ => 1
  | .nil => 1
  | .ptr d => uptoBulk d + 1
  | .slice elems spare => uptoBulkAll elems + uptoBulkAll spare + 1
  | .agg parts => uptoBulkAll parts + 1
  | .iface _ d => uptoBulk d + 1
  | .map entries => uptoBulkEntries entries + 1
  | .held _ => 1
def uptoBulkAll {H : Type} : List (DataW H) → Nat
  | [] => 0
  | d :: r => uptoBulk d + uptoBulkAll r
def uptoBulkEntries {H : Type} : List (Lit × DataW H) → Nat
  | [] => 0
  | x :: r => uptoBulkEntry x + uptoBulkEntries r
def uptoBulkEntry {H : Type} : Lit × DataW H → Nat
  | (.string bytes, d) => bytes.length + uptoBulk d + 1
  | (_, d) => uptoBulk d + 1
 end
def uptoSmall : (H : Type) → List (DataW H) → Bool := fun _ ds => decide (uptoBulkAll ds ≤ 1048576)
def OpenSpec.upto (s : _root_.Go.ChangeSpec) : _root_.Go.OpenSpec := { _root_.Go.OpenSpec.ofChange s with cond := some uptoSmall }

/-- 'blackboardlaw16.YardBad', WHERE WHAT IT READS IS OF BULK AT MOST 1048576: true; the input reads as it did. -/
def yardBadUptoRow : OpenClaim := { program := "ytfgfjgjabcmheaa", sum := "92f2fdc319875e8a43194cdb556006e616d51b96e8801b4ba537322e7582001c", func := "blackboard/blackboardlaw16.YardBad", spec := "yardBad", apart := false, narrowed := true }
def YardBadUptoSaid : Prop := yardBadUptoRow.holds Try.pinned (OpenSpec.upto yardBadSpec)

/-- 'blackboardlaw16.YardPlays', WHERE WHAT IT READS IS OF BULK AT MOST 1048576: true; the input reads as it did. -/
def yardPlaysUptoRow : OpenClaim := { program := "ytfgfjgjabcmheaa", sum := "92f2fdc319875e8a43194cdb556006e616d51b96e8801b4ba537322e7582001c", func := "blackboard/blackboardlaw16.YardPlays", spec := "yardPlays", apart := false, narrowed := true }
def YardPlaysUptoSaid : Prop := yardPlaysUptoRow.holds Try.pinned (OpenSpec.upto yardPlaysSpec)

/-- 'blackboardlaw16.YardKnown', WHERE WHAT IT READS IS OF BULK AT MOST 1048576: true; the input reads as it did. -/
def yardKnownUptoRow : OpenClaim := { program := "ytfgfjgjabcmheaa", sum := "92f2fdc319875e8a43194cdb556006e616d51b96e8801b4ba537322e7582001c", func := "blackboard/blackboardlaw16.YardKnown", spec := "yardKnown", apart := false, narrowed := true }
def YardKnownUptoSaid : Prop := yardKnownUptoRow.holds Try.pinned (OpenSpec.upto yardKnownSpec)

/-- 'blackboardlaw16.YardPicks', WHERE WHAT IT READS IS OF BULK AT MOST 1048576: true; the input reads as it did. -/
def yardPicksUptoRow : OpenClaim := { program := "ytfgfjgjabcmheaa", sum := "92f2fdc319875e8a43194cdb556006e616d51b96e8801b4ba537322e7582001c", func := "blackboard/blackboardlaw16.YardPicks", spec := "yardPicks", apart := false, narrowed := true }
def YardPicksUptoSaid : Prop := yardPicksUptoRow.holds Try.pinned (OpenSpec.upto yardPicksSpec)

/-- 'blackboardlaw16.YardWears', WHERE WHAT IT READS IS OF BULK AT MOST 1048576: true; the input reads as it did. -/
def yardWearsUptoRow : OpenClaim := { program := "ytfgfjgjabcmheaa", sum := "92f2fdc319875e8a43194cdb556006e616d51b96e8801b4ba537322e7582001c", func := "blackboard/blackboardlaw16.YardWears", spec := "yardWears", apart := false, narrowed := true }
def YardWearsUptoSaid : Prop := yardWearsUptoRow.holds Try.pinned (OpenSpec.upto yardWearsSpec)

end Rows
end Go.Proofs.Ytfgfjgjabcmheaa
