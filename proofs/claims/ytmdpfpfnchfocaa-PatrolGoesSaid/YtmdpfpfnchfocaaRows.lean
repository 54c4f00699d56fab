/-
  No cell of these rows narrows 'for every input' (looked for: loops, veiled, ifaces, maps, wideKeys, modest, calm, conditions, laid).
  DERIVED. THE GIVEN ROWS OF THIS SEAT. 4 by the template 'for every input the law returns true; each argument reads behind the call as it read before'; 0 by the template 'total and deterministic' (their statements: YtmdpfpfnchfocaaTotals.lean).
  GIVEN WITH THE SEED: the statements are not yours to turn. If you find one false, say at which input.
  Laid BY PROGRAM, IN A SANDBOX (cutbox-rows.mjs): the forced cells as the released guide's own fill.sh prints them over the translation 3c1490901a90142d… (all of the seat's roots in one cut). By AI agents, Wed Nov 11 2026. No macro, syntax, notation, axiom, sorry.
-/
import Derived.Test.YtmdpfpfnchfocaaChecked
import GoSem.Claim
import GoSem.ClaimJoined
import GoSem.ClaimMapViews
import Derived.JoinedTies
import Derived.KernelRfl
namespace Go.Proofs.Ytmdpfpfnchfocaa
/- THE CELL 'sum', in the pinned program and in every row, IS THE sha256 OF THE DUMP (.gsa) THAT YtmdpfpfnchfocaaProg.lean LOADS. Nothing in Lean hashes anything: it is a label: what it is worth is what the hold of that sum in a sandbox is worth. -/
noncomputable def Try.pinned : Pinned := { name := "ytmdpfpfnchfocaa", sum := "3c1490901a90142dd279be47d0b383cfab4f1918cb70c21a04b96d96998be077", checked := Try.checked }
namespace Rows
def none {H : Type} : Left H := { results := [], args := [] }

/-- 'blackboardlaw19.PatrolGoes': WHATEVER THE INPUT: true; the input reads as it did. -/
def patrolGoesSpec : ChangeSpec := { name := "patrolGoes", fn := fun _ => fun
  | [d1, d2, d3] => { results := [.lit (.bool true)], args := [d1, d2, d3] }
  | _ => none }
def patrolGoesRow : OpenClaim := { program := "ytmdpfpfnchfocaa", sum := "3c1490901a90142dd279be47d0b383cfab4f1918cb70c21a04b96d96998be077", func := "blackboard/blackboardlaw19.PatrolGoes", spec := "patrolGoes", unfollowed := true, recurses := true, apart := false }
def PatrolGoesSaid : Prop := patrolGoesRow.holds Try.pinned (OpenSpec.ofChange patrolGoesSpec)

/-- ITS FALSE NEIGHBOUR: 'it returns false'. Refute it at one input. -/
def patrolGoesWrong : ChangeSpec := { name := "patrolGoes", fn := fun _ => fun
  | [d1, d2, d3] => { results := [.lit (.bool false)], args := [d1, d2, d3] }
  | _ => none }
def PatrolGoesWrongFalsely : Prop := patrolGoesRow.holds Try.pinned (OpenSpec.ofChange patrolGoesWrong)

/-- 'blackboardlaw19.PatrolRounds': WHATEVER THE INPUT: true; the input reads as it did. -/
def patrolRoundsSpec : ChangeSpec := { name := "patrolRounds", fn := fun _ => fun
  | [d1, d2] => { results := [.lit (.bool true)], args := [d1, d2] }
  | _ => none }
def patrolRoundsRow : OpenClaim := { program := "ytmdpfpfnchfocaa", sum := "3c1490901a90142dd279be47d0b383cfab4f1918cb70c21a04b96d96998be077", func := "blackboard/blackboardlaw19.PatrolRounds", spec := "patrolRounds", unfollowed := true, recurses := true, apart := false }
def PatrolRoundsSaid : Prop := patrolRoundsRow.holds Try.pinned (OpenSpec.ofChange patrolRoundsSpec)

/-- ITS FALSE NEIGHBOUR: 'it returns false'. Refute it at one input. -/
def patrolRoundsWrong : ChangeSpec := { name := "patrolRounds", fn := fun _ => fun
  | [d1, d2] => { results := [.lit (.bool false)], args := [d1, d2] }
  | _ => none }
def PatrolRoundsWrongFalsely : Prop := patrolRoundsRow.holds Try.pinned (OpenSpec.ofChange patrolRoundsWrong)

/-- 'blackboardlaw19.PatrolDue': WHATEVER THE INPUT: true; the input reads as it did. -/
def patrolDueSpec : ChangeSpec := { name := "patrolDue", fn := fun _ => fun
  | [d1, d2] => { results := [.lit (.bool true)], args := [d1, d2] }
  | _ => none }
def patrolDueRow : OpenClaim := { program := "ytmdpfpfnchfocaa", sum := "3c1490901a90142dd279be47d0b383cfab4f1918cb70c21a04b96d96998be077", func := "blackboard/blackboardlaw19.PatrolDue", spec := "patrolDue", unfollowed := true, recurses := true, apart := false }
def PatrolDueSaid : Prop := patrolDueRow.holds Try.pinned (OpenSpec.ofChange patrolDueSpec)

/-- ITS FALSE NEIGHBOUR: 'it returns false'. Refute it at one input. -/
def patrolDueWrong : ChangeSpec := { name := "patrolDue", fn := fun _ => fun
  | [d1, d2] => { results := [.lit (.bool false)], args := [d1, d2] }
  | _ => none }
def PatrolDueWrongFalsely : Prop := patrolDueRow.holds Try.pinned (OpenSpec.ofChange patrolDueWrong)

/-- 'blackboardlaw19.PatrolVisits': WHATEVER THE INPUT: true; the input reads as it did. -/
def patrolVisitsSpec : ChangeSpec := { name := "patrolVisits", fn := fun _ => fun
  | [d1, d2] => { results := [.lit (.bool true)], args := [d1, d2] }
  | _ => none }
def patrolVisitsRow : OpenClaim := { program := "ytmdpfpfnchfocaa", sum := "3c1490901a90142dd279be47d0b383cfab4f1918cb70c21a04b96d96998be077", func := "blackboard/blackboardlaw19.PatrolVisits", spec := "patrolVisits", unfollowed := true, recurses := true, apart := false }
def PatrolVisitsSaid : Prop := patrolVisitsRow.holds Try.pinned (OpenSpec.ofChange patrolVisitsSpec)

/-- ITS FALSE NEIGHBOUR: 'it returns false'. Refute it at one input. -/
def patrolVisitsWrong : ChangeSpec := { name := "patrolVisits", fn := fun _ => fun
  | [d1, d2] => { results := [.lit (.bool false)], args := [d1, d2] }
  | _ => none }
def PatrolVisitsWrongFalsely : Prop := patrolVisitsRow.holds Try.pinned (OpenSpec.ofChange patrolVisitsWrong)

/- THE SECOND FORM. 'bulk': how many values and letters a reading holds, each counted each time it is reached (what is shared counts as often as it is met; a slice's spare places count too). A statement '..UptoSaid' is the law's where the arguments, and the package variables that the reading takes, are together of bulk at most 1048576: NARROWER than '..Said'. Prove '..Said' where nothing that the law and all that it calls make is longer than what came in: it says more and counts as full. Else prove '..UptoSaid'. A law counts once. -/
mutual
def uptoBulk {H : Type} : DataW H → Nat
  | .lit (.string bytes) => bytes.length + 1
  | .lit _ => 1
  | .nil => 1
  | .ptr d => uptoBulk d + 1
  | .slice elems spare => uptoBulkAll elems + uptoBulkAll spare + 1
  | .agg parts => uptoBulkAll parts + 1
  | .iface _ d => uptoBulk d + 1
  | .map entries => uptoBulkEntries entries + 1
  | .held _ => 1
def uptoBulkAll {H : Type} : List (DataW H) → Nat
  | [] => 0
  | d :: r => uptoBulk d + uptoBulkAll r
def uptoBulkEntries {H : Type} : List (Lit × DataW H) → Nat
  | [] => 0
  | x :: r => uptoBulkEntry x + uptoBulkEntries r
def uptoBulkEntry {H : Type} : Lit × DataW H → Nat
  | (.string bytes, d) => bytes.length + uptoBulk d + 1
  | (_, d) => uptoBulk d + 1
 end
def uptoSmall : (H : Type) → List (DataW H) → Bool := fun _ ds => decide (uptoBulkAll ds ≤ 1048576)
def OpenSpec.upto (s : _root_.Go.ChangeSpec) : _root_.Go.OpenSpec := { _root_.Go.OpenSpec.ofChange s with cond := some uptoSmall }

/-- 'blackboardlaw19.PatrolGoes', WHERE WHAT IT READS IS OF BULK AT MOST 1048576: true; the input reads as it did. -/
def patrolGoesUptoRow : OpenClaim := { program := "ytmdpfpfnchfocaa", sum := "3c1490901a90142dd279be47d0b383cfab4f1918cb70c21a04b96d96998be077", func := "blackboard/blackboardlaw19.PatrolGoes", spec := "patrolGoes", unfollowed := true, recurses := true, apart := false, narrowed := true }
def PatrolGoesUptoSaid : Prop := patrolGoesUptoRow.holds Try.pinned (OpenSpec.upto patrolGoesSpec)

/-- 'blackboardlaw19.PatrolRounds', WHERE WHAT IT READS IS OF BULK AT MOST 1048576: true; the input reads as it did. -/
def patrolRoundsUptoRow : OpenClaim := { program := "ytmdpfpfnchfocaa", sum := "3c1490901a90142dd279be47d0b383cfab4f1918cb70c21a04b96d96998be077", func := "blackboard/blackboardlaw19.PatrolRounds", spec := "patrolRounds", unfollowed := true, recurses := true, apart := false, narrowed := true }
def PatrolRoundsUptoSaid : Prop := patrolRoundsUptoRow.holds Try.pinned (OpenSpec.upto patrolRoundsSpec)

/-- 'blackboardlaw19.PatrolDue', WHERE WHAT IT READS IS OF BULK AT MOST 1048576: true; the input reads as it did. -/
def patrolDueUptoRow : OpenClaim := { program := "ytmdpfpfnchfocaa", sum := "3c1490901a90142dd279be47d0b383cfab4f1918cb70c21a04b96d96998be077", func := "blackboard/blackboardlaw19.PatrolDue", spec := "patrolDue", unfollowed := true, recurses := true, apart := false, narrowed := true }
def PatrolDueUptoSaid : Prop := patrolDueUptoRow.holds Try.pinned (OpenSpec.upto patrolDueSpec)

/-- 'blackboardlaw19.PatrolVisits', WHERE WHAT IT READS IS OF BULK AT MOST 1048576: true; the input reads as it did. -/
def patrolVisitsUptoRow : OpenClaim := { program := "ytmdpfpfnchfocaa", sum := "3c1490901a90142dd279be47d0b383cfab4f1918cb70c21a04b96d96998be077", func := "blackboard/blackboardlaw19.PatrolVisits", spec := "patrolVisits", unfollowed := true, recurses := true, apart := false, narrowed := true }
def PatrolVisitsUptoSaid : Prop := patrolVisitsUptoRow.holds Try.pinned (OpenSpec.upto patrolVisitsSpec)

end Rows
end Go.Proofs.Ytmdpfpfnchfocaa
