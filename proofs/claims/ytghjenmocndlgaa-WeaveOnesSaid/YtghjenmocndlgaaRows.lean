/-
  No cell of these rows narrows 'for every input' (looked for: loops, veiled, ifaces, maps, wideKeys, modest, calm, conditions, laid).
  DERIVED. THE GIVEN ROWS OF THIS SEAT. 5 by the template 'for every input the law returns true; each argument reads behind the call as it read before'; 0 by the template 'total and deterministic' (their statements: YtghjenmocndlgaaTotals.lean).
  GIVEN WITH THE SEED: the statements are not yours to turn. If you find one false, say at which input.
  Laid BY PROGRAM, IN A SANDBOX (cutbox-rows.mjs): the forced cells as the released guide's own fill.sh prints them over the translation fb734335de2cb3d9… (all of the seat's roots in one cut). By AI agents, Wed Nov 11 2026. No macro, syntax, notation, axiom, sorry.
-/
import Derived.Test.YtghjenmocndlgaaChecked
import GoSem.Claim
import GoSem.ClaimJoined
import GoSem.ClaimMapViews
import Derived.JoinedTies
import Derived.KernelRfl
namespace Go.Proofs.Ytghjenmocndlgaa
/- THE CELL 'sum', in the pinned program and in every row, IS THE sha256 OF THE DUMP (.gsa) THAT YtghjenmocndlgaaProg.lean LOADS. Nothing in Lean hashes anything: it is a label: what it is worth is what the hold of that sum in a sandbox is worth. -/
noncomputable def Try.pinned : Pinned := { name := "ytghjenmocndlgaa", sum := "fb734335de2cb3d9c61f458615f12a48f2acaa7bbc0ceda991ae7c500b3bbeae", checked := Try.checked }
namespace Rows
def none {H : Type} : Left H := { results := [], args := [] }

/-- 'blackboardlaw6.WeaveBursts': WHATEVER THE INPUT: true; the input reads as it did. -/
def weaveBurstsSpec : ChangeSpec := { name := "weaveBursts", fn := fun _ => fun
  | [d1, d2, d3] => { results := [.lit (.bool true)], args := [d1, d2, d3] }
  | _ => none }
def weaveBurstsRow : OpenClaim := { program := "ytghjenmocndlgaa", sum := "fb734335de2cb3d9c61f458615f12a48f2acaa7bbc0ceda991ae7c500b3bbeae", func := "blackboard/blackboardlaw6.WeaveBursts", spec := "weaveBursts", unfollowed := true, recurses := true, apart := false }
def WeaveBurstsSaid : Prop := weaveBurstsRow.holds Try.pinned (OpenSpec.ofChange weaveBurstsSpec)

/-- ITS FALSE NEIGHBOUR: 'it returns false'. Refute it at one input. -/
def weaveBurstsWrong : ChangeSpec := { name := "weaveBursts", fn := fun _ => fun
  | [d1, d2, d3] => { results := [.lit (.bool false)], args := [d1, d2, d3] }
  | _ => none }
def WeaveBurstsWrongFalsely : Prop := weaveBurstsRow.holds Try.pinned (OpenSpec.ofChange weaveBurstsWrong)

/-- 'blackboardlaw6.WeaveWeaves': WHATEVER THE INPUT: true; the input reads as it did. -/
def weaveWeavesSpec : ChangeSpec := { name := "weaveWeaves", fn := fun _ => fun
  | [d1, d2, d3] => { results := [.lit (.bool true)], args := [d1, d2, d3] }
  | _ => none }
def weaveWeavesRow : OpenClaim := { program := "ytghjenmocndlgaa", sum := "fb734335de2cb3d9c61f458615f12a48f2acaa7bbc0ceda991ae7c500b3bbeae", func := "blackboard/blackboardlaw6.WeaveWeaves", spec := "weaveWeaves", unfollowed := true, recurses := true, apart := false }
def WeaveWeavesSaid : Prop := weaveWeavesRow.holds Try.pinned (OpenSpec.ofChange weaveWeavesSpec)

/-- ITS FALSE NEIGHBOUR: 'it returns false'. Refute it at one input. -/
def weaveWeavesWrong : ChangeSpec := { name := "weaveWeaves", fn := fun _ => fun
  | [d1, d2, d3] => { results := [.lit (.bool false)], args := [d1, d2, d3] }
  | _ => none }
def WeaveWeavesWrongFalsely : Prop := weaveWeavesRow.holds Try.pinned (OpenSpec.ofChange weaveWeavesWrong)

/-- 'blackboardlaw6.WeaveKnown': WHATEVER THE INPUT: true; the input reads as it did. -/
def weaveKnownSpec : ChangeSpec := { name := "weaveKnown", fn := fun _ => fun
  | [] => { results := [.lit (.bool true)], args := [] }
  | _ => none }
def weaveKnownRow : OpenClaim := { program := "ytghjenmocndlgaa", sum := "fb734335de2cb3d9c61f458615f12a48f2acaa7bbc0ceda991ae7c500b3bbeae", func := "blackboard/blackboardlaw6.WeaveKnown", spec := "weaveKnown", unfollowed := true, recurses := true, apart := false }
def WeaveKnownSaid : Prop := weaveKnownRow.holds Try.pinned (OpenSpec.ofChange weaveKnownSpec)

/-- ITS FALSE NEIGHBOUR: 'it returns false'. Refute it at one input. -/
def weaveKnownWrong : ChangeSpec := { name := "weaveKnown", fn := fun _ => fun
  | [] => { results := [.lit (.bool false)], args := [] }
  | _ => none }
def WeaveKnownWrongFalsely : Prop := weaveKnownRow.holds Try.pinned (OpenSpec.ofChange weaveKnownWrong)

/-- 'blackboardlaw6.WeavePlaces': WHATEVER THE INPUT: true; the input reads as it did. -/
def weavePlacesSpec : ChangeSpec := { name := "weavePlaces", fn := fun _ => fun
  | [d1, d2, d3] => { results := [.lit (.bool true)], args := [d1, d2, d3] }
  | _ => none }
def weavePlacesRow : OpenClaim := { program := "ytghjenmocndlgaa", sum := "fb734335de2cb3d9c61f458615f12a48f2acaa7bbc0ceda991ae7c500b3bbeae", func := "blackboard/blackboardlaw6.WeavePlaces", spec := "weavePlaces", unfollowed := true, recurses := true, apart := false }
def WeavePlacesSaid : Prop := weavePlacesRow.holds Try.pinned (OpenSpec.ofChange weavePlacesSpec)

/-- ITS FALSE NEIGHBOUR: 'it returns false'. Refute it at one input. -/
def weavePlacesWrong : ChangeSpec := { name := "weavePlaces", fn := fun _ => fun
  | [d1, d2, d3] => { results := [.lit (.bool false)], args := [d1, d2, d3] }
  | _ => none }
def WeavePlacesWrongFalsely : Prop := weavePlacesRow.holds Try.pinned (OpenSpec.ofChange weavePlacesWrong)

/-- 'blackboardlaw6.WeaveOnes': WHATEVER THE INPUT: true; the input reads as it did. -/
def weaveOnesSpec : ChangeSpec := { name := "weaveOnes", fn := fun _ => fun
  | [d] => { results := [.lit (.bool true)], args := [d] }
  | _ => none }
def weaveOnesRow : OpenClaim := { program := "ytghjenmocndlgaa", sum := "fb734335de2cb3d9c61f458615f12a48f2acaa7bbc0ceda991ae7c500b3bbeae", func := "blackboard/blackboardlaw6.WeaveOnes", spec := "weaveOnes", unfollowed := true, recurses := true, apart := false }
def WeaveOnesSaid : Prop := weaveOnesRow.holds Try.pinned (OpenSpec.ofChange weaveOnesSpec)

/-- ITS FALSE NEIGHBOUR: 'it returns false'. Refute it at one input. -/
def weaveOnesWrong : ChangeSpec := { name := "weaveOnes", fn := fun _ => fun
  | [d] => { results := [.lit (.bool false)], args := [d] }
  | _ => none }
def WeaveOnesWrongFalsely : Prop := weaveOnesRow.holds Try.pinned (OpenSpec.ofChange weaveOnesWrong)

/- THE SECOND FORM. 'bulk': how many values and letters a reading holds, each counted each time it is reached (what is shared counts as often as it is met; a slice's spare places count too). A statement '..UptoSaid' is the law's where the arguments, and the package variables that the reading takes, are together of bulk at most 1048576: NARROWER than '..Said'. Prove '..Said' where nothing that the law and all that it calls make is longer than what came in: it says more and counts as full. Else prove '..UptoSaid'. A law counts once. -/
mutual
def uptoBulk {H : Type} : DataW H → Nat
  | .lit (.string bytes) => bytes.length + 1
  | .lit _ => 1
  | .nil => 1
  | .ptr d => uptoBulk d + 1
  | .slice elems spare => uptoBulkAll elems + uptoBulkAll spare + 1
  | .agg parts => uptoBulkAll parts + 1
  | .iface _ d => uptoBulk d + 1
  | .map entries => uptoBulkEntries entries + 1
  | .held _ => 1
def uptoBulkAll {H : Type} : List (DataW H) → Nat
  | [] => 0
  | d :: r => uptoBulk d + uptoBulkAll r
def uptoBulkEntries {H : Type} : List (Lit × DataW H) → Nat
  | [] => 0
  | x :: r => uptoBulkEntry x + uptoBulkEntries r
def uptoBulkEntry {H : Type} : Lit × DataW H → Nat
  | (.string bytes, d) => bytes.length + uptoBulk d + 1
  | (_, d) => uptoBulk d + 1
 end
def uptoSmall : (H : Type) → List (DataW H) → Bool := fun _ ds => decide (uptoBulkAll ds ≤ 1048576)
def OpenSpec.upto (s : _root_.Go.ChangeSpec) : _root_.Go.OpenSpec := { _root_.Go.OpenSpec.ofChange s with cond := some uptoSmall }

/-- 'blackboardlaw6.WeaveBursts', WHERE WHAT IT READS IS OF BULK AT MOST 1048576: true; the input reads as it did. -/
def weaveBurstsUptoRow : OpenClaim := { program := "ytghjenmocndlgaa", sum := "fb734335de2cb3d9c61f458615f12a48f2acaa7bbc0ceda991ae7c500b3bbeae", func := "blackboard/blackboardlaw6.WeaveBursts", spec := "weaveBursts", unfollowed := true, recurses := true, apart := false, narrowed := true }
def WeaveBurstsUptoSaid : Prop := weaveBurstsUptoRow.holds Try.pinned (OpenSpec.upto weaveBurstsSpec)

/-- 'blackboardlaw6.WeaveWeaves', WHERE WHAT IT READS IS OF BULK AT MOST 1048576: true; the input reads as it did. -/
def weaveWeavesUptoRow : OpenClaim := { program := "ytghjenmocndlgaa", sum := "fb734335de2cb3d9c61f458615f12a48f2acaa7bbc0ceda991ae7c500b3bbeae", func := "blackboard/blackboardlaw6.WeaveWeaves", spec := "weaveWeaves", unfollowed := true, recurses := true, apart := false, narrowed := true }
def WeaveWeavesUptoSaid : Prop := weaveWeavesUptoRow.holds Try.pinned (OpenSpec.upto weaveWeavesSpec)

/-- 'blackboardlaw6.WeaveKnown', WHERE WHAT IT READS IS OF BULK AT MOST 1048576: true; the input reads as it did. -/
def weaveKnownUptoRow : OpenClaim := { program := "ytghjenmocndlgaa", sum := "fb734335de2cb3d9c61f458615f12a48f2acaa7bbc0ceda991ae7c500b3bbeae", func := "blackboard/blackboardlaw6.WeaveKnown", spec := "weaveKnown", unfollowed := true, recurses := true, apart := false, narrowed := true }
def WeaveKnownUptoSaid : Prop := weaveKnownUptoRow.holds Try.pinned (OpenSpec.upto weaveKnownSpec)

/-- 'blackboardlaw6.WeavePlaces', WHERE WHAT IT READS IS OF BULK AT MOST 1048576: true; the input reads as it did. -/
def weavePlacesUptoRow : OpenClaim := { program := "ytghjenmocndlgaa", sum := "fb734335de2cb3d9c61f458615f12a48f2acaa7bbc0ceda991ae7c500b3bbeae", func := "blackboard/blackboardlaw6.WeavePlaces", spec := "weavePlaces", unfollowed := true, recurses := true, apart := false, narrowed := true }
def WeavePlacesUptoSaid : Prop := weavePlacesUptoRow.holds Try.pinned (OpenSpec.upto weavePlacesSpec)

/-- 'blackboardlaw6.WeaveOnes', WHERE WHAT IT READS IS OF BULK AT MOST 1048576: true; the input reads as it did. -/
def weaveOnesUptoRow : OpenClaim := { program := "ytghjenmocndlgaa", sum := "fb734335de2cb3d9c61f458615f12a48f2acaa7bbc0ceda991ae7c500b3bbeae", func := "blackboard/blackboardlaw6.WeaveOnes", spec := "weaveOnes", unfollowed := true, recurses := true, apart := false, narrowed := true }
def WeaveOnesUptoSaid : Prop := weaveOnesUptoRow.holds Try.pinned (OpenSpec.upto weaveOnesSpec)

end Rows
end Go.Proofs.Ytghjenmocndlgaa
