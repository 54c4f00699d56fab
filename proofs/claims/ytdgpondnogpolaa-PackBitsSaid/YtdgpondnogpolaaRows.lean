/-
  No cell of these rows narrows 'for every input' (looked for: loops, veiled, ifaces, maps, wideKeys, modest, calm, conditions, laid).
  DERIVED. THE GIVEN ROWS OF THIS SEAT. 5 by the template 'for every input the law returns true; each argument reads behind the call as it read before'; 0 by the template 'total and deterministic' (their statements: YtdgpondnogpolaaTotals.lean).
  GIVEN WITH THE SEED: the statements are not yours to turn. If you find one false, say at which input.
  Laid BY PROGRAM, IN A SANDBOX (cutbox-rows.mjs): the forced cells as the released guide's own fill.sh prints them over the translation ca4332337e49caf6… (all of the seat's roots in one cut). By AI agents, Wed Nov 11 2026. No macro, syntax, notation, axiom, sorry.
-/
import Derived.Test.YtdgpondnogpolaaChecked
import GoSem.Claim
import GoSem.ClaimJoined
import GoSem.ClaimMapViews
import Derived.JoinedTies
import Derived.KernelRfl
namespace Go.Proofs.Ytdgpondnogpolaa
/- THE CELL 'sum', in the pinned program and in every row, IS THE sha256 OF THE DUMP (.gsa) THAT YtdgpondnogpolaaProg.lean LOADS. Nothing in Lean hashes anything: it is a label: what it is worth is what the hold of that sum in a sandbox is worth. -/
noncomputable def Try.pinned : Pinned := { name := "ytdgpondnogpolaa", sum := "ca4332337e49caf61f3acf4cb0dc0c15f0170f2ff3e83512847e75e8d574b76b", checked := Try.checked }
namespace Rows
def none {H : Type} : Left H := { results := [], args := [] }

/-- 'blackboardlaw5.PackPacks': WHATEVER THE INPUT: true; the input reads as it did. -/
def packPacksSpec : ChangeSpec := { name := "packPacks", fn := fun _ => fun
  | [d1, d2, d3] => { results := [.lit (.bool true)], args := [d1, d2, d3] }
  | _ => none }
def packPacksRow : OpenClaim := { program := "ytdgpondnogpolaa", sum := "ca4332337e49caf61f3acf4cb0dc0c15f0170f2ff3e83512847e75e8d574b76b", func := "blackboard/blackboardlaw5.PackPacks", spec := "packPacks", unfollowed := true, recurses := true, apart := false }
def PackPacksSaid : Prop := packPacksRow.holds Try.pinned (OpenSpec.ofChange packPacksSpec)

/-- ITS FALSE NEIGHBOUR: 'it returns false'. Refute it at one input. -/
def packPacksWrong : ChangeSpec := { name := "packPacks", fn := fun _ => fun
  | [d1, d2, d3] => { results := [.lit (.bool false)], args := [d1, d2, d3] }
  | _ => none }
def PackPacksWrongFalsely : Prop := packPacksRow.holds Try.pinned (OpenSpec.ofChange packPacksWrong)

/-- 'blackboardlaw5.PackKnown': WHATEVER THE INPUT: true; the input reads as it did. -/
def packKnownSpec : ChangeSpec := { name := "packKnown", fn := fun _ => fun
  | [] => { results := [.lit (.bool true)], args := [] }
  | _ => none }
def packKnownRow : OpenClaim := { program := "ytdgpondnogpolaa", sum := "ca4332337e49caf61f3acf4cb0dc0c15f0170f2ff3e83512847e75e8d574b76b", func := "blackboard/blackboardlaw5.PackKnown", spec := "packKnown", unfollowed := true, recurses := true, apart := false }
def PackKnownSaid : Prop := packKnownRow.holds Try.pinned (OpenSpec.ofChange packKnownSpec)

/-- ITS FALSE NEIGHBOUR: 'it returns false'. Refute it at one input. -/
def packKnownWrong : ChangeSpec := { name := "packKnown", fn := fun _ => fun
  | [] => { results := [.lit (.bool false)], args := [] }
  | _ => none }
def PackKnownWrongFalsely : Prop := packKnownRow.holds Try.pinned (OpenSpec.ofChange packKnownWrong)

/-- 'blackboardlaw5.PackParts': WHATEVER THE INPUT: true; the input reads as it did. -/
def packPartsSpec : ChangeSpec := { name := "packParts", fn := fun _ => fun
  | [d1, d2] => { results := [.lit (.bool true)], args := [d1, d2] }
  | _ => none }
def packPartsRow : OpenClaim := { program := "ytdgpondnogpolaa", sum := "ca4332337e49caf61f3acf4cb0dc0c15f0170f2ff3e83512847e75e8d574b76b", func := "blackboard/blackboardlaw5.PackParts", spec := "packParts", unfollowed := true, recurses := true, apart := false }
def PackPartsSaid : Prop := packPartsRow.holds Try.pinned (OpenSpec.ofChange packPartsSpec)

/-- ITS FALSE NEIGHBOUR: 'it returns false'. Refute it at one input. -/
def packPartsWrong : ChangeSpec := { name := "packParts", fn := fun _ => fun
  | [d1, d2] => { results := [.lit (.bool false)], args := [d1, d2] }
  | _ => none }
def PackPartsWrongFalsely : Prop := packPartsRow.holds Try.pinned (OpenSpec.ofChange packPartsWrong)

/-- 'blackboardlaw5.PackBits': WHATEVER THE INPUT: true; the input reads as it did. -/
def packBitsSpec : ChangeSpec := { name := "packBits", fn := fun _ => fun
  | [d1, d2] => { results := [.lit (.bool true)], args := [d1, d2] }
  | _ => none }
def packBitsRow : OpenClaim := { program := "ytdgpondnogpolaa", sum := "ca4332337e49caf61f3acf4cb0dc0c15f0170f2ff3e83512847e75e8d574b76b", func := "blackboard/blackboardlaw5.PackBits", spec := "packBits", unfollowed := true, recurses := true, apart := false }
def PackBitsSaid : Prop := packBitsRow.holds Try.pinned (OpenSpec.ofChange packBitsSpec)

/-- ITS FALSE NEIGHBOUR: 'it returns false'. Refute it at one input. -/
def packBitsWrong : ChangeSpec := { name := "packBits", fn := fun _ => fun
  | [d1, d2] => { results := [.lit (.bool false)], args := [d1, d2] }
  | _ => none }
def PackBitsWrongFalsely : Prop := packBitsRow.holds Try.pinned (OpenSpec.ofChange packBitsWrong)

/-- 'blackboardlaw5.PackBack': WHATEVER THE INPUT: true; the input reads as it did. -/
def packBackSpec : ChangeSpec := { name := "packBack", fn := fun _ => fun
  | [d] => { results := [.lit (.bool true)], args := [d] }
  | _ => none }
def packBackRow : OpenClaim := { program := "ytdgpondnogpolaa", sum := "ca4332337e49caf61f3acf4cb0dc0c15f0170f2ff3e83512847e75e8d574b76b", func := "blackboard/blackboardlaw5.PackBack", spec := "packBack", unfollowed := true, recurses := true, apart := false }
def PackBackSaid : Prop := packBackRow.holds Try.pinned (OpenSpec.ofChange packBackSpec)

/-- ITS FALSE NEIGHBOUR: 'it returns false'. Refute it at one input. -/
def packBackWrong : ChangeSpec := { name := "packBack", fn := fun _ => fun
  | [d] => { results := [.lit (.bool false)], args := [d] }
  | _ => none }
def PackBackWrongFalsely : Prop := packBackRow.holds Try.pinned (OpenSpec.ofChange packBackWrong)

/- THE SECOND FORM. 'bulk': how many values and letters a reading holds, each counted each time it is reached (what is shared counts as often as it is met; a slice's spare places count too). A statement '..UptoSaid' is the law's where the arguments, and the package variables that the reading takes, are together of bulk at most 1048576: NARROWER than '..Said'. Prove '..Said' where nothing that the law and all that it calls make is longer than what came in: it says more and counts as full. Else prove '..UptoSaid'. A law counts once. -/
mutual
def uptoBulk {H : Type} : DataW H → Nat
  | .lit (.string bytes) => bytes.length + 1
  | .lit _ => 1
  | .nil => 1
  | .ptr d => uptoBulk d + 1
  | .slice elems spare => uptoBulkAll elems + uptoBulkAll spare + 1
  | .agg parts => uptoBulkAll parts + 1
  | .iface _ d => uptoBulk d + 1
  | .map entries => uptoBulkEntries entries + 1
  | .held _ => 1
def uptoBulkAll {H : Type} : List (DataW H) → Nat
  | [] => 0
  | d :: r => uptoBulk d + uptoBulkAll r
def uptoBulkEntries {H : Type} : List (Lit × DataW H) → Nat
  | [] => 0
  | x :: r => uptoBulkEntry x + uptoBulkEntries r
def uptoBulkEntry {H : Type} : Lit × DataW H → Nat
  | (.string bytes, d) => bytes.length + uptoBulk d + 1
  | (_, d) => uptoBulk d + 1
 end
def uptoSmall : (H : Type) → List (DataW H) → Bool := fun _ ds => decide (uptoBulkAll ds ≤ 1048576)
def OpenSpec.upto (s : _root_.Go.ChangeSpec) : _root_.Go.OpenSpec := { _root_.Go.OpenSpec.ofChange s with cond := some uptoSmall }

/-- 'blackboardlaw5.PackPacks', WHERE WHAT IT READS IS OF BULK AT MOST 1048576: true; the input reads as it did. -/
def packPacksUptoRow : OpenClaim := { program := "ytdgpondnogpolaa", sum := "ca4332337e49caf61f3acf4cb0dc0c15f0170f2ff3e83512847e75e8d574b76b", func := "blackboard/blackboardlaw5.PackPacks", spec := "packPacks", unfollowed := true, recurses := true, apart := false, narrowed := true }
def PackPacksUptoSaid : Prop := packPacksUptoRow.holds Try.pinned (OpenSpec.upto packPacksSpec)

/-- 'blackboardlaw5.PackKnown', WHERE WHAT IT READS IS OF BULK AT MOST 1048576: true; the input reads as it did. -/
def packKnownUptoRow : OpenClaim := { program := "ytdgpondnogpolaa", sum := "ca4332337e49caf61f3acf4cb0dc0c15f0170f2ff3e83512847e75e8d574b76b", func := "blackboard/blackboardlaw5.PackKnown", spec := "packKnown", unfollowed := true, recurses := true, apart := false, narrowed := true }
def PackKnownUptoSaid : Prop := packKnownUptoRow.holds Try.pinned (OpenSpec.upto packKnownSpec)

/-- 'blackboardlaw5.PackParts', WHERE WHAT IT READS IS OF BULK AT MOST 1048576: true; the input reads as it did. -/
def packPartsUptoRow : OpenClaim := { program := "ytdgpondnogpolaa", sum := "ca4332337e49caf61f3acf4cb0dc0c15f0170f2ff3e83512847e75e8d574b76b", func := "blackboard/blackboardlaw5.PackParts", spec := "packParts", unfollowed := true, recurses := true, apart := false, narrowed := true }
def PackPartsUptoSaid : Prop := packPartsUptoRow.holds Try.pinned (OpenSpec.upto packPartsSpec)

/-- 'blackboardlaw5.PackBits', WHERE WHAT IT READS IS OF BULK AT MOST 1048576: true; the input reads as it did. -/
def packBitsUptoRow : OpenClaim := { program := "ytdgpondnogpolaa", sum := "ca4332337e49caf61f3acf4cb0dc0c15f0170f2ff3e83512847e75e8d574b76b", func := "blackboard/blackboardlaw5.PackBits", spec := "packBits", unfollowed := true, recurses := true, apart := false, narrowed := true }
def PackBitsUptoSaid : Prop := packBitsUptoRow.holds Try.pinned (OpenSpec.upto packBitsSpec)

/-- 'blackboardlaw5.PackBack', WHERE WHAT IT READS IS OF BULK AT MOST 1048576: true; the input reads as it did. -/
def packBackUptoRow : OpenClaim := { program := "ytdgpondnogpolaa", sum := "ca4332337e49caf61f3acf4cb0dc0c15f0170f2ff3e83512847e75e8d574b76b", func := "blackboard/blackboardlaw5.PackBack", spec := "packBack", unfollowed := true, recurses := true, apart := false, narrowed := true }
def PackBackUptoSaid : Prop := packBackUptoRow.holds Try.pinned (OpenSpec.upto packBackSpec)

end Rows
end Go.Proofs.Ytdgpondnogpolaa
