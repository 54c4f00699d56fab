/-
  No cell of these rows narrows 'for every input' (looked for: loops, veiled, ifaces, maps, wideKeys, modest, calm, conditions, laid).
  DERIVED. THE GIVEN ROWS OF THIS SEAT. 5 by the template 'for every input the law returns true; each argument reads behind the call as it read before'; 0 by the template 'total and deterministic' (their statements: YtpfgciidpjmenaaTotals.lean).
  GIVEN WITH THE SEED: the statements are not yours to turn. If you find one false, say at which input.
  Laid BY PROGRAM, IN A SANDBOX (cutbox-rows.mjs): the forced cells as the released guide's own fill.sh prints them over the translation aa77e530c69441a5… (all of the seat's roots in one cut). By AI agents, Wed Nov 11 2026. No macro, syntax, notation, axiom, sorry.
-/
import Derived.Test.YtpfgciidpjmenaaChecked
import GoSem.Claim
import GoSem.ClaimJoined
import GoSem.ClaimMapViews
import Derived.JoinedTies
import Derived.KernelRfl
namespace Go.Proofs.Ytpfgciidpjmenaa
/- THE CELL 'sum', in the pinned program and in every row, IS THE sha256 OF THE DUMP (.gsa) THAT YtpfgciidpjmenaaProg.lean LOADS. Nothing in Lean hashes anything: it is a label: what it is worth is what the hold of that sum in a sandbox is worth. -/
noncomputable def Try.pinned : Pinned := { name := "ytpfgciidpjmenaa", sum := "aa77e530c69441a52dcd98ad4d23d0bc46fed6ad4c4ce01786953e492f8a293a", checked := Try.checked }
namespace Rows
def none {H : Type} : Left H := { results := [], args := [] }

/-- 'blackboardlaw7.GeoReckons': WHATEVER THE INPUT: true; the input reads as it did. -/
def geoReckonsSpec : ChangeSpec := { name := "geoReckons", fn := fun _ => fun
  | [d1, d2, d3] => { results := [.lit (.bool true)], args := [d1, d2, d3] }
  | _ => none }
def geoReckonsRow : OpenClaim := { program := "ytpfgciidpjmenaa", sum := "aa77e530c69441a52dcd98ad4d23d0bc46fed6ad4c4ce01786953e492f8a293a", func := "blackboard/blackboardlaw7.GeoReckons", spec := "geoReckons", apart := false }
def GeoReckonsSaid : Prop := geoReckonsRow.holds Try.pinned (OpenSpec.ofChange geoReckonsSpec)

/-- ITS FALSE NEIGHBOUR: 'it returns false'. Refute it at one input. -/
def geoReckonsWrong : ChangeSpec := { name := "geoReckons", fn := fun _ => fun
  | [d1, d2, d3] => { results := [.lit (.bool false)], args := [d1, d2, d3] }
  | _ => none }
def GeoReckonsWrongFalsely : Prop := geoReckonsRow.holds Try.pinned (OpenSpec.ofChange geoReckonsWrong)

/-- 'blackboardlaw7.GeoKnown': WHATEVER THE INPUT: true; the input reads as it did. -/
def geoKnownSpec : ChangeSpec := { name := "geoKnown", fn := fun _ => fun
  | [] => { results := [.lit (.bool true)], args := [] }
  | _ => none }
def geoKnownRow : OpenClaim := { program := "ytpfgciidpjmenaa", sum := "aa77e530c69441a52dcd98ad4d23d0bc46fed6ad4c4ce01786953e492f8a293a", func := "blackboard/blackboardlaw7.GeoKnown", spec := "geoKnown", apart := false }
def GeoKnownSaid : Prop := geoKnownRow.holds Try.pinned (OpenSpec.ofChange geoKnownSpec)

/-- ITS FALSE NEIGHBOUR: 'it returns false'. Refute it at one input. -/
def geoKnownWrong : ChangeSpec := { name := "geoKnown", fn := fun _ => fun
  | [] => { results := [.lit (.bool false)], args := [] }
  | _ => none }
def GeoKnownWrongFalsely : Prop := geoKnownRow.holds Try.pinned (OpenSpec.ofChange geoKnownWrong)

/-- 'blackboardlaw7.GeoPlaces': WHATEVER THE INPUT: true; the input reads as it did. -/
def geoPlacesSpec : ChangeSpec := { name := "geoPlaces", fn := fun _ => fun
  | [d] => { results := [.lit (.bool true)], args := [d] }
  | _ => none }
def geoPlacesRow : OpenClaim := { program := "ytpfgciidpjmenaa", sum := "aa77e530c69441a52dcd98ad4d23d0bc46fed6ad4c4ce01786953e492f8a293a", func := "blackboard/blackboardlaw7.GeoPlaces", spec := "geoPlaces", apart := false }
def GeoPlacesSaid : Prop := geoPlacesRow.holds Try.pinned (OpenSpec.ofChange geoPlacesSpec)

/-- ITS FALSE NEIGHBOUR: 'it returns false'. Refute it at one input. -/
def geoPlacesWrong : ChangeSpec := { name := "geoPlaces", fn := fun _ => fun
  | [d] => { results := [.lit (.bool false)], args := [d] }
  | _ => none }
def GeoPlacesWrongFalsely : Prop := geoPlacesRow.holds Try.pinned (OpenSpec.ofChange geoPlacesWrong)

/-- 'blackboardlaw7.GeoRoom': WHATEVER THE INPUT: true; the input reads as it did. -/
def geoRoomSpec : ChangeSpec := { name := "geoRoom", fn := fun _ => fun
  | [d1, d2] => { results := [.lit (.bool true)], args := [d1, d2] }
  | _ => none }
def geoRoomRow : OpenClaim := { program := "ytpfgciidpjmenaa", sum := "aa77e530c69441a52dcd98ad4d23d0bc46fed6ad4c4ce01786953e492f8a293a", func := "blackboard/blackboardlaw7.GeoRoom", spec := "geoRoom", apart := false }
def GeoRoomSaid : Prop := geoRoomRow.holds Try.pinned (OpenSpec.ofChange geoRoomSpec)

/-- ITS FALSE NEIGHBOUR: 'it returns false'. Refute it at one input. -/
def geoRoomWrong : ChangeSpec := { name := "geoRoom", fn := fun _ => fun
  | [d1, d2] => { results := [.lit (.bool false)], args := [d1, d2] }
  | _ => none }
def GeoRoomWrongFalsely : Prop := geoRoomRow.holds Try.pinned (OpenSpec.ofChange geoRoomWrong)

/-- 'blackboardlaw7.GeoSizes': WHATEVER THE INPUT: true; the input reads as it did. -/
def geoSizesSpec : ChangeSpec := { name := "geoSizes", fn := fun _ => fun
  | [d] => { results := [.lit (.bool true)], args := [d] }
  | _ => none }
def geoSizesRow : OpenClaim := { program := "ytpfgciidpjmenaa", sum := "aa77e530c69441a52dcd98ad4d23d0bc46fed6ad4c4ce01786953e492f8a293a", func := "blackboard/blackboardlaw7.GeoSizes", spec := "geoSizes", apart := false }
def GeoSizesSaid : Prop := geoSizesRow.holds Try.pinned (OpenSpec.ofChange geoSizesSpec)

/-- ITS FALSE NEIGHBOUR: 'it returns false'. Refute it at one input. -/
def geoSizesWrong : ChangeSpec := { name := "geoSizes", fn := fun _ => fun
  | [d] => { results := [.lit (.bool false)], args := [d] }
  | _ => none }
def GeoSizesWrongFalsely : Prop := geoSizesRow.holds Try.pinned (OpenSpec.ofChange geoSizesWrong)

/- THE SECOND FORM. 'bulk': how many values and letters a reading holds, each counted each time it is reached (what is shared counts as often as it is met; a slice's spare places count too). A statement '..UptoSaid' is the law's where the arguments, and the package variables that the reading takes, are together of bulk at most 1048576: NARROWER than '..Said'. Prove '..Said' where nothing that the law and all that it calls make is longer than what came in: it says more and counts as full. Else prove '..UptoSaid'. A law counts once. -/
mutual
def uptoBulk {H : Type} : DataW H → Nat
  | .lit (.string bytes) => bytes.length + 1
  | .lit _ => 1
  | .nil => 1
  | .ptr d => uptoBulk d + 1
  | .slice elems spare => uptoBulkAll elems + uptoBulkAll spare + 1
  | .agg parts => uptoBulkAll parts + 1
  | .iface _ d => uptoBulk d + 1
  | .map entries => uptoBulkEntries entries + 1
  | .held _ => 1
def uptoBulkAll {H : Type} : List (DataW H) → Nat
  | [] => 0
  | d :: r => uptoBulk d + uptoBulkAll r
def uptoBulkEntries {H : Type} : List (Lit × DataW H) → Nat
  | [] => 0
  | x :: r => uptoBulkEntry x + uptoBulkEntries r
def uptoBulkEntry {H : Type} : Lit × DataW H → Nat
  | (.string bytes, d) => bytes.length + uptoBulk d + 1
  | (_, d) => uptoBulk d + 1
 end
def uptoSmall : (H : Type) → List (DataW H) → Bool := fun _ ds => decide (uptoBulkAll ds ≤ 1048576)
def OpenSpec.upto (s : _root_.Go.ChangeSpec) : _root_.Go.OpenSpec := { _root_.Go.OpenSpec.ofChange s with cond := some uptoSmall }

/-- 'blackboardlaw7.GeoReckons', WHERE WHAT IT READS IS OF BULK AT MOST 1048576: true; the input reads as it did. -/
def geoReckonsUptoRow : OpenClaim := { program := "ytpfgciidpjmenaa", sum := "aa77e530c69441a52dcd98ad4d23d0bc46fed6ad4c4ce01786953e492f8a293a", func := "blackboard/blackboardlaw7.GeoReckons", spec := "geoReckons", apart := false, narrowed := true }
def GeoReckonsUptoSaid : Prop := geoReckonsUptoRow.holds Try.pinned (OpenSpec.upto geoReckonsSpec)

/-- 'blackboardlaw7.GeoKnown', WHERE WHAT IT READS IS OF BULK AT MOST 1048576: true; the input reads as it did. -/
def geoKnownUptoRow : OpenClaim := { program := "ytpfgciidpjmenaa", sum := "aa77e530c69441a52dcd98ad4d23d0bc46fed6ad4c4ce01786953e492f8a293a", func := "blackboard/blackboardlaw7.GeoKnown", spec := "geoKnown", apart := false, narrowed := true }
def GeoKnownUptoSaid : Prop := geoKnownUptoRow.holds Try.pinned (OpenSpec.upto geoKnownSpec)

/-- 'blackboardlaw7.GeoPlaces', WHERE WHAT IT READS IS OF BULK AT MOST 1048576: true; the input reads as it did. -/
def geoPlacesUptoRow : OpenClaim := { program := "ytpfgciidpjmenaa", sum := "aa77e530c69441a52dcd98ad4d23d0bc46fed6ad4c4ce01786953e492f8a293a", func := "blackboard/blackboardlaw7.GeoPlaces", spec := "geoPlaces", apart := false, narrowed := true }
def GeoPlacesUptoSaid : Prop := geoPlacesUptoRow.holds Try.pinned (OpenSpec.upto geoPlacesSpec)

/-- 'blackboardlaw7.GeoRoom', WHERE WHAT IT READS IS OF BULK AT MOST 1048576: true; the input reads as it did. -/
def geoRoomUptoRow : OpenClaim := { program := "ytpfgciidpjmenaa", sum := "aa77e530c69441a52dcd98ad4d23d0bc46fed6ad4c4ce01786953e492f8a293a", func := "blackboard/blackboardlaw7.GeoRoom", spec := "geoRoom", apart := false, narrowed := true }
def GeoRoomUptoSaid : Prop := geoRoomUptoRow.holds Try.pinned (OpenSpec.upto geoRoomSpec)

/-- 'blackboardlaw7.GeoSizes', WHERE WHAT IT READS IS OF BULK AT MOST 1048576: true; the input reads as it did. -/
def geoSizesUptoRow : OpenClaim := { program := "ytpfgciidpjmenaa", sum := "aa77e530c69441a52dcd98ad4d23d0bc46fed6ad4c4ce01786953e492f8a293a", func := "blackboard/blackboardlaw7.GeoSizes", spec := "geoSizes", apart := false, narrowed := true }
def GeoSizesUptoSaid : Prop := geoSizesUptoRow.holds Try.pinned (OpenSpec.upto geoSizesSpec)

end Rows
end Go.Proofs.Ytpfgciidpjmenaa
