/-
  DERIVED. GIVEN WITH THE SEED: THE CARDS: each row of YthdmeffjiljdeaaDoorRows.lean that lists a variable, with what it lists TIED to the program's text (the seventh form; the later family's looks); each row that meets fmt, with fmt's text TOLD by the authors' own Lean function (tested against real Go, not proved from fmt's source: count such statements apart). THE CARD IS WHAT COUNTS. Prove the row's statement (the work); the ties are given (YthdmeffjiljdeaaDoorTie.lean); close each card by the builder's one call (the guide's Derived/Test/ToyasCard.lean, 'card_holds'). Laid BY PROGRAM, IN A SANDBOX (cutbox-door.mjs). By AI agents, Wed Nov 11 2026. No macro, syntax, notation, axiom, sorry.
-/
import Derived.Test.YthdmeffjiljdeaaDoorRows
import GoSem.ClaimSeven
namespace Go.Proofs.YthdmeffjiljdeaaDoor
namespace Rows

/-- THE TIED CARD OF 'blackboardlaw24.TaleReads'. -/
def taleReadsCard : Claim7 := { stood := { row := taleReadsRow, standIns := [], harness := (true, "10f5a3e5057ae4b51fa1cfc14df34cd1f21c04d0b8d9f04de887824221879e6a"), looks := true }, kinds := [], alts := [], laidByText := true, laidKinds := [.data, .data, .data, .data, .sentinel, .sentinel, .listed, .data, .pinned], laidTests := true, laidLooks := .later }
def TaleReadsCardSaid : Prop := Claim7.holds Tryd.pinned (.plain (OpenSpec.ofChange taleReadsSpec)) taleReadsCard

/-- THE TIED CARD OF 'blackboardlaw24.TaleKnown'. -/
def taleKnownCard : Claim7 := { stood := { row := taleKnownRow, standIns := [], harness := (true, "10f5a3e5057ae4b51fa1cfc14df34cd1f21c04d0b8d9f04de887824221879e6a"), looks := true }, kinds := [], alts := [], laidByText := true, laidKinds := [.data, .data, .data, .data, .sentinel, .sentinel, .listed, .data, .pinned], laidTests := true, laidLooks := .later }
def TaleKnownCardSaid : Prop := Claim7.holds Tryd.pinned (.plain (OpenSpec.ofChange taleKnownSpec)) taleKnownCard

/-- THE TIED CARD OF 'blackboardlaw24.TaleParts'. -/
def talePartsCard : Claim7 := { stood := { row := talePartsRow, standIns := [], harness := (true, "10f5a3e5057ae4b51fa1cfc14df34cd1f21c04d0b8d9f04de887824221879e6a"), looks := true }, kinds := [], alts := [], laidByText := true, laidKinds := [.data, .data, .data, .data, .sentinel, .sentinel, .listed, .data, .pinned], laidTests := true, laidLooks := .later }
def TalePartsCardSaid : Prop := Claim7.holds Tryd.pinned (.plain (OpenSpec.ofChange talePartsSpec)) talePartsCard

/-- THE SECOND FORM's CARD OF 'blackboardlaw24.TaleReads'. -/
def taleReadsUptoCard : Claim7 := { stood := { row := taleReadsUptoRow, standIns := [], harness := (true, "10f5a3e5057ae4b51fa1cfc14df34cd1f21c04d0b8d9f04de887824221879e6a"), looks := true }, kinds := [], alts := [], laidByText := true, laidKinds := [.data, .data, .data, .data, .sentinel, .sentinel, .listed, .data, .pinned], laidTests := true, laidLooks := .later }
def TaleReadsUptoCardSaid : Prop := Claim7.holds Tryd.pinned (.plain (OpenSpec.upto taleReadsSpec)) taleReadsUptoCard

/-- THE SECOND FORM's CARD OF 'blackboardlaw24.TaleKnown'. -/
def taleKnownUptoCard : Claim7 := { stood := { row := taleKnownUptoRow, standIns := [], harness := (true, "10f5a3e5057ae4b51fa1cfc14df34cd1f21c04d0b8d9f04de887824221879e6a"), looks := true }, kinds := [], alts := [], laidByText := true, laidKinds := [.data, .data, .data, .data, .sentinel, .sentinel, .listed, .data, .pinned], laidTests := true, laidLooks := .later }
def TaleKnownUptoCardSaid : Prop := Claim7.holds Tryd.pinned (.plain (OpenSpec.upto taleKnownSpec)) taleKnownUptoCard

/-- THE SECOND FORM's CARD OF 'blackboardlaw24.TaleParts'. -/
def talePartsUptoCard : Claim7 := { stood := { row := talePartsUptoRow, standIns := [], harness := (true, "10f5a3e5057ae4b51fa1cfc14df34cd1f21c04d0b8d9f04de887824221879e6a"), looks := true }, kinds := [], alts := [], laidByText := true, laidKinds := [.data, .data, .data, .data, .sentinel, .sentinel, .listed, .data, .pinned], laidTests := true, laidLooks := .later }
def TalePartsUptoCardSaid : Prop := Claim7.holds Tryd.pinned (.plain (OpenSpec.upto talePartsSpec)) talePartsUptoCard
end Rows
end Go.Proofs.YthdmeffjiljdeaaDoor
