/-
  DERIVED. GIVEN WITH THE SEED: THE CARDS: each row of YtlnohlefimgdnaaGreatDoorRows.lean that lists a variable, with what it lists TIED to the program's text (the seventh form; the later family's looks); each row that meets fmt, with fmt's text TOLD by the authors' own Lean function (tested against real Go, not proved from fmt's source: count such statements apart). THE CARD IS WHAT COUNTS. Prove the row's statement (the work); the ties are given (YtlnohlefimgdnaaGreatDoorTie.lean); close each card by the builder's one call (the guide's Derived/Test/ToyasCard.lean, 'card_holds'). Laid BY PROGRAM, IN A SANDBOX (cutbox-door.mjs). By AI agents, Wed Nov 11 2026. No macro, syntax, notation, axiom, sorry.
-/
import Derived.Test.YtlnohlefimgdnaaGreatDoorRows
import GoSem.ClaimSeven
namespace Go.Proofs.YtlnohlefimgdnaaGreatDoor
namespace Rows

/-- THE TIED CARD OF 'crosswaytop.TopSpoilt'. -/
def topSpoiltCard : Claim7 := { stood := { row := topSpoiltRow, standIns := [], harness := (true, "6f3f6f7bacd98958c547b4bebaee837bed3f5c6c012679fe1a4cb02ee073f4c5"), looks := true }, kinds := [], alts := [], laidByText := true, laidKinds := [.data, .data, .data, .data, .sentinel, .sentinel, .pinned], laidTests := true, laidLooks := .later }
def TopSpoiltCardSaid : Prop := Claim7.holds Tryz.pinned (.plain (OpenSpec.ofChange topSpoiltSpec)) topSpoiltCard

/-- THE SECOND FORM's CARD OF 'crosswaytop.TopSpoilt'. -/
def topSpoiltUptoCard : Claim7 := { stood := { row := topSpoiltUptoRow, standIns := [], harness := (true, "6f3f6f7bacd98958c547b4bebaee837bed3f5c6c012679fe1a4cb02ee073f4c5"), looks := true }, kinds := [], alts := [], laidByText := true, laidKinds := [.data, .data, .data, .data, .sentinel, .sentinel, .pinned], laidTests := true, laidLooks := .later }
def TopSpoiltUptoCardSaid : Prop := Claim7.holds Tryz.pinned (.plain (OpenSpec.upto topSpoiltSpec)) topSpoiltUptoCard
end Rows
end Go.Proofs.YtlnohlefimgdnaaGreatDoor
