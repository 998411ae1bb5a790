/-
  DERIVED. GIVEN WITH THE SEED: THE CARDS: each row of YtmooaepbdmengaaGreatDoorRows.lean that lists a variable, with what it lists TIED to the program's text (the seventh form; the later family's looks); each row that meets fmt, with fmt's text TOLD by the authors' own Lean function (tested against real Go, not proved from fmt's source: count such statements apart). THE CARD IS WHAT COUNTS. Prove the row's statement (the work); the ties are given (YtmooaepbdmengaaGreatDoorTie.lean); close each card by the builder's one call (the guide's Derived/Test/ToyasCard.lean, 'card_holds'). Laid BY PROGRAM, IN A SANDBOX (cutbox-door.mjs). By AI agents, Wed Nov 11 2026. No macro, syntax, notation, axiom, sorry.
-/
import Derived.Test.YtmooaepbdmengaaGreatDoorRows
import GoSem.ClaimSeven
namespace Go.Proofs.YtmooaepbdmengaaGreatDoor
namespace Rows

/-- THE TIED CARD OF 'propylonlaw32.SniffWritten'. -/
def sniffWrittenCard : Claim7 := { stood := { row := sniffWrittenRow, standIns := [], harness := (true, "1294c753934790fa78b83f3538eaad2ebb40cace15752ddccbc781228e2c9289"), looks := false }, kinds := [], alts := [], laidByText := true, laidKinds := [.data, .pinned], laidTests := true, laidLooks := .later }
def SniffWrittenCardSaid : Prop := Claim7.holds Tryz.pinned (.plain (OpenSpec.ofChange sniffWrittenSpec)) sniffWrittenCard

/-- THE SECOND FORM's CARD OF 'propylonlaw32.SniffWritten'. -/
def sniffWrittenUptoCard : Claim7 := { stood := { row := sniffWrittenUptoRow, standIns := [], harness := (true, "1294c753934790fa78b83f3538eaad2ebb40cace15752ddccbc781228e2c9289"), looks := false }, kinds := [], alts := [], laidByText := true, laidKinds := [.data, .pinned], laidTests := true, laidLooks := .later }
def SniffWrittenUptoCardSaid : Prop := Claim7.holds Tryz.pinned (.plain (OpenSpec.upto sniffWrittenSpec)) sniffWrittenUptoCard
end Rows
end Go.Proofs.YtmooaepbdmengaaGreatDoor
