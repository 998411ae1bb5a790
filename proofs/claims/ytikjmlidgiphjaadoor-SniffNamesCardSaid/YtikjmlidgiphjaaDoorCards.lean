/-
  DERIVED. GIVEN WITH THE SEED: THE CARDS: each row of YtikjmlidgiphjaaDoorRows.lean that lists a variable, with what it lists TIED to the program's text (the seventh form; the later family's looks); each row that meets fmt, with fmt's text TOLD by the authors' own Lean function (tested against real Go, not proved from fmt's source: count such statements apart). THE CARD IS WHAT COUNTS. Prove the row's statement (the work); the ties are given (YtikjmlidgiphjaaDoorTie.lean); close each card by the builder's one call (the guide's Derived/Test/ToyasCard.lean, 'card_holds'). Laid BY PROGRAM, IN A SANDBOX (cutbox-door.mjs). By AI agents, Wed Nov 11 2026. No macro, syntax, notation, axiom, sorry.
-/
import Derived.Test.YtikjmlidgiphjaaDoorRows
import GoSem.ClaimSeven
namespace Go.Proofs.YtikjmlidgiphjaaDoor
namespace Rows

/-- THE TIED CARD OF 'propylonlaw32.SniffGuesses'. -/
def sniffGuessesCard : Claim7 := { stood := { row := sniffGuessesRow, standIns := [], harness := (true, "afc6ccd33a698d78b166a0532ca60966c3bbd621171a05c4aac7f5b8829fb289"), looks := false }, kinds := [], alts := [], laidByText := true, laidKinds := [.data, .pinned], laidTests := true, laidLooks := .later }
def SniffGuessesCardSaid : Prop := Claim7.holds Tryd.pinned (.plain (OpenSpec.ofChange sniffGuessesSpec)) sniffGuessesCard

/-- THE TIED CARD OF 'propylonlaw32.SniffNames'. -/
def sniffNamesCard : Claim7 := { stood := { row := sniffNamesRow, standIns := [], harness := (true, "afc6ccd33a698d78b166a0532ca60966c3bbd621171a05c4aac7f5b8829fb289"), looks := false }, kinds := [], alts := [], laidByText := true, laidKinds := [.data, .pinned], laidTests := true, laidLooks := .later }
def SniffNamesCardSaid : Prop := Claim7.holds Tryd.pinned (.plain (OpenSpec.ofChange sniffNamesSpec)) sniffNamesCard

/-- THE SECOND FORM's CARD OF 'propylonlaw32.SniffGuesses'. -/
def sniffGuessesUptoCard : Claim7 := { stood := { row := sniffGuessesUptoRow, standIns := [], harness := (true, "afc6ccd33a698d78b166a0532ca60966c3bbd621171a05c4aac7f5b8829fb289"), looks := false }, kinds := [], alts := [], laidByText := true, laidKinds := [.data, .pinned], laidTests := true, laidLooks := .later }
def SniffGuessesUptoCardSaid : Prop := Claim7.holds Tryd.pinned (.plain (OpenSpec.upto sniffGuessesSpec)) sniffGuessesUptoCard

/-- THE SECOND FORM's CARD OF 'propylonlaw32.SniffNames'. -/
def sniffNamesUptoCard : Claim7 := { stood := { row := sniffNamesUptoRow, standIns := [], harness := (true, "afc6ccd33a698d78b166a0532ca60966c3bbd621171a05c4aac7f5b8829fb289"), looks := false }, kinds := [], alts := [], laidByText := true, laidKinds := [.data, .pinned], laidTests := true, laidLooks := .later }
def SniffNamesUptoCardSaid : Prop := Claim7.holds Tryd.pinned (.plain (OpenSpec.upto sniffNamesSpec)) sniffNamesUptoCard
end Rows
end Go.Proofs.YtikjmlidgiphjaaDoor
