/-
  DERIVED. GIVEN WITH THE SEED: THE CARDS: each row of YtfnhmnbcponkfaaGreatDoorRows.lean that lists a variable, with what it lists TIED to the program's text (the seventh form; the later family's looks); each row that meets fmt, with fmt's text TOLD by the authors' own Lean function (tested against real Go, not proved from fmt's source: count such statements apart). THE CARD IS WHAT COUNTS. Prove the row's statement (the work); the ties are given (YtfnhmnbcponkfaaGreatDoorTie.lean); close each card by the builder's one call (the guide's Derived/Test/ToyasCard.lean, 'card_holds'). Laid BY PROGRAM, IN A SANDBOX (cutbox-door.mjs). By AI agents, Wed Nov 11 2026. No macro, syntax, notation, axiom, sorry.
-/
import Derived.Test.YtfnhmnbcponkfaaGreatDoorRows
import GoSem.ClaimSeven
namespace Go.Proofs.YtfnhmnbcponkfaaGreatDoor
namespace Rows

/-- THE TIED CARD OF 'quaestorlaw29.ShelfNext'. -/
def shelfNextCard : Claim7 := { stood := { row := shelfNextRow, standIns := [], harness := (true, "60a5121220dda41f468752c168b9a479c8b8da9b6316415510bce16d1c6624df"), looks := false }, kinds := [], alts := [], laidByText := true, laidKinds := [.data], laidTests := true, laidLooks := .later }
def ShelfNextCardSaid : Prop := Claim7.holds Tryz.pinned (.plain (OpenSpec.ofChange shelfNextSpec)) shelfNextCard

/-- THE TIED CARD OF 'quaestorlaw29.ShelfReads'. -/
def shelfReadsCard : Claim7 := { stood := { row := shelfReadsRow, standIns := [], harness := (true, "60a5121220dda41f468752c168b9a479c8b8da9b6316415510bce16d1c6624df"), looks := false }, kinds := [], alts := [], laidByText := true, laidKinds := [.data], laidTests := true, laidLooks := .later }
def ShelfReadsCardSaid : Prop := Claim7.holds Tryz.pinned (.plain (OpenSpec.ofChange shelfReadsSpec)) shelfReadsCard

/-- THE SECOND FORM's CARD OF 'quaestorlaw29.ShelfNext'. -/
def shelfNextUptoCard : Claim7 := { stood := { row := shelfNextUptoRow, standIns := [], harness := (true, "60a5121220dda41f468752c168b9a479c8b8da9b6316415510bce16d1c6624df"), looks := false }, kinds := [], alts := [], laidByText := true, laidKinds := [.data], laidTests := true, laidLooks := .later }
def ShelfNextUptoCardSaid : Prop := Claim7.holds Tryz.pinned (.plain (OpenSpec.upto shelfNextSpec)) shelfNextUptoCard

/-- THE SECOND FORM's CARD OF 'quaestorlaw29.ShelfReads'. -/
def shelfReadsUptoCard : Claim7 := { stood := { row := shelfReadsUptoRow, standIns := [], harness := (true, "60a5121220dda41f468752c168b9a479c8b8da9b6316415510bce16d1c6624df"), looks := false }, kinds := [], alts := [], laidByText := true, laidKinds := [.data], laidTests := true, laidLooks := .later }
def ShelfReadsUptoCardSaid : Prop := Claim7.holds Tryz.pinned (.plain (OpenSpec.upto shelfReadsSpec)) shelfReadsUptoCard
end Rows
end Go.Proofs.YtfnhmnbcponkfaaGreatDoor
