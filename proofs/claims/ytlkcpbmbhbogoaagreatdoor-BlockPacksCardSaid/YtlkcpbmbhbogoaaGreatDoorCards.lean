/-
  DERIVED. GIVEN WITH THE SEED: THE CARDS: each row of YtlkcpbmbhbogoaaGreatDoorRows.lean that lists a variable, with what it lists TIED to the program's text (the seventh form; the later family's looks); each row that meets fmt, with fmt's text TOLD by the authors' own Lean function (tested against real Go, not proved from fmt's source: count such statements apart). THE CARD IS WHAT COUNTS. Prove the row's statement (the work); the ties are given (YtlkcpbmbhbogoaaGreatDoorTie.lean); close each card by the builder's one call (the guide's Derived/Test/ToyasCard.lean, 'card_holds'). Laid BY PROGRAM, IN A SANDBOX (cutbox-door.mjs). By AI agents, Wed Nov 11 2026. No macro, syntax, notation, axiom, sorry.
-/
import Derived.Test.YtlkcpbmbhbogoaaGreatDoorRows
import GoSem.ClaimSeven
namespace Go.Proofs.YtlkcpbmbhbogoaaGreatDoor
namespace Rows

/-- THE TIED CARD OF 'quaestorlaw17.BlockOpens'. -/
def blockOpensCard : Claim7 := { stood := { row := blockOpensRow, standIns := [], harness := (true, "b821cf76cdbc9da2b8f7e9936eeca616e08053e2640eda9ff3ca9141380202db"), looks := false }, kinds := [], alts := [], laidByText := true, laidKinds := [.data], laidTests := true, laidLooks := .later }
def BlockOpensCardSaid : Prop := Claim7.holds Tryz.pinned (.plain (OpenSpec.ofChange blockOpensSpec)) blockOpensCard

/-- THE TIED CARD OF 'quaestorlaw17.BlockPacks'. -/
def blockPacksCard : Claim7 := { stood := { row := blockPacksRow, standIns := [], harness := (true, "b821cf76cdbc9da2b8f7e9936eeca616e08053e2640eda9ff3ca9141380202db"), looks := false }, kinds := [], alts := [], laidByText := true, laidKinds := [.data], laidTests := true, laidLooks := .later }
def BlockPacksCardSaid : Prop := Claim7.holds Tryz.pinned (.plain (OpenSpec.ofChange blockPacksSpec)) blockPacksCard

/-- THE SECOND FORM's CARD OF 'quaestorlaw17.BlockOpens'. -/
def blockOpensUptoCard : Claim7 := { stood := { row := blockOpensUptoRow, standIns := [], harness := (true, "b821cf76cdbc9da2b8f7e9936eeca616e08053e2640eda9ff3ca9141380202db"), looks := false }, kinds := [], alts := [], laidByText := true, laidKinds := [.data], laidTests := true, laidLooks := .later }
def BlockOpensUptoCardSaid : Prop := Claim7.holds Tryz.pinned (.plain (OpenSpec.upto blockOpensSpec)) blockOpensUptoCard

/-- THE SECOND FORM's CARD OF 'quaestorlaw17.BlockPacks'. -/
def blockPacksUptoCard : Claim7 := { stood := { row := blockPacksUptoRow, standIns := [], harness := (true, "b821cf76cdbc9da2b8f7e9936eeca616e08053e2640eda9ff3ca9141380202db"), looks := false }, kinds := [], alts := [], laidByText := true, laidKinds := [.data], laidTests := true, laidLooks := .later }
def BlockPacksUptoCardSaid : Prop := Claim7.holds Tryz.pinned (.plain (OpenSpec.upto blockPacksSpec)) blockPacksUptoCard
end Rows
end Go.Proofs.YtlkcpbmbhbogoaaGreatDoor
