/-
  DERIVED. GIVEN WITH THE SEED: THE CARDS: each row of YtdbfikcpaionbaaDoorRows.lean that lists a variable, with what it lists TIED to the program's text (the seventh form; the later family's looks); each row that meets fmt, with fmt's text TOLD by the authors' own Lean function (tested against real Go, not proved from fmt's source: count such statements apart). THE CARD IS WHAT COUNTS. Prove the row's statement (the work); the ties are given (YtdbfikcpaionbaaDoorTie.lean); close each card by the builder's one call (the guide's Derived/Test/ToyasCard.lean, 'card_holds'). Laid BY PROGRAM, IN A SANDBOX (cutbox-door.mjs). By AI agents, Wed Nov 11 2026. No macro, syntax, notation, axiom, sorry.
-/
import Derived.Test.YtdbfikcpaionbaaDoorRows
import GoSem.ClaimSeven
namespace Go.Proofs.YtdbfikcpaionbaaDoor
namespace Rows

/-- THE TIED CARD OF 'quaestorlaw30.KeeperOpens'. -/
def keeperOpensCard : Claim7 := { stood := { row := keeperOpensRow, standIns := [], harness := (true, "b8bb873c51d1ca2d5d4f004911b30f22941cb5f848fd8f695fb7fd769e264304"), looks := false }, kinds := [], alts := [], laidByText := true, laidKinds := [.data], laidTests := true, laidLooks := .later }
def KeeperOpensCardSaid : Prop := Claim7.holds Tryd.pinned (.plain (OpenSpec.ofChange keeperOpensSpec)) keeperOpensCard

/-- THE TIED CARD OF 'quaestorlaw30.KeeperFew'. -/
def keeperFewCard : Claim7 := { stood := { row := keeperFewRow, standIns := [], harness := (true, "b8bb873c51d1ca2d5d4f004911b30f22941cb5f848fd8f695fb7fd769e264304"), looks := false }, kinds := [], alts := [], laidByText := true, laidKinds := [.data], laidTests := true, laidLooks := .later }
def KeeperFewCardSaid : Prop := Claim7.holds Tryd.pinned (.plain (OpenSpec.ofChange keeperFewSpec)) keeperFewCard

/-- THE TIED CARD OF 'quaestorlaw30.KeeperTakes'. -/
def keeperTakesCard : Claim7 := { stood := { row := keeperTakesRow, standIns := [], harness := (true, "b8bb873c51d1ca2d5d4f004911b30f22941cb5f848fd8f695fb7fd769e264304"), looks := false }, kinds := [], alts := [], laidByText := true, laidKinds := [.data], laidTests := true, laidLooks := .later }
def KeeperTakesCardSaid : Prop := Claim7.holds Tryd.pinned (.plain (OpenSpec.ofChange keeperTakesSpec)) keeperTakesCard

/-- THE SECOND FORM's CARD OF 'quaestorlaw30.KeeperOpens'. -/
def keeperOpensUptoCard : Claim7 := { stood := { row := keeperOpensUptoRow, standIns := [], harness := (true, "b8bb873c51d1ca2d5d4f004911b30f22941cb5f848fd8f695fb7fd769e264304"), looks := false }, kinds := [], alts := [], laidByText := true, laidKinds := [.data], laidTests := true, laidLooks := .later }
def KeeperOpensUptoCardSaid : Prop := Claim7.holds Tryd.pinned (.plain (OpenSpec.upto keeperOpensSpec)) keeperOpensUptoCard

/-- THE SECOND FORM's CARD OF 'quaestorlaw30.KeeperFew'. -/
def keeperFewUptoCard : Claim7 := { stood := { row := keeperFewUptoRow, standIns := [], harness := (true, "b8bb873c51d1ca2d5d4f004911b30f22941cb5f848fd8f695fb7fd769e264304"), looks := false }, kinds := [], alts := [], laidByText := true, laidKinds := [.data], laidTests := true, laidLooks := .later }
def KeeperFewUptoCardSaid : Prop := Claim7.holds Tryd.pinned (.plain (OpenSpec.upto keeperFewSpec)) keeperFewUptoCard

/-- THE SECOND FORM's CARD OF 'quaestorlaw30.KeeperTakes'. -/
def keeperTakesUptoCard : Claim7 := { stood := { row := keeperTakesUptoRow, standIns := [], harness := (true, "b8bb873c51d1ca2d5d4f004911b30f22941cb5f848fd8f695fb7fd769e264304"), looks := false }, kinds := [], alts := [], laidByText := true, laidKinds := [.data], laidTests := true, laidLooks := .later }
def KeeperTakesUptoCardSaid : Prop := Claim7.holds Tryd.pinned (.plain (OpenSpec.upto keeperTakesSpec)) keeperTakesUptoCard
end Rows
end Go.Proofs.YtdbfikcpaionbaaDoor
