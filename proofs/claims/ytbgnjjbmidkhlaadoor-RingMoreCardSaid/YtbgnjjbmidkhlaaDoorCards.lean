/-
  DERIVED. GIVEN WITH THE SEED: THE CARDS: each row of YtbgnjjbmidkhlaaDoorRows.lean that lists a variable, with what it lists TIED to the program's text (the seventh form; the later family's looks); each row that meets fmt, with fmt's text TOLD by the authors' own Lean function (tested against real Go, not proved from fmt's source: count such statements apart). THE CARD IS WHAT COUNTS. Prove the row's statement (the work); the ties are given (YtbgnjjbmidkhlaaDoorTie.lean); close each card by the builder's one call (the guide's Derived/Test/ToyasCard.lean, 'card_holds'). Laid BY PROGRAM, IN A SANDBOX (cutbox-door.mjs). By AI agents, Wed Nov 11 2026. No macro, syntax, notation, axiom, sorry.
-/
import Derived.Test.YtbgnjjbmidkhlaaDoorRows
import GoSem.ClaimSeven
namespace Go.Proofs.YtbgnjjbmidkhlaaDoor
namespace Rows

/-- THE TIED CARD OF 'quaestorlaw18.RingNodes'. -/
def ringNodesCard : Claim7 := { stood := { row := ringNodesRow, standIns := [], harness := (true, "8e375b0f5c55a9fd9d8bee3e5958c05f8d1a64e1afac230cfa149e869d8f7fb2"), looks := false }, kinds := [], alts := [], laidByText := true, laidKinds := [.data], laidTests := true, laidLooks := .later }
def RingNodesCardSaid : Prop := Claim7.holds Tryd.pinned (.plain (OpenSpec.ofChange ringNodesSpec)) ringNodesCard

/-- THE TIED CARD OF 'quaestorlaw18.RingMore'. -/
def ringMoreCard : Claim7 := { stood := { row := ringMoreRow, standIns := [], harness := (true, "8e375b0f5c55a9fd9d8bee3e5958c05f8d1a64e1afac230cfa149e869d8f7fb2"), looks := false }, kinds := [], alts := [], laidByText := true, laidKinds := [.data], laidTests := true, laidLooks := .later }
def RingMoreCardSaid : Prop := Claim7.holds Tryd.pinned (.plain (OpenSpec.ofChange ringMoreSpec)) ringMoreCard

/-- THE SECOND FORM's CARD OF 'quaestorlaw18.RingNodes'. -/
def ringNodesUptoCard : Claim7 := { stood := { row := ringNodesUptoRow, standIns := [], harness := (true, "8e375b0f5c55a9fd9d8bee3e5958c05f8d1a64e1afac230cfa149e869d8f7fb2"), looks := false }, kinds := [], alts := [], laidByText := true, laidKinds := [.data], laidTests := true, laidLooks := .later }
def RingNodesUptoCardSaid : Prop := Claim7.holds Tryd.pinned (.plain (OpenSpec.upto ringNodesSpec)) ringNodesUptoCard

/-- THE SECOND FORM's CARD OF 'quaestorlaw18.RingMore'. -/
def ringMoreUptoCard : Claim7 := { stood := { row := ringMoreUptoRow, standIns := [], harness := (true, "8e375b0f5c55a9fd9d8bee3e5958c05f8d1a64e1afac230cfa149e869d8f7fb2"), looks := false }, kinds := [], alts := [], laidByText := true, laidKinds := [.data], laidTests := true, laidLooks := .later }
def RingMoreUptoCardSaid : Prop := Claim7.holds Tryd.pinned (.plain (OpenSpec.upto ringMoreSpec)) ringMoreUptoCard
end Rows
end Go.Proofs.YtbgnjjbmidkhlaaDoor
