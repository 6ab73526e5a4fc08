/-
  DERIVED. GIVEN WITH THE SEED: THE CARDS: each row of YtaikejlcpnelpaaDoorRows.lean that lists a variable, with what it lists TIED to the program's text (the seventh form; the later family's looks); each row that meets fmt, with fmt's text TOLD by the authors' own Lean function (tested against real Go, not proved from fmt's source: count such statements apart). THE CARD IS WHAT COUNTS. Prove the row's statement (the work); the ties are given (YtaikejlcpnelpaaDoorTie.lean); close each card by the builder's one call (the guide's Derived/Test/ToyasCard.lean, 'card_holds'). Laid BY PROGRAM, IN A SANDBOX (cutbox-door.mjs). By AI agents, Wed Nov 11 2026. No macro, syntax, notation, axiom, sorry.
-/
import Derived.Test.YtaikejlcpnelpaaDoorRows
import GoSem.ClaimSeven
namespace Go.Proofs.YtaikejlcpnelpaaDoor
namespace Rows

/-- THE TIED CARD OF 'quaestorlaw16.BoxSeals'. -/
def boxSealsCard : Claim7 := { stood := { row := boxSealsRow, standIns := [], harness := (true, "d8d9edc23ed2f81f3b892f24cc9191527c221c12c804fcbb8e9d7c52408ff666"), looks := false }, kinds := [], alts := [], laidByText := true, laidKinds := [.data], laidTests := true, laidLooks := .later }
def BoxSealsCardSaid : Prop := Claim7.holds Tryd.pinned (.plain (OpenSpec.ofChange boxSealsSpec)) boxSealsCard

/-- THE TIED CARD OF 'quaestorlaw16.BoxOpens'. -/
def boxOpensCard : Claim7 := { stood := { row := boxOpensRow, standIns := [], harness := (true, "d8d9edc23ed2f81f3b892f24cc9191527c221c12c804fcbb8e9d7c52408ff666"), looks := false }, kinds := [], alts := [], laidByText := true, laidKinds := [.data], laidTests := true, laidLooks := .later }
def BoxOpensCardSaid : Prop := Claim7.holds Tryd.pinned (.plain (OpenSpec.ofChange boxOpensSpec)) boxOpensCard

/-- THE TIED CARD OF 'quaestorlaw16.BoxEven'. -/
def boxEvenCard : Claim7 := { stood := { row := boxEvenRow, standIns := [], harness := (true, "d8d9edc23ed2f81f3b892f24cc9191527c221c12c804fcbb8e9d7c52408ff666"), looks := false }, kinds := [], alts := [], laidByText := true, laidKinds := [.data], laidTests := true, laidLooks := .later }
def BoxEvenCardSaid : Prop := Claim7.holds Tryd.pinned (.plain (OpenSpec.ofChange boxEvenSpec)) boxEvenCard

/-- THE TIED CARD OF 'quaestorlaw16.BoxWraps'. -/
def boxWrapsCard : Claim7 := { stood := { row := boxWrapsRow, standIns := [], harness := (true, "d8d9edc23ed2f81f3b892f24cc9191527c221c12c804fcbb8e9d7c52408ff666"), looks := false }, kinds := [], alts := [], laidByText := true, laidKinds := [.data], laidTests := true, laidLooks := .later }
def BoxWrapsCardSaid : Prop := Claim7.holds Tryd.pinned (.plain (OpenSpec.ofChange boxWrapsSpec)) boxWrapsCard

/-- THE TIED CARD OF 'quaestorlaw16.BoxApart'. -/
def boxApartCard : Claim7 := { stood := { row := boxApartRow, standIns := [], harness := (true, "d8d9edc23ed2f81f3b892f24cc9191527c221c12c804fcbb8e9d7c52408ff666"), looks := false }, kinds := [], alts := [], laidByText := true, laidKinds := [.data], laidTests := true, laidLooks := .later }
def BoxApartCardSaid : Prop := Claim7.holds Tryd.pinned (.plain (OpenSpec.ofChange boxApartSpec)) boxApartCard

/-- THE SECOND FORM's CARD OF 'quaestorlaw16.BoxSeals'. -/
def boxSealsUptoCard : Claim7 := { stood := { row := boxSealsUptoRow, standIns := [], harness := (true, "d8d9edc23ed2f81f3b892f24cc9191527c221c12c804fcbb8e9d7c52408ff666"), looks := false }, kinds := [], alts := [], laidByText := true, laidKinds := [.data], laidTests := true, laidLooks := .later }
def BoxSealsUptoCardSaid : Prop := Claim7.holds Tryd.pinned (.plain (OpenSpec.upto boxSealsSpec)) boxSealsUptoCard

/-- THE SECOND FORM's CARD OF 'quaestorlaw16.BoxOpens'. -/
def boxOpensUptoCard : Claim7 := { stood := { row := boxOpensUptoRow, standIns := [], harness := (true, "d8d9edc23ed2f81f3b892f24cc9191527c221c12c804fcbb8e9d7c52408ff666"), looks := false }, kinds := [], alts := [], laidByText := true, laidKinds := [.data], laidTests := true, laidLooks := .later }
def BoxOpensUptoCardSaid : Prop := Claim7.holds Tryd.pinned (.plain (OpenSpec.upto boxOpensSpec)) boxOpensUptoCard

/-- THE SECOND FORM's CARD OF 'quaestorlaw16.BoxEven'. -/
def boxEvenUptoCard : Claim7 := { stood := { row := boxEvenUptoRow, standIns := [], harness := (true, "d8d9edc23ed2f81f3b892f24cc9191527c221c12c804fcbb8e9d7c52408ff666"), looks := false }, kinds := [], alts := [], laidByText := true, laidKinds := [.data], laidTests := true, laidLooks := .later }
def BoxEvenUptoCardSaid : Prop := Claim7.holds Tryd.pinned (.plain (OpenSpec.upto boxEvenSpec)) boxEvenUptoCard

/-- THE SECOND FORM's CARD OF 'quaestorlaw16.BoxWraps'. -/
def boxWrapsUptoCard : Claim7 := { stood := { row := boxWrapsUptoRow, standIns := [], harness := (true, "d8d9edc23ed2f81f3b892f24cc9191527c221c12c804fcbb8e9d7c52408ff666"), looks := false }, kinds := [], alts := [], laidByText := true, laidKinds := [.data], laidTests := true, laidLooks := .later }
def BoxWrapsUptoCardSaid : Prop := Claim7.holds Tryd.pinned (.plain (OpenSpec.upto boxWrapsSpec)) boxWrapsUptoCard

/-- THE SECOND FORM's CARD OF 'quaestorlaw16.BoxApart'. -/
def boxApartUptoCard : Claim7 := { stood := { row := boxApartUptoRow, standIns := [], harness := (true, "d8d9edc23ed2f81f3b892f24cc9191527c221c12c804fcbb8e9d7c52408ff666"), looks := false }, kinds := [], alts := [], laidByText := true, laidKinds := [.data], laidTests := true, laidLooks := .later }
def BoxApartUptoCardSaid : Prop := Claim7.holds Tryd.pinned (.plain (OpenSpec.upto boxApartSpec)) boxApartUptoCard
end Rows
end Go.Proofs.YtaikejlcpnelpaaDoor
