/-
  DERIVED. GIVEN WITH THE SEED: THE CARDS: each row of YtfblpkjablgafaaDoorRows.lean that lists a variable, with what it lists TIED to the program's text (the seventh form; the later family's looks); each row that meets fmt, with fmt's text TOLD by the authors' own Lean function (tested against real Go, not proved from fmt's source: count such statements apart). THE CARD IS WHAT COUNTS. Prove the row's statement (the work); the ties are given (YtfblpkjablgafaaDoorTie.lean); close each card by the builder's one call (the guide's Derived/Test/ToyasCard.lean, 'card_holds'). Laid BY PROGRAM, IN A SANDBOX (cutbox-door.mjs). By AI agents, Wed Nov 11 2026. No macro, syntax, notation, axiom, sorry.
-/
import Derived.Test.YtfblpkjablgafaaDoorRows
import GoSem.ClaimSeven
namespace Go.Proofs.YtfblpkjablgafaaDoor
namespace Rows

/-- THE TIED CARD OF 'quaestorlaw06.AeadSeals'. -/
def aeadSealsCard : Claim7 := { stood := { row := aeadSealsRow, standIns := [], harness := (true, "c8c563eee161481024cc70d1bb5225e32c620319a4b4011eba73a17cd20d8491"), looks := false }, kinds := [], alts := [], laidByText := true, laidKinds := [.data], laidTests := true, laidLooks := .later }
def AeadSealsCardSaid : Prop := Claim7.holds Tryd.pinned (.plain (OpenSpec.ofChange aeadSealsSpec)) aeadSealsCard

/-- THE TIED CARD OF 'quaestorlaw06.AeadOpens'. -/
def aeadOpensCard : Claim7 := { stood := { row := aeadOpensRow, standIns := [], harness := (true, "c8c563eee161481024cc70d1bb5225e32c620319a4b4011eba73a17cd20d8491"), looks := false }, kinds := [], alts := [], laidByText := true, laidKinds := [.data], laidTests := true, laidLooks := .later }
def AeadOpensCardSaid : Prop := Claim7.holds Tryd.pinned (.plain (OpenSpec.ofChange aeadOpensSpec)) aeadOpensCard

/-- THE TIED CARD OF 'quaestorlaw06.AeadLong'. -/
def aeadLongCard : Claim7 := { stood := { row := aeadLongRow, standIns := [], harness := (true, "c8c563eee161481024cc70d1bb5225e32c620319a4b4011eba73a17cd20d8491"), looks := false }, kinds := [], alts := [], laidByText := true, laidKinds := [.data], laidTests := true, laidLooks := .later }
def AeadLongCardSaid : Prop := Claim7.holds Tryd.pinned (.plain (OpenSpec.ofChange aeadLongSpec)) aeadLongCard

/-- THE TIED CARD OF 'quaestorlaw06.AeadNonces'. -/
def aeadNoncesCard : Claim7 := { stood := { row := aeadNoncesRow, standIns := [], harness := (true, "c8c563eee161481024cc70d1bb5225e32c620319a4b4011eba73a17cd20d8491"), looks := false }, kinds := [], alts := [], laidByText := true, laidKinds := [.data], laidTests := true, laidLooks := .later }
def AeadNoncesCardSaid : Prop := Claim7.holds Tryd.pinned (.plain (OpenSpec.ofChange aeadNoncesSpec)) aeadNoncesCard

/-- THE SECOND FORM's CARD OF 'quaestorlaw06.AeadSeals'. -/
def aeadSealsUptoCard : Claim7 := { stood := { row := aeadSealsUptoRow, standIns := [], harness := (true, "c8c563eee161481024cc70d1bb5225e32c620319a4b4011eba73a17cd20d8491"), looks := false }, kinds := [], alts := [], laidByText := true, laidKinds := [.data], laidTests := true, laidLooks := .later }
def AeadSealsUptoCardSaid : Prop := Claim7.holds Tryd.pinned (.plain (OpenSpec.upto aeadSealsSpec)) aeadSealsUptoCard

/-- THE SECOND FORM's CARD OF 'quaestorlaw06.AeadOpens'. -/
def aeadOpensUptoCard : Claim7 := { stood := { row := aeadOpensUptoRow, standIns := [], harness := (true, "c8c563eee161481024cc70d1bb5225e32c620319a4b4011eba73a17cd20d8491"), looks := false }, kinds := [], alts := [], laidByText := true, laidKinds := [.data], laidTests := true, laidLooks := .later }
def AeadOpensUptoCardSaid : Prop := Claim7.holds Tryd.pinned (.plain (OpenSpec.upto aeadOpensSpec)) aeadOpensUptoCard

/-- THE SECOND FORM's CARD OF 'quaestorlaw06.AeadLong'. -/
def aeadLongUptoCard : Claim7 := { stood := { row := aeadLongUptoRow, standIns := [], harness := (true, "c8c563eee161481024cc70d1bb5225e32c620319a4b4011eba73a17cd20d8491"), looks := false }, kinds := [], alts := [], laidByText := true, laidKinds := [.data], laidTests := true, laidLooks := .later }
def AeadLongUptoCardSaid : Prop := Claim7.holds Tryd.pinned (.plain (OpenSpec.upto aeadLongSpec)) aeadLongUptoCard

/-- THE SECOND FORM's CARD OF 'quaestorlaw06.AeadNonces'. -/
def aeadNoncesUptoCard : Claim7 := { stood := { row := aeadNoncesUptoRow, standIns := [], harness := (true, "c8c563eee161481024cc70d1bb5225e32c620319a4b4011eba73a17cd20d8491"), looks := false }, kinds := [], alts := [], laidByText := true, laidKinds := [.data], laidTests := true, laidLooks := .later }
def AeadNoncesUptoCardSaid : Prop := Claim7.holds Tryd.pinned (.plain (OpenSpec.upto aeadNoncesSpec)) aeadNoncesUptoCard
end Rows
end Go.Proofs.YtfblpkjablgafaaDoor
