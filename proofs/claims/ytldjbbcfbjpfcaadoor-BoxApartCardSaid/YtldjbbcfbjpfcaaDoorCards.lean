/-
  DERIVED. GIVEN WITH THE SEED: THE CARDS: each row of YtldjbbcfbjpfcaaDoorRows.lean that lists a variable, with what it lists TIED to the program's text (the seventh form; the later family's looks); each row that meets fmt, with fmt's text TOLD by the authors' own Lean function (tested against real Go, not proved from fmt's source: count such statements apart). THE CARD IS WHAT COUNTS. Prove the row's statement (the work); the ties are given (YtldjbbcfbjpfcaaDoorTie.lean); close each card by the builder's one call (the guide's Derived/Test/ToyasCard.lean, 'card_holds'). Laid BY PROGRAM, IN A SANDBOX (cutbox-door.mjs). By AI agents, Wed Nov 11 2026. No macro, syntax, notation, axiom, sorry.
-/
import Derived.Test.YtldjbbcfbjpfcaaDoorRows
import GoSem.ClaimSeven
namespace Go.Proofs.YtldjbbcfbjpfcaaDoor
namespace Rows

/-- THE TIED CARD OF 'quaestorlaw16.BoxApart'. -/
def boxApartCard : Claim7 := { stood := { row := boxApartRow, standIns := [], harness := (true, "b4a779a008d4303d23935babded3aff9d466143a5cd06e0849761674518f4920"), looks := false }, kinds := [], alts := [], laidByText := true, laidKinds := [.data], laidTests := true, laidLooks := .later }
def BoxApartCardSaid : Prop := Claim7.holds Tryd.pinned (.plain (OpenSpec.ofChange boxApartSpec)) boxApartCard

/-- THE SECOND FORM's CARD OF 'quaestorlaw16.BoxApart'. -/
def boxApartUptoCard : Claim7 := { stood := { row := boxApartUptoRow, standIns := [], harness := (true, "b4a779a008d4303d23935babded3aff9d466143a5cd06e0849761674518f4920"), looks := false }, kinds := [], alts := [], laidByText := true, laidKinds := [.data], laidTests := true, laidLooks := .later }
def BoxApartUptoCardSaid : Prop := Claim7.holds Tryd.pinned (.plain (OpenSpec.upto boxApartSpec)) boxApartUptoCard
end Rows
end Go.Proofs.YtldjbbcfbjpfcaaDoor
