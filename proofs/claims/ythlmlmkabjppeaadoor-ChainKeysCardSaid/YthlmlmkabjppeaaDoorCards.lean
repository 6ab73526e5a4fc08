/-
  DERIVED. GIVEN WITH THE SEED: THE CARDS: each row of YthlmlmkabjppeaaDoorRows.lean that lists a variable, with what it lists TIED to the program's text (the seventh form; the later family's looks); each row that meets fmt, with fmt's text TOLD by the authors' own Lean function (tested against real Go, not proved from fmt's source: count such statements apart). THE CARD IS WHAT COUNTS. Prove the row's statement (the work); the ties are given (YthlmlmkabjppeaaDoorTie.lean); close each card by the builder's one call (the guide's Derived/Test/ToyasCard.lean, 'card_holds'). Laid BY PROGRAM, IN A SANDBOX (cutbox-door.mjs). By AI agents, Wed Nov 11 2026. No macro, syntax, notation, axiom, sorry.
-/
import Derived.Test.YthlmlmkabjppeaaDoorRows
import GoSem.ClaimSeven
namespace Go.Proofs.YthlmlmkabjppeaaDoor
namespace Rows

/-- THE TIED CARD OF 'quaestorlaw03.HkdfMacs'. -/
def hkdfMacsCard : Claim7 := { stood := { row := hkdfMacsRow, standIns := [], harness := (true, "00d67d0fc029d06f7e3b7889b7c42b3b29b437e5d7e6b60febe239e898a81daf"), looks := false }, kinds := [], alts := [], laidByText := true, laidKinds := [.data], laidTests := true, laidLooks := .later }
def HkdfMacsCardSaid : Prop := Claim7.holds Tryd.pinned (.plain (OpenSpec.ofChange hkdfMacsSpec)) hkdfMacsCard

/-- THE TIED CARD OF 'quaestorlaw02.ShaSums'. -/
def shaSumsCard : Claim7 := { stood := { row := shaSumsRow, standIns := [], harness := (true, "00d67d0fc029d06f7e3b7889b7c42b3b29b437e5d7e6b60febe239e898a81daf"), looks := false }, kinds := [], alts := [], laidByText := true, laidKinds := [.data], laidTests := true, laidLooks := .later }
def ShaSumsCardSaid : Prop := Claim7.holds Tryd.pinned (.plain (OpenSpec.ofChange shaSumsSpec)) shaSumsCard

/-- THE TIED CARD OF 'quaestorlaw03.HkdfExpands'. -/
def hkdfExpandsCard : Claim7 := { stood := { row := hkdfExpandsRow, standIns := [], harness := (true, "00d67d0fc029d06f7e3b7889b7c42b3b29b437e5d7e6b60febe239e898a81daf"), looks := false }, kinds := [], alts := [], laidByText := true, laidKinds := [.data], laidTests := true, laidLooks := .later }
def HkdfExpandsCardSaid : Prop := Claim7.holds Tryd.pinned (.plain (OpenSpec.ofChange hkdfExpandsSpec)) hkdfExpandsCard

/-- THE TIED CARD OF 'quaestorlaw02.ShaTexts'. -/
def shaTextsCard : Claim7 := { stood := { row := shaTextsRow, standIns := [], harness := (true, "00d67d0fc029d06f7e3b7889b7c42b3b29b437e5d7e6b60febe239e898a81daf"), looks := false }, kinds := [], alts := [], laidByText := true, laidKinds := [.data], laidTests := true, laidLooks := .later }
def ShaTextsCardSaid : Prop := Claim7.holds Tryd.pinned (.plain (OpenSpec.ofChange shaTextsSpec)) shaTextsCard

/-- THE TIED CARD OF 'quaestorlaw03.HkdfDerives'. -/
def hkdfDerivesCard : Claim7 := { stood := { row := hkdfDerivesRow, standIns := [], harness := (true, "00d67d0fc029d06f7e3b7889b7c42b3b29b437e5d7e6b60febe239e898a81daf"), looks := false }, kinds := [], alts := [], laidByText := true, laidKinds := [.data], laidTests := true, laidLooks := .later }
def HkdfDerivesCardSaid : Prop := Claim7.holds Tryd.pinned (.plain (OpenSpec.ofChange hkdfDerivesSpec)) hkdfDerivesCard

/-- THE TIED CARD OF 'quaestorlaw20.ChainGoes'. -/
def chainGoesCard : Claim7 := { stood := { row := chainGoesRow, standIns := [], harness := (true, "00d67d0fc029d06f7e3b7889b7c42b3b29b437e5d7e6b60febe239e898a81daf"), looks := false }, kinds := [], alts := [], laidByText := true, laidKinds := [.data], laidTests := true, laidLooks := .later }
def ChainGoesCardSaid : Prop := Claim7.holds Tryd.pinned (.plain (OpenSpec.ofChange chainGoesSpec)) chainGoesCard

/-- THE TIED CARD OF 'quaestorlaw20.ChainSteps'. -/
def chainStepsCard : Claim7 := { stood := { row := chainStepsRow, standIns := [], harness := (true, "00d67d0fc029d06f7e3b7889b7c42b3b29b437e5d7e6b60febe239e898a81daf"), looks := false }, kinds := [], alts := [], laidByText := true, laidKinds := [.data], laidTests := true, laidLooks := .later }
def ChainStepsCardSaid : Prop := Claim7.holds Tryd.pinned (.plain (OpenSpec.ofChange chainStepsSpec)) chainStepsCard

/-- THE TIED CARD OF 'quaestorlaw20.ChainKeys'. -/
def chainKeysCard : Claim7 := { stood := { row := chainKeysRow, standIns := [], harness := (true, "00d67d0fc029d06f7e3b7889b7c42b3b29b437e5d7e6b60febe239e898a81daf"), looks := false }, kinds := [], alts := [], laidByText := true, laidKinds := [.data], laidTests := true, laidLooks := .later }
def ChainKeysCardSaid : Prop := Claim7.holds Tryd.pinned (.plain (OpenSpec.ofChange chainKeysSpec)) chainKeysCard

/-- THE SECOND FORM's CARD OF 'quaestorlaw03.HkdfMacs'. -/
def hkdfMacsUptoCard : Claim7 := { stood := { row := hkdfMacsUptoRow, standIns := [], harness := (true, "00d67d0fc029d06f7e3b7889b7c42b3b29b437e5d7e6b60febe239e898a81daf"), looks := false }, kinds := [], alts := [], laidByText := true, laidKinds := [.data], laidTests := true, laidLooks := .later }
def HkdfMacsUptoCardSaid : Prop := Claim7.holds Tryd.pinned (.plain (OpenSpec.upto hkdfMacsSpec)) hkdfMacsUptoCard

/-- THE SECOND FORM's CARD OF 'quaestorlaw02.ShaSums'. -/
def shaSumsUptoCard : Claim7 := { stood := { row := shaSumsUptoRow, standIns := [], harness := (true, "00d67d0fc029d06f7e3b7889b7c42b3b29b437e5d7e6b60febe239e898a81daf"), looks := false }, kinds := [], alts := [], laidByText := true, laidKinds := [.data], laidTests := true, laidLooks := .later }
def ShaSumsUptoCardSaid : Prop := Claim7.holds Tryd.pinned (.plain (OpenSpec.upto shaSumsSpec)) shaSumsUptoCard

/-- THE SECOND FORM's CARD OF 'quaestorlaw03.HkdfExpands'. -/
def hkdfExpandsUptoCard : Claim7 := { stood := { row := hkdfExpandsUptoRow, standIns := [], harness := (true, "00d67d0fc029d06f7e3b7889b7c42b3b29b437e5d7e6b60febe239e898a81daf"), looks := false }, kinds := [], alts := [], laidByText := true, laidKinds := [.data], laidTests := true, laidLooks := .later }
def HkdfExpandsUptoCardSaid : Prop := Claim7.holds Tryd.pinned (.plain (OpenSpec.upto hkdfExpandsSpec)) hkdfExpandsUptoCard

/-- THE SECOND FORM's CARD OF 'quaestorlaw02.ShaTexts'. -/
def shaTextsUptoCard : Claim7 := { stood := { row := shaTextsUptoRow, standIns := [], harness := (true, "00d67d0fc029d06f7e3b7889b7c42b3b29b437e5d7e6b60febe239e898a81daf"), looks := false }, kinds := [], alts := [], laidByText := true, laidKinds := [.data], laidTests := true, laidLooks := .later }
def ShaTextsUptoCardSaid : Prop := Claim7.holds Tryd.pinned (.plain (OpenSpec.upto shaTextsSpec)) shaTextsUptoCard

/-- THE SECOND FORM's CARD OF 'quaestorlaw03.HkdfDerives'. -/
def hkdfDerivesUptoCard : Claim7 := { stood := { row := hkdfDerivesUptoRow, standIns := [], harness := (true, "00d67d0fc029d06f7e3b7889b7c42b3b29b437e5d7e6b60febe239e898a81daf"), looks := false }, kinds := [], alts := [], laidByText := true, laidKinds := [.data], laidTests := true, laidLooks := .later }
def HkdfDerivesUptoCardSaid : Prop := Claim7.holds Tryd.pinned (.plain (OpenSpec.upto hkdfDerivesSpec)) hkdfDerivesUptoCard

/-- THE SECOND FORM's CARD OF 'quaestorlaw20.ChainGoes'. -/
def chainGoesUptoCard : Claim7 := { stood := { row := chainGoesUptoRow, standIns := [], harness := (true, "00d67d0fc029d06f7e3b7889b7c42b3b29b437e5d7e6b60febe239e898a81daf"), looks := false }, kinds := [], alts := [], laidByText := true, laidKinds := [.data], laidTests := true, laidLooks := .later }
def ChainGoesUptoCardSaid : Prop := Claim7.holds Tryd.pinned (.plain (OpenSpec.upto chainGoesSpec)) chainGoesUptoCard

/-- THE SECOND FORM's CARD OF 'quaestorlaw20.ChainSteps'. -/
def chainStepsUptoCard : Claim7 := { stood := { row := chainStepsUptoRow, standIns := [], harness := (true, "00d67d0fc029d06f7e3b7889b7c42b3b29b437e5d7e6b60febe239e898a81daf"), looks := false }, kinds := [], alts := [], laidByText := true, laidKinds := [.data], laidTests := true, laidLooks := .later }
def ChainStepsUptoCardSaid : Prop := Claim7.holds Tryd.pinned (.plain (OpenSpec.upto chainStepsSpec)) chainStepsUptoCard

/-- THE SECOND FORM's CARD OF 'quaestorlaw20.ChainKeys'. -/
def chainKeysUptoCard : Claim7 := { stood := { row := chainKeysUptoRow, standIns := [], harness := (true, "00d67d0fc029d06f7e3b7889b7c42b3b29b437e5d7e6b60febe239e898a81daf"), looks := false }, kinds := [], alts := [], laidByText := true, laidKinds := [.data], laidTests := true, laidLooks := .later }
def ChainKeysUptoCardSaid : Prop := Claim7.holds Tryd.pinned (.plain (OpenSpec.upto chainKeysSpec)) chainKeysUptoCard
end Rows
end Go.Proofs.YthlmlmkabjppeaaDoor
