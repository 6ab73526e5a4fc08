/-
  NARROWER THAN 'FOR EVERY INPUT', by the rows' own cells (each row's printed sentence says how): HkdfMacs: laid · ShaSums: laid · HkdfExpands: laid · ShaTexts: laid · HkdfDerives: laid · ChainGoes: laid · ChainSteps: laid · ChainKeys: laid.
  DERIVED. THE GIVEN ROWS OF THIS SEAT. 8 by the template 'for every input the law returns true; each argument reads behind the call as it read before'; 0 by the template 'total and deterministic' (their statements: YthlmlmkabjppeaaDoorTotals.lean).
  GIVEN WITH THE SEED: the statements are not yours to turn. If you find one false, say at which input.
  Laid BY PROGRAM, IN A SANDBOX (cutbox-rows.mjs): the forced cells as the released guide's own fill.sh prints them over the translation 5c6ca2264c4b5b79… (all of the seat's roots in one cut). By AI agents, Wed Nov 11 2026. No macro, syntax, notation, axiom, sorry.
-/
import Derived.Test.YthlmlmkabjppeaaDoorChecked
import GoSem.Claim
import GoSem.ClaimJoined
import GoSem.ClaimMapViews
import Derived.JoinedTies
import Derived.KernelRfl
namespace Go.Proofs.YthlmlmkabjppeaaDoor
/- THE CELL 'sum', in the pinned program and in every row, IS THE sha256 OF THE DUMP (.gsa) THAT YthlmlmkabjppeaaDoorProg.lean LOADS. Nothing in Lean hashes anything: it is a label: what it is worth is what the hold of that sum in a sandbox is worth. -/
noncomputable def Tryd.pinned : Pinned := { name := "ythlmlmkabjppeaadoor", sum := "5c6ca2264c4b5b79e5720f0ee90d1f690e8d3bb2549fa2f245c8c8afb9b27729", checked := Tryd.checked }
namespace Rows
def none {H : Type} : Left H := { results := [], args := [] }

/- WHAT THE LISTED PACKAGE-LEVEL VARIABLES READ AS WHEN THE CALL BEGINS. Each datum BY PROGRAM (the guide's laid-datum.mjs) off the statement by which the dump's own 'gosem.cut.vars' lays the variable. In a bare row this is a premise. The card (YthlmlmkabjppeaaDoorCards.lean) ties it to the program's text. -/
def laid_quaestor_sha_rounds {H : Type} : DataW H := .agg [.lit (.int .u32 1116352408), .lit (.int .u32 1899447441), .lit (.int .u32 3049323471), .lit (.int .u32 3921009573), .lit (.int .u32 961987163), .lit (.int .u32 1508970993), .lit (.int .u32 2453635748), .lit (.int .u32 2870763221), .lit (.int .u32 3624381080), .lit (.int .u32 310598401), .lit (.int .u32 607225278), .lit (.int .u32 1426881987), .lit (.int .u32 1925078388), .lit (.int .u32 2162078206), .lit (.int .u32 2614888103), .lit (.int .u32 3248222580), .lit (.int .u32 3835390401), .lit (.int .u32 4022224774), .lit (.int .u32 264347078), .lit (.int .u32 604807628), .lit (.int .u32 770255983), .lit (.int .u32 1249150122), .lit (.int .u32 1555081692), .lit (.int .u32 1996064986), .lit (.int .u32 2554220882), .lit (.int .u32 2821834349), .lit (.int .u32 2952996808), .lit (.int .u32 3210313671), .lit (.int .u32 3336571891), .lit (.int .u32 3584528711), .lit (.int .u32 113926993), .lit (.int .u32 338241895), .lit (.int .u32 666307205), .lit (.int .u32 773529912), .lit (.int .u32 1294757372), .lit (.int .u32 1396182291), .lit (.int .u32 1695183700), .lit (.int .u32 1986661051), .lit (.int .u32 2177026350), .lit (.int .u32 2456956037), .lit (.int .u32 2730485921), .lit (.int .u32 2820302411), .lit (.int .u32 3259730800), .lit (.int .u32 3345764771), .lit (.int .u32 3516065817), .lit (.int .u32 3600352804), .lit (.int .u32 4094571909), .lit (.int .u32 275423344), .lit (.int .u32 430227734), .lit (.int .u32 506948616), .lit (.int .u32 659060556), .lit (.int .u32 883997877), .lit (.int .u32 958139571), .lit (.int .u32 1322822218), .lit (.int .u32 1537002063), .lit (.int .u32 1747873779), .lit (.int .u32 1955562222), .lit (.int .u32 2024104815), .lit (.int .u32 2227730452), .lit (.int .u32 2361852424), .lit (.int .u32 2428436474), .lit (.int .u32 2756734187), .lit (.int .u32 3204031479), .lit (.int .u32 3329325298)]

/-- 'quaestorlaw03.HkdfMacs': WHATEVER THE INPUT: true; the input reads as it did. -/
def hkdfMacsSpec : ChangeSpec := { name := "hkdfMacs", fn := fun _ => fun
  | [d1, d2] => { results := [.lit (.bool true)], args := [d1, d2] }
  | _ => none }
def hkdfMacsRow : OpenClaim := { program := "ythlmlmkabjppeaadoor", sum := "5c6ca2264c4b5b79e5720f0ee90d1f690e8d3bb2549fa2f245c8c8afb9b27729", func := "quaestor/quaestorlaw03.HkdfMacs", spec := "hkdfMacs", named := ["quaestor/sha.rounds"], apart := false, laid := [("quaestor/sha.rounds", laid_quaestor_sha_rounds)] }
def HkdfMacsSaid : Prop := hkdfMacsRow.holds Tryd.pinned (OpenSpec.ofChange hkdfMacsSpec)

/-- ITS FALSE NEIGHBOUR: 'it returns false'. Refute it at one input. -/
def hkdfMacsWrong : ChangeSpec := { name := "hkdfMacs", fn := fun _ => fun
  | [d1, d2] => { results := [.lit (.bool false)], args := [d1, d2] }
  | _ => none }
def HkdfMacsWrongFalsely : Prop := hkdfMacsRow.holds Tryd.pinned (OpenSpec.ofChange hkdfMacsWrong)

/-- 'quaestorlaw02.ShaSums': WHATEVER THE INPUT: true; the input reads as it did. -/
def shaSumsSpec : ChangeSpec := { name := "shaSums", fn := fun _ => fun
  | [d1, d2, d3] => { results := [.lit (.bool true)], args := [d1, d2, d3] }
  | _ => none }
def shaSumsRow : OpenClaim := { program := "ythlmlmkabjppeaadoor", sum := "5c6ca2264c4b5b79e5720f0ee90d1f690e8d3bb2549fa2f245c8c8afb9b27729", func := "quaestor/quaestorlaw02.ShaSums", spec := "shaSums", named := ["quaestor/sha.rounds"], apart := false, laid := [("quaestor/sha.rounds", laid_quaestor_sha_rounds)] }
def ShaSumsSaid : Prop := shaSumsRow.holds Tryd.pinned (OpenSpec.ofChange shaSumsSpec)

/-- ITS FALSE NEIGHBOUR: 'it returns false'. Refute it at one input. -/
def shaSumsWrong : ChangeSpec := { name := "shaSums", fn := fun _ => fun
  | [d1, d2, d3] => { results := [.lit (.bool false)], args := [d1, d2, d3] }
  | _ => none }
def ShaSumsWrongFalsely : Prop := shaSumsRow.holds Tryd.pinned (OpenSpec.ofChange shaSumsWrong)

/-- 'quaestorlaw03.HkdfExpands': WHATEVER THE INPUT: true; the input reads as it did. -/
def hkdfExpandsSpec : ChangeSpec := { name := "hkdfExpands", fn := fun _ => fun
  | [d1, d2, d3, d4] => { results := [.lit (.bool true)], args := [d1, d2, d3, d4] }
  | _ => none }
def hkdfExpandsRow : OpenClaim := { program := "ythlmlmkabjppeaadoor", sum := "5c6ca2264c4b5b79e5720f0ee90d1f690e8d3bb2549fa2f245c8c8afb9b27729", func := "quaestor/quaestorlaw03.HkdfExpands", spec := "hkdfExpands", named := ["quaestor/sha.rounds"], apart := false, laid := [("quaestor/sha.rounds", laid_quaestor_sha_rounds)] }
def HkdfExpandsSaid : Prop := hkdfExpandsRow.holds Tryd.pinned (OpenSpec.ofChange hkdfExpandsSpec)

/-- ITS FALSE NEIGHBOUR: 'it returns false'. Refute it at one input. -/
def hkdfExpandsWrong : ChangeSpec := { name := "hkdfExpands", fn := fun _ => fun
  | [d1, d2, d3, d4] => { results := [.lit (.bool false)], args := [d1, d2, d3, d4] }
  | _ => none }
def HkdfExpandsWrongFalsely : Prop := hkdfExpandsRow.holds Tryd.pinned (OpenSpec.ofChange hkdfExpandsWrong)

/-- 'quaestorlaw02.ShaTexts': WHATEVER THE INPUT: true; the input reads as it did. -/
def shaTextsSpec : ChangeSpec := { name := "shaTexts", fn := fun _ => fun
  | [d1, d2] => { results := [.lit (.bool true)], args := [d1, d2] }
  | _ => none }
def shaTextsRow : OpenClaim := { program := "ythlmlmkabjppeaadoor", sum := "5c6ca2264c4b5b79e5720f0ee90d1f690e8d3bb2549fa2f245c8c8afb9b27729", func := "quaestor/quaestorlaw02.ShaTexts", spec := "shaTexts", named := ["quaestor/sha.rounds"], apart := false, laid := [("quaestor/sha.rounds", laid_quaestor_sha_rounds)] }
def ShaTextsSaid : Prop := shaTextsRow.holds Tryd.pinned (OpenSpec.ofChange shaTextsSpec)

/-- ITS FALSE NEIGHBOUR: 'it returns false'. Refute it at one input. -/
def shaTextsWrong : ChangeSpec := { name := "shaTexts", fn := fun _ => fun
  | [d1, d2] => { results := [.lit (.bool false)], args := [d1, d2] }
  | _ => none }
def ShaTextsWrongFalsely : Prop := shaTextsRow.holds Tryd.pinned (OpenSpec.ofChange shaTextsWrong)

/-- 'quaestorlaw03.HkdfDerives': WHATEVER THE INPUT: true; the input reads as it did. -/
def hkdfDerivesSpec : ChangeSpec := { name := "hkdfDerives", fn := fun _ => fun
  | [d1, d2, d3] => { results := [.lit (.bool true)], args := [d1, d2, d3] }
  | _ => none }
def hkdfDerivesRow : OpenClaim := { program := "ythlmlmkabjppeaadoor", sum := "5c6ca2264c4b5b79e5720f0ee90d1f690e8d3bb2549fa2f245c8c8afb9b27729", func := "quaestor/quaestorlaw03.HkdfDerives", spec := "hkdfDerives", named := ["quaestor/sha.rounds"], apart := false, laid := [("quaestor/sha.rounds", laid_quaestor_sha_rounds)] }
def HkdfDerivesSaid : Prop := hkdfDerivesRow.holds Tryd.pinned (OpenSpec.ofChange hkdfDerivesSpec)

/-- ITS FALSE NEIGHBOUR: 'it returns false'. Refute it at one input. -/
def hkdfDerivesWrong : ChangeSpec := { name := "hkdfDerives", fn := fun _ => fun
  | [d1, d2, d3] => { results := [.lit (.bool false)], args := [d1, d2, d3] }
  | _ => none }
def HkdfDerivesWrongFalsely : Prop := hkdfDerivesRow.holds Tryd.pinned (OpenSpec.ofChange hkdfDerivesWrong)

/-- 'quaestorlaw20.ChainGoes': WHATEVER THE INPUT: true; the input reads as it did. -/
def chainGoesSpec : ChangeSpec := { name := "chainGoes", fn := fun _ => fun
  | [d1, d2] => { results := [.lit (.bool true)], args := [d1, d2] }
  | _ => none }
def chainGoesRow : OpenClaim := { program := "ythlmlmkabjppeaadoor", sum := "5c6ca2264c4b5b79e5720f0ee90d1f690e8d3bb2549fa2f245c8c8afb9b27729", func := "quaestor/quaestorlaw20.ChainGoes", spec := "chainGoes", named := ["quaestor/sha.rounds"], apart := false, laid := [("quaestor/sha.rounds", laid_quaestor_sha_rounds)] }
def ChainGoesSaid : Prop := chainGoesRow.holds Tryd.pinned (OpenSpec.ofChange chainGoesSpec)

/-- ITS FALSE NEIGHBOUR: 'it returns false'. Refute it at one input. -/
def chainGoesWrong : ChangeSpec := { name := "chainGoes", fn := fun _ => fun
  | [d1, d2] => { results := [.lit (.bool false)], args := [d1, d2] }
  | _ => none }
def ChainGoesWrongFalsely : Prop := chainGoesRow.holds Tryd.pinned (OpenSpec.ofChange chainGoesWrong)

/-- 'quaestorlaw20.ChainSteps': WHATEVER THE INPUT: true; the input reads as it did. -/
def chainStepsSpec : ChangeSpec := { name := "chainSteps", fn := fun _ => fun
  | [d1, d2, d3, d4] => { results := [.lit (.bool true)], args := [d1, d2, d3, d4] }
  | _ => none }
def chainStepsRow : OpenClaim := { program := "ythlmlmkabjppeaadoor", sum := "5c6ca2264c4b5b79e5720f0ee90d1f690e8d3bb2549fa2f245c8c8afb9b27729", func := "quaestor/quaestorlaw20.ChainSteps", spec := "chainSteps", named := ["quaestor/sha.rounds"], apart := false, laid := [("quaestor/sha.rounds", laid_quaestor_sha_rounds)] }
def ChainStepsSaid : Prop := chainStepsRow.holds Tryd.pinned (OpenSpec.ofChange chainStepsSpec)

/-- ITS FALSE NEIGHBOUR: 'it returns false'. Refute it at one input. -/
def chainStepsWrong : ChangeSpec := { name := "chainSteps", fn := fun _ => fun
  | [d1, d2, d3, d4] => { results := [.lit (.bool false)], args := [d1, d2, d3, d4] }
  | _ => none }
def ChainStepsWrongFalsely : Prop := chainStepsRow.holds Tryd.pinned (OpenSpec.ofChange chainStepsWrong)

/-- 'quaestorlaw20.ChainKeys': WHATEVER THE INPUT: true; the input reads as it did. -/
def chainKeysSpec : ChangeSpec := { name := "chainKeys", fn := fun _ => fun
  | [d1, d2, d3, d4, d5] => { results := [.lit (.bool true)], args := [d1, d2, d3, d4, d5] }
  | _ => none }
def chainKeysRow : OpenClaim := { program := "ythlmlmkabjppeaadoor", sum := "5c6ca2264c4b5b79e5720f0ee90d1f690e8d3bb2549fa2f245c8c8afb9b27729", func := "quaestor/quaestorlaw20.ChainKeys", spec := "chainKeys", named := ["quaestor/sha.rounds"], apart := false, laid := [("quaestor/sha.rounds", laid_quaestor_sha_rounds)] }
def ChainKeysSaid : Prop := chainKeysRow.holds Tryd.pinned (OpenSpec.ofChange chainKeysSpec)

/-- ITS FALSE NEIGHBOUR: 'it returns false'. Refute it at one input. -/
def chainKeysWrong : ChangeSpec := { name := "chainKeys", fn := fun _ => fun
  | [d1, d2, d3, d4, d5] => { results := [.lit (.bool false)], args := [d1, d2, d3, d4, d5] }
  | _ => none }
def ChainKeysWrongFalsely : Prop := chainKeysRow.holds Tryd.pinned (OpenSpec.ofChange chainKeysWrong)

/- THE SECOND FORM. 'bulk': how many values and letters a reading holds, each counted each time it is reached (what is shared counts as often as it is met; a slice's spare places count too). A statement '..UptoSaid' is the law's where the arguments, and the package variables that the reading takes, are together of bulk at most 1048576: NARROWER than '..Said'. Prove '..Said' where nothing that the law and all that it calls make is longer than what came in: it says more and counts as full. Else prove '..UptoSaid'. A law counts once. -/
mutual
def uptoBulk {H : Type} : DataW H → Nat
  | .lit (.string bytes) => bytes.length + 1
  | .lit _ => 1
  | .nil => 1
  | .ptr d => uptoBulk d + 1
  | .slice elems spare => uptoBulkAll elems + uptoBulkAll spare + 1
  | .agg parts => uptoBulkAll parts + 1
  | .iface _ d => uptoBulk d + 1
  | .map entries => uptoBulkEntries entries + 1
  | .held _ => 1
def uptoBulkAll {H : Type} : List (DataW H) → Nat
  | [] => 0
  | d :: r => uptoBulk d + uptoBulkAll r
def uptoBulkEntries {H : Type} : List (Lit × DataW H) → Nat
  | [] => 0
  | x :: r => uptoBulkEntry x + uptoBulkEntries r
def uptoBulkEntry {H : Type} : Lit × DataW H → Nat
  | (.string bytes, d) => bytes.length + uptoBulk d + 1
  | (_, d) => uptoBulk d + 1
 end
def uptoSmall : (H : Type) → List (DataW H) → Bool := fun _ ds => decide (uptoBulkAll ds ≤ 1048576)
def OpenSpec.upto (s : _root_.Go.ChangeSpec) : _root_.Go.OpenSpec := { _root_.Go.OpenSpec.ofChange s with cond := some uptoSmall }

/-- 'quaestorlaw03.HkdfMacs', WHERE WHAT IT READS IS OF BULK AT MOST 1048576: true; the input reads as it did. -/
def hkdfMacsUptoRow : OpenClaim := { program := "ythlmlmkabjppeaadoor", sum := "5c6ca2264c4b5b79e5720f0ee90d1f690e8d3bb2549fa2f245c8c8afb9b27729", func := "quaestor/quaestorlaw03.HkdfMacs", spec := "hkdfMacs", named := ["quaestor/sha.rounds"], apart := false, laid := [("quaestor/sha.rounds", laid_quaestor_sha_rounds)], narrowed := true }
def HkdfMacsUptoSaid : Prop := hkdfMacsUptoRow.holds Tryd.pinned (OpenSpec.upto hkdfMacsSpec)

/-- 'quaestorlaw02.ShaSums', WHERE WHAT IT READS IS OF BULK AT MOST 1048576: true; the input reads as it did. -/
def shaSumsUptoRow : OpenClaim := { program := "ythlmlmkabjppeaadoor", sum := "5c6ca2264c4b5b79e5720f0ee90d1f690e8d3bb2549fa2f245c8c8afb9b27729", func := "quaestor/quaestorlaw02.ShaSums", spec := "shaSums", named := ["quaestor/sha.rounds"], apart := false, laid := [("quaestor/sha.rounds", laid_quaestor_sha_rounds)], narrowed := true }
def ShaSumsUptoSaid : Prop := shaSumsUptoRow.holds Tryd.pinned (OpenSpec.upto shaSumsSpec)

/-- 'quaestorlaw03.HkdfExpands', WHERE WHAT IT READS IS OF BULK AT MOST 1048576: true; the input reads as it did. -/
def hkdfExpandsUptoRow : OpenClaim := { program := "ythlmlmkabjppeaadoor", sum := "5c6ca2264c4b5b79e5720f0ee90d1f690e8d3bb2549fa2f245c8c8afb9b27729", func := "quaestor/quaestorlaw03.HkdfExpands", spec := "hkdfExpands", named := ["quaestor/sha.rounds"], apart := false, laid := [("quaestor/sha.rounds", laid_quaestor_sha_rounds)], narrowed := true }
def HkdfExpandsUptoSaid : Prop := hkdfExpandsUptoRow.holds Tryd.pinned (OpenSpec.upto hkdfExpandsSpec)

/-- 'quaestorlaw02.ShaTexts', WHERE WHAT IT READS IS OF BULK AT MOST 1048576: true; the input reads as it did. -/
def shaTextsUptoRow : OpenClaim := { program := "ythlmlmkabjppeaadoor", sum := "5c6ca2264c4b5b79e5720f0ee90d1f690e8d3bb2549fa2f245c8c8afb9b27729", func := "quaestor/quaestorlaw02.ShaTexts", spec := "shaTexts", named := ["quaestor/sha.rounds"], apart := false, laid := [("quaestor/sha.rounds", laid_quaestor_sha_rounds)], narrowed := true }
def ShaTextsUptoSaid : Prop := shaTextsUptoRow.holds Tryd.pinned (OpenSpec.upto shaTextsSpec)

/-- 'quaestorlaw03.HkdfDerives', WHERE WHAT IT READS IS OF BULK AT MOST 1048576: true; the input reads as it did. -/
def hkdfDerivesUptoRow : OpenClaim := { program := "ythlmlmkabjppeaadoor", sum := "5c6ca2264c4b5b79e5720f0ee90d1f690e8d3bb2549fa2f245c8c8afb9b27729", func := "quaestor/quaestorlaw03.HkdfDerives", spec := "hkdfDerives", named := ["quaestor/sha.rounds"], apart := false, laid := [("quaestor/sha.rounds", laid_quaestor_sha_rounds)], narrowed := true }
def HkdfDerivesUptoSaid : Prop := hkdfDerivesUptoRow.holds Tryd.pinned (OpenSpec.upto hkdfDerivesSpec)

/-- 'quaestorlaw20.ChainGoes', WHERE WHAT IT READS IS OF BULK AT MOST 1048576: true; the input reads as it did. -/
def chainGoesUptoRow : OpenClaim := { program := "ythlmlmkabjppeaadoor", sum := "5c6ca2264c4b5b79e5720f0ee90d1f690e8d3bb2549fa2f245c8c8afb9b27729", func := "quaestor/quaestorlaw20.ChainGoes", spec := "chainGoes", named := ["quaestor/sha.rounds"], apart := false, laid := [("quaestor/sha.rounds", laid_quaestor_sha_rounds)], narrowed := true }
def ChainGoesUptoSaid : Prop := chainGoesUptoRow.holds Tryd.pinned (OpenSpec.upto chainGoesSpec)

/-- 'quaestorlaw20.ChainSteps', WHERE WHAT IT READS IS OF BULK AT MOST 1048576: true; the input reads as it did. -/
def chainStepsUptoRow : OpenClaim := { program := "ythlmlmkabjppeaadoor", sum := "5c6ca2264c4b5b79e5720f0ee90d1f690e8d3bb2549fa2f245c8c8afb9b27729", func := "quaestor/quaestorlaw20.ChainSteps", spec := "chainSteps", named := ["quaestor/sha.rounds"], apart := false, laid := [("quaestor/sha.rounds", laid_quaestor_sha_rounds)], narrowed := true }
def ChainStepsUptoSaid : Prop := chainStepsUptoRow.holds Tryd.pinned (OpenSpec.upto chainStepsSpec)

/-- 'quaestorlaw20.ChainKeys', WHERE WHAT IT READS IS OF BULK AT MOST 1048576: true; the input reads as it did. -/
def chainKeysUptoRow : OpenClaim := { program := "ythlmlmkabjppeaadoor", sum := "5c6ca2264c4b5b79e5720f0ee90d1f690e8d3bb2549fa2f245c8c8afb9b27729", func := "quaestor/quaestorlaw20.ChainKeys", spec := "chainKeys", named := ["quaestor/sha.rounds"], apart := false, laid := [("quaestor/sha.rounds", laid_quaestor_sha_rounds)], narrowed := true }
def ChainKeysUptoSaid : Prop := chainKeysUptoRow.holds Tryd.pinned (OpenSpec.upto chainKeysSpec)

end Rows
end Go.Proofs.YthlmlmkabjppeaaDoor
