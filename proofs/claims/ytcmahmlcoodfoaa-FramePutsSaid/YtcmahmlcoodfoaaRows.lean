/-
  No cell of these rows narrows 'for every input' (looked for: loops, veiled, ifaces, maps, wideKeys, modest, calm, conditions, laid).
  DERIVED. THE GIVEN ROWS OF THIS SEAT. 8 by the template 'for every input the law returns true; each argument reads behind the call as it read before'; 0 by the template 'total and deterministic' (their statements: YtcmahmlcoodfoaaTotals.lean).
  GIVEN WITH THE SEED: the statements are not yours to turn. If you find one false, say at which input.
  Laid BY PROGRAM, IN A SANDBOX (cutbox-rows.mjs): the forced cells as the released guide's own fill.sh prints them over the translation f2985246e08f8a53… (all of the seat's roots in one cut). By AI agents, Wed Nov 11 2026. No macro, syntax, notation, axiom, sorry.
-/
import Derived.Test.YtcmahmlcoodfoaaChecked
import GoSem.Claim
import GoSem.ClaimJoined
import GoSem.ClaimMapViews
import Derived.JoinedTies
import Derived.KernelRfl
namespace Go.Proofs.Ytcmahmlcoodfoaa
/- THE CELL 'sum', in the pinned program and in every row, IS THE sha256 OF THE DUMP (.gsa) THAT YtcmahmlcoodfoaaProg.lean LOADS. Nothing in Lean hashes anything: it is a label: what it is worth is what the hold of that sum in a sandbox is worth. -/
noncomputable def Try.pinned : Pinned := { name := "ytcmahmlcoodfoaa", sum := "f2985246e08f8a532ca7dbb3a4bbedb334ac7a16d20e16b1b2c3c79d258943de", checked := Try.checked }
namespace Rows
def none {H : Type} : Left H := { results := [], args := [] }

/-- 'quaestorlaw21.FrameWindow': WHATEVER THE INPUT: true; the input reads as it did. -/
def frameWindowSpec : ChangeSpec := { name := "frameWindow", fn := fun _ => fun
  | [d1, d2] => { results := [.lit (.bool true)], args := [d1, d2] }
  | _ => none }
def frameWindowRow : OpenClaim := { program := "ytcmahmlcoodfoaa", sum := "f2985246e08f8a532ca7dbb3a4bbedb334ac7a16d20e16b1b2c3c79d258943de", func := "quaestor/quaestorlaw21.FrameWindow", spec := "frameWindow", apart := false }
def FrameWindowSaid : Prop := frameWindowRow.holds Try.pinned (OpenSpec.ofChange frameWindowSpec)

/-- ITS FALSE NEIGHBOUR: 'it returns false'. Refute it at one input. -/
def frameWindowWrong : ChangeSpec := { name := "frameWindow", fn := fun _ => fun
  | [d1, d2] => { results := [.lit (.bool false)], args := [d1, d2] }
  | _ => none }
def FrameWindowWrongFalsely : Prop := frameWindowRow.holds Try.pinned (OpenSpec.ofChange frameWindowWrong)

/-- 'quaestorlaw21.FrameGets': WHATEVER THE INPUT: true; the input reads as it did. -/
def frameGetsSpec : ChangeSpec := { name := "frameGets", fn := fun _ => fun
  | [d] => { results := [.lit (.bool true)], args := [d] }
  | _ => none }
def frameGetsRow : OpenClaim := { program := "ytcmahmlcoodfoaa", sum := "f2985246e08f8a532ca7dbb3a4bbedb334ac7a16d20e16b1b2c3c79d258943de", func := "quaestor/quaestorlaw21.FrameGets", spec := "frameGets", apart := false }
def FrameGetsSaid : Prop := frameGetsRow.holds Try.pinned (OpenSpec.ofChange frameGetsSpec)

/-- ITS FALSE NEIGHBOUR: 'it returns false'. Refute it at one input. -/
def frameGetsWrong : ChangeSpec := { name := "frameGets", fn := fun _ => fun
  | [d] => { results := [.lit (.bool false)], args := [d] }
  | _ => none }
def FrameGetsWrongFalsely : Prop := frameGetsRow.holds Try.pinned (OpenSpec.ofChange frameGetsWrong)

/-- 'quaestorlaw21.FrameApart': WHATEVER THE INPUT: true; the input reads as it did. -/
def frameApartSpec : ChangeSpec := { name := "frameApart", fn := fun _ => fun
  | [d1, d2] => { results := [.lit (.bool true)], args := [d1, d2] }
  | _ => none }
def frameApartRow : OpenClaim := { program := "ytcmahmlcoodfoaa", sum := "f2985246e08f8a532ca7dbb3a4bbedb334ac7a16d20e16b1b2c3c79d258943de", func := "quaestor/quaestorlaw21.FrameApart", spec := "frameApart", apart := false }
def FrameApartSaid : Prop := frameApartRow.holds Try.pinned (OpenSpec.ofChange frameApartSpec)

/-- ITS FALSE NEIGHBOUR: 'it returns false'. Refute it at one input. -/
def frameApartWrong : ChangeSpec := { name := "frameApart", fn := fun _ => fun
  | [d1, d2] => { results := [.lit (.bool false)], args := [d1, d2] }
  | _ => none }
def FrameApartWrongFalsely : Prop := frameApartRow.holds Try.pinned (OpenSpec.ofChange frameApartWrong)

/-- 'quaestorlaw01.NumFloors': WHATEVER THE INPUT: true; the input reads as it did. -/
def numFloorsSpec : ChangeSpec := { name := "numFloors", fn := fun _ => fun
  | [d1, d2] => { results := [.lit (.bool true)], args := [d1, d2] }
  | _ => none }
def numFloorsRow : OpenClaim := { program := "ytcmahmlcoodfoaa", sum := "f2985246e08f8a532ca7dbb3a4bbedb334ac7a16d20e16b1b2c3c79d258943de", func := "quaestor/quaestorlaw01.NumFloors", spec := "numFloors", inPlace := ["math/bits.Sub64"], named := ["math/bits.divideError", "math/bits.overflowError"], apart := false }
def NumFloorsSaid : Prop := numFloorsRow.holds Try.pinned (OpenSpec.ofChange numFloorsSpec)

/-- ITS FALSE NEIGHBOUR: 'it returns false'. Refute it at one input. -/
def numFloorsWrong : ChangeSpec := { name := "numFloors", fn := fun _ => fun
  | [d1, d2] => { results := [.lit (.bool false)], args := [d1, d2] }
  | _ => none }
def NumFloorsWrongFalsely : Prop := numFloorsRow.holds Try.pinned (OpenSpec.ofChange numFloorsWrong)

/-- 'quaestorlaw21.FramePuts': WHATEVER THE INPUT: true; the input reads as it did. -/
def framePutsSpec : ChangeSpec := { name := "framePuts", fn := fun _ => fun
  | [d1, d2] => { results := [.lit (.bool true)], args := [d1, d2] }
  | _ => none }
def framePutsRow : OpenClaim := { program := "ytcmahmlcoodfoaa", sum := "f2985246e08f8a532ca7dbb3a4bbedb334ac7a16d20e16b1b2c3c79d258943de", func := "quaestor/quaestorlaw21.FramePuts", spec := "framePuts", apart := false }
def FramePutsSaid : Prop := framePutsRow.holds Try.pinned (OpenSpec.ofChange framePutsSpec)

/-- ITS FALSE NEIGHBOUR: 'it returns false'. Refute it at one input. -/
def framePutsWrong : ChangeSpec := { name := "framePuts", fn := fun _ => fun
  | [d1, d2] => { results := [.lit (.bool false)], args := [d1, d2] }
  | _ => none }
def FramePutsWrongFalsely : Prop := framePutsRow.holds Try.pinned (OpenSpec.ofChange framePutsWrong)

/-- 'quaestorlaw01.NumForms': WHATEVER THE INPUT: true; the input reads as it did. -/
def numFormsSpec : ChangeSpec := { name := "numForms", fn := fun _ => fun
  | [d1, d2, d3] => { results := [.lit (.bool true)], args := [d1, d2, d3] }
  | _ => none }
def numFormsRow : OpenClaim := { program := "ytcmahmlcoodfoaa", sum := "f2985246e08f8a532ca7dbb3a4bbedb334ac7a16d20e16b1b2c3c79d258943de", func := "quaestor/quaestorlaw01.NumForms", spec := "numForms", inPlace := ["math/bits.Sub64"], named := ["math/bits.divideError", "math/bits.overflowError"], apart := false }
def NumFormsSaid : Prop := numFormsRow.holds Try.pinned (OpenSpec.ofChange numFormsSpec)

/-- ITS FALSE NEIGHBOUR: 'it returns false'. Refute it at one input. -/
def numFormsWrong : ChangeSpec := { name := "numForms", fn := fun _ => fun
  | [d1, d2, d3] => { results := [.lit (.bool false)], args := [d1, d2, d3] }
  | _ => none }
def NumFormsWrongFalsely : Prop := numFormsRow.holds Try.pinned (OpenSpec.ofChange numFormsWrong)

/-- 'quaestorlaw01.NumSums': WHATEVER THE INPUT: true; the input reads as it did. -/
def numSumsSpec : ChangeSpec := { name := "numSums", fn := fun _ => fun
  | [d1, d2] => { results := [.lit (.bool true)], args := [d1, d2] }
  | _ => none }
def numSumsRow : OpenClaim := { program := "ytcmahmlcoodfoaa", sum := "f2985246e08f8a532ca7dbb3a4bbedb334ac7a16d20e16b1b2c3c79d258943de", func := "quaestor/quaestorlaw01.NumSums", spec := "numSums", inPlace := ["math/bits.Add64", "math/bits.Sub64"], named := ["math/bits.divideError", "math/bits.overflowError"], apart := false }
def NumSumsSaid : Prop := numSumsRow.holds Try.pinned (OpenSpec.ofChange numSumsSpec)

/-- ITS FALSE NEIGHBOUR: 'it returns false'. Refute it at one input. -/
def numSumsWrong : ChangeSpec := { name := "numSums", fn := fun _ => fun
  | [d1, d2] => { results := [.lit (.bool false)], args := [d1, d2] }
  | _ => none }
def NumSumsWrongFalsely : Prop := numSumsRow.holds Try.pinned (OpenSpec.ofChange numSumsWrong)

/-- 'quaestorlaw01.NumOrder': WHATEVER THE INPUT: true; the input reads as it did. -/
def numOrderSpec : ChangeSpec := { name := "numOrder", fn := fun _ => fun
  | [d1, d2, d3] => { results := [.lit (.bool true)], args := [d1, d2, d3] }
  | _ => none }
def numOrderRow : OpenClaim := { program := "ytcmahmlcoodfoaa", sum := "f2985246e08f8a532ca7dbb3a4bbedb334ac7a16d20e16b1b2c3c79d258943de", func := "quaestor/quaestorlaw01.NumOrder", spec := "numOrder", inPlace := ["math/bits.Add64", "math/bits.Sub64"], named := ["math/bits.divideError", "math/bits.overflowError"], apart := false }
def NumOrderSaid : Prop := numOrderRow.holds Try.pinned (OpenSpec.ofChange numOrderSpec)

/-- ITS FALSE NEIGHBOUR: 'it returns false'. Refute it at one input. -/
def numOrderWrong : ChangeSpec := { name := "numOrder", fn := fun _ => fun
  | [d1, d2, d3] => { results := [.lit (.bool false)], args := [d1, d2, d3] }
  | _ => none }
def NumOrderWrongFalsely : Prop := numOrderRow.holds Try.pinned (OpenSpec.ofChange numOrderWrong)

/- THE SECOND FORM. 'bulk': how many values and letters a reading holds, each counted each time it is reached (what is shared counts as often as it is met; a slice's spare places count too). A statement '..UptoSaid' is the law's where the arguments, and the package variables that the reading takes, are together of bulk at most 1048576: NARROWER than '..Said'. Prove '..Said' where nothing that the law and all that it calls make is longer than what came in: it says more and counts as full. Else prove '..UptoSaid'. A law counts once. -/
mutual
def uptoBulk {H : Type} : DataW H → Nat
  | .lit (.string bytes) => bytes.length + 1
  | .lit _ => 1
  | .nil => 1
  | .ptr d => uptoBulk d + 1
  | .slice elems spare => uptoBulkAll elems + uptoBulkAll spare + 1
  | .agg parts => uptoBulkAll parts + 1
  | .iface _ d => uptoBulk d + 1
  | .map entries => uptoBulkEntries entries + 1
  | .held _ => 1
def uptoBulkAll {H : Type} : List (DataW H) → Nat
  | [] => 0
  | d :: r => uptoBulk d + uptoBulkAll r
def uptoBulkEntries {H : Type} : List (Lit × DataW H) → Nat
  | [] => 0
  | x :: r => uptoBulkEntry x + uptoBulkEntries r
def uptoBulkEntry {H : Type} : Lit × DataW H → Nat
  | (.string bytes, d) => bytes.length + uptoBulk d + 1
  | (_, d) => uptoBulk d + 1
 end
def uptoSmall : (H : Type) → List (DataW H) → Bool := fun _ ds => decide (uptoBulkAll ds ≤ 1048576)
def OpenSpec.upto (s : _root_.Go.ChangeSpec) : _root_.Go.OpenSpec := { _root_.Go.OpenSpec.ofChange s with cond := some uptoSmall }

/-- 'quaestorlaw21.FrameWindow', WHERE WHAT IT READS IS OF BULK AT MOST 1048576: true; the input reads as it did. -/
def frameWindowUptoRow : OpenClaim := { program := "ytcmahmlcoodfoaa", sum := "f2985246e08f8a532ca7dbb3a4bbedb334ac7a16d20e16b1b2c3c79d258943de", func := "quaestor/quaestorlaw21.FrameWindow", spec := "frameWindow", apart := false, narrowed := true }
def FrameWindowUptoSaid : Prop := frameWindowUptoRow.holds Try.pinned (OpenSpec.upto frameWindowSpec)

/-- 'quaestorlaw21.FrameGets', WHERE WHAT IT READS IS OF BULK AT MOST 1048576: true; the input reads as it did. -/
def frameGetsUptoRow : OpenClaim := { program := "ytcmahmlcoodfoaa", sum := "f2985246e08f8a532ca7dbb3a4bbedb334ac7a16d20e16b1b2c3c79d258943de", func := "quaestor/quaestorlaw21.FrameGets", spec := "frameGets", apart := false, narrowed := true }
def FrameGetsUptoSaid : Prop := frameGetsUptoRow.holds Try.pinned (OpenSpec.upto frameGetsSpec)

/-- 'quaestorlaw21.FrameApart', WHERE WHAT IT READS IS OF BULK AT MOST 1048576: true; the input reads as it did. -/
def frameApartUptoRow : OpenClaim := { program := "ytcmahmlcoodfoaa", sum := "f2985246e08f8a532ca7dbb3a4bbedb334ac7a16d20e16b1b2c3c79d258943de", func := "quaestor/quaestorlaw21.FrameApart", spec := "frameApart", apart := false, narrowed := true }
def FrameApartUptoSaid : Prop := frameApartUptoRow.holds Try.pinned (OpenSpec.upto frameApartSpec)

/-- 'quaestorlaw01.NumFloors', WHERE WHAT IT READS IS OF BULK AT MOST 1048576: true; the input reads as it did. -/
def numFloorsUptoRow : OpenClaim := { program := "ytcmahmlcoodfoaa", sum := "f2985246e08f8a532ca7dbb3a4bbedb334ac7a16d20e16b1b2c3c79d258943de", func := "quaestor/quaestorlaw01.NumFloors", spec := "numFloors", inPlace := ["math/bits.Sub64"], named := ["math/bits.divideError", "math/bits.overflowError"], apart := false, narrowed := true }
def NumFloorsUptoSaid : Prop := numFloorsUptoRow.holds Try.pinned (OpenSpec.upto numFloorsSpec)

/-- 'quaestorlaw21.FramePuts', WHERE WHAT IT READS IS OF BULK AT MOST 1048576: true; the input reads as it did. -/
def framePutsUptoRow : OpenClaim := { program := "ytcmahmlcoodfoaa", sum := "f2985246e08f8a532ca7dbb3a4bbedb334ac7a16d20e16b1b2c3c79d258943de", func := "quaestor/quaestorlaw21.FramePuts", spec := "framePuts", apart := false, narrowed := true }
def FramePutsUptoSaid : Prop := framePutsUptoRow.holds Try.pinned (OpenSpec.upto framePutsSpec)

/-- 'quaestorlaw01.NumForms', WHERE WHAT IT READS IS OF BULK AT MOST 1048576: true; the input reads as it did. -/
def numFormsUptoRow : OpenClaim := { program := "ytcmahmlcoodfoaa", sum := "f2985246e08f8a532ca7dbb3a4bbedb334ac7a16d20e16b1b2c3c79d258943de", func := "quaestor/quaestorlaw01.NumForms", spec := "numForms", inPlace := ["math/bits.Sub64"], named := ["math/bits.divideError", "math/bits.overflowError"], apart := false, narrowed := true }
def NumFormsUptoSaid : Prop := numFormsUptoRow.holds Try.pinned (OpenSpec.upto numFormsSpec)

/-- 'quaestorlaw01.NumSums', WHERE WHAT IT READS IS OF BULK AT MOST 1048576: true; the input reads as it did. -/
def numSumsUptoRow : OpenClaim := { program := "ytcmahmlcoodfoaa", sum := "f2985246e08f8a532ca7dbb3a4bbedb334ac7a16d20e16b1b2c3c79d258943de", func := "quaestor/quaestorlaw01.NumSums", spec := "numSums", inPlace := ["math/bits.Add64", "math/bits.Sub64"], named := ["math/bits.divideError", "math/bits.overflowError"], apart := false, narrowed := true }
def NumSumsUptoSaid : Prop := numSumsUptoRow.holds Try.pinned (OpenSpec.upto numSumsSpec)

/-- 'quaestorlaw01.NumOrder', WHERE WHAT IT READS IS OF BULK AT MOST 1048576: true; the input reads as it did. -/
def numOrderUptoRow : OpenClaim := { program := "ytcmahmlcoodfoaa", sum := "f2985246e08f8a532ca7dbb3a4bbedb334ac7a16d20e16b1b2c3c79d258943de", func := "quaestor/quaestorlaw01.NumOrder", spec := "numOrder", inPlace := ["math/bits.Add64", "math/bits.Sub64"], named := ["math/bits.divideError", "math/bits.overflowError"], apart := false, narrowed := true }
def NumOrderUptoSaid : Prop := numOrderUptoRow.holds Try.pinned (OpenSpec.upto numOrderSpec)

end Rows
end Go.Proofs.Ytcmahmlcoodfoaa
