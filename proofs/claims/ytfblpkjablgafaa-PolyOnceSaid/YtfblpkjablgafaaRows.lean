/-
  No cell of these rows narrows 'for every input' (looked for: loops, veiled, ifaces, maps, wideKeys, modest, calm, conditions, laid).
  DERIVED. THE GIVEN ROWS OF THIS SEAT. 5 by the template 'for every input the law returns true; each argument reads behind the call as it read before'; 0 by the template 'total and deterministic' (their statements: YtfblpkjablgafaaTotals.lean).
  GIVEN WITH THE SEED: the statements are not yours to turn. If you find one false, say at which input.
  Laid BY PROGRAM, IN A SANDBOX (cutbox-rows.mjs): the forced cells as the released guide's own fill.sh prints them over the translation 70d69b42ecebce4e… (all of the seat's roots in one cut). By AI agents, Wed Nov 11 2026. No macro, syntax, notation, axiom, sorry.
-/
import Derived.Test.YtfblpkjablgafaaChecked
import GoSem.Claim
import GoSem.ClaimJoined
import GoSem.ClaimMapViews
import Derived.JoinedTies
import Derived.KernelRfl
namespace Go.Proofs.Ytfblpkjablgafaa
/- THE CELL 'sum', in the pinned program and in every row, IS THE sha256 OF THE DUMP (.gsa) THAT YtfblpkjablgafaaProg.lean LOADS. Nothing in Lean hashes anything: it is a label: what it is worth is what the hold of that sum in a sandbox is worth. -/
noncomputable def Try.pinned : Pinned := { name := "ytfblpkjablgafaa", sum := "70d69b42ecebce4e12f8c7106a31ab53fec55c65d1c88bd55a4c633ce90c56ce", checked := Try.checked }
namespace Rows
def none {H : Type} : Left H := { results := [], args := [] }

/-- 'quaestorlaw05.PolyTags': WHATEVER THE INPUT: true; the input reads as it did. -/
def polyTagsSpec : ChangeSpec := { name := "polyTags", fn := fun _ => fun
  | [d1, d2, d3] => { results := [.lit (.bool true)], args := [d1, d2, d3] }
  | _ => none }
def polyTagsRow : OpenClaim := { program := "ytfblpkjablgafaa", sum := "70d69b42ecebce4e12f8c7106a31ab53fec55c65d1c88bd55a4c633ce90c56ce", func := "quaestor/quaestorlaw05.PolyTags", spec := "polyTags", unfollowed := true, recurses := true, apart := false }
def PolyTagsSaid : Prop := polyTagsRow.holds Try.pinned (OpenSpec.ofChange polyTagsSpec)

/-- ITS FALSE NEIGHBOUR: 'it returns false'. Refute it at one input. -/
def polyTagsWrong : ChangeSpec := { name := "polyTags", fn := fun _ => fun
  | [d1, d2, d3] => { results := [.lit (.bool false)], args := [d1, d2, d3] }
  | _ => none }
def PolyTagsWrongFalsely : Prop := polyTagsRow.holds Try.pinned (OpenSpec.ofChange polyTagsWrong)

/-- 'quaestorlaw05.PolySums': WHATEVER THE INPUT: true; the input reads as it did. -/
def polySumsSpec : ChangeSpec := { name := "polySums", fn := fun _ => fun
  | [d1, d2] => { results := [.lit (.bool true)], args := [d1, d2] }
  | _ => none }
def polySumsRow : OpenClaim := { program := "ytfblpkjablgafaa", sum := "70d69b42ecebce4e12f8c7106a31ab53fec55c65d1c88bd55a4c633ce90c56ce", func := "quaestor/quaestorlaw05.PolySums", spec := "polySums", unfollowed := true, recurses := true, apart := false }
def PolySumsSaid : Prop := polySumsRow.holds Try.pinned (OpenSpec.ofChange polySumsSpec)

/-- ITS FALSE NEIGHBOUR: 'it returns false'. Refute it at one input. -/
def polySumsWrong : ChangeSpec := { name := "polySums", fn := fun _ => fun
  | [d1, d2] => { results := [.lit (.bool false)], args := [d1, d2] }
  | _ => none }
def PolySumsWrongFalsely : Prop := polySumsRow.holds Try.pinned (OpenSpec.ofChange polySumsWrong)

/-- 'quaestorlaw05.PolyClamps': WHATEVER THE INPUT: true; the input reads as it did. -/
def polyClampsSpec : ChangeSpec := { name := "polyClamps", fn := fun _ => fun
  | [d1, d2, d3] => { results := [.lit (.bool true)], args := [d1, d2, d3] }
  | _ => none }
def polyClampsRow : OpenClaim := { program := "ytfblpkjablgafaa", sum := "70d69b42ecebce4e12f8c7106a31ab53fec55c65d1c88bd55a4c633ce90c56ce", func := "quaestor/quaestorlaw05.PolyClamps", spec := "polyClamps", unfollowed := true, recurses := true, apart := false }
def PolyClampsSaid : Prop := polyClampsRow.holds Try.pinned (OpenSpec.ofChange polyClampsSpec)

/-- ITS FALSE NEIGHBOUR: 'it returns false'. Refute it at one input. -/
def polyClampsWrong : ChangeSpec := { name := "polyClamps", fn := fun _ => fun
  | [d1, d2, d3] => { results := [.lit (.bool false)], args := [d1, d2, d3] }
  | _ => none }
def PolyClampsWrongFalsely : Prop := polyClampsRow.holds Try.pinned (OpenSpec.ofChange polyClampsWrong)

/-- 'quaestorlaw05.PolyOnce': WHATEVER THE INPUT: true; the input reads as it did. -/
def polyOnceSpec : ChangeSpec := { name := "polyOnce", fn := fun _ => fun
  | [d1, d2, d3] => { results := [.lit (.bool true)], args := [d1, d2, d3] }
  | _ => none }
def polyOnceRow : OpenClaim := { program := "ytfblpkjablgafaa", sum := "70d69b42ecebce4e12f8c7106a31ab53fec55c65d1c88bd55a4c633ce90c56ce", func := "quaestor/quaestorlaw05.PolyOnce", spec := "polyOnce", unfollowed := true, recurses := true, apart := false }
def PolyOnceSaid : Prop := polyOnceRow.holds Try.pinned (OpenSpec.ofChange polyOnceSpec)

/-- ITS FALSE NEIGHBOUR: 'it returns false'. Refute it at one input. -/
def polyOnceWrong : ChangeSpec := { name := "polyOnce", fn := fun _ => fun
  | [d1, d2, d3] => { results := [.lit (.bool false)], args := [d1, d2, d3] }
  | _ => none }
def PolyOnceWrongFalsely : Prop := polyOnceRow.holds Try.pinned (OpenSpec.ofChange polyOnceWrong)

/-- 'quaestorlaw05.PolySame': WHATEVER THE INPUT: true; the input reads as it did. -/
def polySameSpec : ChangeSpec := { name := "polySame", fn := fun _ => fun
  | [d1, d2] => { results := [.lit (.bool true)], args := [d1, d2] }
  | _ => none }
def polySameRow : OpenClaim := { program := "ytfblpkjablgafaa", sum := "70d69b42ecebce4e12f8c7106a31ab53fec55c65d1c88bd55a4c633ce90c56ce", func := "quaestor/quaestorlaw05.PolySame", spec := "polySame", unfollowed := true, recurses := true, apart := false }
def PolySameSaid : Prop := polySameRow.holds Try.pinned (OpenSpec.ofChange polySameSpec)

/-- ITS FALSE NEIGHBOUR: 'it returns false'. Refute it at one input. -/
def polySameWrong : ChangeSpec := { name := "polySame", fn := fun _ => fun
  | [d1, d2] => { results := [.lit (.bool false)], args := [d1, d2] }
  | _ => none }
def PolySameWrongFalsely : Prop := polySameRow.holds Try.pinned (OpenSpec.ofChange polySameWrong)

/- THE SECOND FORM. 'bulk': how many values and letters a reading holds, each counted each time it is reached (what is shared counts as often as it is met; a slice's spare places count too). A statement '..UptoSaid' is the law's where the arguments, and the package variables that the reading takes, are together of bulk at most 1048576: NARROWER than '..Said'. Prove '..Said' where nothing that the law and all that it calls make is longer than what came in: it says more and counts as full. Else prove '..UptoSaid'. A law counts once. -/
mutual
def uptoBulk {H : Type} : DataW H → Nat
  | .lit (.string bytes) => bytes.length + 1
  | .lit _ => 1
  | .nil => 1
  | .ptr d => uptoBulk d + 1
  | .slice elems spare => uptoBulkAll elems + uptoBulkAll spare + 1
  | .agg parts => uptoBulkAll parts + 1
  | .iface _ d => uptoBulk d + 1
  | .map entries => uptoBulkEntries entries + 1
  | .held _ => 1
def uptoBulkAll {H : Type} : List (DataW H) → Nat
  | [] => 0
  | d :: r => uptoBulk d + uptoBulkAll r
def uptoBulkEntries {H : Type} : List (Lit × DataW H) → Nat
  | [] => 0
  | x :: r => uptoBulkEntry x + uptoBulkEntries r
def uptoBulkEntry {H : Type} : Lit × DataW H → Nat
  | (.string bytes, d) => bytes.length + uptoBulk d + 1
  | (_, d) => uptoBulk d + 1
 end
def uptoSmall : (H : Type) → List (DataW H) → Bool := fun _ ds => decide (uptoBulkAll ds ≤ 1048576)
def OpenSpec.upto (s : _root_.Go.ChangeSpec) : _root_.Go.OpenSpec := { _root_.Go.OpenSpec.ofChange s with cond := some uptoSmall }

/-- 'quaestorlaw05.PolyTags', WHERE WHAT IT READS IS OF BULK AT MOST 1048576: true; the input reads as it did. -/
def polyTagsUptoRow : OpenClaim := { program := "ytfblpkjablgafaa", sum := "70d69b42ecebce4e12f8c7106a31ab53fec55c65d1c88bd55a4c633ce90c56ce", func := "quaestor/quaestorlaw05.PolyTags", spec := "polyTags", unfollowed := true, recurses := true, apart := false, narrowed := true }
def PolyTagsUptoSaid : Prop := polyTagsUptoRow.holds Try.pinned (OpenSpec.upto polyTagsSpec)

/-- 'quaestorlaw05.PolySums', WHERE WHAT IT READS IS OF BULK AT MOST 1048576: true; the input reads as it did. -/
def polySumsUptoRow : OpenClaim := { program := "ytfblpkjablgafaa", sum := "70d69b42ecebce4e12f8c7106a31ab53fec55c65d1c88bd55a4c633ce90c56ce", func := "quaestor/quaestorlaw05.PolySums", spec := "polySums", unfollowed := true, recurses := true, apart := false, narrowed := true }
def PolySumsUptoSaid : Prop := polySumsUptoRow.holds Try.pinned (OpenSpec.upto polySumsSpec)

/-- 'quaestorlaw05.PolyClamps', WHERE WHAT IT READS IS OF BULK AT MOST 1048576: true; the input reads as it did. -/
def polyClampsUptoRow : OpenClaim := { program := "ytfblpkjablgafaa", sum := "70d69b42ecebce4e12f8c7106a31ab53fec55c65d1c88bd55a4c633ce90c56ce", func := "quaestor/quaestorlaw05.PolyClamps", spec := "polyClamps", unfollowed := true, recurses := true, apart := false, narrowed := true }
def PolyClampsUptoSaid : Prop := polyClampsUptoRow.holds Try.pinned (OpenSpec.upto polyClampsSpec)

/-- 'quaestorlaw05.PolyOnce', WHERE WHAT IT READS IS OF BULK AT MOST 1048576: true; the input reads as it did. -/
def polyOnceUptoRow : OpenClaim := { program := "ytfblpkjablgafaa", sum := "70d69b42ecebce4e12f8c7106a31ab53fec55c65d1c88bd55a4c633ce90c56ce", func := "quaestor/quaestorlaw05.PolyOnce", spec := "polyOnce", unfollowed := true, recurses := true, apart := false, narrowed := true }
def PolyOnceUptoSaid : Prop := polyOnceUptoRow.holds Try.pinned (OpenSpec.upto polyOnceSpec)

/-- 'quaestorlaw05.PolySame', WHERE WHAT IT READS IS OF BULK AT MOST 1048576: true; the input reads as it did. -/
def polySameUptoRow : OpenClaim := { program := "ytfblpkjablgafaa", sum := "70d69b42ecebce4e12f8c7106a31ab53fec55c65d1c88bd55a4c633ce90c56ce", func := "quaestor/quaestorlaw05.PolySame", spec := "polySame", unfollowed := true, recurses := true, apart := false, narrowed := true }
def PolySameUptoSaid : Prop := polySameUptoRow.holds Try.pinned (OpenSpec.upto polySameSpec)

end Rows
end Go.Proofs.Ytfblpkjablgafaa
