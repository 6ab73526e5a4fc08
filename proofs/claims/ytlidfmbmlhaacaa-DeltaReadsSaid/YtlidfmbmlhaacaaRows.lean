/-
  No cell of these rows narrows 'for every input' (looked for: loops, veiled, ifaces, maps, wideKeys, modest, calm, conditions, laid).
  DERIVED. THE GIVEN ROWS OF THIS SEAT. 5 by the template 'for every input the law returns true; each argument reads behind the call as it read before'; 0 by the template 'total and deterministic' (their statements: YtlidfmbmlhaacaaTotals.lean).
  GIVEN WITH THE SEED: the statements are not yours to turn. If you find one false, say at which input.
  Laid BY PROGRAM, IN A SANDBOX (cutbox-rows.mjs): the forced cells as the released guide's own fill.sh prints them over the translation a2f14acf7943271b… (all of the seat's roots in one cut). By AI agents, Wed Nov 11 2026. No macro, syntax, notation, axiom, sorry.
-/
import Derived.Test.YtlidfmbmlhaacaaChecked
import GoSem.Claim
import GoSem.ClaimJoined
import GoSem.ClaimMapViews
import Derived.JoinedTies
import Derived.KernelRfl
namespace Go.Proofs.Ytlidfmbmlhaacaa
/- THE CELL 'sum', in the pinned program and in every row, IS THE sha256 OF THE DUMP (.gsa) THAT YtlidfmbmlhaacaaProg.lean LOADS. Nothing in Lean hashes anything: it is a label: what it is worth is what the hold of that sum in a sandbox is worth. -/
noncomputable def Try.pinned : Pinned := { name := "ytlidfmbmlhaacaa", sum := "a2f14acf7943271ba92eaed1806d74e44719d848ba8eaaf25766fdd84d9e92a8", checked := Try.checked }
namespace Rows
def none {H : Type} : Left H := { results := [], args := [] }

/-- 'quaestorlaw14.DeltaEven': WHATEVER THE INPUT: true; the input reads as it did. -/
def deltaEvenSpec : ChangeSpec := { name := "deltaEven", fn := fun _ => fun
  | [d1, d2] => { results := [.lit (.bool true)], args := [d1, d2] }
  | _ => none }
def deltaEvenRow : OpenClaim := { program := "ytlidfmbmlhaacaa", sum := "a2f14acf7943271ba92eaed1806d74e44719d848ba8eaaf25766fdd84d9e92a8", func := "quaestor/quaestorlaw14.DeltaEven", spec := "deltaEven", unfollowed := true, recurses := true, plainKeys := false, apart := false }
def DeltaEvenSaid : Prop := deltaEvenRow.holds Try.pinned (OpenSpec.ofChange deltaEvenSpec)

/-- ITS FALSE NEIGHBOUR: 'it returns false'. Refute it at one input. -/
def deltaEvenWrong : ChangeSpec := { name := "deltaEven", fn := fun _ => fun
  | [d1, d2] => { results := [.lit (.bool false)], args := [d1, d2] }
  | _ => none }
def DeltaEvenWrongFalsely : Prop := deltaEvenRow.holds Try.pinned (OpenSpec.ofChange deltaEvenWrong)

/-- 'quaestorlaw14.DeltaLays': WHATEVER THE INPUT: true; the input reads as it did. -/
def deltaLaysSpec : ChangeSpec := { name := "deltaLays", fn := fun _ => fun
  | [d] => { results := [.lit (.bool true)], args := [d] }
  | _ => none }
def deltaLaysRow : OpenClaim := { program := "ytlidfmbmlhaacaa", sum := "a2f14acf7943271ba92eaed1806d74e44719d848ba8eaaf25766fdd84d9e92a8", func := "quaestor/quaestorlaw14.DeltaLays", spec := "deltaLays", unfollowed := true, recurses := true, plainKeys := false, apart := false }
def DeltaLaysSaid : Prop := deltaLaysRow.holds Try.pinned (OpenSpec.ofChange deltaLaysSpec)

/-- ITS FALSE NEIGHBOUR: 'it returns false'. Refute it at one input. -/
def deltaLaysWrong : ChangeSpec := { name := "deltaLays", fn := fun _ => fun
  | [d] => { results := [.lit (.bool false)], args := [d] }
  | _ => none }
def DeltaLaysWrongFalsely : Prop := deltaLaysRow.holds Try.pinned (OpenSpec.ofChange deltaLaysWrong)

/-- 'quaestorlaw14.DeltaReads': WHATEVER THE INPUT: true; the input reads as it did. -/
def deltaReadsSpec : ChangeSpec := { name := "deltaReads", fn := fun _ => fun
  | [d] => { results := [.lit (.bool true)], args := [d] }
  | _ => none }
def deltaReadsRow : OpenClaim := { program := "ytlidfmbmlhaacaa", sum := "a2f14acf7943271ba92eaed1806d74e44719d848ba8eaaf25766fdd84d9e92a8", func := "quaestor/quaestorlaw14.DeltaReads", spec := "deltaReads", unfollowed := true, recurses := true, plainKeys := false, apart := false }
def DeltaReadsSaid : Prop := deltaReadsRow.holds Try.pinned (OpenSpec.ofChange deltaReadsSpec)

/-- ITS FALSE NEIGHBOUR: 'it returns false'. Refute it at one input. -/
def deltaReadsWrong : ChangeSpec := { name := "deltaReads", fn := fun _ => fun
  | [d] => { results := [.lit (.bool false)], args := [d] }
  | _ => none }
def DeltaReadsWrongFalsely : Prop := deltaReadsRow.holds Try.pinned (OpenSpec.ofChange deltaReadsWrong)

/-- 'quaestorlaw13.PieceAsks': WHATEVER THE INPUT: true; the input reads as it did. -/
def pieceAsksSpec : ChangeSpec := { name := "pieceAsks", fn := fun _ => fun
  | [d1, d2] => { results := [.lit (.bool true)], args := [d1, d2] }
  | _ => none }
def pieceAsksRow : OpenClaim := { program := "ytlidfmbmlhaacaa", sum := "a2f14acf7943271ba92eaed1806d74e44719d848ba8eaaf25766fdd84d9e92a8", func := "quaestor/quaestorlaw13.PieceAsks", spec := "pieceAsks", unfollowed := true, recurses := true, plainKeys := false, apart := false }
def PieceAsksSaid : Prop := pieceAsksRow.holds Try.pinned (OpenSpec.ofChange pieceAsksSpec)

/-- ITS FALSE NEIGHBOUR: 'it returns false'. Refute it at one input. -/
def pieceAsksWrong : ChangeSpec := { name := "pieceAsks", fn := fun _ => fun
  | [d1, d2] => { results := [.lit (.bool false)], args := [d1, d2] }
  | _ => none }
def PieceAsksWrongFalsely : Prop := pieceAsksRow.holds Try.pinned (OpenSpec.ofChange pieceAsksWrong)

/-- 'quaestorlaw13.PieceOrder': WHATEVER THE INPUT: true; the input reads as it did. -/
def pieceOrderSpec : ChangeSpec := { name := "pieceOrder", fn := fun _ => fun
  | [d1, d2, d3] => { results := [.lit (.bool true)], args := [d1, d2, d3] }
  | _ => none }
def pieceOrderRow : OpenClaim := { program := "ytlidfmbmlhaacaa", sum := "a2f14acf7943271ba92eaed1806d74e44719d848ba8eaaf25766fdd84d9e92a8", func := "quaestor/quaestorlaw13.PieceOrder", spec := "pieceOrder", unfollowed := true, recurses := true, plainKeys := false, apart := false }
def PieceOrderSaid : Prop := pieceOrderRow.holds Try.pinned (OpenSpec.ofChange pieceOrderSpec)

/-- ITS FALSE NEIGHBOUR: 'it returns false'. Refute it at one input. -/
def pieceOrderWrong : ChangeSpec := { name := "pieceOrder", fn := fun _ => fun
  | [d1, d2, d3] => { results := [.lit (.bool false)], args := [d1, d2, d3] }
  | _ => none }
def PieceOrderWrongFalsely : Prop := pieceOrderRow.holds Try.pinned (OpenSpec.ofChange pieceOrderWrong)

/- THE SECOND FORM. 'bulk': how many values and letters a reading holds, each counted each time it is reached (what is shared counts as often as it is met; a slice's spare places count too). A statement '..UptoSaid' is the law's where the arguments, and the package variables that the reading takes, are together of bulk at most 1048576: NARROWER than '..Said'. Prove '..Said' where nothing that the law and all that it calls make is longer than what came in: it says more and counts as full. Else prove '..UptoSaid'. A law counts once. -/
mutual
def uptoBulk {H : Type} : DataW H → Nat
  | .lit (.string bytes) => bytes.length + 1
  | .lit _ => 1
  | .nil => 1
  | .ptr d => uptoBulk d + 1
  | .slice elems spare => uptoBulkAll elems + uptoBulkAll spare + 1
  | .agg parts => uptoBulkAll parts + 1
  | .iface _ d => uptoBulk d + 1
  | .map entries => uptoBulkEntries entries + 1
  | .held _ => 1
def uptoBulkAll {H : Type} : List (DataW H) → Nat
  | [] => 0
  | d :: r => uptoBulk d + uptoBulkAll r
def uptoBulkEntries {H : Type} : List (Lit × DataW H) → Nat
  | [] => 0
  | x :: r => uptoBulkEntry x + uptoBulkEntries r
def uptoBulkEntry {H : Type} : Lit × DataW H → Nat
  | (.string bytes, d) => bytes.length + uptoBulk d + 1
  | (_, d) => uptoBulk d + 1
 end
def uptoSmall : (H : Type) → List (DataW H) → Bool := fun _ ds => decide (uptoBulkAll ds ≤ 1048576)
def OpenSpec.upto (s : _root_.Go.ChangeSpec) : _root_.Go.OpenSpec := { _root_.Go.OpenSpec.ofChange s with cond := some uptoSmall }

/-- 'quaestorlaw14.DeltaEven', WHERE WHAT IT READS IS OF BULK AT MOST 1048576: true; the input reads as it did. -/
def deltaEvenUptoRow : OpenClaim := { program := "ytlidfmbmlhaacaa", sum := "a2f14acf7943271ba92eaed1806d74e44719d848ba8eaaf25766fdd84d9e92a8", func := "quaestor/quaestorlaw14.DeltaEven", spec := "deltaEven", unfollowed := true, recurses := true, plainKeys := false, apart := false, narrowed := true }
def DeltaEvenUptoSaid : Prop := deltaEvenUptoRow.holds Try.pinned (OpenSpec.upto deltaEvenSpec)

/-- 'quaestorlaw14.DeltaLays', WHERE WHAT IT READS IS OF BULK AT MOST 1048576: true; the input reads as it did. -/
def deltaLaysUptoRow : OpenClaim := { program := "ytlidfmbmlhaacaa", sum := "a2f14acf7943271ba92eaed1806d74e44719d848ba8eaaf25766fdd84d9e92a8", func := "quaestor/quaestorlaw14.DeltaLays", spec := "deltaLays", unfollowed := true, recurses := true, plainKeys := false, apart := false, narrowed := true }
def DeltaLaysUptoSaid : Prop := deltaLaysUptoRow.holds Try.pinned (OpenSpec.upto deltaLaysSpec)

/-- 'quaestorlaw14.DeltaReads', WHERE WHAT IT READS IS OF BULK AT MOST 1048576: true; the input reads as it did. -/
def deltaReadsUptoRow : OpenClaim := { program := "ytlidfmbmlhaacaa", sum := "a2f14acf7943271ba92eaed1806d74e44719d848ba8eaaf25766fdd84d9e92a8", func := "quaestor/quaestorlaw14.DeltaReads", spec := "deltaReads", unfollowed := true, recurses := true, plainKeys := false, apart := false, narrowed := true }
def DeltaReadsUptoSaid : Prop := deltaReadsUptoRow.holds Try.pinned (OpenSpec.upto deltaReadsSpec)

/-- 'quaestorlaw13.PieceAsks', WHERE WHAT IT READS IS OF BULK AT MOST 1048576: true; the input reads as it did. -/
def pieceAsksUptoRow : OpenClaim := { program := "ytlidfmbmlhaacaa", sum := "a2f14acf7943271ba92eaed1806d74e44719d848ba8eaaf25766fdd84d9e92a8", func := "quaestor/quaestorlaw13.PieceAsks", spec := "pieceAsks", unfollowed := true, recurses := true, plainKeys := false, apart := false, narrowed := true }
def PieceAsksUptoSaid : Prop := pieceAsksUptoRow.holds Try.pinned (OpenSpec.upto pieceAsksSpec)

/-- 'quaestorlaw13.PieceOrder', WHERE WHAT IT READS IS OF BULK AT MOST 1048576: true; the input reads as it did. -/
def pieceOrderUptoRow : OpenClaim := { program := "ytlidfmbmlhaacaa", sum := "a2f14acf7943271ba92eaed1806d74e44719d848ba8eaaf25766fdd84d9e92a8", func := "quaestor/quaestorlaw13.PieceOrder", spec := "pieceOrder", unfollowed := true, recurses := true, plainKeys := false, apart := false, narrowed := true }
def PieceOrderUptoSaid : Prop := pieceOrderUptoRow.holds Try.pinned (OpenSpec.upto pieceOrderSpec)

end Rows
end Go.Proofs.Ytlidfmbmlhaacaa
