/-
  No cell of these rows narrows 'for every input' (looked for: loops, veiled, ifaces, maps, wideKeys, modest, calm, conditions, laid).
  DERIVED. THE GIVEN ROWS OF THIS SEAT. 10 by the template 'for every input the law returns true; each argument reads behind the call as it read before'; 0 by the template 'total and deterministic' (their statements: YtldanlglefgobaaTotals.lean).
  GIVEN WITH THE SEED: the statements are not yours to turn. If you find one false, say at which input.
  Laid BY PROGRAM, IN A SANDBOX (cutbox-rows.mjs): the forced cells as the released guide's own fill.sh prints them over the translation 75389602adebd9b2… (all of the seat's roots in one cut). By AI agents, Wed Nov 11 2026. No macro, syntax, notation, axiom, sorry.
-/
import Derived.Test.YtldanlglefgobaaChecked
import GoSem.Claim
import GoSem.ClaimJoined
import GoSem.ClaimMapViews
import Derived.JoinedTies
import Derived.KernelRfl
namespace Go.Proofs.Ytldanlglefgobaa
/- THE CELL 'sum', in the pinned program and in every row, IS THE sha256 OF THE DUMP (.gsa) THAT YtldanlglefgobaaProg.lean LOADS. Nothing in Lean hashes anything: it is a label: what it is worth is what the hold of that sum in a sandbox is worth. -/
noncomputable def Try.pinned : Pinned := { name := "ytldanlglefgobaa", sum := "75389602adebd9b29e08e93c0cb08071a83e6ba46276bcfa579fe20f8f88c83a", checked := Try.checked }
namespace Rows
def none {H : Type} : Left H := { results := [], args := [] }

/-- 'quaestorlaw07.FieldTables': WHATEVER THE INPUT: true; the input reads as it did. -/
def fieldTablesSpec : ChangeSpec := { name := "fieldTables", fn := fun _ => fun
  | [d] => { results := [.lit (.bool true)], args := [d] }
  | _ => none }
def fieldTablesRow : OpenClaim := { program := "ytldanlglefgobaa", sum := "75389602adebd9b29e08e93c0cb08071a83e6ba46276bcfa579fe20f8f88c83a", func := "quaestor/quaestorlaw07.FieldTables", spec := "fieldTables", apart := false }
def FieldTablesSaid : Prop := fieldTablesRow.holds Try.pinned (OpenSpec.ofChange fieldTablesSpec)

/-- ITS FALSE NEIGHBOUR: 'it returns false'. Refute it at one input. -/
def fieldTablesWrong : ChangeSpec := { name := "fieldTables", fn := fun _ => fun
  | [d] => { results := [.lit (.bool false)], args := [d] }
  | _ => none }
def FieldTablesWrongFalsely : Prop := fieldTablesRow.holds Try.pinned (OpenSpec.ofChange fieldTablesWrong)

/-- 'quaestorlaw07.FieldLaws': WHATEVER THE INPUT: true; the input reads as it did. -/
def fieldLawsSpec : ChangeSpec := { name := "fieldLaws", fn := fun _ => fun
  | [d1, d2, d3] => { results := [.lit (.bool true)], args := [d1, d2, d3] }
  | _ => none }
def fieldLawsRow : OpenClaim := { program := "ytldanlglefgobaa", sum := "75389602adebd9b29e08e93c0cb08071a83e6ba46276bcfa579fe20f8f88c83a", func := "quaestor/quaestorlaw07.FieldLaws", spec := "fieldLaws", apart := false }
def FieldLawsSaid : Prop := fieldLawsRow.holds Try.pinned (OpenSpec.ofChange fieldLawsSpec)

/-- ITS FALSE NEIGHBOUR: 'it returns false'. Refute it at one input. -/
def fieldLawsWrong : ChangeSpec := { name := "fieldLaws", fn := fun _ => fun
  | [d1, d2, d3] => { results := [.lit (.bool false)], args := [d1, d2, d3] }
  | _ => none }
def FieldLawsWrongFalsely : Prop := fieldLawsRow.holds Try.pinned (OpenSpec.ofChange fieldLawsWrong)

/-- 'quaestorlaw07.FieldSums': WHATEVER THE INPUT: true; the input reads as it did. -/
def fieldSumsSpec : ChangeSpec := { name := "fieldSums", fn := fun _ => fun
  | [d1, d2, d3] => { results := [.lit (.bool true)], args := [d1, d2, d3] }
  | _ => none }
def fieldSumsRow : OpenClaim := { program := "ytldanlglefgobaa", sum := "75389602adebd9b29e08e93c0cb08071a83e6ba46276bcfa579fe20f8f88c83a", func := "quaestor/quaestorlaw07.FieldSums", spec := "fieldSums", apart := false }
def FieldSumsSaid : Prop := fieldSumsRow.holds Try.pinned (OpenSpec.ofChange fieldSumsSpec)

/-- ITS FALSE NEIGHBOUR: 'it returns false'. Refute it at one input. -/
def fieldSumsWrong : ChangeSpec := { name := "fieldSums", fn := fun _ => fun
  | [d1, d2, d3] => { results := [.lit (.bool false)], args := [d1, d2, d3] }
  | _ => none }
def FieldSumsWrongFalsely : Prop := fieldSumsRow.holds Try.pinned (OpenSpec.ofChange fieldSumsWrong)

/-- 'quaestorlaw07.FieldAsks': WHATEVER THE INPUT: true; the input reads as it did. -/
def fieldAsksSpec : ChangeSpec := { name := "fieldAsks", fn := fun _ => fun
  | [d1, d2, d3] => { results := [.lit (.bool true)], args := [d1, d2, d3] }
  | _ => none }
def fieldAsksRow : OpenClaim := { program := "ytldanlglefgobaa", sum := "75389602adebd9b29e08e93c0cb08071a83e6ba46276bcfa579fe20f8f88c83a", func := "quaestor/quaestorlaw07.FieldAsks", spec := "fieldAsks", apart := false }
def FieldAsksSaid : Prop := fieldAsksRow.holds Try.pinned (OpenSpec.ofChange fieldAsksSpec)

/-- ITS FALSE NEIGHBOUR: 'it returns false'. Refute it at one input. -/
def fieldAsksWrong : ChangeSpec := { name := "fieldAsks", fn := fun _ => fun
  | [d1, d2, d3] => { results := [.lit (.bool false)], args := [d1, d2, d3] }
  | _ => none }
def FieldAsksWrongFalsely : Prop := fieldAsksRow.holds Try.pinned (OpenSpec.ofChange fieldAsksWrong)

/-- 'quaestorlaw07.FieldAny': WHATEVER THE INPUT: true; the input reads as it did. -/
def fieldAnySpec : ChangeSpec := { name := "fieldAny", fn := fun _ => fun
  | [d1, d2, d3, d4] => { results := [.lit (.bool true)], args := [d1, d2, d3, d4] }
  | _ => none }
def fieldAnyRow : OpenClaim := { program := "ytldanlglefgobaa", sum := "75389602adebd9b29e08e93c0cb08071a83e6ba46276bcfa579fe20f8f88c83a", func := "quaestor/quaestorlaw07.FieldAny", spec := "fieldAny", apart := false }
def FieldAnySaid : Prop := fieldAnyRow.holds Try.pinned (OpenSpec.ofChange fieldAnySpec)

/-- ITS FALSE NEIGHBOUR: 'it returns false'. Refute it at one input. -/
def fieldAnyWrong : ChangeSpec := { name := "fieldAny", fn := fun _ => fun
  | [d1, d2, d3, d4] => { results := [.lit (.bool false)], args := [d1, d2, d3, d4] }
  | _ => none }
def FieldAnyWrongFalsely : Prop := fieldAnyRow.holds Try.pinned (OpenSpec.ofChange fieldAnyWrong)

/-- 'quaestorlaw08.ShamirSplits': WHATEVER THE INPUT: true; the input reads as it did. -/
def shamirSplitsSpec : ChangeSpec := { name := "shamirSplits", fn := fun _ => fun
  | [d1, d2, d3, d4] => { results := [.lit (.bool true)], args := [d1, d2, d3, d4] }
  | _ => none }
def shamirSplitsRow : OpenClaim := { program := "ytldanlglefgobaa", sum := "75389602adebd9b29e08e93c0cb08071a83e6ba46276bcfa579fe20f8f88c83a", func := "quaestor/quaestorlaw08.ShamirSplits", spec := "shamirSplits", apart := false }
def ShamirSplitsSaid : Prop := shamirSplitsRow.holds Try.pinned (OpenSpec.ofChange shamirSplitsSpec)

/-- ITS FALSE NEIGHBOUR: 'it returns false'. Refute it at one input. -/
def shamirSplitsWrong : ChangeSpec := { name := "shamirSplits", fn := fun _ => fun
  | [d1, d2, d3, d4] => { results := [.lit (.bool false)], args := [d1, d2, d3, d4] }
  | _ => none }
def ShamirSplitsWrongFalsely : Prop := shamirSplitsRow.holds Try.pinned (OpenSpec.ofChange shamirSplitsWrong)

/-- 'quaestorlaw08.ShamirHides': WHATEVER THE INPUT: true; the input reads as it did. -/
def shamirHidesSpec : ChangeSpec := { name := "shamirHides", fn := fun _ => fun
  | [d1, d2, d3, d4] => { results := [.lit (.bool true)], args := [d1, d2, d3, d4] }
  | _ => none }
def shamirHidesRow : OpenClaim := { program := "ytldanlglefgobaa", sum := "75389602adebd9b29e08e93c0cb08071a83e6ba46276bcfa579fe20f8f88c83a", func := "quaestor/quaestorlaw08.ShamirHides", spec := "shamirHides", apart := false }
def ShamirHidesSaid : Prop := shamirHidesRow.holds Try.pinned (OpenSpec.ofChange shamirHidesSpec)

/-- ITS FALSE NEIGHBOUR: 'it returns false'. Refute it at one input. -/
def shamirHidesWrong : ChangeSpec := { name := "shamirHides", fn := fun _ => fun
  | [d1, d2, d3, d4] => { results := [.lit (.bool false)], args := [d1, d2, d3, d4] }
  | _ => none }
def ShamirHidesWrongFalsely : Prop := shamirHidesRow.holds Try.pinned (OpenSpec.ofChange shamirHidesWrong)

/-- 'quaestorlaw08.ShamirSums': WHATEVER THE INPUT: true; the input reads as it did. -/
def shamirSumsSpec : ChangeSpec := { name := "shamirSums", fn := fun _ => fun
  | [d1, d2] => { results := [.lit (.bool true)], args := [d1, d2] }
  | _ => none }
def shamirSumsRow : OpenClaim := { program := "ytldanlglefgobaa", sum := "75389602adebd9b29e08e93c0cb08071a83e6ba46276bcfa579fe20f8f88c83a", func := "quaestor/quaestorlaw08.ShamirSums", spec := "shamirSums", apart := false }
def ShamirSumsSaid : Prop := shamirSumsRow.holds Try.pinned (OpenSpec.ofChange shamirSumsSpec)

/-- ITS FALSE NEIGHBOUR: 'it returns false'. Refute it at one input. -/
def shamirSumsWrong : ChangeSpec := { name := "shamirSums", fn := fun _ => fun
  | [d1, d2] => { results := [.lit (.bool false)], args := [d1, d2] }
  | _ => none }
def ShamirSumsWrongFalsely : Prop := shamirSumsRow.holds Try.pinned (OpenSpec.ofChange shamirSumsWrong)

/-- 'quaestorlaw08.ShamirCombines': WHATEVER THE INPUT: true; the input reads as it did. -/
def shamirCombinesSpec : ChangeSpec := { name := "shamirCombines", fn := fun _ => fun
  | [d1, d2, d3] => { results := [.lit (.bool true)], args := [d1, d2, d3] }
  | _ => none }
def shamirCombinesRow : OpenClaim := { program := "ytldanlglefgobaa", sum := "75389602adebd9b29e08e93c0cb08071a83e6ba46276bcfa579fe20f8f88c83a", func := "quaestor/quaestorlaw08.ShamirCombines", spec := "shamirCombines", apart := false }
def ShamirCombinesSaid : Prop := shamirCombinesRow.holds Try.pinned (OpenSpec.ofChange shamirCombinesSpec)

/-- ITS FALSE NEIGHBOUR: 'it returns false'. Refute it at one input. -/
def shamirCombinesWrong : ChangeSpec := { name := "shamirCombines", fn := fun _ => fun
  | [d1, d2, d3] => { results := [.lit (.bool false)], args := [d1, d2, d3] }
  | _ => none }
def ShamirCombinesWrongFalsely : Prop := shamirCombinesRow.holds Try.pinned (OpenSpec.ofChange shamirCombinesWrong)

/-- 'quaestorlaw08.ShamirBack': WHATEVER THE INPUT: true; the input reads as it did. -/
def shamirBackSpec : ChangeSpec := { name := "shamirBack", fn := fun _ => fun
  | [d1, d2, d3, d4, d5, d6, d7] => { results := [.lit (.bool true)], args := [d1, d2, d3, d4, d5, d6, d7] }
  | _ => none }
def shamirBackRow : OpenClaim := { program := "ytldanlglefgobaa", sum := "75389602adebd9b29e08e93c0cb08071a83e6ba46276bcfa579fe20f8f88c83a", func := "quaestor/quaestorlaw08.ShamirBack", spec := "shamirBack", apart := false }
def ShamirBackSaid : Prop := shamirBackRow.holds Try.pinned (OpenSpec.ofChange shamirBackSpec)

/-- ITS FALSE NEIGHBOUR: 'it returns false'. Refute it at one input. -/
def shamirBackWrong : ChangeSpec := { name := "shamirBack", fn := fun _ => fun
  | [d1, d2, d3, d4, d5, d6, d7] => { results := [.lit (.bool false)], args := [d1, d2, d3, d4, d5, d6, d7] }
  | _ => none }
def ShamirBackWrongFalsely : Prop := shamirBackRow.holds Try.pinned (OpenSpec.ofChange shamirBackWrong)

/- THE SECOND FORM. 'bulk': how many values and letters a reading holds, each counted each time it is reached (what is shared counts as often as it is met; a slice's spare places count too). A statement '..UptoSaid' is the law's where the arguments, and the package variables that the reading takes, are together of bulk at most 1048576: NARROWER than '..Said'. Prove '..Said' where nothing that the law and all that it calls make is longer than what came in: it says more and counts as full. Else prove '..UptoSaid'. A law counts once. -/
mutual
def uptoBulk {H : Type} : DataW H → Nat
  | .lit (.string bytes) => bytes.length + 1
  | .lit _ => 1
  | .nil => 1
  | .ptr d => uptoBulk d + 1
  | .slice elems spare => uptoBulkAll elems + uptoBulkAll spare + 1
  | .agg parts => uptoBulkAll parts + 1
  | .iface _ d => uptoBulk d + 1
  | .map entries => uptoBulkEntries entries + 1
  | .held _ => 1
def uptoBulkAll {H : Type} : List (DataW H) → Nat
  | [] => 0
  | d :: r => uptoBulk d + uptoBulkAll r
def uptoBulkEntries {H : Type} : List (Lit × DataW H) → Nat
  | [] => 0
  | x :: r => uptoBulkEntry x + uptoBulkEntries r
def uptoBulkEntry {H : Type} : Lit × DataW H → Nat
  | (.string bytes, d) => bytes.length + uptoBulk d + 1
  | (_, d) => uptoBulk d + 1
 end
def uptoSmall : (H : Type) → List (DataW H) → Bool := fun _ ds => decide (uptoBulkAll ds ≤ 1048576)
def OpenSpec.upto (s : _root_.Go.ChangeSpec) : _root_.Go.OpenSpec := { _root_.Go.OpenSpec.ofChange s with cond := some uptoSmall }

/-- 'quaestorlaw07.FieldTables', WHERE WHAT IT READS IS OF BULK AT MOST 1048576: true; the input reads as it did. -/
def fieldTablesUptoRow : OpenClaim := { program := "ytldanlglefgobaa", sum := "75389602adebd9b29e08e93c0cb08071a83e6ba46276bcfa579fe20f8f88c83a", func := "quaestor/quaestorlaw07.FieldTables", spec := "fieldTables", apart := false, narrowed := true }
def FieldTablesUptoSaid : Prop := fieldTablesUptoRow.holds Try.pinned (OpenSpec.upto fieldTablesSpec)

/-- 'quaestorlaw07.FieldLaws', WHERE WHAT IT READS IS OF BULK AT MOST 1048576: true; the input reads as it did. -/
def fieldLawsUptoRow : OpenClaim := { program := "ytldanlglefgobaa", sum := "75389602adebd9b29e08e93c0cb08071a83e6ba46276bcfa579fe20f8f88c83a", func := "quaestor/quaestorlaw07.FieldLaws", spec := "fieldLaws", apart := false, narrowed := true }
def FieldLawsUptoSaid : Prop := fieldLawsUptoRow.holds Try.pinned (OpenSpec.upto fieldLawsSpec)

/-- 'quaestorlaw07.FieldSums', WHERE WHAT IT READS IS OF BULK AT MOST 1048576: true; the input reads as it did. -/
def fieldSumsUptoRow : OpenClaim := { program := "ytldanlglefgobaa", sum := "75389602adebd9b29e08e93c0cb08071a83e6ba46276bcfa579fe20f8f88c83a", func := "quaestor/quaestorlaw07.FieldSums", spec := "fieldSums", apart := false, narrowed := true }
def FieldSumsUptoSaid : Prop := fieldSumsUptoRow.holds Try.pinned (OpenSpec.upto fieldSumsSpec)

/-- 'quaestorlaw07.FieldAsks', WHERE WHAT IT READS IS OF BULK AT MOST 1048576: true; the input reads as it did. -/
def fieldAsksUptoRow : OpenClaim := { program := "ytldanlglefgobaa", sum := "75389602adebd9b29e08e93c0cb08071a83e6ba46276bcfa579fe20f8f88c83a", func := "quaestor/quaestorlaw07.FieldAsks", spec := "fieldAsks", apart := false, narrowed := true }
def FieldAsksUptoSaid : Prop := fieldAsksUptoRow.holds Try.pinned (OpenSpec.upto fieldAsksSpec)

/-- 'quaestorlaw07.FieldAny', WHERE WHAT IT READS IS OF BULK AT MOST 1048576: true; the input reads as it did. -/
def fieldAnyUptoRow : OpenClaim := { program := "ytldanlglefgobaa", sum := "75389602adebd9b29e08e93c0cb08071a83e6ba46276bcfa579fe20f8f88c83a", func := "quaestor/quaestorlaw07.FieldAny", spec := "fieldAny", apart := false, narrowed := true }
def FieldAnyUptoSaid : Prop := fieldAnyUptoRow.holds Try.pinned (OpenSpec.upto fieldAnySpec)

/-- 'quaestorlaw08.ShamirSplits', WHERE WHAT IT READS IS OF BULK AT MOST 1048576: true; the input reads as it did. -/
def shamirSplitsUptoRow : OpenClaim := { program := "ytldanlglefgobaa", sum := "75389602adebd9b29e08e93c0cb08071a83e6ba46276bcfa579fe20f8f88c83a", func := "quaestor/quaestorlaw08.ShamirSplits", spec := "shamirSplits", apart := false, narrowed := true }
def ShamirSplitsUptoSaid : Prop := shamirSplitsUptoRow.holds Try.pinned (OpenSpec.upto shamirSplitsSpec)

/-- 'quaestorlaw08.ShamirHides', WHERE WHAT IT READS IS OF BULK AT MOST 1048576: true; the input reads as it did. -/
def shamirHidesUptoRow : OpenClaim := { program := "ytldanlglefgobaa", sum := "75389602adebd9b29e08e93c0cb08071a83e6ba46276bcfa579fe20f8f88c83a", func := "quaestor/quaestorlaw08.ShamirHides", spec := "shamirHides", apart := false, narrowed := true }
def ShamirHidesUptoSaid : Prop := shamirHidesUptoRow.holds Try.pinned (OpenSpec.upto shamirHidesSpec)

/-- 'quaestorlaw08.ShamirSums', WHERE WHAT IT READS IS OF BULK AT MOST 1048576: true; the input reads as it did. -/
def shamirSumsUptoRow : OpenClaim := { program := "ytldanlglefgobaa", sum := "75389602adebd9b29e08e93c0cb08071a83e6ba46276bcfa579fe20f8f88c83a", func := "quaestor/quaestorlaw08.ShamirSums", spec := "shamirSums", apart := false, narrowed := true }
def ShamirSumsUptoSaid : Prop := shamirSumsUptoRow.holds Try.pinned (OpenSpec.upto shamirSumsSpec)

/-- 'quaestorlaw08.ShamirCombines', WHERE WHAT IT READS IS OF BULK AT MOST 1048576: true; the input reads as it did. -/
def shamirCombinesUptoRow : OpenClaim := { program := "ytldanlglefgobaa", sum := "75389602adebd9b29e08e93c0cb08071a83e6ba46276bcfa579fe20f8f88c83a", func := "quaestor/quaestorlaw08.ShamirCombines", spec := "shamirCombines", apart := false, narrowed := true }
def ShamirCombinesUptoSaid : Prop := shamirCombinesUptoRow.holds Try.pinned (OpenSpec.upto shamirCombinesSpec)

/-- 'quaestorlaw08.ShamirBack', WHERE WHAT IT READS IS OF BULK AT MOST 1048576: true; the input reads as it did. -/
def shamirBackUptoRow : OpenClaim := { program := "ytldanlglefgobaa", sum := "75389602adebd9b29e08e93c0cb08071a83e6ba46276bcfa579fe20f8f88c83a", func := "quaestor/quaestorlaw08.ShamirBack", spec := "shamirBack", apart := false, narrowed := true }
def ShamirBackUptoSaid : Prop := shamirBackUptoRow.holds Try.pinned (OpenSpec.upto shamirBackSpec)

end Rows
end Go.Proofs.Ytldanlglefgobaa
