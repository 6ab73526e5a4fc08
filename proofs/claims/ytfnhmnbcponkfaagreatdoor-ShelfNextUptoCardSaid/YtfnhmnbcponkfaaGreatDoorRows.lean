/-
  NARROWER THAN 'FOR EVERY INPUT', by the rows' own cells (each row's printed sentence says how): ShelfNext: laid · ShelfReads: laid.
  DERIVED. THE GIVEN ROWS OF THIS SEAT. 2 by the template 'for every input the law returns true; each argument reads behind the call as it read before'; 0 by the template 'total and deterministic' (their statements: YtfnhmnbcponkfaaGreatDoorTotals.lean).
  GIVEN WITH THE SEED: the statements are not yours to turn. If you find one false, say at which input.
  Laid BY PROGRAM, IN A SANDBOX (cutbox-rows.mjs): the forced cells as the released guide's own fill.sh prints them over the translation e7496936ce904666… (all of the seat's roots in one cut). By AI agents, Wed Nov 11 2026. No macro, syntax, notation, axiom, sorry.
-/
import Derived.Test.YtfnhmnbcponkfaaGreatDoorChecked
import GoSem.Claim
import GoSem.ClaimJoined
import GoSem.ClaimMapViews
import Derived.JoinedTies
import Derived.KernelRfl
namespace Go.Proofs.YtfnhmnbcponkfaaGreatDoor
/- THE CELL 'sum', in the pinned program and in every row, IS THE sha256 OF THE DUMP (.gsa) THAT YtfnhmnbcponkfaaGreatDoorProg.lean LOADS. Nothing in Lean hashes anything: it is a label: what it is worth is what the hold of that sum in a sandbox is worth. -/
noncomputable def Tryz.pinned : Pinned := { name := "ytfnhmnbcponkfaagreatdoor", sum := "e7496936ce904666748077ce3edb4da36d6376c4dbd84f9ab431488c66baa6e9", checked := Tryz.checked }
namespace Rows
def none {H : Type} : Left H := { results := [], args := [] }

/- WHAT THE LISTED PACKAGE-LEVEL VARIABLES READ AS WHEN THE CALL BEGINS. Each datum BY PROGRAM (the guide's laid-datum.mjs) off the statement by which the dump's own 'gosem.cut.vars' lays the variable. In a bare row this is a premise. The card (YtfnhmnbcponkfaaGreatDoorCards.lean) ties it to the program's text. -/
def laid_quaestor_chacha_quarters {H : Type} : DataW H := .agg [.agg [.lit (.int .i64 0), .lit (.int .i64 4), .lit (.int .i64 8), .lit (.int .i64 12)], .agg [.lit (.int .i64 1), .lit (.int .i64 5), .lit (.int .i64 9), .lit (.int .i64 13)], .agg [.lit (.int .i64 2), .lit (.int .i64 6), .lit (.int .i64 10), .lit (.int .i64 14)], .agg [.lit (.int .i64 3), .lit (.int .i64 7), .lit (.int .i64 11), .lit (.int .i64 15)], .agg [.lit (.int .i64 0), .lit (.int .i64 5), .lit (.int .i64 10), .lit (.int .i64 15)], .agg [.lit (.int .i64 1), .lit (.int .i64 6), .lit (.int .i64 11), .lit (.int .i64 12)], .agg [.lit (.int .i64 2), .lit (.int .i64 7), .lit (.int .i64 8), .lit (.int .i64 13)], .agg [.lit (.int .i64 3), .lit (.int .i64 4), .lit (.int .i64 9), .lit (.int .i64 14)]]

/-- 'quaestorlaw29.ShelfNext': WHATEVER THE INPUT: true; the input reads as it did. -/
def shelfNextSpec : ChangeSpec := { name := "shelfNext", fn := fun _ => fun
  | [d1, d2, d3, d4] => { results := [.lit (.bool true)], args := [d1, d2, d3, d4] }
  | _ => none }
def shelfNextRow : OpenClaim := { program := "ytfnhmnbcponkfaagreatdoor", sum := "e7496936ce904666748077ce3edb4da36d6376c4dbd84f9ab431488c66baa6e9", func := "quaestor/quaestorlaw29.ShelfNext", spec := "shelfNext", unfollowed := true, recurses := true, named := ["quaestor/chacha.quarters"], plainKeys := false, apart := false, laid := [("quaestor/chacha.quarters", laid_quaestor_chacha_quarters)] }
def ShelfNextSaid : Prop := shelfNextRow.holds Tryz.pinned (OpenSpec.ofChange shelfNextSpec)

/-- ITS FALSE NEIGHBOUR: 'it returns false'. Refute it at one input. -/
def shelfNextWrong : ChangeSpec := { name := "shelfNext", fn := fun _ => fun
  | [d1, d2, d3, d4] => { results := [.lit (.bool false)], args := [d1, d2, d3, d4] }
  | _ => none }
def ShelfNextWrongFalsely : Prop := shelfNextRow.holds Tryz.pinned (OpenSpec.ofChange shelfNextWrong)

/-- 'quaestorlaw29.ShelfReads': WHATEVER THE INPUT: true; the input reads as it did. -/
def shelfReadsSpec : ChangeSpec := { name := "shelfReads", fn := fun _ => fun
  | [d1, d2, d3] => { results := [.lit (.bool true)], args := [d1, d2, d3] }
  | _ => none }
def shelfReadsRow : OpenClaim := { program := "ytfnhmnbcponkfaagreatdoor", sum := "e7496936ce904666748077ce3edb4da36d6376c4dbd84f9ab431488c66baa6e9", func := "quaestor/quaestorlaw29.ShelfReads", spec := "shelfReads", unfollowed := true, recurses := true, named := ["quaestor/chacha.quarters"], plainKeys := false, apart := false, laid := [("quaestor/chacha.quarters", laid_quaestor_chacha_quarters)] }
def ShelfReadsSaid : Prop := shelfReadsRow.holds Tryz.pinned (OpenSpec.ofChange shelfReadsSpec)

/-- ITS FALSE NEIGHBOUR: 'it returns false'. Refute it at one input. -/
def shelfReadsWrong : ChangeSpec := { name := "shelfReads", fn := fun _ => fun
  | [d1, d2, d3] => { results := [.lit (.bool false)], args := [d1, d2, d3] }
  | _ => none }
def ShelfReadsWrongFalsely : Prop := shelfReadsRow.holds Tryz.pinned (OpenSpec.ofChange shelfReadsWrong)

/- THE SECOND FORM. 'bulk': how many values and letters a reading holds, each counted each time it is reached (what is shared counts as often as it is met; a slice's spare places count too). A statement '..UptoSaid' is the law's where the arguments, and the package variables that the reading takes, are together of bulk at most 1048576: NARROWER than '..Said'. Prove '..Said' where nothing that the law and all that it calls make is longer than what came in: it says more and counts as full. Else prove '..UptoSaid'. A law counts once. -/
mutual
def uptoBulk {H : Type} : DataW H → Nat
  | .lit (.string bytes) => bytes.length + 1
  | .lit _ => 1
  | .nil => 1
  | .ptr d => uptoBulk d + 1
  | .slice elems spare => uptoBulkAll elems + uptoBulkAll spare + 1
  | .agg parts => uptoBulkAll parts + 1
  | .iface _ d => uptoBulk d + 1
  | .map entries => uptoBulkEntries entries + 1
  | .held _ => 1
def uptoBulkAll {H : Type} : List (DataW H) → Nat
  | [] => 0
  | d :: r => uptoBulk d + uptoBulkAll r
def uptoBulkEntries {H : Type} : List (Lit × DataW H) → Nat
  | [] => 0
  | x :: r => uptoBulkEntry x + uptoBulkEntries r
def uptoBulkEntry {H : Type} : Lit × DataW H → Nat
  | (.string bytes, d) => bytes.length + uptoBulk d + 1
  | (_, d) => uptoBulk d + 1
 end
def uptoSmall : (H : Type) → List (DataW H) → Bool := fun _ ds => decide (uptoBulkAll ds ≤ 1048576)
def OpenSpec.upto (s : _root_.Go.ChangeSpec) : _root_.Go.OpenSpec := { _root_.Go.OpenSpec.ofChange s with cond := some uptoSmall }

/-- 'quaestorlaw29.ShelfNext', WHERE WHAT IT READS IS OF BULK AT MOST 1048576: true; the input reads as it did. -/
def shelfNextUptoRow : OpenClaim := { program := "ytfnhmnbcponkfaagreatdoor", sum := "e7496936ce904666748077ce3edb4da36d6376c4dbd84f9ab431488c66baa6e9", func := "quaestor/quaestorlaw29.ShelfNext", spec := "shelfNext", unfollowed := true, recurses := true, named := ["quaestor/chacha.quarters"], plainKeys := false, apart := false, laid := [("quaestor/chacha.quarters", laid_quaestor_chacha_quarters)], narrowed := true }
def ShelfNextUptoSaid : Prop := shelfNextUptoRow.holds Tryz.pinned (OpenSpec.upto shelfNextSpec)

/-- 'quaestorlaw29.ShelfReads', WHERE WHAT IT READS IS OF BULK AT MOST 1048576: true; the input reads as it did. -/
def shelfReadsUptoRow : OpenClaim := { program := "ytfnhmnbcponkfaagreatdoor", sum := "e7496936ce904666748077ce3edb4da36d6376c4dbd84f9ab431488c66baa6e9", func := "quaestor/quaestorlaw29.ShelfReads", spec := "shelfReads", unfollowed := true, recurses := true, named := ["quaestor/chacha.quarters"], plainKeys := false, apart := false, laid := [("quaestor/chacha.quarters", laid_quaestor_chacha_quarters)], narrowed := true }
def ShelfReadsUptoSaid : Prop := shelfReadsUptoRow.holds Tryz.pinned (OpenSpec.upto shelfReadsSpec)

end Rows
end Go.Proofs.YtfnhmnbcponkfaaGreatDoor
