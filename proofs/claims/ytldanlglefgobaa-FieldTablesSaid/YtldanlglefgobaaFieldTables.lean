/- FieldTables returns true for every byte. Conditions: none. -/
import Derived.Test.YtldanlglefgobaaLift
import Derived.Test.YtldanlglefgobaaFld4
namespace Go.Proofs.Ytldanlglefgobaa
open Go.ChangeShapes Go.WideShapes Go.ChangeAt Go.RowKit
set_option maxRecDepth 100000 in
theorem fieldTables_lifted (os : Os) (started : os.Started) (H : Type) (enc : TypeId × Value → H) :
    ReturnsInHanded {} Try.checked os 3 .any (Rows.fieldTablesSpec.pre6 enc Try.prog Try.f3 Rows.fieldTablesRow.domain false) (Rows.fieldTablesSpec.post enc Try.prog Try.f3 false true false false) := by
  refine lift started _ rfl (by kernel_rfl) Try.func3 ⟨rfl, fun H ds h => ?_⟩ rfl (of_decide_eq_true (by kernel_rfl))
    (ChangeSpec.witness6 (enc := enc) (C := Try.checked) false ⟨#[], #[.int .u8 0], []⟩ 8 (by kernel_rfl) (by kernel_rfl) (by kernel_rfl) (by kernel_rfl)) ?_
  · match ds, h with
    | [_], _ => rfl
  · intro W base args ds ps hval hA hlt
    rw [Try.params3] at hA hval
    obtain ⟨v0, vs0, d0, ds0, p0, q0, hargs, rfl, rfl, h0, r0⟩ := trodAll_cons hA
    obtain ⟨rfl, rfl, rfl⟩ := trodAll_nil r0
    obtain rfl : args = #[v0] := by cases args; simp_all
    obtain ⟨a0, rfl, rfl, rfl, w0⟩ := open_int Try.underlying5 (hval 0 5 v0 rfl rfl) h0
    have hb := bounds_u8 w0
    obtain ⟨n, rfl⟩ := Int.eq_ofNat_of_zero_le hb.1
    exact fieldTables_w n (by omega) W
theorem fieldTables_holds : Rows.FieldTablesSaid :=
  OpenClaim.holds_of_wide 3 Try.f3 rfl rfl rfl rfl rfl rfl rfl ⟨rfl, rfl, rfl, rfl, rfl⟩ rfl rfl rfl rfl rfl (by kernel_rfl) Try.func3 (by kernel_rfl)
    (of_decide_eq_true (by kernel_rfl)) (by unfold Func.isWrapper; rw [if_neg (by decide +kernel)]; exact ⟨rfl, rfl⟩)
    (fun os started H enc _ => fieldTables_lifted os started H enc)
#print axioms fieldTables_holds
end Go.Proofs.Ytldanlglefgobaa
