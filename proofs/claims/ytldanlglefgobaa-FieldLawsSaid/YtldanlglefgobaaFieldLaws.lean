/- FieldLaws returns true for all three bytes. Conditions: none. -/
import Derived.Test.YtldanlglefgobaaLift
import Derived.Test.YtldanlglefgobaaFld5
namespace Go.Proofs.Ytldanlglefgobaa
open Go.ChangeShapes Go.WideShapes Go.ChangeAt Go.RowKit
set_option maxRecDepth 100000 in
theorem fieldLaws_lifted (os : Os) (started : os.Started) (H : Type) (enc : TypeId × Value → H) :
    ReturnsInHanded {} Try.checked os 4 .any (Rows.fieldLawsSpec.pre6 enc Try.prog Try.f4 Rows.fieldLawsRow.domain false) (Rows.fieldLawsSpec.post enc Try.prog Try.f4 false true false false) := by
  refine lift started _ rfl (by kernel_rfl) Try.func4 ⟨rfl, fun H ds h => ?_⟩ rfl (of_decide_eq_true (by kernel_rfl))
    (ChangeSpec.witness6 (enc := enc) (C := Try.checked) false ⟨#[], #[.int .u8 0, .int .u8 0, .int .u8 0], []⟩ 8 (by kernel_rfl) (by kernel_rfl) (by kernel_rfl) (by kernel_rfl)) ?_
  · match ds, h with
    | [_, _, _], _ => rfl
  · intro W base args ds ps hval hA hlt
    rw [Try.params4] at hA hval
    obtain ⟨v0, vs0, d0, ds0, p0, q0, hargs, rfl, rfl, h0, r0⟩ := trodAll_cons hA
    obtain ⟨v1, vs1, d1, ds1, p1, q1, rfl, rfl, rfl, h1, r1⟩ := trodAll_cons r0
    obtain ⟨v2, vs2, d2, ds2, p2, q2, rfl, rfl, rfl, h2, r2⟩ := trodAll_cons r1
    obtain ⟨rfl, rfl, rfl⟩ := trodAll_nil r2
    obtain rfl : args = #[v0, v1, v2] := by cases args; simp_all
    obtain ⟨a0, rfl, rfl, rfl, w0⟩ := open_int Try.underlying5 (hval 0 5 v0 rfl rfl) h0
    have hb0 := bounds_u8 w0
    obtain ⟨n0, rfl⟩ := Int.eq_ofNat_of_zero_le hb0.1
    obtain ⟨a1, rfl, rfl, rfl, w1⟩ := open_int Try.underlying5 (hval 1 5 v1 rfl rfl) h1
    have hb1 := bounds_u8 w1
    obtain ⟨n1, rfl⟩ := Int.eq_ofNat_of_zero_le hb1.1
    obtain ⟨a2, rfl, rfl, rfl, w2⟩ := open_int Try.underlying5 (hval 2 5 v2 rfl rfl) h2
    have hb2 := bounds_u8 w2
    obtain ⟨n2, rfl⟩ := Int.eq_ofNat_of_zero_le hb2.1
    exact fieldLaws_w n0 n1 n2 (by omega) (by omega) (by omega) W
theorem fieldLaws_holds : Rows.FieldLawsSaid :=
  OpenClaim.holds_of_wide 4 Try.f4 rfl rfl rfl rfl rfl rfl rfl ⟨rfl, rfl, rfl, rfl, rfl⟩ rfl rfl rfl rfl rfl (by kernel_rfl) Try.func4 (by kernel_rfl)
    (of_decide_eq_true (by kernel_rfl)) (by unfold Func.isWrapper; rw [if_neg (by decide +kernel)]; exact ⟨rfl, rfl⟩)
    (fun os started H enc _ => fieldLaws_lifted os started H enc)
#print axioms fieldLaws_holds
end Go.Proofs.Ytldanlglefgobaa
