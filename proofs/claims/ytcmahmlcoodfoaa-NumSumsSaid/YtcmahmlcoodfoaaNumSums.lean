/- NumSums returns true for all two wide numbers. Conditions: none. -/
import Derived.Test.YtcmahmlcoodfoaaOpenW
import Derived.Test.YtcmahmlcoodfoaaRs4
namespace Go.Proofs.Ytcmahmlcoodfoaa
open Go.ChangeShapes Go.WideShapes Go.ChangeAt Go.RowKit
set_option maxRecDepth 100000 in
theorem numSums_lifted (os : Os) (started : os.Started) (H : Type) (enc : TypeId × Value → H) :
    ReturnsInHanded {} Try.checked os 9 .any (Rows.numSumsSpec.pre6 enc Try.prog Try.f9 Rows.numSumsRow.domain false) (Rows.numSumsSpec.post enc Try.prog Try.f9 false true false false) := by
  refine lift started _ rfl (by kernel_rfl) Try.func9 ⟨rfl, fun H ds h => ?_⟩ rfl (of_decide_eq_true (by kernel_rfl))
    (ChangeSpec.witness6 (enc := enc) (C := Try.checked) false ⟨#[], #[.agg #[.int .i64 0, .int .u64 0], .agg #[.int .i64 0, .int .u64 0]], []⟩ 8 (by kernel_rfl) (by kernel_rfl) (by kernel_rfl) (by kernel_rfl)) ?_
  · match ds, h with
    | [_, _], _ => rfl
  · intro W base args ds ps hval hA hlt
    rw [Try.params9] at hA hval
    obtain ⟨v0, vs0, d0, ds0, p0, q0, hargs, rfl, rfl, h0, r0⟩ := trodAll_cons hA
    obtain ⟨v1, vs1, d1, ds1, p1, q1, rfl, rfl, rfl, h1, r1⟩ := trodAll_cons r0
    obtain ⟨rfl, rfl, rfl⟩ := trodAll_nil r1
    obtain rfl : args = #[v0, v1] := by cases args; simp_all
    obtain ⟨h0i, l0i, rfl, wa0, wb0, wc0⟩ := open_wide (hval 0 67 v0 rfl rfl) h0
    obtain ⟨h1i, l1i, rfl, wa1, wb1, wc1⟩ := open_wide (hval 1 67 v1 rfl rfl) h1
    exact numSums_w h0i h1i l0i l1i W wa0 wb0 wa1 wb1 wc0 wc1
theorem numSums_holds : Rows.NumSumsSaid :=
  OpenClaim.holds_of_wide 9 Try.f9 rfl rfl rfl rfl rfl rfl rfl ⟨rfl, rfl, rfl, rfl, rfl⟩ rfl rfl rfl rfl rfl (by kernel_rfl) Try.func9 (by kernel_rfl)
    (of_decide_eq_true (by kernel_rfl)) (by unfold Func.isWrapper; rw [if_neg (by decide +kernel)]; exact ⟨rfl, rfl⟩)
    (fun os started H enc _ => numSums_lifted os started H enc)
#print axioms numSums_holds
end Go.Proofs.Ytcmahmlcoodfoaa
