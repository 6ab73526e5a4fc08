/- DeltaReads returns true for any bytes. Conditions: none. -/
import Derived.Test.YtlidfmbmlhaacaaOpenC
import Derived.Test.YtlidfmbmlhaacaaDl5
namespace Go.Proofs.Ytlidfmbmlhaacaa
open Go.ChangeShapes Go.WideShapes Go.ChangeAt Go.RowKit
set_option maxRecDepth 100000 in
theorem deltaReads_lifted (os : Os) (started : os.Started) (H : Type) (enc : TypeId × Value → H) :
    ReturnsInHanded {} Try.checked os 5 .any (Rows.deltaReadsSpec.pre6 enc Try.prog Try.f5 Rows.deltaReadsRow.domain false) (Rows.deltaReadsSpec.post enc Try.prog Try.f5 false true false false) := by
  refine lift started _ rfl (by kernel_rfl) Try.func5 ⟨rfl, fun H ds h => ?_⟩ rfl (of_decide_eq_true (by kernel_rfl))
    (ChangeSpec.witness6 (enc := enc) (C := Try.checked) false ⟨#[], #[.slice none 0 0], []⟩ 8 (by kernel_rfl) (by kernel_rfl) (by kernel_rfl) (by kernel_rfl)) ?_
  · match ds, h with
    | [_], _ => rfl
  · intro W base args ds ps hval hA hlt
    rw [Try.params5] at hA hval
    obtain ⟨v0, vs0, d0, ds0, p0, q0, hargs, rfl, rfl, h0, r0⟩ := trodAll_cons hA
    obtain ⟨rfl, rfl, rfl⟩ := trodAll_nil r0
    obtain rfl : args = #[v0] := by cases args; simp_all
    obtain ⟨A0, l0, cap0, rfl, hl0, hr0, hm0⟩ := open_bytes (hval 0 32 v0 rfl rfl) h0
    exact reads_c A0 cap0 l0 W hr0 hl0 (cap_both h0).1 hm0
theorem deltaReads_holds : Rows.DeltaReadsSaid :=
  OpenClaim.holds_of_wide 5 Try.f5 rfl rfl rfl rfl rfl rfl rfl ⟨rfl, rfl, rfl, rfl, rfl⟩ rfl rfl rfl rfl rfl (by kernel_rfl) Try.func5 (by kernel_rfl)
    (of_decide_eq_true (by kernel_rfl)) (by unfold Func.isWrapper; rw [if_neg (by decide +kernel)]; exact ⟨rfl, rfl⟩)
    (fun os started H enc _ => deltaReads_lifted os started H enc)
#print axioms deltaReads_holds
end Go.Proofs.Ytlidfmbmlhaacaa
