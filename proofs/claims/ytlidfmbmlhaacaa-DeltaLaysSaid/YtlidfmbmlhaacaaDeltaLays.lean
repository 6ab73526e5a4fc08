/- DeltaLays returns true for any pieces. Conditions: none. -/
import Derived.Test.YtlidfmbmlhaacaaOpP
import Derived.Test.YtlidfmbmlhaacaaDl4
namespace Go.Proofs.Ytlidfmbmlhaacaa
open Go.ChangeShapes Go.WideShapes Go.ChangeAt Go.RowKit
set_option maxRecDepth 100000 in
theorem deltaLays_lifted (os : Os) (started : os.Started) (H : Type) (enc : TypeId × Value → H) :
    ReturnsInHanded {} Try.checked os 4 .any (Rows.deltaLaysSpec.pre6 enc Try.prog Try.f4 Rows.deltaLaysRow.domain false) (Rows.deltaLaysSpec.post enc Try.prog Try.f4 false true false false) := by
  refine lift started _ rfl (by kernel_rfl) Try.func4 ⟨rfl, fun H ds h => ?_⟩ rfl (of_decide_eq_true (by kernel_rfl))
    (ChangeSpec.witness6 (enc := enc) (C := Try.checked) false ⟨#[], #[.slice none 0 0], []⟩ 8 (by kernel_rfl) (by kernel_rfl) (by kernel_rfl) (by kernel_rfl)) ?_
  · match ds, h with
    | [_], _ => rfl
  · intro W base args ds ps hval hA hlt
    rw [Try.params4] at hA hval
    obtain ⟨v0, vs0, d0, ds0, p0, q0, hargs, rfl, rfl, h0, r0⟩ := trodAll_cons hA
    obtain ⟨rfl, rfl, rfl⟩ := trodAll_nil r0
    obtain rfl : args = #[v0] := by cases args; simp_all
    obtain ⟨A0, l0, cap0, rfl, hc0, hm0, hl0, hr0⟩ := open_pieces (hval 0 22 v0 rfl rfl) h0
    exact lays_c A0 cap0 l0 W hr0 hc0 hl0 hm0
theorem deltaLays_holds : Rows.DeltaLaysSaid :=
  OpenClaim.holds_of_wide 4 Try.f4 rfl rfl rfl rfl rfl rfl rfl ⟨rfl, rfl, rfl, rfl, rfl⟩ rfl rfl rfl rfl rfl (by kernel_rfl) Try.func4 (by kernel_rfl)
    (of_decide_eq_true (by kernel_rfl)) (by unfold Func.isWrapper; rw [if_neg (by decide +kernel)]; exact ⟨rfl, rfl⟩)
    (fun os started H enc _ => deltaLays_lifted os started H enc)
#print axioms deltaLays_holds
end Go.Proofs.Ytlidfmbmlhaacaa
