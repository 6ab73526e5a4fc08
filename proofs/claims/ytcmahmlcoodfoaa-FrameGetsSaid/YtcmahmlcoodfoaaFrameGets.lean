/- FrameGets returns true for all bytes. Conditions: none. -/
import Derived.Test.YtcmahmlcoodfoaaOpenB
import Derived.Test.YtcmahmlcoodfoaaFraA
namespace Go.Proofs.Ytcmahmlcoodfoaa
open Go.ChangeShapes Go.WideShapes Go.ChangeAt Go.RowKit
set_option maxRecDepth 100000 in
theorem frameGets_lifted (os : Os) (started : os.Started) (H : Type) (enc : TypeId × Value → H) :
    ReturnsInHanded {} Try.checked os 4 .any (Rows.frameGetsSpec.pre6 enc Try.prog Try.f4 Rows.frameGetsRow.domain false) (Rows.frameGetsSpec.post enc Try.prog Try.f4 false true false false) := by
  refine lift started _ rfl (by kernel_rfl) Try.func4 ⟨rfl, fun H ds h => ?_⟩ rfl (of_decide_eq_true (by kernel_rfl))
    (ChangeSpec.witness6 (enc := enc) (C := Try.checked) false ⟨#[], #[.slice none 0 0], []⟩ 8 (by kernel_rfl) (by kernel_rfl) (by kernel_rfl) (by kernel_rfl)) ?_
  · match ds, h with
    | [_], _ => rfl
  · intro W base args ds ps hval hA hlt
    rw [Try.params4] at hA hval
    obtain ⟨v0, vs0, d0, ds0, p0, q0, hargs, rfl, rfl, h0, r0⟩ := trodAll_cons hA
    obtain ⟨rfl, rfl, rfl⟩ := trodAll_nil r0
    obtain rfl : args = #[v0] := by cases args; simp_all
    obtain ⟨A0, l0, cap0, rfl, hl0, hr0, hm0⟩ := open_bytes (hval 0 35 v0 rfl rfl) h0
    exact frameGets_w A0 cap0 l0 W hl0 hr0 (cap_bytes h0)
theorem frameGets_holds : Rows.FrameGetsSaid :=
  OpenClaim.holds_of_wide 4 Try.f4 rfl rfl rfl rfl rfl rfl rfl ⟨rfl, rfl, rfl, rfl, rfl⟩ rfl rfl rfl rfl rfl (by kernel_rfl) Try.func4 (by kernel_rfl)
    (of_decide_eq_true (by kernel_rfl)) (by unfold Func.isWrapper; rw [if_neg (by decide +kernel)]; exact ⟨rfl, rfl⟩)
    (fun os started H enc _ => frameGets_lifted os started H enc)
#print axioms frameGets_holds
end Go.Proofs.Ytcmahmlcoodfoaa
