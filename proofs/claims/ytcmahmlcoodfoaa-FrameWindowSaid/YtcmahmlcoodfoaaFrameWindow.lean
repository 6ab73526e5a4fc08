/- FrameWindow returns true for every first number and all steps. Conditions: none. -/
import Derived.Test.YtcmahmlcoodfoaaOpenI8
import Derived.Test.YtcmahmlcoodfoaaWin4
namespace Go.Proofs.Ytcmahmlcoodfoaa
open Go.ChangeShapes Go.WideShapes Go.ChangeAt Go.RowKit
set_option maxRecDepth 100000 in
theorem frameWindow_lifted (os : Os) (started : os.Started) (H : Type) (enc : TypeId × Value → H) :
    ReturnsInHanded {} Try.checked os 3 .any (Rows.frameWindowSpec.pre6 enc Try.prog Try.f3 Rows.frameWindowRow.domain false) (Rows.frameWindowSpec.post enc Try.prog Try.f3 false true false false) := by
  refine lift started _ rfl (by kernel_rfl) Try.func3 ⟨rfl, fun H ds h => ?_⟩ rfl (of_decide_eq_true (by kernel_rfl))
    (ChangeSpec.witness6 (enc := enc) (C := Try.checked) false ⟨#[], #[.int .u64 0, .slice none 0 0], []⟩ 8 (by kernel_rfl) (by kernel_rfl) (by kernel_rfl) (by kernel_rfl)) ?_
  · match ds, h with
    | [_, _], _ => rfl
  · intro W base args ds ps hval hA hlt
    rw [Try.params3] at hA hval
    obtain ⟨v0, vs0, d0, ds0, p0, q0, hargs, rfl, rfl, h0, r0⟩ := trodAll_cons hA
    obtain ⟨v1, vs1, d1, ds1, p1, q1, rfl, rfl, rfl, h1, r1⟩ := trodAll_cons r0
    obtain ⟨rfl, rfl, rfl⟩ := trodAll_nil r1
    obtain rfl : args = #[v0, v1] := by cases args; simp_all
    obtain ⟨a0, rfl, rfl, rfl, w0⟩ := open_int Try.underlying22 (hval 0 22 v0 rfl rfl) h0
    have hb0 := bounds_u64 w0
    obtain ⟨n0, rfl⟩ := Int.eq_ofNat_of_zero_le hb0.1
    obtain ⟨A1, l1, cap1, rfl, hl1, hr1, hm1⟩ := open_i8s (hval 1 23 v1 rfl rfl) h1
    exact frameWindow_w n0 A1 l1 cap1 (by omega) hl1 W hr1 hm1
theorem frameWindow_holds : Rows.FrameWindowSaid :=
  OpenClaim.holds_of_wide 3 Try.f3 rfl rfl rfl rfl rfl rfl rfl ⟨rfl, rfl, rfl, rfl, rfl⟩ rfl rfl rfl rfl rfl (by kernel_rfl) Try.func3 (by kernel_rfl)
    (of_decide_eq_true (by kernel_rfl)) (by unfold Func.isWrapper; rw [if_neg (by decide +kernel)]; exact ⟨rfl, rfl⟩)
    (fun os started H enc _ => frameWindow_lifted os started H enc)
#print axioms frameWindow_holds
end Go.Proofs.Ytcmahmlcoodfoaa
