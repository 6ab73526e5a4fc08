/- FramePuts returns true for any two frames. Conditions: none. -/
import Derived.Test.YtcmahmlcoodfoaaOpenF
import Derived.Test.YtcmahmlcoodfoaaFraH
namespace Go.Proofs.Ytcmahmlcoodfoaa
open Go.ChangeShapes Go.WideShapes Go.ChangeAt Go.RowKit
set_option maxRecDepth 100000 in
theorem framePuts_lifted (os : Os) (started : os.Started) (H : Type) (enc : TypeId × Value → H) :
    ReturnsInHanded {} Try.checked os 7 .any (Rows.framePutsSpec.pre6 enc Try.prog Try.f7 Rows.framePutsRow.domain false) (Rows.framePutsSpec.post enc Try.prog Try.f7 false true false false) := by
  refine lift started _ rfl (by kernel_rfl) Try.func7 ⟨rfl, fun H ds h => ?_⟩ rfl (of_decide_eq_true (by kernel_rfl))
    (ChangeSpec.witness6 (enc := enc) (C := Try.checked) false ⟨#[], #[.agg zF, .agg zF], []⟩ 8 (by kernel_rfl) (by kernel_rfl) (by kernel_rfl) (by kernel_rfl)) ?_
  · match ds, h with
    | [_, _], _ => rfl
  · intro W base args ds ps hval hA hlt
    rw [Try.params7] at hA hval
    obtain ⟨v0, vs0, d0, ds0, p0, q0, hargs, rfl, rfl, h0, r0⟩ := trodAll_cons hA
    obtain ⟨v1, vs1, d1, ds1, p1, q1, rfl, rfl, rfl, h1, r1⟩ := trodAll_cons r0
    obtain ⟨rfl, rfl, rfl⟩ := trodAll_nil r1
    obtain rfl : args = #[v0, v1] := by cases args; simp_all
    obtain ⟨x0, A0, c0, rfl, ok0, lc0, rd0⟩ := open_frame (hval 0 43 v0 rfl rfl) h0
    obtain ⟨x1, A1, c1, rfl, ok1, lc1, rd1⟩ := open_frame (hval 1 43 v1 rfl rfl) h1
    exact framePuts_w x0 x1 A0 A1 c0 c1 W ok0 ok1 lc0 lc1 rd0 rd1
theorem framePuts_holds : Rows.FramePutsSaid :=
  OpenClaim.holds_of_wide 7 Try.f7 rfl rfl rfl rfl rfl rfl rfl ⟨rfl, rfl, rfl, rfl, rfl⟩ rfl rfl rfl rfl rfl (by kernel_rfl) Try.func7 (by kernel_rfl)
    (of_decide_eq_true (by kernel_rfl)) (by unfold Func.isWrapper; rw [if_neg (by decide +kernel)]; exact ⟨rfl, rfl⟩)
    (fun os started H enc _ => framePuts_lifted os started H enc)
#print axioms framePuts_holds
end Go.Proofs.Ytcmahmlcoodfoaa
