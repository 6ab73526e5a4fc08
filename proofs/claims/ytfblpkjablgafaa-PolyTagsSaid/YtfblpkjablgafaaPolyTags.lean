/- PolyTags returns true for every key, any bytes and any cut. -/
import Derived.Test.YtfblpkjablgafaaPtg1
import Derived.Test.YtfblpkjablgafaaLift
import Derived.Test.YtfblpkjablgafaaOpenK
import Derived.Test.YtfblpkjablgafaaOpenC
namespace Go.Proofs.Ytfblpkjablgafaa
open Go.ChangeShapes Go.WideShapes Go.ChangeAt Go.RowKit
set_option maxRecDepth 100000 in
theorem polyTags_lifted (os : Os) (started : os.Started) (H : Type) (enc : TypeId × Value → H) :
    ReturnsInHanded {} Try.checked os 3 .any (Rows.polyTagsSpec.pre6 enc Try.prog Try.f3 Rows.polyTagsRow.domain false) (Rows.polyTagsSpec.post enc Try.prog Try.f3 false true false false) := by
  refine lift started _ rfl (by kernel_rfl) Try.func3 ⟨rfl, fun H ds h => ?_⟩ rfl (of_decide_eq_true (by kernel_rfl))
    (ChangeSpec.witness6 (enc := enc) (C := Try.checked) false ⟨#[], #[.agg (Array.replicate 32 (.int .u8 0)), .slice none 0 0, .int .i64 0], []⟩ 8 (by kernel_rfl) (by kernel_rfl) (by kernel_rfl) (by kernel_rfl)) ?_
  · match ds, h with
    | [_, _, _], _ => rfl
  · intro W base args ds ps hval hA hlt
    rw [Try.params3] at hA hval
    obtain ⟨v0, vs0, d0, ds0, p0, q0, hargs, rfl, rfl, h0, r0⟩ := trodAll_cons hA
    obtain ⟨v1, vs1, d1, ds1, p1, q1, rfl, rfl, rfl, h1, r1⟩ := trodAll_cons r0
    obtain ⟨v2, vs2, d2, ds2, p2, q2, rfl, rfl, rfl, h2, r2⟩ := trodAll_cons r1
    obtain ⟨rfl, rfl, rfl⟩ := trodAll_nil r2
    obtain rfl : args = #[v0, v1, v2] := by cases args; simp_all
    obtain ⟨k0, rfl, kl0, ks0⟩ := open_key (hval 0 23 v0 rfl rfl) h0
    obtain ⟨A1, l1, cap1, rfl, hl1, hr1, hm1⟩ := open_bytes (hval 1 24 v1 rfl rfl) h1
    obtain ⟨a2, rfl, rfl, rfl, w2⟩ := open_int Try.underlying3 (hval 2 3 v2 rfl rfl) h2
    have hb2 := bounds_i64 w2
    exact polyTags_w k0 A1 cap1 l1 a2 W kl0 ks0 hl1 hr1 hm1 (cap_both h1).1 (cap_both h1).2 hb2.1 hb2.2
theorem polyTags_holds : Rows.PolyTagsSaid :=
  OpenClaim.holds_of_wide 3 Try.f3 rfl rfl rfl rfl rfl rfl rfl ⟨rfl, rfl, rfl, rfl, rfl⟩ rfl rfl rfl rfl rfl (by kernel_rfl) Try.func3 (by kernel_rfl)
    (of_decide_eq_true (by kernel_rfl)) (by unfold Func.isWrapper; rw [if_neg (by decide +kernel)]; exact ⟨rfl, rfl⟩)
    (fun os started H enc _ => polyTags_lifted os started H enc)
#print axioms polyTags_holds
end Go.Proofs.Ytfblpkjablgafaa
