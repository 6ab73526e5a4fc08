/- PolyOnce returns true for every key, any sixteen bytes and any bytes. -/
import Derived.Test.YtfblpkjablgafaaOnc1
import Derived.Test.YtfblpkjablgafaaLift
import Derived.Test.YtfblpkjablgafaaOpen16
namespace Go.Proofs.Ytfblpkjablgafaa
open Go.ChangeShapes Go.WideShapes Go.ChangeAt Go.RowKit
set_option maxRecDepth 100000 in
theorem polyOnce_lifted (os : Os) (started : os.Started) (H : Type) (enc : TypeId × Value → H) :
    ReturnsInHanded {} Try.checked os 6 .any (Rows.polyOnceSpec.pre6 enc Try.prog Try.f6 Rows.polyOnceRow.domain false) (Rows.polyOnceSpec.post enc Try.prog Try.f6 false true false false) := by
  refine lift started _ rfl (by kernel_rfl) Try.func6 ⟨rfl, fun H ds h => ?_⟩ rfl (of_decide_eq_true (by kernel_rfl))
    (ChangeSpec.witness6 (enc := enc) (C := Try.checked) false ⟨#[], #[.agg (Array.replicate 32 (.int .u8 0)), .agg (Array.replicate 16 (.int .u8 0)), .slice none 0 0], []⟩ 8 (by kernel_rfl) (by kernel_rfl) (by kernel_rfl) (by kernel_rfl)) ?_
  · match ds, h with
    | [_, _, _], _ => rfl
  · intro W base args ds ps hval hA hlt
    rw [Try.params6] at hA hval
    obtain ⟨v0, vs0, d0, ds0, p0, q0, hargs, rfl, rfl, h0, r0⟩ := trodAll_cons hA
    obtain ⟨v1, vs1, d1, ds1, p1, q1, rfl, rfl, rfl, h1, r1⟩ := trodAll_cons r0
    obtain ⟨v2, vs2, d2, ds2, p2, q2, rfl, rfl, rfl, h2, r2⟩ := trodAll_cons r1
    obtain ⟨rfl, rfl, rfl⟩ := trodAll_nil r2
    obtain rfl : args = #[v0, v1, v2] := by cases args; simp_all
    obtain ⟨k0, rfl, kl0, ks0⟩ := open_key (hval 0 23 v0 rfl rfl) h0
    obtain ⟨k1, rfl, kl1, ks1⟩ := open_b16 (hval 1 28 v1 rfl rfl) h1
    obtain ⟨A2, l2, cap2, rfl, hl2, hr2, hm2⟩ := open_bytes (hval 2 24 v2 rfl rfl) h2
    exact polyOnce_w k0 k1 A2 cap2 l2 W kl0 ks0 kl1 ks1 hl2 hr2 hm2
theorem polyOnce_holds : Rows.PolyOnceSaid :=
  OpenClaim.holds_of_wide 6 Try.f6 rfl rfl rfl rfl rfl rfl rfl ⟨rfl, rfl, rfl, rfl, rfl⟩ rfl rfl rfl rfl rfl (by kernel_rfl) Try.func6 (by kernel_rfl)
    (of_decide_eq_true (by kernel_rfl)) (by unfold Func.isWrapper; rw [if_neg (by decide +kernel)]; exact ⟨rfl, rfl⟩)
    (fun os started H enc _ => polyOnce_lifted os started H enc)
#print axioms polyOnce_holds
end Go.Proofs.Ytfblpkjablgafaa
