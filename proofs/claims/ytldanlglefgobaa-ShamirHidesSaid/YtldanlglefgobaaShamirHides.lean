/- ShamirHides returns true for every two secrets, all draws and places. Conditions: none. -/
import Derived.Test.YtldanlglefgobaaOpenK
import Derived.Test.YtldanlglefgobaaSham8
namespace Go.Proofs.Ytldanlglefgobaa
open Go.ChangeShapes Go.WideShapes Go.ChangeAt Go.RowKit
set_option maxRecDepth 100000 in
theorem shamirHides_lifted (os : Os) (started : os.Started) (H : Type) (enc : TypeId × Value → H) :
    ReturnsInHanded {} Try.checked os 9 .any (Rows.shamirHidesSpec.pre6 enc Try.prog Try.f9 Rows.shamirHidesRow.domain false) (Rows.shamirHidesSpec.post enc Try.prog Try.f9 false true false false) := by
  refine lift started _ rfl (by kernel_rfl) Try.func9 ⟨rfl, fun H ds h => ?_⟩ rfl (of_decide_eq_true (by kernel_rfl))
    (ChangeSpec.witness6 (enc := enc) (C := Try.checked) false ⟨#[], #[.agg (Array.replicate 32 (.int .u8 0)), .agg (Array.replicate 32 (.int .u8 0)), .agg (Array.replicate 32 (.int .u8 0)), .int .u8 0], []⟩ 8 (by kernel_rfl) (by kernel_rfl) (by kernel_rfl) (by kernel_rfl)) ?_
  · match ds, h with
    | [_, _, _, _], _ => rfl
  · intro W base args ds ps hval hA hlt
    rw [Try.params9] at hA hval
    obtain ⟨v0, vs0, d0, ds0, p0, q0, hargs, rfl, rfl, h0, r0⟩ := trodAll_cons hA
    obtain ⟨v1, vs1, d1, ds1, p1, q1, rfl, rfl, rfl, h1, r1⟩ := trodAll_cons r0
    obtain ⟨v2, vs2, d2, ds2, p2, q2, rfl, rfl, rfl, h2, r2⟩ := trodAll_cons r1
    obtain ⟨v3, vs3, d3, ds3, p3, q3, rfl, rfl, rfl, h3, r3⟩ := trodAll_cons r2
    obtain ⟨rfl, rfl, rfl⟩ := trodAll_nil r3
    obtain rfl : args = #[v0, v1, v2, v3] := by cases args; simp_all
    obtain ⟨k0, rfl, kl0, ks0⟩ := open_key (hval 0 43 v0 rfl rfl) h0
    obtain ⟨k1, rfl, kl1, ks1⟩ := open_key (hval 1 43 v1 rfl rfl) h1
    obtain ⟨k2, rfl, kl2, ks2⟩ := open_key (hval 2 43 v2 rfl rfl) h2
    obtain ⟨a3, rfl, rfl, rfl, w3⟩ := open_int Try.underlying5 (hval 3 5 v3 rfl rfl) h3
    have hb3 := bounds_u8 w3
    obtain ⟨n3, rfl⟩ := Int.eq_ofNat_of_zero_le hb3.1
    exact hides_core k0 k1 k2 n3 _ W kl0 kl1 kl2 ks0 ks1 ks2 (by omega) rfl
theorem shamirHides_holds : Rows.ShamirHidesSaid :=
  OpenClaim.holds_of_wide 9 Try.f9 rfl rfl rfl rfl rfl rfl rfl ⟨rfl, rfl, rfl, rfl, rfl⟩ rfl rfl rfl rfl rfl (by kernel_rfl) Try.func9 (by kernel_rfl)
    (of_decide_eq_true (by kernel_rfl)) (by unfold Func.isWrapper; rw [if_neg (by decide +kernel)]; exact ⟨rfl, rfl⟩)
    (fun os started H enc _ => shamirHides_lifted os started H enc)
#print axioms shamirHides_holds
end Go.Proofs.Ytldanlglefgobaa
