/- ShamirSums returns true for all rows of keys. Conditions: none. -/
import Derived.Test.YtldanlglefgobaaOpenR
import Derived.Test.YtldanlglefgobaaSsu3
namespace Go.Proofs.Ytldanlglefgobaa
open Go.ChangeShapes Go.WideShapes Go.ChangeAt Go.RowKit
set_option maxRecDepth 100000 in
theorem shamirSums_lifted (os : Os) (started : os.Started) (H : Type) (enc : TypeId × Value → H) :
    ReturnsInHanded {} Try.checked os 10 .any (Rows.shamirSumsSpec.pre6 enc Try.prog Try.f10 Rows.shamirSumsRow.domain false) (Rows.shamirSumsSpec.post enc Try.prog Try.f10 false true false false) := by
  refine lift started _ rfl (by kernel_rfl) Try.func10 ⟨rfl, fun H ds h => ?_⟩ rfl (of_decide_eq_true (by kernel_rfl))
    (ChangeSpec.witness6 (enc := enc) (C := Try.checked) false ⟨#[], #[.slice none 0 0, .slice none 0 0], []⟩ 8 (by kernel_rfl) (by kernel_rfl) (by kernel_rfl) (by kernel_rfl)) ?_
  · match ds, h with
    | [_, _], _ => rfl
  · intro W base args ds ps hval hA hlt
    rw [Try.params10] at hA hval
    obtain ⟨v0, vs0, d0, ds0, p0, q0, hargs, rfl, rfl, h0, r0⟩ := trodAll_cons hA
    obtain ⟨v1, vs1, d1, ds1, p1, q1, rfl, rfl, rfl, h1, r1⟩ := trodAll_cons r0
    obtain ⟨rfl, rfl, rfl⟩ := trodAll_nil r1
    obtain rfl : args = #[v0, v1] := by cases args; simp_all
    obtain ⟨A0, L0, n0, cap0, rfl, hc0, hm0, hL0, hl0, hr0⟩ := open_keys (hval 0 52 v0 rfl rfl) h0
    obtain ⟨A1, L1, n1, cap1, rfl, hc1, hm1, hL1, hl1, hr1⟩ := open_keys (hval 1 52 v1 rfl rfl) h1
    exact shamirSums_w A0 A1 n0 n1 cap0 cap1 L0 L1 W hc0 hc1 hm0 hm1 hL0 hL1 hl0 hl1 hr0 hr1
theorem shamirSums_holds : Rows.ShamirSumsSaid :=
  OpenClaim.holds_of_wide 10 Try.f10 rfl rfl rfl rfl rfl rfl rfl ⟨rfl, rfl, rfl, rfl, rfl⟩ rfl rfl rfl rfl rfl (by kernel_rfl) Try.func10 (by kernel_rfl)
    (of_decide_eq_true (by kernel_rfl)) (by unfold Func.isWrapper; rw [if_neg (by decide +kernel)]; exact ⟨rfl, rfl⟩)
    (fun os started H enc _ => shamirSums_lifted os started H enc)
#print axioms shamirSums_holds
end Go.Proofs.Ytldanlglefgobaa
