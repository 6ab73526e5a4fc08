/- ShamirCombines returns true for all shares, numbers and draws. Conditions: none. -/
import Derived.Test.YtldanlglefgobaaOpenR
import Derived.Test.YtldanlglefgobaaOpenK
import Derived.Test.YtldanlglefgobaaCmb6
namespace Go.Proofs.Ytldanlglefgobaa
open Go.ChangeShapes Go.WideShapes Go.ChangeAt Go.RowKit
set_option maxRecDepth 100000 in
theorem shamirCombines_lifted (os : Os) (started : os.Started) (H : Type) (enc : TypeId × Value → H) :
    ReturnsInHanded {} Try.checked os 11 .any (Rows.shamirCombinesSpec.pre6 enc Try.prog Try.f11 Rows.shamirCombinesRow.domain false) (Rows.shamirCombinesSpec.post enc Try.prog Try.f11 false true false false) := by
  refine lift started _ rfl (by kernel_rfl) Try.func11 ⟨rfl, fun H ds h => ?_⟩ rfl (of_decide_eq_true (by kernel_rfl))
    (ChangeSpec.witness6 (enc := enc) (C := Try.checked) false ⟨#[], #[.slice none 0 0, .int .i64 0, .slice none 0 0], []⟩ 8 (by kernel_rfl) (by kernel_rfl) (by kernel_rfl) (by kernel_rfl)) ?_
  · match ds, h with
    | [_, _, _], _ => rfl
  · intro W base args ds ps hval hA hlt
    rw [Try.params11] at hA hval
    obtain ⟨v0, vs0, d0, ds0, p0, q0, hargs, rfl, rfl, h0, r0⟩ := trodAll_cons hA
    obtain ⟨v1, vs1, d1, ds1, p1, q1, rfl, rfl, rfl, h1, r1⟩ := trodAll_cons r0
    obtain ⟨v2, vs2, d2, ds2, p2, q2, rfl, rfl, rfl, h2, r2⟩ := trodAll_cons r1
    obtain ⟨rfl, rfl, rfl⟩ := trodAll_nil r2
    obtain rfl : args = #[v0, v1, v2] := by cases args; simp_all
    obtain ⟨A0, L0, n0, cap0, rfl, hc0, hm0, hL0, hl0, hr0⟩ := open_shares (hval 0 44 v0 rfl rfl) h0
    obtain ⟨a1, rfl, rfl, rfl, w1⟩ := open_int Try.underlying3 (hval 1 3 v1 rfl rfl) h1
    have hb1 := bounds_i64 w1
    obtain ⟨A2, l2, cap2, rfl, hl2, hr2, hm2⟩ := open_bytes (hval 2 35 v2 rfl rfl) h2
    exact shamirCombines_w A0 A2 n0 cap0 cap2 L0 l2 a1 W hc0 hm0 hL0 hl0 hr0 hl2 hr2
theorem shamirCombines_holds : Rows.ShamirCombinesSaid :=
  OpenClaim.holds_of_wide 11 Try.f11 rfl rfl rfl rfl rfl rfl rfl ⟨rfl, rfl, rfl, rfl, rfl⟩ rfl rfl rfl rfl rfl (by kernel_rfl) Try.func11 (by kernel_rfl)
    (of_decide_eq_true (by kernel_rfl)) (by unfold Func.isWrapper; rw [if_neg (by decide +kernel)]; exact ⟨rfl, rfl⟩)
    (fun os started H enc _ => shamirCombines_lifted os started H enc)
#print axioms shamirCombines_holds
end Go.Proofs.Ytldanlglefgobaa
