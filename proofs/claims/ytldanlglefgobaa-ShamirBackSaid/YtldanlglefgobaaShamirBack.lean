/- ShamirBack returns true for every secret, all numbers, draws and orders. Conditions: none. -/
import Derived.Test.YtldanlglefgobaaOpenK
import Derived.Test.YtldanlglefgobaaBck4
namespace Go.Proofs.Ytldanlglefgobaa
open Go.ChangeShapes Go.WideShapes Go.ChangeAt Go.RowKit
set_option maxRecDepth 100000 in
theorem shamirBack_lifted (os : Os) (started : os.Started) (H : Type) (enc : TypeId × Value → H) :
    ReturnsInHanded {} Try.checked os 12 .any (Rows.shamirBackSpec.pre6 enc Try.prog Try.f12 Rows.shamirBackRow.domain false) (Rows.shamirBackSpec.post enc Try.prog Try.f12 false true false false) := by
  refine lift started _ rfl (by kernel_rfl) Try.func12 ⟨rfl, fun H ds h => ?_⟩ rfl (of_decide_eq_true (by kernel_rfl))
    (ChangeSpec.witness6 (enc := enc) (C := Try.checked) false ⟨#[], #[.agg (Array.replicate 32 (.int .u8 0)), .int .i64 0, .int .i64 0, .slice none 0 0, .slice none 0 0, .int .i64 0, .int .u8 0], []⟩ 8 (by kernel_rfl) (by kernel_rfl) (by kernel_rfl) (by kernel_rfl)) ?_
  · match ds, h with
    | [_, _, _, _, _, _, _], _ => rfl
  · intro W base args ds ps hval hA hlt
    rw [Try.params12] at hA hval
    obtain ⟨v0, vs0, d0, ds0, p0, q0, hargs, rfl, rfl, h0, r0⟩ := trodAll_cons hA
    obtain ⟨v1, vs1, d1, ds1, p1, q1, rfl, rfl, rfl, h1, r1⟩ := trodAll_cons r0
    obtain ⟨v2, vs2, d2, ds2, p2, q2, rfl, rfl, rfl, h2, r2⟩ := trodAll_cons r1
    obtain ⟨v3, vs3, d3, ds3, p3, q3, rfl, rfl, rfl, h3, r3⟩ := trodAll_cons r2
    obtain ⟨v4, vs4, d4, ds4, p4, q4, rfl, rfl, rfl, h4, r4⟩ := trodAll_cons r3
    obtain ⟨v5, vs5, d5, ds5, p5, q5, rfl, rfl, rfl, h5, r5⟩ := trodAll_cons r4
    obtain ⟨v6, vs6, d6, ds6, p6, q6, rfl, rfl, rfl, h6, r6⟩ := trodAll_cons r5
    obtain ⟨rfl, rfl, rfl⟩ := trodAll_nil r6
    obtain rfl : args = #[v0, v1, v2, v3, v4, v5, v6] := by cases args; simp_all
    obtain ⟨k0, rfl, kl0, ks0⟩ := open_key (hval 0 43 v0 rfl rfl) h0
    obtain ⟨a1, rfl, rfl, rfl, w1⟩ := open_int Try.underlying3 (hval 1 3 v1 rfl rfl) h1
    have hb1 := bounds_i64 w1
    obtain ⟨a2, rfl, rfl, rfl, w2⟩ := open_int Try.underlying3 (hval 2 3 v2 rfl rfl) h2
    have hb2 := bounds_i64 w2
    obtain ⟨A3, l3, cap3, rfl, hl3, hr3, hm3⟩ := open_bytes (hval 3 35 v3 rfl rfl) h3
    obtain ⟨A4, l4, cap4, rfl, hl4, hr4, hm4⟩ := open_bytes (hval 4 35 v4 rfl rfl) h4
    obtain ⟨a5, rfl, rfl, rfl, w5⟩ := open_int Try.underlying3 (hval 5 3 v5 rfl rfl) h5
    have hb5 := bounds_i64 w5
    obtain ⟨a6, rfl, rfl, rfl, w6⟩ := open_int Try.underlying5 (hval 6 5 v6 rfl rfl) h6
    have hb6 := bounds_u8 w6
    obtain ⟨n6, rfl⟩ := Int.eq_ofNat_of_zero_le hb6.1
    exact shamirBack_w k0 l3 l4 a1 a2 a5 n6 cap3 cap4 A3 A4 W kl0 ks0 hl3 hl4 hr3 hr4 hb5.1 hb5.2 (by omega)
theorem shamirBack_holds : Rows.ShamirBackSaid :=
  OpenClaim.holds_of_wide 12 Try.f12 rfl rfl rfl rfl rfl rfl rfl ⟨rfl, rfl, rfl, rfl, rfl⟩ rfl rfl rfl rfl rfl (by kernel_rfl) Try.func12 (by kernel_rfl)
    (of_decide_eq_true (by kernel_rfl)) (by unfold Func.isWrapper; rw [if_neg (by decide +kernel)]; exact ⟨rfl, rfl⟩)
    (fun os started H enc _ => shamirBack_lifted os started H enc)
#print axioms shamirBack_holds
end Go.Proofs.Ytldanlglefgobaa
