/- NumOrder: the plain side. -/
import Derived.Test.YtcmahmlcoodfoaaSum4
namespace Go.Proofs.Ytcmahmlcoodfoaa
open Go.RowKit
set_option linter.unusedVariables false
def loOf (n : Int) : Nat := (n % 18446744073709551616).toNat
theorem loOf_eq (n : Int) : (loOf n : Int) = n % 18446744073709551616 := by unfold loOf; omega
theorem loOf_lt (n : Int) : loOf n < 18446744073709551616 := by unfold loOf; omega
theorem top_eq (n : Int) (h0 : -9223372036854775808 ≤ n) (h1 : n ≤ 9223372036854775807) : n / 9223372036854775808 = if n < 0 then -1 else 0 := by split <;> omega
theorem sumHi_small (a b : Int) (ha0 : -9223372036854775808 ≤ a) (ha1 : a ≤ 9223372036854775807) (hb0 : -9223372036854775808 ≤ b) (hb1 : b ≤ 9223372036854775807) :
    sumHi (a / 9223372036854775808) (b / 9223372036854775808) (loOf a) (loOf b) = (a + b) / 18446744073709551616 ∧ (sumLo (loOf a) (loOf b) : Int) = loOf (a + b) ∧ sumOver (a / 9223372036854775808) (b / 9223372036854775808) (loOf a) (loOf b) = false := by
  have e1 := loOf_eq a
  have e2 := loOf_eq b
  have e3 := loOf_eq (a + b)
  have hh : sumHi (a / 9223372036854775808) (b / 9223372036854775808) (loOf a) (loOf b) = (a + b) / 18446744073709551616 := by
    rw [top_eq a ha0 ha1, top_eq b hb0 hb1]
    unfold sumHi wrap64
    split <;> split <;> omega
  refine ⟨hh, by unfold sumLo; omega, ?_⟩
  unfold sumOver
  rw [hh, top_eq a ha0 ha1, top_eq b hb0 hb1]
  by_cases h1 : a < 0 <;> by_cases h2 : b < 0 <;> simp [h1, h2] <;> omega
theorem less_add (ch a : Int) (cl : Nat) (ha0 : -9223372036854775808 ≤ a) (ha1 : a ≤ 9223372036854775807) (hc0 : -9223372036854775808 ≤ ch) (hc1 : ch ≤ 9223372036854775807) (hcl : cl < 18446744073709551616)
    (h : sumOver ch (a / 9223372036854775808) cl (loOf a) = false) :
    (ch < sumHi ch (a / 9223372036854775808) cl (loOf a) ∨ (ch = sumHi ch (a / 9223372036854775808) cl (loOf a) ∧ cl < sumLo cl (loOf a)) ↔ 0 < a) ∧
    (sumHi ch (a / 9223372036854775808) cl (loOf a) < ch ∨ (sumHi ch (a / 9223372036854775808) cl (loOf a) = ch ∧ sumLo cl (loOf a) < cl) ↔ a < 0) := by
  have e1 := loOf_eq a
  have e2 := loOf_lt a
  obtain ⟨f, hf⟩ : ∃ f, f = (cl + loOf a) / 18446744073709551616 := ⟨_, rfl⟩
  obtain ⟨q, hq⟩ : ∃ q, q = sumLo cl (loOf a) := ⟨_, rfl⟩
  have hq2 : q + 18446744073709551616 * f = cl + loOf a := by rw [hq, hf]; unfold sumLo; omega
  have hq3 : q < 18446744073709551616 := by rw [hq]; unfold sumLo; omega
  have hf1 : f ≤ 1 := by omega
  obtain ⟨t, ht⟩ : ∃ t, t = a / 9223372036854775808 := ⟨_, rfl⟩
  have ht2 : (a < 0 ∧ t = -1 ∧ a = (loOf a : Int) - 18446744073709551616) ∨ (0 ≤ a ∧ t = 0 ∧ a = (loOf a : Int)) := by
    rw [ht, top_eq a ha0 ha1]
    by_cases h1 : a < 0
    · rw [if_pos h1]; omega
    · rw [if_neg h1]; omega
  unfold sumOver at h
  rw [← ht] at h ⊢
  rw [← hq]
  have hH : sumHi ch t cl (loOf a) = ch + t + f := by
    have hw : sumHi ch t cl (loOf a) = wrap64 (ch + t + f) := by unfold sumHi; rw [← hf]
    rw [hw] at h ⊢
    simp only [Bool.and_eq_false_iff, beq_eq_false_iff_ne, bne_eq_false_iff_eq] at h
    unfold wrap64 at h ⊢
    rcases ht2 with ⟨g1, g2, g3⟩ | ⟨g1, g2, g3⟩
    · subst g2; clear e1 e2 hf hq hq2 g3 ht hw; omega
    · subst g2; clear e1 e2 hf hq hq2 g3 ht hw; omega
  rw [hH]
  clear h hH hq hf ht e1
  generalize loOf a = c at *
  rcases ht2 with ⟨g1, g2, g3⟩ | ⟨g1, g2, g3⟩
  · subst g2
    refine ⟨⟨fun hx => ?_, fun hx => ?_⟩, ⟨fun hx => ?_, fun hx => ?_⟩⟩ <;> omega
  · subst g2
    refine ⟨⟨fun hx => ?_, fun hx => ?_⟩, ⟨fun hx => ?_, fun hx => ?_⟩⟩ <;> omega
end Go.Proofs.Ytcmahmlcoodfoaa
