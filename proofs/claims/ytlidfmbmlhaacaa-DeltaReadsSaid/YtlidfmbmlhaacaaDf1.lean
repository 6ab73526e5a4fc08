/- Contracts: comparisons of numbers and texts. -/
import Derived.Test.YtlidfmbmlhaacaaDe3
import Derived.Test.YtlidfmbmlhaacaaBas2
import Derived.WalkLawsBesides
import Derived.BigQuiet
namespace Go.Proofs.Ytlidfmbmlhaacaa
open Go.RowKit
set_option linter.unusedVariables false
set_option linter.unusedSimpArgs false
def cmpI (x y : Int) : Int := if x < y then -1 else if y < x then 1 else 0
def cmpS (a b : ByteArray) : Int := if ltS a b then -1 else if ltS b a then 1 else 0
theorem nan_i64 (x : Int) (w : World) : Calls Try.prog 59 #[.int .i64 x] w fun e w' => e = .returned (.bool false) ∧ w = w' := by
  have t0 : (x != x) = false := by simp
  go_enter Try.func59, Try.ntmps59
  go_wp2
  go_ret
  exact ⟨rfl, rfl⟩
theorem cmp_i64 (x y : Int) (w : World) : Calls Try.prog 43 #[.int .i64 x, .int .i64 y] w fun e w' => e = .returned (.int .i64 (cmpI x y)) ∧ w = w' := by
  unfold cmpI
  by_cases h1 : x < y
  · rw [if_pos h1]
    have d1 : decide (x < y) = true := decide_eq_true h1
    clear h1
    go_enter Try.func43, Try.ntmps43
    go_wp2_with (go_at_call 59; (refine (nan_i64 _ _).mono ?_); rintro e w' ⟨rfl, rfl⟩)
    go_ret
    exact ⟨rfl, rfl⟩
  · rw [if_neg h1]
    have d1 : decide (x < y) = false := decide_eq_false h1
    by_cases h2 : y < x
    · rw [if_pos h2]
      have d2 : decide (y < x) = true := decide_eq_true h2
      clear h1 h2
      go_enter Try.func43, Try.ntmps43
      go_wp2_with (go_at_call 59; (refine (nan_i64 _ _).mono ?_); rintro e w' ⟨rfl, rfl⟩)
      go_ret
      exact ⟨rfl, rfl⟩
    · rw [if_neg h2]
      have d2 : decide (y < x) = false := decide_eq_false h2
      clear h1 h2
      go_enter Try.func43, Try.ntmps43
      go_wp2_with (go_at_call 59; (refine (nan_i64 _ _).mono ?_); rintro e w' ⟨rfl, rfl⟩)
      go_ret
      exact ⟨rfl, rfl⟩
theorem nan_u64 (x : Int) (w : World) : Calls Try.prog 64 #[.int .u64 x] w fun e w' => e = .returned (.bool false) ∧ w = w' := by
  have t0 : (x != x) = false := by simp
  go_enter Try.func64, Try.ntmps64
  go_wp2
  go_ret
  exact ⟨rfl, rfl⟩
theorem cmp_u64 (x y : Int) (w : World) : Calls Try.prog 56 #[.int .u64 x, .int .u64 y] w fun e w' => e = .returned (.int .i64 (cmpI x y)) ∧ w = w' := by
  unfold cmpI
  by_cases h1 : x < y
  · rw [if_pos h1]
    have d1 : decide (x < y) = true := decide_eq_true h1
    clear h1
    go_enter Try.func56, Try.ntmps56
    go_wp2_with (go_at_call 64; (refine (nan_u64 _ _).mono ?_); rintro e w' ⟨rfl, rfl⟩)
    go_ret
    exact ⟨rfl, rfl⟩
  · rw [if_neg h1]
    have d1 : decide (x < y) = false := decide_eq_false h1
    by_cases h2 : y < x
    · rw [if_pos h2]
      have d2 : decide (y < x) = true := decide_eq_true h2
      clear h1 h2
      go_enter Try.func56, Try.ntmps56
      go_wp2_with (go_at_call 64; (refine (nan_u64 _ _).mono ?_); rintro e w' ⟨rfl, rfl⟩)
      go_ret
      exact ⟨rfl, rfl⟩
    · rw [if_neg h2]
      have d2 : decide (y < x) = false := decide_eq_false h2
      clear h1 h2
      go_enter Try.func56, Try.ntmps56
      go_wp2_with (go_at_call 64; (refine (nan_u64 _ _).mono ?_); rintro e w' ⟨rfl, rfl⟩)
      go_ret
      exact ⟨rfl, rfl⟩
theorem nan_u16 (x : Int) (w : World) : Calls Try.prog 65 #[.int .u16 x] w fun e w' => e = .returned (.bool false) ∧ w = w' := by
  have t0 : (x != x) = false := by simp
  go_enter Try.func65, Try.ntmps65
  go_wp2
  go_ret
  exact ⟨rfl, rfl⟩
theorem cmp_u16 (x y : Int) (w : World) : Calls Try.prog 57 #[.int .u16 x, .int .u16 y] w fun e w' => e = .returned (.int .i64 (cmpI x y)) ∧ w = w' := by
  unfold cmpI
  by_cases h1 : x < y
  · rw [if_pos h1]
    have d1 : decide (x < y) = true := decide_eq_true h1
    clear h1
    go_enter Try.func57, Try.ntmps57
    go_wp2_with (go_at_call 65; (refine (nan_u16 _ _).mono ?_); rintro e w' ⟨rfl, rfl⟩)
    go_ret
    exact ⟨rfl, rfl⟩
  · rw [if_neg h1]
    have d1 : decide (x < y) = false := decide_eq_false h1
    by_cases h2 : y < x
    · rw [if_pos h2]
      have d2 : decide (y < x) = true := decide_eq_true h2
      clear h1 h2
      go_enter Try.func57, Try.ntmps57
      go_wp2_with (go_at_call 65; (refine (nan_u16 _ _).mono ?_); rintro e w' ⟨rfl, rfl⟩)
      go_ret
      exact ⟨rfl, rfl⟩
    · rw [if_neg h2]
      have d2 : decide (y < x) = false := decide_eq_false h2
      clear h1 h2
      go_enter Try.func57, Try.ntmps57
      go_wp2_with (go_at_call 65; (refine (nan_u16 _ _).mono ?_); rintro e w' ⟨rfl, rfl⟩)
      go_ret
      exact ⟨rfl, rfl⟩
theorem nan_s (a : ByteArray) (w : World) : Calls Try.prog 66 #[.string a] w fun e w' => e = .returned (.bool false) ∧ w = w' := by
  go_enter Try.func66, Try.ntmps66
  go_wp2
  go_ret
  exact ⟨by simp, rfl⟩
theorem cmp_s (a b : ByteArray) (w : World) : Calls Try.prog 58 #[.string a, .string b] w fun e w' => e = .returned (.int .i64 (cmpS a b)) ∧ w = w' := by
  unfold cmpS ltS
  by_cases h1 : Op.bytesLess a.toList b.toList = true
  · rw [if_pos h1]
    go_enter Try.func58, Try.ntmps58
    go_wp2_with (go_at_call 66; (refine (nan_s _ _).mono ?_); rintro e w' ⟨rfl, rfl⟩)
    go_ret
    exact ⟨rfl, rfl⟩
  · rw [if_neg h1]
    have h1' : Op.bytesLess a.toList b.toList = false := by simpa using h1
    clear h1
    by_cases h2 : Op.bytesLess b.toList a.toList = true
    · rw [if_pos h2]
      have h3 : (a.toList == b.toList) = false := by
        rw [beq_eq_false_iff_ne]
        intro he
        rw [he, bless_irr] at h2
        cases h2
      go_enter Try.func58, Try.ntmps58
      go_wp2_with (go_at_call 66; (refine (nan_s _ _).mono ?_); rintro e w' ⟨rfl, rfl⟩)
      go_ret
      exact ⟨rfl, rfl⟩
    · rw [if_neg h2]
      have h3 : (a.toList == b.toList) = true := by
        rw [beq_iff_eq]
        by_cases he : a.toList = b.toList
        · exact he
        · exact absurd (bless_tri _ _ he h1') h2
      clear h2
      go_enter Try.func58, Try.ntmps58
      go_wp2_with (go_at_call 66; (refine (nan_s _ _).mono ?_); rintro e w' ⟨rfl, rfl⟩)
      go_ret
      exact ⟨rfl, rfl⟩
end Go.Proofs.Ytlidfmbmlhaacaa
