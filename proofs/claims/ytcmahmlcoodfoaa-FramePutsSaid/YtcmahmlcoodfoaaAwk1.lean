/- Text of any wide number; what is asked in each law on numbers. -/
import Derived.Test.YtcmahmlcoodfoaaTxt5
import Derived.Test.YtcmahmlcoodfoaaFlr
namespace Go.Proofs.Ytcmahmlcoodfoaa
open Go.RowKit
set_option linter.unusedVariables false
theorem szHi_lt (hi : Int) (lo : Nat) (h0 : -9223372036854775808 ≤ hi) (h1 : hi ≤ 9223372036854775807) : szHi hi lo < 2 ^ 64 := by
  unfold szHi; split <;> (try split) <;> omega
theorem szLo_lt (hi : Int) (lo : Nat) (h2 : lo < 2 ^ 64) : szLo hi lo < 2 ^ 64 := by
  unfold szLo; split <;> omega
theorem size_c (hi : Int) (lo : Nat) (w : World) (h0 : -9223372036854775808 ≤ hi) (h1 : hi ≤ 9223372036854775807) (h2 : lo < 2 ^ 64) :
    Calls Try.prog 50 #[.agg #[.int .i64 hi, .int .u64 lo]] w fun e w' => e = .returned (.tuple #[.int .u64 (szHi hi lo : Nat), .int .u64 (szLo hi lo : Nat)]) ∧ Below w.heap.size w w' := by
  by_cases h : hi < 0
  · exact size_neg hi lo w h0 h h2
  · obtain ⟨n, rfl⟩ := Int.eq_ofNat_of_zero_le (by omega : 0 ≤ hi)
    have e1 : szHi (n : Int) lo = n := by simp [szHi]; omega
    have e2 : szLo (n : Int) lo = lo := by simp [szLo]; omega
    rw [e1, e2]
    exact size_pos n lo w (by omega) h2
/-- how great a wide number is, without its sign -/
def magOf (hi : Int) (lo : Nat) : Nat := dbl (szHi hi lo) (szLo hi lo)
theorem text_c (hi : Int) (lo : Nat) (w : World) (h0 : -9223372036854775808 ≤ hi) (h1 : hi ≤ 9223372036854775807) (h2 : lo < 2 ^ 64) :
    Calls Try.prog 38 #[.agg #[.int .i64 hi, .int .u64 lo]] w fun e w' => (∃ k, TenEnd (magOf hi lo) k ∧ e = .returned (.string (bstr (textOf (decide (hi < 0)) (magOf hi lo) k)))) ∧ Below w.heap.size w w' :=
  text_loop (.int .i64 0) hi _ _ lo w (szLo_lt hi lo h2) (szHi_lt hi lo h0 h1) (fun w => size_c hi lo w h0 h1 h2) _ rfl
theorem tenEnd_64 {k : Nat} (h : TenEnd 18446744073709551616 k) : k = 19 := by
  rcases Nat.lt_or_ge k 19 with hk | hk
  · have : 18446744073709551616 / 10 ^ 19 ≤ 18446744073709551616 / 10 ^ (k + 1) := Nat.div_le_div_left (Nat.pow_le_pow_right (by decide) (by omega)) (Nat.pow_pos (by decide))
    have := h.last
    omega
  · rcases Nat.lt_or_ge 19 k with h1 | h1
    · exact absurd rfl (h.more 20 (by omega) (by omega))
    · omega
theorem text_awake (w : World) : Calls Try.prog 38 #[.agg #[.int .i64 (-1), .int .u64 0]] w fun e w' => e = .returned (.string ⟨#[45, 49, 56, 52, 52, 54, 55, 52, 52, 48, 55, 51, 55, 48, 57, 53, 53, 49, 54, 49, 54]⟩) ∧ Below w.heap.size w w' := by
  refine (text_c (-1) 0 w (by decide) (by decide) (by decide)).mono ?_
  rintro e w' ⟨⟨k, hk, rfl⟩, hb⟩
  have hm : magOf (-1) 0 = 18446744073709551616 := by decide
  rw [hm] at hk ⊢
  obtain rfl := tenEnd_64 hk
  refine ⟨?_, hb⟩
  rw [show bstr (textOf (decide ((-1 : Int) < 0)) 18446744073709551616 19) = ⟨#[45, 49, 56, 52, 52, 54, 55, 52, 52, 48, 55, 51, 55, 48, 57, 53, 53, 49, 54, 49, 54]⟩ by decide +kernel]
theorem short300 {j : Nat} (h1 : ∀ i, i < j → 128 ≤ 300 / 128 ^ i) (h2 : 300 / 128 ^ j < 128) : j = 1 := by
  rcases Nat.lt_or_ge j 1 with h | h
  · obtain rfl : j = 0 := by omega
    simp at h2
  · rcases Nat.lt_or_ge 1 j with h3 | h3
    · have := h1 1 h3
      simp at this
    · omega
theorem putShort_awake (w : World) : Calls Try.prog 43 #[.slice none 0 0, .int .u64 300] w (Gives [172, 2] w) := by
  refine (putShort_c w.heap.size none 0 [] 300 w (fun h => absurd rfl h) (by decide) (by decide)).mono ?_
  rintro e w' ⟨j, h1, h2, h3⟩
  obtain rfl := short300 h1 h2
  exact h3
theorem floor_awake (w : World) : Calls Try.prog 22 #[.int .i64 (-7), .int .i64 2] w fun e w' => e = .returned (.tuple #[.int .i64 (-4), .int .i64 0]) ∧ w = w' := by
  obtain ⟨q, m, P, h⟩ := quo_ex (-7) 2 (by decide) (by decide) (by decide) (by decide)
  have := floor_c (-7) 2 q m P w h (by decide) (by decide) (by decide) (by decide) (by decide) (by decide)
  obtain rfl := h.hq
  obtain rfl := h.hm
  exact this
set_option maxRecDepth 100000 in
set_option maxHeartbeats 1000000 in
theorem awake01_c (w : World) : Calls Try.prog 24 #[] w fun e w' => e = .returned (.bool true) ∧ Below w.heap.size w w' := by
  go_enter Try.func24, Try.ntmps24
  go_wp2_with (first
    | (go_at_call 22; ((with_reducible refine (floor_awake _).mono ?_); rintro e w' ⟨rfl, rfl⟩))
    | (go_at_call 43; ((with_reducible refine (putShort_awake _).mono ?_); rintro e w1 ⟨v, rfl, ho, hb⟩); have hlen2 : ([172, 2] : List Nat).length = 2 := rfl; obtain ⟨A, cap, rfl, hc1, hc2, hr⟩ := ho.rd; rw [hlen2] at *; have HR := Lib.hid hr; have HB := Lib.hid hb; clear hr hb ho hc1 hc2)
    | (go_at_call 20; (refine (same_c _ _ A _ cap 2 [172, 2] [172, 2] _ (by simp) (by simp) (by exact HR.out.ext ((Below.refl _ _).alloc (Nat.le_refl _) _)) (by exact rd_new _ (byt [172, 2]) _ _) (by simp) (by simp)).mono ?_); rintro e w' ⟨rfl, n, rfl⟩)
    | (go_at_call 38; ((with_reducible refine (text_awake _).mono ?_); rintro e w2 ⟨rfl, hb2⟩; have HB2 := Lib.hid hb2; clear hb2)))
  go_ret
  have h2 := HB2.out.mono (B' := w.heap.size) (by have := HB.out.size; simp; omega)
  exact ⟨rfl, (belowDrewN n (HB.out.alloc HB.out.size _)).trans h2⟩
end Go.Proofs.Ytcmahmlcoodfoaa
