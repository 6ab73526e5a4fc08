/- NumFloors: the walk. -/
import Derived.Test.YtcmahmlcoodfoaaAwk1
namespace Go.Proofs.Ytcmahmlcoodfoaa
open Go.RowKit
set_option linter.unusedVariables false
theorem quo_low (a b q m P : Int) (h : Quo a b q m P) (h0 : b ≠ 0) : ∃ QB, flq a b q m * b = QB ∧ (b < 0 → a - QB ≤ 0 ∧ b < a - QB) ∧ (0 ≤ b → 0 ≤ a - QB ∧ a - QB < b) := by
  have hm : m.natAbs < b.natAbs := by
    rw [← h.hm, Int.natAbs_tmod]
    exact Nat.mod_lt _ (by omega)
  have hP := h.hP
  have hs := h.sum
  have hp := h.pos
  have hn := h.neg
  refine ⟨_, rfl, ?_⟩
  unfold flq
  split
  · rename_i hc
    rw [Int.sub_mul, Int.one_mul, hP]
    by_cases h1 : a < 0 <;> by_cases h2 : b < 0 <;> simp only [h1, h2, decide_true, decide_false] at hc <;> (try (simp at hc)) <;> omega
  · rename_i hc
    rw [hP]
    by_cases h1 : a < 0 <;> by_cases h2 : b < 0 <;> simp only [h1, h2, decide_true, decide_false] at hc <;> (try (simp at hc)) <;> omega
set_option maxRecDepth 100000 in
set_option maxHeartbeats 1000000 in
theorem numFloors_zero (a : Int) (w : World) : Calls Try.prog 6 #[.int .i64 a, .int .i64 0] w fun e w' => e = .returned (.bool true) ∧ Below w.heap.size w w' := by
  go_enter Try.func6, Try.ntmps6
  go_wp2_with (first
    | (go_at_call 22; ((with_reducible refine (floor_zero a _).mono ?_); rintro e w' ⟨rfl, rfl⟩))
    | (go_at_call 23; ((with_reducible refine (rfloor_zero a _).mono ?_); rintro e w' ⟨rfl, rfl⟩))
    | (go_at_call 24; ((with_reducible refine (awake01_c _).mono ?_); rintro e w' ⟨rfl, hb⟩)))
  go_ret
  exact ⟨rfl, hb⟩
set_option maxRecDepth 100000 in
set_option maxHeartbeats 1000000 in
theorem numFloors_over (w : World) : Calls Try.prog 6 #[.int .i64 (-9223372036854775808), .int .i64 (-1)] w fun e w' => e = .returned (.bool true) ∧ Below w.heap.size w w' := by
  go_enter Try.func6, Try.ntmps6
  go_wp2_with (first
    | (go_at_call 22; ((with_reducible refine (floor_over _).mono ?_); rintro e w' ⟨rfl, rfl⟩))
    | (go_at_call 23; ((with_reducible refine (rfloor_over _).mono ?_); rintro e w' ⟨rfl, rfl⟩))
    | (go_at_call 24; ((with_reducible refine (awake01_c _).mono ?_); rintro e w' ⟨rfl, hb⟩)))
  go_ret
  exact ⟨rfl, hb⟩
set_option maxRecDepth 100000 in
set_option maxHeartbeats 1000000 in
theorem numFloors_c (a b Q : Int) (w : World) (hb0 : -9223372036854775808 ≤ b) (hb1 : b ≤ 9223372036854775807)
    (k1 : ∀ w, Calls Try.prog 22 #[.int .i64 a, .int .i64 b] w fun e w' => e = .returned (.tuple #[.int .i64 Q, .int .i64 0]) ∧ w = w')
    (k2 : ∀ w, Calls Try.prog 23 #[.int .i64 a, .int .i64 b] w fun e w' => e = .returned (.tuple #[.int .i64 Q, .int .i64 0]) ∧ w = w')
    (QB : Int) (hQB : Q * b = QB) (hn : b < 0 → a - QB ≤ 0 ∧ b < a - QB) (hp : 0 ≤ b → 0 ≤ a - QB ∧ a - QB < b) :
    Calls Try.prog 6 #[.int .i64 a, .int .i64 b] w fun e w' => e = .returned (.bool true) ∧ Below w.heap.size w w' := by
  have hcase : decide ((2147483648 : Int) < a) = true ∨ (decide ((2147483648 : Int) < a) = false ∧ decide (a < (-2147483648 : Int)) = true) ∨ (decide ((2147483648 : Int) < a) = false ∧ decide (a < (-2147483648 : Int)) = false ∧ decide ((2147483648 : Int) < b) = true) ∨
      (decide ((2147483648 : Int) < a) = false ∧ decide (a < (-2147483648 : Int)) = false ∧ decide ((2147483648 : Int) < b) = false ∧ decide (b < (-2147483648 : Int)) = true) ∨ (decide ((2147483648 : Int) < a) = false ∧ decide (a < (-2147483648 : Int)) = false ∧ decide ((2147483648 : Int) < b) = false ∧ decide (b < (-2147483648 : Int)) = false) := by
    simp only [decide_eq_true_eq, decide_eq_false_iff_not]
    omega
  have K1 := Lib.hid k1
  have K2 := Lib.hid k2
  have HN := Lib.hid hn
  have HP := Lib.hid hp
  clear k1 k2 hn hp
  rcases hcase with t1 | ⟨t1, t2⟩ | ⟨t1, t2, t3⟩ | ⟨t1, t2, t3, t4⟩ | ⟨t1, t2, t3, t4⟩
  iterate 4
    · go_enter Try.func6, Try.ntmps6
      go_wp2_with (first
        | (go_at_call 22; ((with_reducible refine (K1.out _).mono ?_); rintro e w' ⟨rfl, rfl⟩))
        | (go_at_call 23; ((with_reducible refine (K2.out _).mono ?_); rintro e w' ⟨rfl, rfl⟩))
        | (go_at_call 24; ((with_reducible refine (awake01_c _).mono ?_); rintro e w' ⟨rfl, hb⟩)))
      go_ret
      exact ⟨rfl, hb⟩
  have l1 : -2147483648 ≤ a := by have := of_decide_eq_false t2; omega
  have l2 : a ≤ 2147483648 := by have := of_decide_eq_false t1; omega
  have l3 : -2147483648 ≤ b := by have := of_decide_eq_false t4; omega
  have l4 : b ≤ 2147483648 := by have := of_decide_eq_false t3; omega
  obtain ⟨L, hL⟩ : ∃ L, L = a - QB := ⟨_, rfl⟩
  have hL' : a - QB = L := hL.symm
  have hLw : a - QB = L → -4294967296 ≤ L → L ≤ 4294967296 → wrap64 (a - QB) = L := fun h h1 h2 => by rw [h]; unfold wrap64; omega
  have hQw : -4294967296 ≤ QB → QB ≤ 4294967296 → wrap64 (Q * b) = QB := fun h1 h2 => by rw [hQB]; unfold wrap64; omega
  by_cases hb : b < 0
  · have s0 : decide (b < 0) = true := decide_eq_true hb
    have s1 : decide (L ≤ 0) = true := decide_eq_true (by have := HN.out hb; omega)
    have s2 : decide (b < L) = true := decide_eq_true (by have := HN.out hb; omega)
    have l5 : -4294967296 ≤ QB := by have := HN.out hb; omega
    have l6 : QB ≤ 4294967296 := by have := HN.out hb; omega
    have hQw := hQw l5 l6
    have hLw := hLw hL' (by have := HN.out hb; omega) (by have := HN.out hb; omega)
    clear hL
    go_enter Try.func6, Try.ntmps6
    go_wp2_with (first
      | (go_at_call 22; ((with_reducible refine (K1.out _).mono ?_); rintro e w' ⟨rfl, rfl⟩))
      | (go_at_call 23; ((with_reducible refine (K2.out _).mono ?_); rintro e w' ⟨rfl, rfl⟩))
      | (go_at_call 24; ((with_reducible refine (awake01_c _).mono ?_); rintro e w' ⟨rfl, hb⟩)))
    go_ret
    exact ⟨rfl, by assumption⟩
  · have s0 : decide (b < 0) = false := decide_eq_false hb
    have s1 : decide (0 ≤ L) = true := decide_eq_true (by have := HP.out (by omega); omega)
    have s2 : decide (L < b) = true := decide_eq_true (by have := HP.out (by omega); omega)
    have l5 : -4294967296 ≤ QB := by have := HP.out (by omega); omega
    have l6 : QB ≤ 4294967296 := by have := HP.out (by omega); omega
    have hQw := hQw l5 l6
    have hLw := hLw hL' (by have := HP.out (by omega); omega) (by have := HP.out (by omega); omega)
    clear hL
    go_enter Try.func6, Try.ntmps6
    go_wp2_with (first
      | (go_at_call 22; ((with_reducible refine (K1.out _).mono ?_); rintro e w' ⟨rfl, rfl⟩))
      | (go_at_call 23; ((with_reducible refine (K2.out _).mono ?_); rintro e w' ⟨rfl, rfl⟩))
      | (go_at_call 24; ((with_reducible refine (awake01_c _).mono ?_); rintro e w' ⟨rfl, hb⟩)))
    go_ret
    exact ⟨rfl, by assumption⟩
theorem numFloors_w (a b : Int) (w : World) (ha0 : -9223372036854775808 ≤ a) (ha1 : a ≤ 9223372036854775807) (hb0 : -9223372036854775808 ≤ b) (hb1 : b ≤ 9223372036854775807) :
    Calls Try.prog 6 #[.int .i64 a, .int .i64 b] w fun e w' => e = .returned (.bool true) ∧ Below w.heap.size w w' := by
  by_cases h0 : b = 0
  · subst h0; exact numFloors_zero a w
  · by_cases hx : a = -9223372036854775808 ∧ b = -1
    · obtain ⟨rfl, rfl⟩ := hx; exact numFloors_over w
    · obtain ⟨q, m, P, h⟩ := quo_ex a b h0 ha0 ha1 hx
      obtain ⟨QB, e, hn, hp⟩ := quo_low a b q m P h h0
      exact numFloors_c a b _ w hb0 hb1 (fun w => floor_c a b q m P w h h0 ha0 ha1 hb0 hb1 hx) (fun w => rfloor_c a b q m P w h h0 ha0 ha1 hb0 hb1 hx) QB e hn hp
end Go.Proofs.Ytcmahmlcoodfoaa
