import Derived.Test.YtldanlglefgobaaChecked
import Derived.Test.YtldanlglefgobaaPlain0
import Derived.WalkKit
import Derived.Outline
import Derived.Deep.Light
import Derived.Lib.Hide
namespace Go.Proofs.Ytldanlglefgobaa
open Go.RowKit
set_option maxHeartbeats 400000 in
theorem rmul_c (a b : Nat) (w : World) (h : a < 256) (hb : b < 256) :
    Calls Try.prog 21 #[.int .u8 a, .int .u8 b] w fun e w' => e = .returned (.int .u8 (gm a b : Nat)) ∧ w = w' := by
  go_enter Try.func21, Try.ntmps21
  go_wp2
  go_loop [5, 6] (fun p i => ∃ k P : Nat, k ≤ 8 ∧ P < 65536 ∧ i = .int .i64 k ∧ p = .int .i64 P ∧ P = m1 a b k) (fun _ i => 8 - (intOf i).toNat)
  case atStart => exact ⟨0, 0, by omega, by omega, rfl, rfl, rfl⟩
  case round =>
    obtain ⟨k, P, hk, hP, rfl, rfl, hm⟩ := hrel
    have HM := Lib.hid hm; clear hm
    by_cases hlt : k < 8
    · rcases (by omega : k = 0 ∨ k = 1 ∨ k = 2 ∨ k = 3 ∨ k = 4 ∨ k = 5 ∨ k = 6 ∨ k = 7) with rfl | rfl | rfl | rfl | rfl | rfl | rfl | rfl
      all_goals
        go_wp2
        all_goals
          go_round
          case rel =>
            go_light
            first
              | (have t := ‹((_ : Int) == 1) = true›; simp only [beq_iff_eq] at t; exact m1y h HM.out hP (by omega) rfl (by omega) (by omega))
              | (have t := ‹((_ : Int) == 1) = false›; simp only [beq_eq_false_iff_ne, ne_eq] at t; exact m1n HM.out hP (by omega) rfl (by omega))
          case measure => simp [intOf]
    · obtain rfl : k = 8 := by omega
      have hP0 : P < 2 ^ 16 := hP
      go_wp2
      go_loop [5, 7] (fun p i => ∃ k Q : Nat, k ≤ 7 ∧ Q < 65536 ∧ i = .int .i64 (14 - k) ∧ p = .int .i64 Q ∧ Q = m2 P k) (fun _ i => (intOf i - 7).toNat)
      case atStart => exact ⟨0, P, by omega, by omega, rfl, rfl, rfl⟩
      case round =>
        obtain ⟨k, Q, hk, hQ, rfl, rfl, hm⟩ := hrel
        have HM2 := Lib.hid hm; clear hm
        by_cases hlt : k < 7
        · rcases (by omega : k = 0 ∨ k = 1 ∨ k = 2 ∨ k = 3 ∨ k = 4 ∨ k = 5 ∨ k = 6) with rfl | rfl | rfl | rfl | rfl | rfl | rfl
          all_goals
            go_wp2
            all_goals
              go_round
              case rel =>
                go_light
                first
                  | (have t := ‹((_ : Int) == 1) = true›; simp only [beq_iff_eq] at t; exact m2y hP0 HM2.out hQ (by omega) rfl (by omega) (by omega))
                  | (have t := ‹((_ : Int) == 1) = false›; simp only [beq_eq_false_iff_ne, ne_eq] at t; exact m2n HM2.out hQ (by omega) rfl (by omega))
              case measure => simp [intOf]
        · obtain rfl : k = 7 := by omega
          go_wp2
          go_ret
          exact ⟨ret_u8 (gm_of HM.out HM2.out), rfl⟩
end Go.Proofs.Ytldanlglefgobaa
