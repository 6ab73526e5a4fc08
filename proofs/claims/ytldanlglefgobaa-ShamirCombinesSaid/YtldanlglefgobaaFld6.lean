import Derived.Test.YtldanlglefgobaaFld5
namespace Go.Proofs.Ytldanlglefgobaa
open Go.RowKit
set_option maxHeartbeats 400000 in
set_option maxRecDepth 100000 in
theorem rinv_c (a : Nat) (w : World) (ha : a < 256) :
    Calls Try.prog 22 #[.int .u8 a] w fun e w' => e = .returned (.int .u8 (rinv a : Nat)) ∧ w = w' := by
  go_enter Try.func22, Try.ntmps22
  go_wp2
  go_loop [3] (fun i => ∃ k : Nat, 1 ≤ k ∧ k ≤ 256 ∧ i = .int .i64 k ∧ rinv a = rinvFrom a (256 - k) k) (fun i => 256 - (intOf i).toNat)
  case atStart => exact ⟨1, by omega, by omega, rfl, rfl⟩
  case round =>
    obtain ⟨k, hk1, hk, rfl, hr⟩ := hrel
    have HR := Lib.hid hr
    clear hr
    by_cases hlt : k < 256
    · have hst := Lib.hid (show rinvFrom a (256 - k) k = if gm a k = 1 then k else rinvFrom a (255 - k) (k + 1) by rw [show 256 - k = (255 - k) + 1 from by omega]; rfl)
      by_cases h1 : gm a k = 1
      · have t1 : (((gm a k : Nat) : Int) == 1) = true := by rw [h1]; rfl
        clear h1
        go_wp2_with (go_at_call 21; ((with_reducible refine (rmul_c a k _ ha hlt).mono ?_); rintro e w' ⟨rfl, rfl⟩))
        go_ret
        refine ⟨ret_u8 ?_, rfl⟩
        rw [HR.out, hst.out, if_pos (by have := beq_iff_eq.1 t1; omega)]
      · have t1 : (((gm a k : Nat) : Int) == 1) = false := beq_eq_false_iff_ne.2 (by omega)
        have H1 := Lib.hid h1
        clear h1
        go_wp2_with (go_at_call 21; ((with_reducible refine (rmul_c a k _ ha hlt).mono ?_); rintro e w' ⟨rfl, rfl⟩))
        go_round
        case rel =>
          go_light
          exact ⟨k + 1, by omega, by omega, by go_num, by rw [HR.out, hst.out, if_neg H1.out, show 256 - (k + 1) = 255 - k from by omega]⟩
        case measure => simp [intOf]; omega
    · obtain rfl : k = 256 := by omega
      go_wp2
      go_ret
      exact ⟨ret_u8 (by rw [HR.out]; rfl), rfl⟩
theorem rfinv_c (a : Nat) (w : World) (ha : a < 256) (h0 : a ≠ 0) :
    Calls Try.prog 22 #[.int .u8 a] w fun e w' => e = .returned (.int .u8 (finv a : Nat)) ∧ w = w' := by
  unfold finv
  rw [← rinv_is a ha h0]
  exact rinv_c a w ha
end Go.Proofs.Ytldanlglefgobaa
