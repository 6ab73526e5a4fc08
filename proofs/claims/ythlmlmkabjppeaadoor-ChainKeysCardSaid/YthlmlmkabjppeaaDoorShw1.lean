/- Contracts: a word turned. -/
import Derived.Test.YthlmlmkabjppeaaDoorShaB
import Derived.Test.YthlmlmkabjppeaaDoorByt3
namespace Go.Proofs.YthlmlmkabjppeaaDoor
open Go.RowKit
set_option linter.unusedVariables false
set_option maxRecDepth 100000 in
set_option maxHeartbeats 1000000 in
theorem rot2_c (n : Nat) (w : World) (hn : n < 4294967296) : Calls Tryd.prog 58 #[.int .u32 n, .int .i64 (-2)] w fun e w' => e = .returned (.int .u32 (rotr n 2 : Nat)) ∧ w = w' := by
  have h1 : bits BinOp.and .u64 (IntKind.u64.wrap (-2)) 31 = 30 := by decide
  have h2 : IntKind.u32.wrap ((n : Int) * 1073741824) = ((n * 1073741824 % 4294967296 : Nat) : Int) := by rw [wrap32]; omega
  have h3 : bits BinOp.or .u32 ((n * 1073741824 % 4294967296 : Nat) : Int) ((n : Int) / 4) = ((rotr n 2 : Nat) : Int) := by
    rw [show (n : Int) / 4 = ((n / 4 : Nat) : Int) by omega, u32_or_nat _ _ (Nat.mod_lt _ (by decide)) (by omega)]
    rw [show n * 1073741824 % 4294967296 ||| n / 4 = rotr n 2 from rot_or (k := 2) hn (by decide) (by decide)]
  go_enter Tryd.func58, Tryd.ntmps58
  go_wp2
  go_ret
  exact ⟨by first | rfl | simp_all, rfl⟩
set_option maxRecDepth 100000 in
set_option maxHeartbeats 1000000 in
theorem rot3_c (n : Nat) (w : World) (hn : n < 4294967296) : Calls Tryd.prog 58 #[.int .u32 n, .int .i64 (-3)] w fun e w' => e = .returned (.int .u32 (rotr n 3 : Nat)) ∧ w = w' := by
  have h1 : bits BinOp.and .u64 (IntKind.u64.wrap (-3)) 31 = 29 := by decide
  have h2 : IntKind.u32.wrap ((n : Int) * 536870912) = ((n * 536870912 % 4294967296 : Nat) : Int) := by rw [wrap32]; omega
  have h3 : bits BinOp.or .u32 ((n * 536870912 % 4294967296 : Nat) : Int) ((n : Int) / 8) = ((rotr n 3 : Nat) : Int) := by
    rw [show (n : Int) / 8 = ((n / 8 : Nat) : Int) by omega, u32_or_nat _ _ (Nat.mod_lt _ (by decide)) (by omega)]
    rw [show n * 536870912 % 4294967296 ||| n / 8 = rotr n 3 from rot_or (k := 3) hn (by decide) (by decide)]
  go_enter Tryd.func58, Tryd.ntmps58
  go_wp2
  go_ret
  exact ⟨by first | rfl | simp_all, rfl⟩
set_option maxRecDepth 100000 in
set_option maxHeartbeats 1000000 in
theorem rot6_c (n : Nat) (w : World) (hn : n < 4294967296) : Calls Tryd.prog 58 #[.int .u32 n, .int .i64 (-6)] w fun e w' => e = .returned (.int .u32 (rotr n 6 : Nat)) ∧ w = w' := by
  have h1 : bits BinOp.and .u64 (IntKind.u64.wrap (-6)) 31 = 26 := by decide
  have h2 : IntKind.u32.wrap ((n : Int) * 67108864) = ((n * 67108864 % 4294967296 : Nat) : Int) := by rw [wrap32]; omega
  have h3 : bits BinOp.or .u32 ((n * 67108864 % 4294967296 : Nat) : Int) ((n : Int) / 64) = ((rotr n 6 : Nat) : Int) := by
    rw [show (n : Int) / 64 = ((n / 64 : Nat) : Int) by omega, u32_or_nat _ _ (Nat.mod_lt _ (by decide)) (by omega)]
    rw [show n * 67108864 % 4294967296 ||| n / 64 = rotr n 6 from rot_or (k := 6) hn (by decide) (by decide)]
  go_enter Tryd.func58, Tryd.ntmps58
  go_wp2
  go_ret
  exact ⟨by first | rfl | simp_all, rfl⟩
set_option maxRecDepth 100000 in
set_option maxHeartbeats 1000000 in
theorem rot7_c (n : Nat) (w : World) (hn : n < 4294967296) : Calls Tryd.prog 58 #[.int .u32 n, .int .i64 (-7)] w fun e w' => e = .returned (.int .u32 (rotr n 7 : Nat)) ∧ w = w' := by
  have h1 : bits BinOp.and .u64 (IntKind.u64.wrap (-7)) 31 = 25 := by decide
  have h2 : IntKind.u32.wrap ((n : Int) * 33554432) = ((n * 33554432 % 4294967296 : Nat) : Int) := by rw [wrap32]; omega
  have h3 : bits BinOp.or .u32 ((n * 33554432 % 4294967296 : Nat) : Int) ((n : Int) / 128) = ((rotr n 7 : Nat) : Int) := by
    rw [show (n : Int) / 128 = ((n / 128 : Nat) : Int) by omega, u32_or_nat _ _ (Nat.mod_lt _ (by decide)) (by omega)]
    rw [show n * 33554432 % 4294967296 ||| n / 128 = rotr n 7 from rot_or (k := 7) hn (by decide) (by decide)]
  go_enter Tryd.func58, Tryd.ntmps58
  go_wp2
  go_ret
  exact ⟨by first | rfl | simp_all, rfl⟩
set_option maxRecDepth 100000 in
set_option maxHeartbeats 1000000 in
theorem rot10_c (n : Nat) (w : World) (hn : n < 4294967296) : Calls Tryd.prog 58 #[.int .u32 n, .int .i64 (-10)] w fun e w' => e = .returned (.int .u32 (rotr n 10 : Nat)) ∧ w = w' := by
  have h1 : bits BinOp.and .u64 (IntKind.u64.wrap (-10)) 31 = 22 := by decide
  have h2 : IntKind.u32.wrap ((n : Int) * 4194304) = ((n * 4194304 % 4294967296 : Nat) : Int) := by rw [wrap32]; omega
  have h3 : bits BinOp.or .u32 ((n * 4194304 % 4294967296 : Nat) : Int) ((n : Int) / 1024) = ((rotr n 10 : Nat) : Int) := by
    rw [show (n : Int) / 1024 = ((n / 1024 : Nat) : Int) by omega, u32_or_nat _ _ (Nat.mod_lt _ (by decide)) (by omega)]
    rw [show n * 4194304 % 4294967296 ||| n / 1024 = rotr n 10 from rot_or (k := 10) hn (by decide) (by decide)]
  go_enter Tryd.func58, Tryd.ntmps58
  go_wp2
  go_ret
  exact ⟨by first | rfl | simp_all, rfl⟩
set_option maxRecDepth 100000 in
set_option maxHeartbeats 1000000 in
theorem rot11_c (n : Nat) (w : World) (hn : n < 4294967296) : Calls Tryd.prog 58 #[.int .u32 n, .int .i64 (-11)] w fun e w' => e = .returned (.int .u32 (rotr n 11 : Nat)) ∧ w = w' := by
  have h1 : bits BinOp.and .u64 (IntKind.u64.wrap (-11)) 31 = 21 := by decide
  have h2 : IntKind.u32.wrap ((n : Int) * 2097152) = ((n * 2097152 % 4294967296 : Nat) : Int) := by rw [wrap32]; omega
  have h3 : bits BinOp.or .u32 ((n * 2097152 % 4294967296 : Nat) : Int) ((n : Int) / 2048) = ((rotr n 11 : Nat) : Int) := by
    rw [show (n : Int) / 2048 = ((n / 2048 : Nat) : Int) by omega, u32_or_nat _ _ (Nat.mod_lt _ (by decide)) (by omega)]
    rw [show n * 2097152 % 4294967296 ||| n / 2048 = rotr n 11 from rot_or (k := 11) hn (by decide) (by decide)]
  go_enter Tryd.func58, Tryd.ntmps58
  go_wp2
  go_ret
  exact ⟨by first | rfl | simp_all, rfl⟩
set_option maxRecDepth 100000 in
set_option maxHeartbeats 1000000 in
theorem rot13_c (n : Nat) (w : World) (hn : n < 4294967296) : Calls Tryd.prog 58 #[.int .u32 n, .int .i64 (-13)] w fun e w' => e = .returned (.int .u32 (rotr n 13 : Nat)) ∧ w = w' := by
  have h1 : bits BinOp.and .u64 (IntKind.u64.wrap (-13)) 31 = 19 := by decide
  have h2 : IntKind.u32.wrap ((n : Int) * 524288) = ((n * 524288 % 4294967296 : Nat) : Int) := by rw [wrap32]; omega
  have h3 : bits BinOp.or .u32 ((n * 524288 % 4294967296 : Nat) : Int) ((n : Int) / 8192) = ((rotr n 13 : Nat) : Int) := by
    rw [show (n : Int) / 8192 = ((n / 8192 : Nat) : Int) by omega, u32_or_nat _ _ (Nat.mod_lt _ (by decide)) (by omega)]
    rw [show n * 524288 % 4294967296 ||| n / 8192 = rotr n 13 from rot_or (k := 13) hn (by decide) (by decide)]
  go_enter Tryd.func58, Tryd.ntmps58
  go_wp2
  go_ret
  exact ⟨by first | rfl | simp_all, rfl⟩
set_option maxRecDepth 100000 in
set_option maxHeartbeats 1000000 in
theorem rot17_c (n : Nat) (w : World) (hn : n < 4294967296) : Calls Tryd.prog 58 #[.int .u32 n, .int .i64 (-17)] w fun e w' => e = .returned (.int .u32 (rotr n 17 : Nat)) ∧ w = w' := by
  have h1 : bits BinOp.and .u64 (IntKind.u64.wrap (-17)) 31 = 15 := by decide
  have h2 : IntKind.u32.wrap ((n : Int) * 32768) = ((n * 32768 % 4294967296 : Nat) : Int) := by rw [wrap32]; omega
  have h3 : bits BinOp.or .u32 ((n * 32768 % 4294967296 : Nat) : Int) ((n : Int) / 131072) = ((rotr n 17 : Nat) : Int) := by
    rw [show (n : Int) / 131072 = ((n / 131072 : Nat) : Int) by omega, u32_or_nat _ _ (Nat.mod_lt _ (by decide)) (by omega)]
    rw [show n * 32768 % 4294967296 ||| n / 131072 = rotr n 17 from rot_or (k := 17) hn (by decide) (by decide)]
  go_enter Tryd.func58, Tryd.ntmps58
  go_wp2
  go_ret
  exact ⟨by first | rfl | simp_all, rfl⟩
set_option maxRecDepth 100000 in
set_option maxHeartbeats 1000000 in
theorem rot18_c (n : Nat) (w : World) (hn : n < 4294967296) : Calls Tryd.prog 58 #[.int .u32 n, .int .i64 (-18)] w fun e w' => e = .returned (.int .u32 (rotr n 18 : Nat)) ∧ w = w' := by
  have h1 : bits BinOp.and .u64 (IntKind.u64.wrap (-18)) 31 = 14 := by decide
  have h2 : IntKind.u32.wrap ((n : Int) * 16384) = ((n * 16384 % 4294967296 : Nat) : Int) := by rw [wrap32]; omega
  have h3 : bits BinOp.or .u32 ((n * 16384 % 4294967296 : Nat) : Int) ((n : Int) / 262144) = ((rotr n 18 : Nat) : Int) := by
    rw [show (n : Int) / 262144 = ((n / 262144 : Nat) : Int) by omega, u32_or_nat _ _ (Nat.mod_lt _ (by decide)) (by omega)]
    rw [show n * 16384 % 4294967296 ||| n / 262144 = rotr n 18 from rot_or (k := 18) hn (by decide) (by decide)]
  go_enter Tryd.func58, Tryd.ntmps58
  go_wp2
  go_ret
  exact ⟨by first | rfl | simp_all, rfl⟩
set_option maxRecDepth 100000 in
set_option maxHeartbeats 1000000 in
theorem rot19_c (n : Nat) (w : World) (hn : n < 4294967296) : Calls Tryd.prog 58 #[.int .u32 n, .int .i64 (-19)] w fun e w' => e = .returned (.int .u32 (rotr n 19 : Nat)) ∧ w = w' := by
  have h1 : bits BinOp.and .u64 (IntKind.u64.wrap (-19)) 31 = 13 := by decide
  have h2 : IntKind.u32.wrap ((n : Int) * 8192) = ((n * 8192 % 4294967296 : Nat) : Int) := by rw [wrap32]; omega
  have h3 : bits BinOp.or .u32 ((n * 8192 % 4294967296 : Nat) : Int) ((n : Int) / 524288) = ((rotr n 19 : Nat) : Int) := by
    rw [show (n : Int) / 524288 = ((n / 524288 : Nat) : Int) by omega, u32_or_nat _ _ (Nat.mod_lt _ (by decide)) (by omega)]
    rw [show n * 8192 % 4294967296 ||| n / 524288 = rotr n 19 from rot_or (k := 19) hn (by decide) (by decide)]
  go_enter Tryd.func58, Tryd.ntmps58
  go_wp2
  go_ret
  exact ⟨by first | rfl | simp_all, rfl⟩
set_option maxRecDepth 100000 in
set_option maxHeartbeats 1000000 in
theorem rot22_c (n : Nat) (w : World) (hn : n < 4294967296) : Calls Tryd.prog 58 #[.int .u32 n, .int .i64 (-22)] w fun e w' => e = .returned (.int .u32 (rotr n 22 : Nat)) ∧ w = w' := by
  have h1 : bits BinOp.and .u64 (IntKind.u64.wrap (-22)) 31 = 10 := by decide
  have h2 : IntKind.u32.wrap ((n : Int) * 1024) = ((n * 1024 % 4294967296 : Nat) : Int) := by rw [wrap32]; omega
  have h3 : bits BinOp.or .u32 ((n * 1024 % 4294967296 : Nat) : Int) ((n : Int) / 4194304) = ((rotr n 22 : Nat) : Int) := by
    rw [show (n : Int) / 4194304 = ((n / 4194304 : Nat) : Int) by omega, u32_or_nat _ _ (Nat.mod_lt _ (by decide)) (by omega)]
    rw [show n * 1024 % 4294967296 ||| n / 4194304 = rotr n 22 from rot_or (k := 22) hn (by decide) (by decide)]
  go_enter Tryd.func58, Tryd.ntmps58
  go_wp2
  go_ret
  exact ⟨by first | rfl | simp_all, rfl⟩
set_option maxRecDepth 100000 in
set_option maxHeartbeats 1000000 in
theorem rot25_c (n : Nat) (w : World) (hn : n < 4294967296) : Calls Tryd.prog 58 #[.int .u32 n, .int .i64 (-25)] w fun e w' => e = .returned (.int .u32 (rotr n 25 : Nat)) ∧ w = w' := by
  have h1 : bits BinOp.and .u64 (IntKind.u64.wrap (-25)) 31 = 7 := by decide
  have h2 : IntKind.u32.wrap ((n : Int) * 128) = ((n * 128 % 4294967296 : Nat) : Int) := by rw [wrap32]; omega
  have h3 : bits BinOp.or .u32 ((n * 128 % 4294967296 : Nat) : Int) ((n : Int) / 33554432) = ((rotr n 25 : Nat) : Int) := by
    rw [show (n : Int) / 33554432 = ((n / 33554432 : Nat) : Int) by omega, u32_or_nat _ _ (Nat.mod_lt _ (by decide)) (by omega)]
    rw [show n * 128 % 4294967296 ||| n / 33554432 = rotr n 25 from rot_or (k := 25) hn (by decide) (by decide)]
  go_enter Tryd.func58, Tryd.ntmps58
  go_wp2
  go_ret
  exact ⟨by first | rfl | simp_all, rfl⟩
set_option maxRecDepth 100000 in
set_option maxHeartbeats 1000000 in
theorem turn0_c (n : Nat) (w : World) (hn : n < 4294967296) : Calls Tryd.prog 56 #[.int .u32 n, .int .i64 7, .int .i64 18, .int .i64 3, .bool true] w fun e w' => e = .returned (.int .u32 (s0 n : Nat)) ∧ w = w' := by
  have h2 : bits BinOp.xor .u32 (rotr n 7 : Nat) (rotr n 18 : Nat) = ((rotr n 7 ^^^ rotr n 18 : Nat) : Int) := u32_xor_nat _ _ (rotr_lt hn (by decide)) (rotr_lt hn (by decide))
  have h3 : bits BinOp.xor .u32 ((rotr n 7 ^^^ rotr n 18 : Nat) : Int) ((n : Int) / 8) = ((s0 n : Nat) : Int) := by
    rw [show (n : Int) / 8 = ((n / 8 : Nat) : Int) by omega, u32_xor_nat _ _ (xor_w (rotr_lt hn (by decide)) (rotr_lt hn (by decide))) (by omega)]
    rfl
  generalize rotr n 7 ^^^ rotr n 18 = q at *
  have H3 := Lib.hid h3
  go_enter Tryd.func56, Tryd.ntmps56
  go_wp2_with (first
      | (go_at_call 58; ((with_reducible refine (rot3_c n _ hn).mono ?_); rintro e w' ⟨rfl, rfl⟩))
      | (go_at_call 58; ((with_reducible refine (rot7_c n _ hn).mono ?_); rintro e w' ⟨rfl, rfl⟩))
      | (go_at_call 58; ((with_reducible refine (rot18_c n _ hn).mono ?_); rintro e w' ⟨rfl, rfl⟩)))
  go_ret
  exact ⟨by first | rfl | assumption | simp_all, rfl⟩
set_option maxRecDepth 100000 in
set_option maxHeartbeats 1000000 in
theorem turn1_c (n : Nat) (w : World) (hn : n < 4294967296) : Calls Tryd.prog 56 #[.int .u32 n, .int .i64 17, .int .i64 19, .int .i64 10, .bool true] w fun e w' => e = .returned (.int .u32 (s1 n : Nat)) ∧ w = w' := by
  have h2 : bits BinOp.xor .u32 (rotr n 17 : Nat) (rotr n 19 : Nat) = ((rotr n 17 ^^^ rotr n 19 : Nat) : Int) := u32_xor_nat _ _ (rotr_lt hn (by decide)) (rotr_lt hn (by decide))
  have h3 : bits BinOp.xor .u32 ((rotr n 17 ^^^ rotr n 19 : Nat) : Int) ((n : Int) / 1024) = ((s1 n : Nat) : Int) := by
    rw [show (n : Int) / 1024 = ((n / 1024 : Nat) : Int) by omega, u32_xor_nat _ _ (xor_w (rotr_lt hn (by decide)) (rotr_lt hn (by decide))) (by omega)]
    rfl
  generalize rotr n 17 ^^^ rotr n 19 = q at *
  have H3 := Lib.hid h3
  go_enter Tryd.func56, Tryd.ntmps56
  go_wp2_with (first
      | (go_at_call 58; ((with_reducible refine (rot10_c n _ hn).mono ?_); rintro e w' ⟨rfl, rfl⟩))
      | (go_at_call 58; ((with_reducible refine (rot17_c n _ hn).mono ?_); rintro e w' ⟨rfl, rfl⟩))
      | (go_at_call 58; ((with_reducible refine (rot19_c n _ hn).mono ?_); rintro e w' ⟨rfl, rfl⟩)))
  go_ret
  exact ⟨by first | rfl | assumption | simp_all, rfl⟩
set_option maxRecDepth 100000 in
set_option maxHeartbeats 1000000 in
theorem turnE_c (n : Nat) (w : World) (hn : n < 4294967296) : Calls Tryd.prog 56 #[.int .u32 n, .int .i64 6, .int .i64 11, .int .i64 25, .bool false] w fun e w' => e = .returned (.int .u32 (b1 n : Nat)) ∧ w = w' := by
  have h2 : bits BinOp.xor .u32 (rotr n 6 : Nat) (rotr n 11 : Nat) = ((rotr n 6 ^^^ rotr n 11 : Nat) : Int) := u32_xor_nat _ _ (rotr_lt hn (by decide)) (rotr_lt hn (by decide))
  have h3 : bits BinOp.xor .u32 ((rotr n 6 ^^^ rotr n 11 : Nat) : Int) (rotr n 25 : Nat) = ((b1 n : Nat) : Int) := by
    rw [u32_xor_nat _ _ (xor_w (rotr_lt hn (by decide)) (rotr_lt hn (by decide))) (rotr_lt hn (by decide))]
    rfl
  generalize rotr n 6 ^^^ rotr n 11 = q at *
  have H3 := Lib.hid h3
  go_enter Tryd.func56, Tryd.ntmps56
  go_wp2_with (first
      | (go_at_call 58; ((with_reducible refine (rot25_c n _ hn).mono ?_); rintro e w' ⟨rfl, rfl⟩))
      | (go_at_call 58; ((with_reducible refine (rot6_c n _ hn).mono ?_); rintro e w' ⟨rfl, rfl⟩))
      | (go_at_call 58; ((with_reducible refine (rot11_c n _ hn).mono ?_); rintro e w' ⟨rfl, rfl⟩)))
  go_ret
  exact ⟨by first | rfl | assumption | simp_all, rfl⟩
set_option maxRecDepth 100000 in
set_option maxHeartbeats 1000000 in
theorem turnA_c (n : Nat) (w : World) (hn : n < 4294967296) : Calls Tryd.prog 56 #[.int .u32 n, .int .i64 2, .int .i64 13, .int .i64 22, .bool false] w fun e w' => e = .returned (.int .u32 (b0 n : Nat)) ∧ w = w' := by
  have h2 : bits BinOp.xor .u32 (rotr n 2 : Nat) (rotr n 13 : Nat) = ((rotr n 2 ^^^ rotr n 13 : Nat) : Int) := u32_xor_nat _ _ (rotr_lt hn (by decide)) (rotr_lt hn (by decide))
  have h3 : bits BinOp.xor .u32 ((rotr n 2 ^^^ rotr n 13 : Nat) : Int) (rotr n 22 : Nat) = ((b0 n : Nat) : Int) := by
    rw [u32_xor_nat _ _ (xor_w (rotr_lt hn (by decide)) (rotr_lt hn (by decide))) (rotr_lt hn (by decide))]
    rfl
  generalize rotr n 2 ^^^ rotr n 13 = q at *
  have H3 := Lib.hid h3
  go_enter Tryd.func56, Tryd.ntmps56
  go_wp2_with (first
      | (go_at_call 58; ((with_reducible refine (rot22_c n _ hn).mono ?_); rintro e w' ⟨rfl, rfl⟩))
      | (go_at_call 58; ((with_reducible refine (rot2_c n _ hn).mono ?_); rintro e w' ⟨rfl, rfl⟩))
      | (go_at_call 58; ((with_reducible refine (rot13_c n _ hn).mono ?_); rintro e w' ⟨rfl, rfl⟩)))
  go_ret
  exact ⟨by first | rfl | assumption | simp_all, rfl⟩
end Go.Proofs.YthlmlmkabjppeaaDoor
