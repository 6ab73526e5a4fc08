/- Parts, one behind the other: Shw1 Shw2 Shw3 Shw4 Lou Shw5. -/
import Derived.Test.YtbgnjjbmidkhlaaDoorZ01
import Derived.StillTailTactics
import Derived.Laws.ResultCell
import Derived.Laws.Rows
import Derived.Great.BuildSlice
import Derived.Laws.CopyOwn
import Derived.Deep.MidRow
import Derived.Lib.AppendZerosOnto
import Derived.WalkKit
import Derived.BigQuiet
import Derived.WalkMore
/- Contracts: a word turned. -/
namespace Go.Proofs.YtbgnjjbmidkhlaaDoor
set_option linter.unusedVariables false
set_option linter.unusedSimpArgs false
open Go.RowKit
set_option linter.unusedVariables false
set_option maxRecDepth 100000 in
set_option maxHeartbeats 1000000 in
theorem rot2_c (n : Nat) (w : World) (hn : n < 4294967296) : Calls Tryd.prog 55 #[.int .u32 n, .int .i64 (-2)] w fun e w' => e = .returned (.int .u32 (rotr n 2 : Nat)) ∧ w = w' := by
  have h1 : bits BinOp.and .u64 (IntKind.u64.wrap (-2)) 31 = 30 := by decide
  have h2 : IntKind.u32.wrap ((n : Int) * 1073741824) = ((n * 1073741824 % 4294967296 : Nat) : Int) := by rw [wrap32]; omega
  have h3 : bits BinOp.or .u32 ((n * 1073741824 % 4294967296 : Nat) : Int) ((n : Int) / 4) = ((rotr n 2 : Nat) : Int) := by
    rw [show (n : Int) / 4 = ((n / 4 : Nat) : Int) by omega, u32_or_nat _ _ (Nat.mod_lt _ (by decide)) (by omega)]
    rw [show n * 1073741824 % 4294967296 ||| n / 4 = rotr n 2 from rot_or (k := 2) hn (by decide) (by decide)]
  go_enter Tryd.func55, Tryd.ntmps55
  go_wp2
  go_ret
  exact ⟨by first | rfl | simp_all, rfl⟩
set_option maxRecDepth 100000 in
set_option maxHeartbeats 1000000 in
theorem rot3_c (n : Nat) (w : World) (hn : n < 4294967296) : Calls Tryd.prog 55 #[.int .u32 n, .int .i64 (-3)] w fun e w' => e = .returned (.int .u32 (rotr n 3 : Nat)) ∧ w = w' := by
  have h1 : bits BinOp.and .u64 (IntKind.u64.wrap (-3)) 31 = 29 := by decide
  have h2 : IntKind.u32.wrap ((n : Int) * 536870912) = ((n * 536870912 % 4294967296 : Nat) : Int) := by rw [wrap32]; omega
  have h3 : bits BinOp.or .u32 ((n * 536870912 % 4294967296 : Nat) : Int) ((n : Int) / 8) = ((rotr n 3 : Nat) : Int) := by
    rw [show (n : Int) / 8 = ((n / 8 : Nat) : Int) by omega, u32_or_nat _ _ (Nat.mod_lt _ (by decide)) (by omega)]
    rw [show n * 536870912 % 4294967296 ||| n / 8 = rotr n 3 from rot_or (k := 3) hn (by decide) (by decide)]
  go_enter Tryd.func55, Tryd.ntmps55
  go_wp2
  go_ret
  exact ⟨by first | rfl | simp_all, rfl⟩
set_option maxRecDepth 100000 in
set_option maxHeartbeats 1000000 in
theorem rot6_c (n : Nat) (w : World) (hn : n < 4294967296) : Calls Tryd.prog 55 #[.int .u32 n, .int .i64 (-6)] w fun e w' => e = .returned (.int .u32 (rotr n 6 : Nat)) ∧ w = w' := by
  have h1 : bits BinOp.and .u64 (IntKind.u64.wrap (-6)) 31 = 26 := by decide
  have h2 : IntKind.u32.wrap ((n : Int) * 67108864) = ((n * 67108864 % 4294967296 : Nat) : Int) := by rw [wrap32]; omega
  have h3 : bits BinOp.or .u32 ((n * 67108864 % 4294967296 : Nat) : Int) ((n : Int) / 64) = ((rotr n 6 : Nat) : Int) := by
    rw [show (n : Int) / 64 = ((n / 64 : Nat) : Int) by omega, u32_or_nat _ _ (Nat.mod_lt _ (by decide)) (by omega)]
    rw [show n * 67108864 % 4294967296 ||| n / 64 = rotr n 6 from rot_or (k := 6) hn (by decide) (by decide)]
  go_enter Tryd.func55, Tryd.ntmps55
  go_wp2
  go_ret
  exact ⟨by first | rfl | simp_all, rfl⟩
set_option maxRecDepth 100000 in
set_option maxHeartbeats 1000000 in
theorem rot7_c (n : Nat) (w : World) (hn : n < 4294967296) : Calls Tryd.prog 55 #[.int .u32 n, .int .i64 (-7)] w fun e w' => e = .returned (.int .u32 (rotr n 7 : Nat)) ∧ w = w' := by
  have h1 : bits BinOp.and .u64 (IntKind.u64.wrap (-7)) 31 = 25 := by decide
  have h2 : IntKind.u32.wrap ((n : Int) * 33554432) = ((n * 33554432 % 4294967296 : Nat) : Int) := by rw [wrap32]; omega
  have h3 : bits BinOp.or .u32 ((n * 33554432 % 4294967296 : Nat) : Int) ((n : Int) / 128) = ((rotr n 7 : Nat) : Int) := by
    rw [show (n : Int) / 128 = ((n / 128 : Nat) : Int) by omega, u32_or_nat _ _ (Nat.mod_lt _ (by decide)) (by omega)]
    rw [show n * 33554432 % 4294967296 ||| n / 128 = rotr n 7 from rot_or (k := 7) hn (by decide) (by decide)]
  go_enter Tryd.func55, Tryd.ntmps55
  go_wp2
  go_ret
  exact ⟨by first | rfl | simp_all, rfl⟩
set_option maxRecDepth 100000 in
set_option maxHeartbeats 1000000 in
theorem rot10_c (n : Nat) (w : World) (hn : n < 4294967296) : Calls Tryd.prog 55 #[.int .u32 n, .int .i64 (-10)] w fun e w' => e = .returned (.int .u32 (rotr n 10 : Nat)) ∧ w = w' := by
  have h1 : bits BinOp.and .u64 (IntKind.u64.wrap (-10)) 31 = 22 := by decide
  have h2 : IntKind.u32.wrap ((n : Int) * 4194304) = ((n * 4194304 % 4294967296 : Nat) : Int) := by rw [wrap32]; omega
  have h3 : bits BinOp.or .u32 ((n * 4194304 % 4294967296 : Nat) : Int) ((n : Int) / 1024) = ((rotr n 10 : Nat) : Int) := by
    rw [show (n : Int) / 1024 = ((n / 1024 : Nat) : Int) by omega, u32_or_nat _ _ (Nat.mod_lt _ (by decide)) (by omega)]
    rw [show n * 4194304 % 4294967296 ||| n / 1024 = rotr n 10 from rot_or (k := 10) hn (by decide) (by decide)]
  go_enter Tryd.func55, Tryd.ntmps55
  go_wp2
  go_ret
  exact ⟨by first | rfl | simp_all, rfl⟩
set_option maxRecDepth 100000 in
set_option maxHeartbeats 1000000 in
theorem rot11_c (n : Nat) (w : World) (hn : n < 4294967296) : Calls Tryd.prog 55 #[.int .u32 n, .int .i64 (-11)] w fun e w' => e = .returned (.int .u32 (rotr n 11 : Nat)) ∧ w = w' := by
  have h1 : bits BinOp.and .u64 (IntKind.u64.wrap (-11)) 31 = 21 := by decide
  have h2 : IntKind.u32.wrap ((n : Int) * 2097152) = ((n * 2097152 % 4294967296 : Nat) : Int) := by rw [wrap32]; omega
  have h3 : bits BinOp.or .u32 ((n * 2097152 % 4294967296 : Nat) : Int) ((n : Int) / 2048) = ((rotr n 11 : Nat) : Int) := by
    rw [show (n : Int) / 2048 = ((n / 2048 : Nat) : Int) by omega, u32_or_nat _ _ (Nat.mod_lt _ (by decide)) (by omega)]
    rw [show n * 2097152 % 4294967296 ||| n / 2048 = rotr n 11 from rot_or (k := 11) hn (by decide) (by decide)]
  go_enter Tryd.func55, Tryd.ntmps55
  go_wp2
  go_ret
  exact ⟨by first | rfl | simp_all, rfl⟩
set_option maxRecDepth 100000 in
set_option maxHeartbeats 1000000 in
theorem rot13_c (n : Nat) (w : World) (hn : n < 4294967296) : Calls Tryd.prog 55 #[.int .u32 n, .int .i64 (-13)] w fun e w' => e = .returned (.int .u32 (rotr n 13 : Nat)) ∧ w = w' := by
  have h1 : bits BinOp.and .u64 (IntKind.u64.wrap (-13)) 31 = 19 := by decide
  have h2 : IntKind.u32.wrap ((n : Int) * 524288) = ((n * 524288 % 4294967296 : Nat) : Int) := by rw [wrap32]; omega
  have h3 : bits BinOp.or .u32 ((n * 524288 % 4294967296 : Nat) : Int) ((n : Int) / 8192) = ((rotr n 13 : Nat) : Int) := by
    rw [show (n : Int) / 8192 = ((n / 8192 : Nat) : Int) by omega, u32_or_nat _ _ (Nat.mod_lt _ (by decide)) (by omega)]
    rw [show n * 524288 % 4294967296 ||| n / 8192 = rotr n 13 from rot_or (k := 13) hn (by decide) (by decide)]
  go_enter Tryd.func55, Tryd.ntmps55
  go_wp2
  go_ret
  exact ⟨by first | rfl | simp_all, rfl⟩
set_option maxRecDepth 100000 in
set_option maxHeartbeats 1000000 in
theorem rot17_c (n : Nat) (w : World) (hn : n < 4294967296) : Calls Tryd.prog 55 #[.int .u32 n, .int .i64 (-17)] w fun e w' => e = .returned (.int .u32 (rotr n 17 : Nat)) ∧ w = w' := by
  have h1 : bits BinOp.and .u64 (IntKind.u64.wrap (-17)) 31 = 15 := by decide
  have h2 : IntKind.u32.wrap ((n : Int) * 32768) = ((n * 32768 % 4294967296 : Nat) : Int) := by rw [wrap32]; omega
  have h3 : bits BinOp.or .u32 ((n * 32768 % 4294967296 : Nat) : Int) ((n : Int) / 131072) = ((rotr n 17 : Nat) : Int) := by
    rw [show (n : Int) / 131072 = ((n / 131072 : Nat) : Int) by omega, u32_or_nat _ _ (Nat.mod_lt _ (by decide)) (by omega)]
    rw [show n * 32768 % 4294967296 ||| n / 131072 = rotr n 17 from rot_or (k := 17) hn (by decide) (by decide)]
  go_enter Tryd.func55, Tryd.ntmps55
  go_wp2
  go_ret
  exact ⟨by first | rfl | simp_all, rfl⟩
set_option maxRecDepth 100000 in
set_option maxHeartbeats 1000000 in
theorem rot18_c (n : Nat) (w : World) (hn : n < 4294967296) : Calls Tryd.prog 55 #[.int .u32 n, .int .i64 (-18)] w fun e w' => e = .returned (.int .u32 (rotr n 18 : Nat)) ∧ w = w' := by
  have h1 : bits BinOp.and .u64 (IntKind.u64.wrap (-18)) 31 = 14 := by decide
  have h2 : IntKind.u32.wrap ((n : Int) * 16384) = ((n * 16384 % 4294967296 : Nat) : Int) := by rw [wrap32]; omega
  have h3 : bits BinOp.or .u32 ((n * 16384 % 4294967296 : Nat) : Int) ((n : Int) / 262144) = ((rotr n 18 : Nat) : Int) := by
    rw [show (n : Int) / 262144 = ((n / 262144 : Nat) : Int) by omega, u32_or_nat _ _ (Nat.mod_lt _ (by decide)) (by omega)]
    rw [show n * 16384 % 4294967296 ||| n / 262144 = rotr n 18 from rot_or (k := 18) hn (by decide) (by decide)]
  go_enter Tryd.func55, Tryd.ntmps55
  go_wp2
  go_ret
  exact ⟨by first | rfl | simp_all, rfl⟩
set_option maxRecDepth 100000 in
set_option maxHeartbeats 1000000 in
theorem rot19_c (n : Nat) (w : World) (hn : n < 4294967296) : Calls Tryd.prog 55 #[.int .u32 n, .int .i64 (-19)] w fun e w' => e = .returned (.int .u32 (rotr n 19 : Nat)) ∧ w = w' := by
  have h1 : bits BinOp.and .u64 (IntKind.u64.wrap (-19)) 31 = 13 := by decide
  have h2 : IntKind.u32.wrap ((n : Int) * 8192) = ((n * 8192 % 4294967296 : Nat) : Int) := by rw [wrap32]; omega
  have h3 : bits BinOp.or .u32 ((n * 8192 % 4294967296 : Nat) : Int) ((n : Int) / 524288) = ((rotr n 19 : Nat) : Int) := by
    rw [show (n : Int) / 524288 = ((n / 524288 : Nat) : Int) by omega, u32_or_nat _ _ (Nat.mod_lt _ (by decide)) (by omega)]
    rw [show n * 8192 % 4294967296 ||| n / 524288 = rotr n 19 from rot_or (k := 19) hn (by decide) (by decide)]
  go_enter Tryd.func55, Tryd.ntmps55
  go_wp2
  go_ret
  exact ⟨by first | rfl | simp_all, rfl⟩
set_option maxRecDepth 100000 in
set_option maxHeartbeats 1000000 in
theorem rot22_c (n : Nat) (w : World) (hn : n < 4294967296) : Calls Tryd.prog 55 #[.int .u32 n, .int .i64 (-22)] w fun e w' => e = .returned (.int .u32 (rotr n 22 : Nat)) ∧ w = w' := by
  have h1 : bits BinOp.and .u64 (IntKind.u64.wrap (-22)) 31 = 10 := by decide
  have h2 : IntKind.u32.wrap ((n : Int) * 1024) = ((n * 1024 % 4294967296 : Nat) : Int) := by rw [wrap32]; omega
  have h3 : bits BinOp.or .u32 ((n * 1024 % 4294967296 : Nat) : Int) ((n : Int) / 4194304) = ((rotr n 22 : Nat) : Int) := by
    rw [show (n : Int) / 4194304 = ((n / 4194304 : Nat) : Int) by omega, u32_or_nat _ _ (Nat.mod_lt _ (by decide)) (by omega)]
    rw [show n * 1024 % 4294967296 ||| n / 4194304 = rotr n 22 from rot_or (k := 22) hn (by decide) (by decide)]
  go_enter Tryd.func55, Tryd.ntmps55
  go_wp2
  go_ret
  exact ⟨by first | rfl | simp_all, rfl⟩
set_option maxRecDepth 100000 in
set_option maxHeartbeats 1000000 in
theorem rot25_c (n : Nat) (w : World) (hn : n < 4294967296) : Calls Tryd.prog 55 #[.int .u32 n, .int .i64 (-25)] w fun e w' => e = .returned (.int .u32 (rotr n 25 : Nat)) ∧ w = w' := by
  have h1 : bits BinOp.and .u64 (IntKind.u64.wrap (-25)) 31 = 7 := by decide
  have h2 : IntKind.u32.wrap ((n : Int) * 128) = ((n * 128 % 4294967296 : Nat) : Int) := by rw [wrap32]; omega
  have h3 : bits BinOp.or .u32 ((n * 128 % 4294967296 : Nat) : Int) ((n : Int) / 33554432) = ((rotr n 25 : Nat) : Int) := by
    rw [show (n : Int) / 33554432 = ((n / 33554432 : Nat) : Int) by omega, u32_or_nat _ _ (Nat.mod_lt _ (by decide)) (by omega)]
    rw [show n * 128 % 4294967296 ||| n / 33554432 = rotr n 25 from rot_or (k := 25) hn (by decide) (by decide)]
  go_enter Tryd.func55, Tryd.ntmps55
  go_wp2
  go_ret
  exact ⟨by first | rfl | simp_all, rfl⟩
set_option maxRecDepth 100000 in
set_option maxHeartbeats 1000000 in
theorem turn0_c (n : Nat) (w : World) (hn : n < 4294967296) : Calls Tryd.prog 38 #[.int .u32 n, .int .i64 7, .int .i64 18, .int .i64 3, .bool true] w fun e w' => e = .returned (.int .u32 (s0 n : Nat)) ∧ w = w' := by
  have h2 : bits BinOp.xor .u32 (rotr n 7 : Nat) (rotr n 18 : Nat) = ((rotr n 7 ^^^ rotr n 18 : Nat) : Int) := u32_xor_nat _ _ (rotr_lt hn (by decide)) (rotr_lt hn (by decide))
  have h3 : bits BinOp.xor .u32 ((rotr n 7 ^^^ rotr n 18 : Nat) : Int) ((n : Int) / 8) = ((s0 n : Nat) : Int) := by
    rw [show (n : Int) / 8 = ((n / 8 : Nat) : Int) by omega, u32_xor_nat _ _ (xor_w (rotr_lt hn (by decide)) (rotr_lt hn (by decide))) (by omega)]
    rfl
  generalize rotr n 7 ^^^ rotr n 18 = q at *
  have H3 := Lib.hid h3
  go_enter Tryd.func38, Tryd.ntmps38
  go_wp2_with (first
      | (go_at_call 55; ((with_reducible refine (rot3_c n _ hn).mono ?_); rintro e w' ⟨rfl, rfl⟩))
      | (go_at_call 55; ((with_reducible refine (rot7_c n _ hn).mono ?_); rintro e w' ⟨rfl, rfl⟩))
      | (go_at_call 55; ((with_reducible refine (rot18_c n _ hn).mono ?_); rintro e w' ⟨rfl, rfl⟩)))
  go_ret
  exact ⟨by first | rfl | assumption | simp_all, rfl⟩
set_option maxRecDepth 100000 in
set_option maxHeartbeats 1000000 in
theorem turn1_c (n : Nat) (w : World) (hn : n < 4294967296) : Calls Tryd.prog 38 #[.int .u32 n, .int .i64 17, .int .i64 19, .int .i64 10, .bool true] w fun e w' => e = .returned (.int .u32 (s1 n : Nat)) ∧ w = w' := by
  have h2 : bits BinOp.xor .u32 (rotr n 17 : Nat) (rotr n 19 : Nat) = ((rotr n 17 ^^^ rotr n 19 : Nat) : Int) := u32_xor_nat _ _ (rotr_lt hn (by decide)) (rotr_lt hn (by decide))
  have h3 : bits BinOp.xor .u32 ((rotr n 17 ^^^ rotr n 19 : Nat) : Int) ((n : Int) / 1024) = ((s1 n : Nat) : Int) := by
    rw [show (n : Int) / 1024 = ((n / 1024 : Nat) : Int) by omega, u32_xor_nat _ _ (xor_w (rotr_lt hn (by decide)) (rotr_lt hn (by decide))) (by omega)]
    rfl
  generalize rotr n 17 ^^^ rotr n 19 = q at *
  have H3 := Lib.hid h3
  go_enter Tryd.func38, Tryd.ntmps38
  go_wp2_with (first
      | (go_at_call 55; ((with_reducible refine (rot10_c n _ hn).mono ?_); rintro e w' ⟨rfl, rfl⟩))
      | (go_at_call 55; ((with_reducible refine (rot17_c n _ hn).mono ?_); rintro e w' ⟨rfl, rfl⟩))
      | (go_at_call 55; ((with_reducible refine (rot19_c n _ hn).mono ?_); rintro e w' ⟨rfl, rfl⟩)))
  go_ret
  exact ⟨by first | rfl | assumption | simp_all, rfl⟩
set_option maxRecDepth 100000 in
set_option maxHeartbeats 1000000 in
theorem turnE_c (n : Nat) (w : World) (hn : n < 4294967296) : Calls Tryd.prog 38 #[.int .u32 n, .int .i64 6, .int .i64 11, .int .i64 25, .bool false] w fun e w' => e = .returned (.int .u32 (b1 n : Nat)) ∧ w = w' := by
  have h2 : bits BinOp.xor .u32 (rotr n 6 : Nat) (rotr n 11 : Nat) = ((rotr n 6 ^^^ rotr n 11 : Nat) : Int) := u32_xor_nat _ _ (rotr_lt hn (by decide)) (rotr_lt hn (by decide))
  have h3 : bits BinOp.xor .u32 ((rotr n 6 ^^^ rotr n 11 : Nat) : Int) (rotr n 25 : Nat) = ((b1 n : Nat) : Int) := by
    rw [u32_xor_nat _ _ (xor_w (rotr_lt hn (by decide)) (rotr_lt hn (by decide))) (rotr_lt hn (by decide))]
    rfl
  generalize rotr n 6 ^^^ rotr n 11 = q at *
  have H3 := Lib.hid h3
  go_enter Tryd.func38, Tryd.ntmps38
  go_wp2_with (first
      | (go_at_call 55; ((with_reducible refine (rot25_c n _ hn).mono ?_); rintro e w' ⟨rfl, rfl⟩))
      | (go_at_call 55; ((with_reducible refine (rot6_c n _ hn).mono ?_); rintro e w' ⟨rfl, rfl⟩))
      | (go_at_call 55; ((with_reducible refine (rot11_c n _ hn).mono ?_); rintro e w' ⟨rfl, rfl⟩)))
  go_ret
  exact ⟨by first | rfl | assumption | simp_all, rfl⟩
set_option maxRecDepth 100000 in
set_option maxHeartbeats 1000000 in
theorem turnA_c (n : Nat) (w : World) (hn : n < 4294967296) : Calls Tryd.prog 38 #[.int .u32 n, .int .i64 2, .int .i64 13, .int .i64 22, .bool false] w fun e w' => e = .returned (.int .u32 (b0 n : Nat)) ∧ w = w' := by
  have h2 : bits BinOp.xor .u32 (rotr n 2 : Nat) (rotr n 13 : Nat) = ((rotr n 2 ^^^ rotr n 13 : Nat) : Int) := u32_xor_nat _ _ (rotr_lt hn (by decide)) (rotr_lt hn (by decide))
  have h3 : bits BinOp.xor .u32 ((rotr n 2 ^^^ rotr n 13 : Nat) : Int) (rotr n 22 : Nat) = ((b0 n : Nat) : Int) := by
    rw [u32_xor_nat _ _ (xor_w (rotr_lt hn (by decide)) (rotr_lt hn (by decide))) (rotr_lt hn (by decide))]
    rfl
  generalize rotr n 2 ^^^ rotr n 13 = q at *
  have H3 := Lib.hid h3
  go_enter Tryd.func38, Tryd.ntmps38
  go_wp2_with (first
      | (go_at_call 55; ((with_reducible refine (rot22_c n _ hn).mono ?_); rintro e w' ⟨rfl, rfl⟩))
      | (go_at_call 55; ((with_reducible refine (rot2_c n _ hn).mono ?_); rintro e w' ⟨rfl, rfl⟩))
      | (go_at_call 55; ((with_reducible refine (rot13_c n _ hn).mono ?_); rintro e w' ⟨rfl, rfl⟩)))
  go_ret
  exact ⟨by first | rfl | assumption | simp_all, rfl⟩
end Go.Proofs.YtbgnjjbmidkhlaaDoor
/- Contract: schedule. -/
namespace Go.Proofs.YtbgnjjbmidkhlaaDoor
set_option linter.unusedVariables false
set_option linter.unusedSimpArgs false
open Go.RowKit
set_option linter.unusedVariables false
/-- words as cells -/
def w32 (l : List Nat) : List Value := l.map fun (n : Nat) => Value.int .u32 (n : Int)
def vw (l : List Nat) : Array Value := (w32 l).toArray
theorem w32_len (l : List Nat) : (w32 l).length = l.length := by simp [w32]
theorem vw_size (l : List Nat) : (vw l).size = l.length := by simp [vw, w32]
theorem vw_at (l : List Nat) (i : Nat) (h : i < l.length) : (vw l)[i]? = some (.int .u32 (l.getD i 0 : Nat)) := by
  simp [vw, w32, h, List.getD_eq_getElem?_getD]
theorem vw_set (l : List Nat) (i n : Nat) : (vw l).setIfInBounds i (.int .u32 (n : Nat)) = vw (l.set i n) := by
  unfold vw w32
  rw [List.setIfInBounds_toArray, List.map_set]
theorem vw_one (l : List Nat) : (vw l).all (·.oneCell') = true := by
  rw [Array.all_eq_true_iff_forall_mem]
  intro v hv
  simp only [vw, w32, List.mem_toArray, List.mem_map] at hv
  obtain ⟨n, _, rfl⟩ := hv
  rfl
/-- the schedule as far as it is laid -/
def schZ (l : List Nat) (k : Nat) : List Nat := sch l k ++ List.replicate (64 - k) 0
theorem schZ_len (l : List Nat) (k : Nat) (h : k ≤ 64) : (schZ l k).length = 64 := by simp [schZ, sch_len]; omega
theorem schZ_zero (l : List Nat) : schZ l 0 = List.replicate 64 0 := by simp [schZ, sch]
theorem schZ_end (l : List Nat) : schZ l 64 = sch l 64 := by simp [schZ]
theorem schZ_at (l : List Nat) (k i : Nat) (h : i < k) : (schZ l k).getD i 0 = (sch l k).getD i 0 := by
  unfold schZ
  rw [List.getD_eq_getElem?_getD, List.getElem?_append_left (by rw [sch_len]; exact h), List.getD_eq_getElem?_getD]
theorem schZ_set (l : List Nat) (k : Nat) (h : k < 64) : (schZ l k).set k (nxt l (sch l k) k) = schZ l (k + 1) := by
  unfold schZ
  rw [List.set_append_right _ _ (by rw [sch_len]; exact Nat.le_refl _), sch_len, Nat.sub_self, show 64 - k = (64 - (k + 1)) + 1 by omega, List.replicate_succ, List.set_cons_zero, sch]
  simp
theorem sch_at_lt {l : List Nat} (hl : ∀ c ∈ l, c < 256) (k i : Nat) : (sch l k).getD i 0 < 4294967296 := by
  rw [List.getD_eq_getElem?_getD]
  rcases Nat.lt_or_ge i (sch l k).length with h | h
  · rw [List.getElem?_eq_getElem h]; exact sch_lt hl k _ (List.getElem_mem _)
  · rw [List.getElem?_eq_none h]; decide
def z64w : Array Value := vw (List.replicate 64 0)
theorem zero_64 (w : World) : (zeroValue 74).run Tryd.prog w = .ok (.agg z64w) w := by kernel_rfl
theorem or_put {i a b n m : Nat} (h : b < 2 ^ i) (hn : n = 2 ^ i * a) (hm : n + b = m) : n ||| b = m := by
  rw [← hm, hn]
  exact (Nat.two_pow_add_eq_or_of_lt h a).symm
theorem be4_or (a b c d : Nat) (ha : a < 256) (hb : b < 256) (hc : c < 256) (hd : d < 256) : a * 16777216 ||| b * 65536 = a * 16777216 + b * 65536 ∧ (a * 16777216 + b * 65536) ||| c * 256 = a * 16777216 + b * 65536 + c * 256 ∧ (a * 16777216 + b * 65536 + c * 256) ||| d = ((a * 256 + b) * 256 + c) * 256 + d :=
  ⟨or_put (i := 24) (a := a) (by omega) (by omega) rfl, or_put (i := 16) (a := a * 256 + b) (by omega) (by omega) rfl, or_put (i := 8) (a := (a * 256 + b) * 256 + c) (by omega) (by omega) (by omega)⟩
theorem be_facts (y0 y1 y2 y3 : Nat) (x0 : y0 < 256) (x1 : y1 < 256) (x2 : y2 < 256) (x3 : y3 < 256) :
    ∃ z0 z1 z2 s2 s3 be : Nat, (y0 : Int) * 16777216 = (z0 : Int) ∧ (y1 : Int) * 65536 = (z1 : Int) ∧ (y2 : Int) * 256 = (z2 : Int) ∧ be = ((y0 * 256 + y1) * 256 + y2) * 256 + y3 ∧ IntKind.u32.wrap ((y0 : Int) * 16777216) = (z0 : Int) ∧ IntKind.u32.wrap ((y1 : Int) * 65536) = (z1 : Int) ∧ IntKind.u32.wrap ((y2 : Int) * 256) = (z2 : Int) ∧
      bits BinOp.or .u32 (z0 : Int) (z1 : Int) = (s2 : Int) ∧ bits BinOp.or .u32 (s2 : Int) (z2 : Int) = (s3 : Int) ∧ bits BinOp.or .u32 (s3 : Int) (y3 : Int) = (be : Int) := by
  obtain ⟨ob1, ob2, ob3⟩ := be4_or y0 y1 y2 y3 x0 x1 x2 x3
  refine ⟨y0 * 16777216, y1 * 65536, y2 * 256, y0 * 16777216 + y1 * 65536, y0 * 16777216 + y1 * 65536 + y2 * 256, _, by omega, by omega, by omega, rfl, by rw [wrap32]; omega, by rw [wrap32]; omega, by rw [wrap32]; omega, ?_, ?_, ?_⟩
  · rw [u32_or_nat _ _ (by omega) (by omega), ob1]
  · rw [u32_or_nat _ _ (by omega) (by omega), ob2]
  · rw [u32_or_nat _ _ (by omega) (by omega), ob3]
set_option maxRecDepth 100000 in
set_option maxHeartbeats 2000000 in
theorem schedule_c (B : Nat) (ad0 : Addr) (ca : Nat) (l : List Nat) (w : World) (hl : ∀ c ∈ l, c < 256) (hr : Rd w B (some ad0) (byt l)) (hB : B ≤ w.heap.size) (h64 : l.length = 64) (hca : 64 ≤ ca) :
    Calls Tryd.prog 37 #[.slice (some ad0) 64 ca] w fun e w' => e = .returned (.agg (vw (sch l 64))) ∧ Below w.heap.size w w' := by
  have zf := zero_64
  have zs1 : z64w.size = 64 := by rfl
  have zs2 : ¬ z64w = #[] := by intro h; have := congrArg Array.size h; rw [zs1] at this; cases this
  have HL := Lib.hid hl
  have HR := Lib.hid hr
  clear hl hr
  go_enter Tryd.func37, Tryd.ntmps37
  go_upto_region 2 with fail
  obtain ⟨Z, hZ⟩ : ∃ Z, Z = (w.alloc (Obj.cells z64w 74)).alloc (Obj.cells z64w 74) := ⟨_, rfl⟩
  have hb2 : Blk Z w.heap.size 74 z64w := by rw [hZ]; exact (Blk.new w _ _).alloc _
  have hb3 : Blk Z (w.heap.size + 1) 74 (vw (schZ l 0)) := by
    rw [hZ, schZ_zero]
    have h := Blk.new (w.alloc (Obj.cells z64w 74)) 74 z64w
    rw [show (w.alloc (Obj.cells z64w 74)).heap.size = w.heap.size + 1 by simp] at h
    exact h
  have hbz : Below w.heap.size w Z := by rw [hZ]; exact ((Below.refl _ _).alloc (Nat.le_refl _) _).alloc (Nat.le_trans (Nat.le_refl _) (by simp)) _
  rw [← hZ]
  clear hZ
  have H2 := Lib.hid hb2
  have H3 := Lib.hid hb3
  have HZ := Lib.hid hbz
  clear hb2 hb3 hbz zf zs1 zs2
  go_wp2_with fail
  go_loopw [6] (fun i wr => ∃ k : Nat, k ≤ 64 ∧ i = .int .i64 k ∧ Blk wr (w.heap.size + 1) 74 (vw (schZ l k)) ∧ Blk wr w.heap.size 74 z64w ∧ Below w.heap.size w wr) (fun i _ => 64 - (intOf i).toNat)
  case atStart => exact ⟨0, by omega, rfl, H3.out, H2.out, HZ.out⟩
  case round =>
    rename World => wr
    obtain ⟨k, hk, rfl, hb3, hb2, hbw⟩ := hrel
    have HK := Lib.hid hb3
    have HK2 := Lib.hid hb2
    have HKW := Lib.hid hbw
    clear hb3 hb2 hbw H2 H3
    by_cases hlt : k < 64
    · by_cases h16 : k < 16
      · have hnx : nxt l (sch l k) k = ((l.getD (4 * k) 0 * 256 + l.getD (4 * k + 1) 0) * 256 + l.getD (4 * k + 2) 0) * 256 + l.getD (4 * k + 3) 0 := by unfold nxt; rw [if_pos h16]; rfl
        have hset := schZ_set l k hlt
        rw [hnx] at hset
        have HSET := Lib.hid hset
        have hcell : ∀ j, j < 4 → wr.cell? ((ad0.add (4 * k)).add j) = some (.int .u8 (l.getD (4 * k + j) 0 : Nat)) := fun j hj => by
          obtain ⟨a1, e1, _, hc⟩ := (HR.out.below (HKW.out.mono hB)).byte (k := 4 * k + j) (by omega)
          injection e1 with e1
          subst e1
          rw [Addr.add_add]
          exact hc
        have q0 := hcell 0 (by decide)
        have q1 := hcell 1 (by decide)
        have q2 := hcell 2 (by decide)
        have q3 := hcell 3 (by decide)
        have x0 := getD_lt HL.out (4 * k)
        have x1 := getD_lt HL.out (4 * k + 1)
        have x2 := getD_lt HL.out (4 * k + 2)
        have x3 := getD_lt HL.out (4 * k + 3)
        simp only [Nat.add_zero] at q0
        rw [show ∀ a : Addr, a.add 0 = a from fun a => by simp [Addr.add]] at q0
        rw [show ∀ a : Addr, a.add 1 = ⟨a.block, a.off + 1, none⟩ from fun a => by simp [Addr.add]] at q1
        rw [show ∀ a : Addr, a.add 2 = ⟨a.block, a.off + 2, none⟩ from fun a => by simp [Addr.add]] at q2
        rw [show ∀ a : Addr, a.add 3 = ⟨a.block, a.off + 3, none⟩ from fun a => by simp [Addr.add]] at q3
        have d4 : wr.cell? ⟨w.heap.size + 1, k, none⟩ = some (.int .u32 ((schZ l k).getD k 0 : Nat)) := (HK.out.cell k).trans (vw_at _ k (by rw [schZ_len l k hk]; exact hlt))
        have f4 : wr.frozen? ⟨w.heap.size + 1, k, none⟩ = false := HK.out.free k
        clear hnx hset hcell
        generalize l.getD (4 * k) 0 = y0 at *
        generalize l.getD (4 * k + 1) 0 = y1 at *
        generalize l.getD (4 * k + 2) 0 = y2 at *
        generalize l.getD (4 * k + 3) 0 = y3 at *
        obtain ⟨z0, z1, z2, s2, s3, be, e0, e1, e2, hbe, r0, r1, r2, o1, o2, o3⟩ := be_facts y0 y1 y2 y3 x0 x1 x2 x3
        rw [← hbe] at HSET
        clear hbe
        have HB4 := Lib.hid (show 4 * k + 4 ≤ 64 by omega)
        go_wp2_with fail
        generalize ad0.add (4 * k) = adk at *
        have m0 : 0 < 64 - 4 * k := by omega
        have m1 : 1 < 64 - 4 * k := by omega
        have m2 : 2 < 64 - 4 * k := by omega
        have m3 : 3 < 64 - 4 * k := by omega
        generalize 64 - 4 * k = mm at *
        have n1 : (1 : Int) < (mm : Int) := by omega
        have n2 : (2 : Int) < (mm : Int) := by omega
        have n3 : (3 : Int) < (mm : Int) := by omega
        have c0 : IntKind.u32.wrap (y0 : Int) = (y0 : Int) := by rw [wrap32]; omega
        have c1 : IntKind.u32.wrap (y1 : Int) = (y1 : Int) := by rw [wrap32]; omega
        have c2 : IntKind.u32.wrap (y2 : Int) = (y2 : Int) := by rw [wrap32]; omega
        have c3 : IntKind.u32.wrap (y3 : Int) = (y3 : Int) := by rw [wrap32]; omega
        refine wp_region_still_tail 24 (by kernel_rfl) (by kernel_rfl) ?_
        simp only [List.take_succ_cons, List.take_zero, List.drop_succ_cons, List.drop_zero]
        repeat still_step
        try refine wpStill_nil ?_
        change wpList _ _ _ _ _ wr.drew
        go_wp2_with fail
        go_roundw
        case rel => exact ⟨k + 1, by omega, by go_num, by rw [← HSET.out, ← vw_set]; exact (show Blk wr.drew _ _ _ from HK.out).set_ k _, (show Blk wr.drew _ _ _ from HK2.out).far (p := ⟨w.heap.size + 1, k, none⟩) (by simp) _, (HKW.out.setCell (p := ⟨w.heap.size + 1, k, none⟩) (Nat.le_succ _) _).drew⟩
        case measure => simp [intOf]; omega
      · have hnx : nxt l (sch l k) k = ad (ad (ad ((sch l k).getD (k - 16) 0) (s0 ((sch l k).getD (k - 15) 0))) ((sch l k).getD (k - 7) 0)) (s1 ((sch l k).getD (k - 2) 0)) := by unfold nxt; rw [if_neg h16]
        have hset := schZ_set l k hlt
        rw [hnx] at hset
        have HSET := Lib.hid hset
        have hq : ∀ j, 0 < j → j ≤ 16 → wr.cell? ⟨w.heap.size + 1, k - j, none⟩ = some (.int .u32 ((sch l k).getD (k - j) 0 : Nat)) := fun j h0 hj => by
          rw [← schZ_at l k (k - j) (by omega)]
          exact (HK.out.cell (k - j)).trans (vw_at _ _ (by rw [schZ_len l k hk]; omega))
        have q0 := hq 16 (by decide) (by decide)
        have q1 := hq 15 (by decide) (by decide)
        have q2 := hq 7 (by decide) (by decide)
        have q3 := hq 2 (by decide) (by decide)
        have d4 : wr.cell? ⟨w.heap.size + 1, k, none⟩ = some (.int .u32 ((schZ l k).getD k 0 : Nat)) := (HK.out.cell k).trans (vw_at _ k (by rw [schZ_len l k hk]; exact hlt))
        have f4 : wr.frozen? ⟨w.heap.size + 1, k, none⟩ = false := HK.out.free k
        have x0 := sch_at_lt HL.out k (k - 16)
        have x1 := sch_at_lt HL.out k (k - 15)
        have x2 := sch_at_lt HL.out k (k - 7)
        have x3 := sch_at_lt HL.out k (k - 2)
        clear hnx hset hq
        generalize (sch l k).getD (k - 16) 0 = y0 at *
        generalize (sch l k).getD (k - 15) 0 = y1 at *
        generalize (sch l k).getD (k - 7) 0 = y2 at *
        generalize (sch l k).getD (k - 2) 0 = y3 at *
        have T0 := Lib.hid (fun W => turn0_c y1 W x1)
        have T1 := Lib.hid (fun W => turn1_c y3 W x3)
        have a1 := wrap32_add y0 (s0 y1)
        have a2 := wrap32_add (ad y0 (s0 y1)) y2
        have a3 := wrap32_add (ad (ad y0 (s0 y1)) y2) (s1 y3)
        generalize ad (ad (ad y0 (s0 y1)) y2) (s1 y3) = r3 at *
        generalize ad (ad y0 (s0 y1)) y2 = r2 at *
        generalize ad y0 (s0 y1) = r1 at *
        generalize s0 y1 = t0 at *
        generalize s1 y3 = t1 at *
        have i1 : IntKind.i64.wrap ((k : Int) - 16) = ((k - 16 : Nat) : Int) := by simp [IntKind.wrap, IntKind.signed, IntKind.bits]; omega
        have i2 : IntKind.i64.wrap ((k : Int) - 15) = ((k - 15 : Nat) : Int) := by simp [IntKind.wrap, IntKind.signed, IntKind.bits]; omega
        have i3 : IntKind.i64.wrap ((k : Int) - 7) = ((k - 7 : Nat) : Int) := by simp [IntKind.wrap, IntKind.signed, IntKind.bits]; omega
        have i4 : IntKind.i64.wrap ((k : Int) - 2) = ((k - 2 : Nat) : Int) := by simp [IntKind.wrap, IntKind.signed, IntKind.bits]; omega
        have g1 : k - 16 < 64 := by omega
        have g2 : k - 15 < 64 := by omega
        have g3 : k - 7 < 64 := by omega
        have g4 : k - 2 < 64 := by omega
        generalize k - 16 = j0 at *
        generalize k - 15 = j1 at *
        generalize k - 7 = j2 at *
        generalize k - 2 = j3 at *
        have gg1 : (j0 : Int) < 64 := by omega
        have gg2 : (j1 : Int) < 64 := by omega
        have gg3 : (j2 : Int) < 64 := by omega
        have gg4 : (j3 : Int) < 64 := by omega
        go_wp2_with fail
        refine wp_region_still_tail 23 (by kernel_rfl) (by kernel_rfl) ?_
        simp only [List.take_succ_cons, List.take_zero, List.drop_succ_cons, List.drop_zero]
        iterate 9 still_step
        still_call ((T0.out _).mono fun _ _ h => ⟨h.1, h.2.symm⟩)
        iterate 10 still_step
        still_call ((T1.out _).mono fun _ _ h => ⟨h.1, h.2.symm⟩)
        repeat still_step
        try refine wpStill_nil ?_
        change wpList _ _ _ _ _ wr.drew
        go_wp2_with fail
        go_roundw
        case rel => exact ⟨k + 1, by omega, by go_num, by rw [← HSET.out, ← vw_set]; exact (show Blk wr.drew _ _ _ from HK.out).set_ k _, (show Blk wr.drew _ _ _ from HK2.out).far (p := ⟨w.heap.size + 1, k, none⟩) (by simp) _, (HKW.out.setCell (p := ⟨w.heap.size + 1, k, none⟩) (Nat.le_succ _) _).drew⟩
        case measure => simp [intOf]; omega
    · obtain rfl : k = 64 := by omega
      have hb3 := HK.out
      rw [schZ_end] at hb3
      have HE := Lib.hid hb3
      have hlen : (w32 (sch l 64)).length = 64 := by rw [w32_len, sch_len]
      have HI := Lib.hid (show (Tryd.prog.info? 74).map (·.size) = some (vw (sch l 64)).size by rw [vw_size, sch_len]; kernel_rfl)
      have HV := Lib.hid (show z64w.size = (vw (sch l 64)).size by rw [vw_size, sch_len]; rfl)
      clear hb3 HK
      go_wp2_with (first
        | (refine wpList_load_row rfl 74 (.tmp 3) rfl (w.heap.size + 1) rfl 74 (vw (sch l 64)) (0, 0) _ HE.out Tryd.underlying74 rfl HI.out ?_)
        | (refine wpList_store_rowTo rfl 74 (.tmp 2) (.tmp 63) rfl rfl w.heap.size (vw (sch l 64)) rfl rfl 74 z64w HK2.out HI.out HV.out (vw_one _) ?_))
      refine bodyPost_ret (results_cell_row rfl _ _ w.heap.size 74 (vw (sch l 64)) (0, 0) _ rfl (setRow_heap wr w.heap.size z64w _ 74 (0, 0) HK2.out) Tryd.underlying74 rfl HI.out) rfl ?_
      exact ⟨rfl, HKW.out.trans ⟨rfl, rfl, rfl, by simp [World.setRow], fun i hi => setRow_other wr w.heap.size i _ (by omega)⟩⟩
end Go.Proofs.YtbgnjjbmidkhlaaDoor
/- Contract: a block. -/
namespace Go.Proofs.YtbgnjjbmidkhlaaDoor
set_option linter.unusedVariables false
set_option linter.unusedSimpArgs false
open Go.RowKit
set_option linter.unusedVariables false
def z8w : Array Value := vw (List.replicate 8 0)
theorem zero_8 (w : World) : (zeroValue 63).run Tryd.prog w = .ok (.agg z8w) w := by kernel_rfl
theorem len8 {l : List Nat} (h : l.length = 8) : ∃ a b c d e f g i, l = [a, b, c, d, e, f, g, i] := by
  match l, h with
  | [a, b, c, d, e, f, g, i], _ => exact ⟨a, b, c, d, e, f, g, i, rfl⟩
theorem rnd_lt (k w : Nat) {v : List Nat} (h : ∀ c ∈ v, c < 4294967296) : ∀ c ∈ rnd k w v, c < 4294967296 := by
  have hg : ∀ i, v.getD i 0 < 4294967296 := fun i => by
    rw [List.getD_eq_getElem?_getD]
    rcases Nat.lt_or_ge i v.length with h1 | h1
    · rw [List.getElem?_eq_getElem h1]; exact h _ (List.getElem_mem _)
    · rw [List.getElem?_eq_none h1]; decide
  intro c hc
  simp only [rnd, List.mem_cons, List.not_mem_nil, or_false] at hc
  rcases hc with rfl | rfl | rfl | rfl | rfl | rfl | rfl | rfl
  · exact ad_lt _ _
  · exact hg _
  · exact hg _
  · exact hg _
  · exact ad_lt _ _
  · exact hg _
  · exact hg _
  · exact hg _
theorem rds_lt (l : List Nat) {h : List Nat} (hh : ∀ c ∈ h, c < 4294967296) (n : Nat) : ∀ c ∈ rds l h n, c < 4294967296 := by
  induction n with
  | zero => exact hh
  | succ n ih => exact rnd_lt _ _ ih
theorem not32 (x : Nat) (h : x < 4294967296) : bits BinOp.xor .u32 (if IntKind.u32.signed = true then -1 else IntKind.u32.max) (x : Int) = ((4294967295 - x : Nat) : Int) := by
  have e : (if IntKind.u32.signed = true then (-1 : Int) else IntKind.u32.max) = ((4294967295 : Nat) : Int) := by decide
  rw [e, u32_xor_nat _ _ (by decide) h]
  have h2 : 4294967295 ^^^ x = 4294967295 - x := by
    apply Nat.eq_of_testBit_eq
    intro i
    have h3 := Nat.testBit_two_pow_sub_succ (n := 32) (x := x) (by omega) i
    have h4 := Nat.testBit_two_pow_sub_one 32 i
    rw [show (2 : Nat) ^ 32 - (x + 1) = 4294967295 - x by omega] at h3
    rw [show (2 : Nat) ^ 32 - 1 = 4294967295 by decide] at h4
    rw [h3, Nat.testBit_xor, h4]
    by_cases hi : i < 32
    · simp [hi]
    · have h5 : x.testBit i = false := Nat.testBit_lt_two_pow (Nat.lt_of_lt_of_le h (show (4294967296 : Nat) ≤ 2 ^ i from Nat.pow_le_pow_right (n := 2) (i := 32) (j := i) (by decide) (by omega)))
      simp [hi, h5]
  rw [h2]
theorem blk3w (w : World) (a b c : Obj) : (((w.alloc a).alloc b).alloc c).heap[w.heap.size + 1 + 1]? = some c := by
  have h := heap_alloc_new ((w.alloc a).alloc b) c
  have e : ((w.alloc a).alloc b).heap.size = w.heap.size + 1 + 1 := by simp
  rw [e] at h
  exact h
/-- the blocks of a step -/
structure Stp (w W : World) (h v : List Nat) : Prop where
  bel : Below w.heap.size w W
  hA : Blk W w.heap.size 63 (vw h)
  oA : Blk W (w.heap.size + 1) 63 z8w
  vA : Blk W (w.heap.size + 1 + 1) 63 (vw v)
theorem Stp.next {w W W' : World} {h v : List Nat} (s : Stp w W h v) (hb : Below W.heap.size W W') : Stp w W' h v :=
  ⟨s.bel.trans (hb.mono s.bel.size), s.hA.below hb s.hA.lt, s.oA.below hb s.oA.lt, s.vA.below hb s.vA.lt⟩
theorem Stp.set {w W : World} {h v : List Nat} (s : Stp w W h v) (i n : Nat) : Stp w (W.setCell ⟨w.heap.size + 1 + 1, i, none⟩ (.int .u32 (n : Nat))) h (v.set i n) :=
  ⟨s.bel.setCell (by simp; omega) _, s.hA.far (p := ⟨w.heap.size + 1 + 1, i, none⟩) (by simp; omega) _, s.oA.far (p := ⟨w.heap.size + 1 + 1, i, none⟩) (by simp) _, by rw [← vw_set]; exact s.vA.set_ i _⟩
theorem Stp.row {w W : World} {h v : List Nat} (s : Stp w W h v) (u : List Nat) : Stp w (W.setRow (w.heap.size + 1 + 1) (vw u)) h u :=
  ⟨s.bel.trans ⟨rfl, rfl, rfl, by simp [World.setRow], fun i hi => setRow_other W _ i _ (by omega)⟩, (setRow_other W _ _ _ (by omega)).trans s.hA, (setRow_other W _ _ _ (by omega)).trans s.oA, setRow_heap W _ _ _ _ (0, 0) s.vA⟩
theorem Stp.seth {w W : World} {h v : List Nat} (s : Stp w W h v) (i n : Nat) : Stp w (W.setCell ⟨w.heap.size, i, none⟩ (.int .u32 (n : Nat))) (h.set i n) v :=
  ⟨s.bel.setCell (Nat.le_refl _) _, by rw [← vw_set]; exact s.hA.set_ i _, s.oA.far (p := ⟨w.heap.size, i, none⟩) (by simp) _, s.vA.far (p := ⟨w.heap.size, i, none⟩) (by simp; omega) _⟩
def hTo (u h : List Nat) (k : Nat) : List Nat := u.take k ++ h.drop k
theorem hTo_set (u h : List Nat) (k : Nat) (h1 : k < u.length) (h2 : u.length = h.length) : (hTo u h k).set k (u.getD k 0) = hTo u h (k + 1) := by
  apply List.ext_getElem?
  intro i
  unfold hTo
  rw [List.getElem?_set]
  simp only [List.length_append, List.length_take, List.length_drop]
  by_cases h : k = i
  · subst h
    rw [if_pos rfl, if_pos (by omega), List.getElem?_append_left (by rw [List.length_take]; omega), List.getElem?_take_of_lt (by omega), List.getD_eq_getElem?_getD, List.getElem?_eq_getElem h1]
    rfl
  · rw [if_neg h]
    by_cases h3 : i < k
    · rw [List.getElem?_append_left (by rw [List.length_take]; omega), List.getElem?_append_left (by rw [List.length_take]; omega), List.getElem?_take_of_lt h3, List.getElem?_take_of_lt (by omega)]
    · rw [List.getElem?_append_right (by rw [List.length_take]; omega), List.getElem?_append_right (by rw [List.length_take]; omega), List.getElem?_drop, List.getElem?_drop, List.length_take, List.length_take]
      congr 1; omega
theorem hTo_at (u h : List Nat) (k : Nat) (h1 : k < u.length) (h2 : u.length = h.length) : (hTo u h k).getD k 0 = h.getD k 0 := by
  unfold hTo
  rw [List.getD_eq_getElem?_getD, List.getElem?_append_right (by rw [List.length_take]; omega), List.getElem?_drop, List.length_take, List.getD_eq_getElem?_getD]
  congr 2; omega
theorem hTo_len (u h : List Nat) (k : Nat) (h1 : k ≤ u.length) (h2 : u.length = h.length) : (hTo u h k).length = h.length := by simp [hTo]; omega
theorem blk_at (l h : List Nat) (i : Nat) (hi : i < 8) : (blk l h).getD i 0 = ad (h.getD i 0) ((rds l h 64).getD i 0) := by simp [blk, List.getD_eq_getElem?_getD, hi]
theorem u32_info : ∃ i, Tryd.prog.info? 61 = some i ∧ i.size = 1 := ⟨_, rfl, by kernel_rfl⟩
theorem run_index_w (l : List Nat) (m : Nat) (hl : l.length = 64) (hm : m < 64) (w : World) : (Instr.index 74 (.agg (vw l)) (.int .i64 (m : Int))).run Tryd.prog w = .ok (.int .u32 (l.getD m 0 : Nat)) w := by
  obtain ⟨i, hi, hs⟩ := u32_info
  have hu := Tryd.underlying74
  have hu8 := Tryd.underlying61
  have hv := vw_at l m (by omega)
  have hagg : (isAgg 61).run Tryd.prog w = .ok false w := by
    unfold isAgg
    rw [Sem.run_bind, run_underlying hu8 w]
    rfl
  simp [Instr.index, asIntOf, run_underlying hu, sizeOf, typeInfo, hi, hs, part, Sem.run_bind, hagg, hv, hm]
set_option maxRecDepth 100000 in
set_option maxHeartbeats 2000000 in
theorem step_c (B : Nat) (ad0 : Addr) (ca : Nat) (l h : List Nat) (w : World) (hl : ∀ c ∈ l, c < 256) (hr : Rd w B (some ad0) (byt l)) (hB : B ≤ w.heap.size) (h64 : l.length = 64) (hca : 64 ≤ ca)
    (hh : h.length = 8) (hhl : ∀ c ∈ h, c < 4294967296) (ht : ∀ i, i < 64 → w.cell? ⟨0, i, none⟩ = some (.int .u32 (kc.getD i 0 : Nat))) (hw : 0 < w.heap.size) :
    Calls Tryd.prog 27 #[.agg (vw h), .slice (some ad0) 64 ca] w fun e w' => e = .returned (.agg (vw (blk l h))) ∧ Below w.heap.size w w' := by
  have zf := zero_8
  have zs1 : z8w.size = 8 := by rfl
  have zs2 : ¬ z8w = #[] := by intro h; have := congrArg Array.size h; rw [zs1] at this; cases this
  have HL := Lib.hid hl
  have HR := Lib.hid hr
  have HT := Lib.hid ht
  have HHL := Lib.hid hhl
  have HIH := Lib.hid (show (Tryd.prog.info? 63).map (·.size) = some (vw h).size by rw [vw_size, hh]; kernel_rfl)
  have HZH := Lib.hid (show z8w.size = (vw h).size by rw [vw_size, hh]; rfl)
  clear hl hr ht hhl
  go_enter Tryd.func27, Tryd.ntmps27
  go_upto_region 2 with (first
    | (refine Go.Great.wpList_boxTo rfl 63 (.tmp 0) rfl (some 2) rfl w.heap.size rfl (vw h) rfl ?_)
    | (refine wpList_load_row rfl 63 (.tmp 2) rfl w.heap.size rfl 63 (vw h) (0, 0) _ (by exact (show Blk _ _ _ _ from ((Blk.new w _ _).alloc _))) Tryd.underlying63 rfl HIH.out ?_)
    | (refine wpList_store_rowTo rfl 63 (.tmp 5) (.tmp 13) rfl rfl (w.heap.size + 1 + 1) (vw h) rfl rfl 63 z8w (by exact blk3w _ _ _ _) HIH.out HZH.out (vw_one _) ?_))
  obtain ⟨Z, hZ⟩ : ∃ Z, Z = (((w.alloc (Obj.cells (vw h) 63)).alloc (Obj.cells z8w 63)).alloc (Obj.cells z8w 63)).setRow (w.heap.size + 1 + 1) (vw h) := ⟨_, rfl⟩
  have hs : Stp w Z h h := by
    rw [hZ]
    refine ⟨?_, ?_, ?_, ?_⟩
    · exact ((((Below.refl _ _).alloc (Nat.le_refl _) _).alloc (by simp) _).alloc (by simp; omega) _).trans ⟨rfl, rfl, rfl, by simp [World.setRow], fun i hi => setRow_other _ _ i _ (by omega)⟩
    · exact (setRow_other _ _ _ _ (by omega)).trans (((Blk.new w _ _).alloc _).alloc _)
    · have h1 := Blk.new (w.alloc (Obj.cells (vw h) 63)) 63 z8w
      rw [show (w.alloc (Obj.cells (vw h) 63)).heap.size = w.heap.size + 1 by simp] at h1
      exact (setRow_other _ _ _ _ (by omega)).trans (h1.alloc _)
    · exact setRow_heap _ _ _ _ _ (0, 0) (blk3w _ _ _ _)
  rw [← hZ]
  clear hZ zf zs1 zs2
  have HS := Lib.hid hs
  clear hs
  have HSC := Lib.hid (fun W (hW : Below w.heap.size w W) => schedule_c B ad0 ca l W HL.out (HR.out.below (hW.mono hB)) (Nat.le_trans hB hW.size) h64 hca)
  go_wp2_with (go_at_call 37; (refine (HSC.out _ HS.out.bel).mono ?_); rintro e w1 ⟨rfl, hb⟩; have HS1 := Lib.hid (HS.out.next hb); clear hb)
  go_loopw [16] (fun i wr => ∃ k : Nat, k ≤ 64 ∧ i = .int .i64 k ∧ Stp w wr h (rds l h k)) (fun i _ => 64 - (intOf i).toNat)
  case atStart => exact ⟨0, by omega, rfl, HS1.out⟩
  case round =>
    rename World => wr
    obtain ⟨k, hk, rfl, hs⟩ := hrel
    have HK := Lib.hid hs
    clear hs
    by_cases hlt : k < 64
    · have hidx := run_index_w (sch l 64) k (sch_len l 64) hlt
      have hwl := sch_at_lt HL.out 64 k
      have tk := HK.out.bel.cell (p := ⟨0, k, none⟩) hw |>.trans (HT.out k hlt)
      have hkl : kc.getD k 0 < 4294967296 := by
        rw [List.getD_eq_getElem?_getD, List.getElem?_eq_getElem (show k < kc.length from hlt)]
        exact (show ∀ c ∈ kc, c < 4294967296 by decide) _ (List.getElem_mem _)
      have hst : rds l h (k + 1) = rnd (kc.getD k 0) ((sch l 64).getD k 0) (rds l h k) := rfl
      have HST := Lib.hid hst
      have hvl := rds_lt l HHL.out k
      obtain ⟨v0, v1, v2, v3, v4, v5, v6, v7, hv⟩ := len8 (rds_len (l := l) hh k)
      rw [hv] at HK HST hvl
      clear hst hv
      generalize (sch l 64).getD k 0 = ww at *
      generalize kc.getD k 0 = kk at *
      have e0 : wr.cell? ⟨w.heap.size + 1 + 1, 0, none⟩ = some (.int .u32 (v0 : Nat)) := HK.out.vA.cell 0
      have e1 : wr.cell? ⟨w.heap.size + 1 + 1, 1, none⟩ = some (.int .u32 (v1 : Nat)) := HK.out.vA.cell 1
      have e2 : wr.cell? ⟨w.heap.size + 1 + 1, 2, none⟩ = some (.int .u32 (v2 : Nat)) := HK.out.vA.cell 2
      have e4 : wr.cell? ⟨w.heap.size + 1 + 1, 4, none⟩ = some (.int .u32 (v4 : Nat)) := HK.out.vA.cell 4
      have e5 : wr.cell? ⟨w.heap.size + 1 + 1, 5, none⟩ = some (.int .u32 (v5 : Nat)) := HK.out.vA.cell 5
      have e6 : wr.cell? ⟨w.heap.size + 1 + 1, 6, none⟩ = some (.int .u32 (v6 : Nat)) := HK.out.vA.cell 6
      have e7 : wr.cell? ⟨w.heap.size + 1 + 1, 7, none⟩ = some (.int .u32 (v7 : Nat)) := HK.out.vA.cell 7
      have l0 := hvl v0 (by simp)
      have l1 := hvl v1 (by simp)
      have l2 := hvl v2 (by simp)
      have l3 := hvl v3 (by simp)
      have l4 := hvl v4 (by simp)
      have l5 := hvl v5 (by simp)
      have l6 := hvl v6 (by simp)
      have l7 := hvl v7 (by simp)
      clear hvl
      have TE := Lib.hid (fun W => turnE_c v4 W l4)
      have TA := Lib.hid (fun W => turnA_c v0 W l0)
      go_wp2_with fail
      go_quiet (fail)
      go_wp2_with fail
      have nx := not32 v4 l4
      have f1 := u32_and_nat v4 v5 l4 l5
      have f2 := u32_and_nat (4294967295 - v4) v6 (by omega) l6
      have f3 : bits BinOp.xor .u32 ((v4 &&& v5 : Nat) : Int) (((4294967295 - v4) &&& v6 : Nat) : Int) = ((chf v4 v5 v6 : Nat) : Int) := u32_xor_nat _ _ (and_w l4) (and_w (by omega))
      have f4 := u32_and_nat v0 v1 l0 l1
      have f5 := u32_and_nat v0 v2 l0 l2
      have f6 := u32_and_nat v1 v2 l1 l2
      have f7 : bits BinOp.xor .u32 ((v0 &&& v1 : Nat) : Int) ((v0 &&& v2 : Nat) : Int) = (((v0 &&& v1) ^^^ (v0 &&& v2) : Nat) : Int) := u32_xor_nat _ _ (and_w l0) (and_w l0)
      have f8 : bits BinOp.xor .u32 (((v0 &&& v1) ^^^ (v0 &&& v2) : Nat) : Int) ((v1 &&& v2 : Nat) : Int) = ((maj v0 v1 v2 : Nat) : Int) := u32_xor_nat _ _ (xor_w (and_w l0) (and_w l0)) (and_w l1)
      have g1 := wrap32_add v7 (b1 v4)
      have g2 := wrap32_add (ad v7 (b1 v4)) (chf v4 v5 v6)
      have g3 := wrap32_add (ad (ad v7 (b1 v4)) (chf v4 v5 v6)) kk
      have g4 := wrap32_add (ad (ad (ad v7 (b1 v4)) (chf v4 v5 v6)) kk) ww
      have g5 := wrap32_add (b0 v0) (maj v0 v1 v2)
      have hrnd : rnd kk ww [v0, v1, v2, v3, v4, v5, v6, v7] = [ad (ad (ad (ad (ad v7 (b1 v4)) (chf v4 v5 v6)) kk) ww) (ad (b0 v0) (maj v0 v1 v2)), v0, v1, v2, ad v3 (ad (ad (ad (ad v7 (b1 v4)) (chf v4 v5 v6)) kk) ww), v4, v5, v6] := rfl
      rw [hrnd] at HST
      clear hrnd
      generalize ad (ad (ad (ad v7 (b1 v4)) (chf v4 v5 v6)) kk) ww = one at *
      generalize ad (b0 v0) (maj v0 v1 v2) = two at *
      generalize ad (ad (ad v7 (b1 v4)) (chf v4 v5 v6)) kk = o3 at *
      generalize ad (ad v7 (b1 v4)) (chf v4 v5 v6) = o2 at *
      generalize ad v7 (b1 v4) = o1 at *
      generalize maj v0 v1 v2 = mj at *
      generalize chf v4 v5 v6 = cf at *
      generalize b1 v4 = bE at *
      generalize b0 v0 = bA at *
      generalize (4294967295 - v4) &&& v6 = q2 at *
      generalize 4294967295 - v4 = q1 at *
      generalize (v0 &&& v1) ^^^ (v0 &&& v2) = q6 at *
      generalize v0 &&& v1 = q3 at *
      generalize v0 &&& v2 = q4 at *
      generalize v1 &&& v2 = q5 at *
      generalize v4 &&& v5 = q0 at *
      refine wp_region_quiet_lit (by kernel_rfl) (by kernel_rfl) ?_
      repeat (go_big_quiet_step ((first
        | (go_at_call 38; exact (TE.out _).mono fun _ _ h => ⟨h.1, _, h.2.symm⟩))))
      refine wpQuiet_nil ?_
      rintro _ ⟨n6, rfl⟩
      go_wp2_with fail
      refine wp_region_quiet_lit (by kernel_rfl) (by kernel_rfl) ?_
      repeat (go_big_quiet_step ((first
        | (go_at_call 38; exact (TA.out _).mono fun _ _ h => ⟨h.1, _, h.2.symm⟩))))
      refine wpQuiet_nil ?_
      rintro _ ⟨n7, rfl⟩
      go_wp2_with fail
      have hs7 : Stp w (((wr.drewN nq).drewN n6).drewN n7) h [v0, v1, v2, v3, v4, v5, v6, v7] := ((HK.out.next (belowDrewN nq (Below.refl _ _))).next (belowDrewN n6 (Below.refl _ _))).next (belowDrewN n7 (Below.refl _ _))
      have HS7 := Lib.hid hs7
      clear hs7
      generalize ((wr.drewN nq).drewN n6).drewN n7 = X at *
      have hcopy : ∃ X2, (Builtin.copy_ #[77, 77] 3 #[.slice (some ⟨w.heap.size + 1 + 1, 1, none⟩) 7 7, .slice (some ⟨w.heap.size + 1 + 1, 0, none⟩) 7 8]).run Tryd.prog X.drew = .ok (.int .i64 7) X2 ∧ Stp w X2 h [v0, v0, v1, v2, v3, v4, v5, v6] := by
        have hs := HS7.out.next (Below.refl _ _).drew
        have h1 := run_copy_row (P := Tryd.prog) X.drew 77 77 3 61 (w.heap.size + 1 + 1) 1 7 7 ⟨w.heap.size + 1 + 1, 0, none⟩ 7 8 (vw [v0, v1, v2, v3, v4, v5, v6, v7]) 63 (w32 [v0, v1, v2, v3, v4, v5, v6]) Tryd.underlying77 (by kernel_rfl) hs.vA rfl (fun j u hu => by
          rw [Addr.add_mid, Nat.zero_add, hs.vA.cell j]
          have hj : j < 7 := by
            rcases Nat.lt_or_ge j 7 with h1 | h1
            · exact h1
            · rw [List.getElem?_eq_none (by rw [w32_len]; exact h1)] at hu; cases hu
          rw [← hu]
          have hj3 : j = 0 ∨ j = 1 ∨ j = 2 ∨ j = 3 ∨ j = 4 ∨ j = 5 ∨ j = 6 := by omega
          rcases hj3 with rfl | rfl | rfl | rfl | rfl | rfl | rfl <;> rfl) (by simp [vw_size, w32_len]) (fun u hu => by
          obtain ⟨n, _, rfl⟩ := List.mem_map.1 hu
          rfl)
        exact ⟨_, h1, hs.row [v0, v0, v1, v2, v3, v4, v5, v6]⟩
      obtain ⟨X2, hcopy, hs2⟩ := hcopy
      have HS8 := Lib.hid hs2
      have d4 : X2.cell? ⟨w.heap.size + 1 + 1, 4, none⟩ = some (.int .u32 (v3 : Nat)) := hs2.vA.cell 4
      have d0 : X2.cell? ⟨w.heap.size + 1 + 1, 0, none⟩ = some (.int .u32 (v0 : Nat)) := hs2.vA.cell 0
      have fr0 : X2.frozen? ⟨w.heap.size + 1 + 1, 0, none⟩ = false := hs2.vA.free 0
      have fr4 : X2.frozen? ⟨w.heap.size + 1 + 1, 4, none⟩ = false := hs2.vA.free 4
      have g6 := wrap32_add one two
      have g7 := wrap32_add v3 one
      clear hs2
      refine wp_region_still_tail 2 (by kernel_rfl) (by kernel_rfl) ?_
      simp only [List.take_succ_cons, List.take_zero, List.drop_succ_cons, List.drop_zero]
      repeat still_step
      try refine wpStill_nil ?_
      change wpList _ _ _ _ _ X.drew
      go_wp2_with fail
      go_roundw
      case rel => exact ⟨k + 1, by omega, by go_num, by rw [HST.out]; exact (HS8.out.set 0 (ad one two)).set 4 (ad v3 one)⟩
      case measure => simp [intOf]; omega
    · obtain rfl : k = 64 := by omega
      go_wp2_with fail
      have hrl := rds_len (l := l) hh 64
      have hrlt := rds_lt l HHL.out 64
      have hbl := blk_len l h
      go_loopw [77] (fun i wx => ∃ k : Nat, k ≤ 8 ∧ i = .int .i64 k ∧ Stp w wx (hTo (blk l h) h k) (rds l h 64)) (fun i _ => 8 - (intOf i).toNat)
      case atStart => exact ⟨0, by omega, rfl, HK.out⟩
      case round =>
        rename World => wx
        obtain ⟨k, hk, rfl, hs⟩ := hrel
        have HX := Lib.hid hs
        clear hs HK
        by_cases hlt : k < 8
        · have e0 : wx.cell? ⟨w.heap.size, k, none⟩ = some (.int .u32 (h.getD k 0 : Nat)) := by
            rw [← hTo_at (blk l h) h k (by omega) (by omega)]
            exact (HX.out.hA.cell k).trans (vw_at _ k (by rw [hTo_len _ _ _ (by omega) (by omega)]; omega))
          have e1 : wx.cell? ⟨w.heap.size + 1 + 1, k, none⟩ = some (.int .u32 ((rds l h 64).getD k 0 : Nat)) := (HX.out.vA.cell k).trans (vw_at _ k (by omega))
          have fr : wx.frozen? ⟨w.heap.size, k, none⟩ = false := HX.out.hA.free k
          have g1 := wrap32_add (h.getD k 0) ((rds l h 64).getD k 0)
          have hset := hTo_set (blk l h) h k (by omega) (by omega)
          rw [blk_at l h k hlt] at hset
          have HST := Lib.hid hset
          clear hset
          generalize h.getD k 0 = x0 at *
          generalize (rds l h 64).getD k 0 = x1 at *
          generalize ad x0 x1 = x2 at *
          have kk8 : (k : Int) < 8 := by omega
          go_wp2_with fail
          refine wp_region_still_tail 8 (by kernel_rfl) (by kernel_rfl) ?_
          simp only [List.take_succ_cons, List.take_zero, List.drop_succ_cons, List.drop_zero]
          repeat still_step
          try refine wpStill_nil ?_
          change wpList _ _ _ _ _ wx.drew
          go_wp2_with fail
          go_roundw
          case rel =>
            have hfin : Stp w (wx.setCell ⟨w.heap.size, k, none⟩ (.int .u32 (x2 : Nat))).drew (hTo (blk l h) h (k + 1)) (rds l h 64) := by rw [← HST.out]; exact (HX.out.next (Below.refl _ _).drew).seth k x2
            exact ⟨_, .int .i64 ((k + 1 : Nat) : Int), _, _, _, _, _, _, _, _, _, _, _, ⟨k + 1, by omega, rfl, hfin⟩, rfl⟩
          case measure => simp [intOf]; omega
        · obtain rfl : k = 8 := by omega
          have hs := HX.out
          rw [show hTo (blk l h) h 8 = blk l h by unfold hTo; rw [List.take_of_length_le (by omega), List.drop_of_length_le (by omega), List.append_nil]] at hs
          have HE := Lib.hid hs
          have HI := Lib.hid (show (Tryd.prog.info? 63).map (·.size) = some (vw (blk l h)).size by rw [vw_size, hbl]; kernel_rfl)
          have HV := Lib.hid (show z8w.size = (vw (blk l h)).size by rw [vw_size, hbl]; rfl)
          clear hs HX
          go_wp2_with (first
            | (refine wpList_load_row rfl 63 (.tmp 2) rfl w.heap.size rfl 63 (vw (blk l h)) (0, 0) _ HE.out.hA Tryd.underlying63 rfl HI.out ?_)
            | (refine wpList_store_rowTo rfl 63 (.tmp 4) (.tmp 89) rfl rfl (w.heap.size + 1) (vw (blk l h)) rfl rfl 63 z8w HE.out.oA HI.out HV.out (vw_one _) ?_))
          refine bodyPost_ret (results_cell_row rfl _ _ (w.heap.size + 1) 63 (vw (blk l h)) (0, 0) _ rfl (setRow_heap wx (w.heap.size + 1) z8w _ 63 (0, 0) HE.out.oA) Tryd.underlying63 rfl HI.out) rfl ?_
          exact ⟨rfl, HE.out.bel.trans ⟨rfl, rfl, rfl, by simp [World.setRow], fun i hi => setRow_other wx (w.heap.size + 1) i _ (by omega)⟩⟩
end Go.Proofs.YtbgnjjbmidkhlaaDoor
/- Contracts: slices.Grow of nothing, slices.Concat of any parts. -/
namespace Go.Proofs.YtbgnjjbmidkhlaaDoor
set_option linter.unusedVariables false
set_option linter.unusedSimpArgs false
open Go.RowKit
set_option linter.unusedVariables false
theorem zc_size (k : Nat) : (Builtin.zeroCells #[Value.int .u8 0] k).size = k := by simp [Builtin.zeroCells]
set_option maxRecDepth 100000 in
set_option maxHeartbeats 1000000 in
theorem grow_c (n : Nat) (w : World) (h0 : 0 < n) (h1 : n ≤ 1000000) : Calls Tryd.prog 36 #[.slice none 0 0, .int .i64 n] w (Gives [] w) := by
  obtain ⟨i0, hi, hz0, hz1, hz2⟩ := info_parts byteInfo
  have hrz : ∀ ty, (Builtin.append_ #[36, 3] ty #[.slice none 0 0, .int .i64 (n : Nat)]).run Tryd.prog w =
      .ok (.slice (some ⟨w.heap.size, 0, none⟩) n (grownCap w n 0 5)) (w.drew.alloc (.cells (#[] ++ Builtin.zeroCells #[Value.int .u8 0] n ++ Builtin.zeroCells #[Value.int .u8 0] (grownCap w n 0 5 - n)) 5)) := fun ty => by
    have h := Lib.run_append_grow_zeros (P := Tryd.prog) w 36 3 ty 5 i0 (.int .u8 0) .i64 .i64 Tryd.underlying36 Tryd.underlying3 hi hz0 none 0 0 [] (run_firstCells_none w.drew i0.size 0 0 0) n h0 (by rw [hz1]; decide) (by omega) (by omega) (by rw [hz2]; omega) (by rw [Nat.zero_add]; exact growslice_fits h0 (by rw [hz2]; omega))
    rw [Nat.zero_add] at h
    exact h
  have hGn : n ≤ grownCap w n 0 5 := grownCap_ge w _ _ _
  have hGm : grownCap w n 0 5 ≤ maxLen := grownCap_le_maxLen w n 0 5 (by unfold maxLen; omega)
  generalize grownCap w n 0 5 = G at *
  have hG63 : G ≤ 9223372036854775807 := by unfold maxLen at hGm; omega
  have HM := Lib.hid hGm
  have HN := Lib.hid hGn
  clear hGm
  go_enter Tryd.func36, Tryd.ntmps36
  go_wp2_with (at_builtin; refine Lib.wpList_append_run _ rfl _ _ _ _ rfl _ _ rfl rfl _ _ (hrz _) ?_)
  all_goals
    go_ret
    refine ⟨_, rfl, ⟨rfl, .inr ⟨w.heap.size, G, _, rfl, Nat.le_refl _, heap_alloc_new w.drew _, Nat.zero_le _, HM.out, ?_, rfl⟩⟩, ((Below.refl _ _).drew).alloc (Nat.le_refl _) _⟩
    have := HN.out
    simp [zc_size]; omega
set_option maxRecDepth 100000 in
set_option maxHeartbeats 1000000 in
theorem grow0_c (w : World) : Calls Tryd.prog 36 #[.slice none 0 0, .int .i64 0] w (Gives [] w) := by
  go_enter Tryd.func36, Tryd.ntmps36
  go_wp2_with fail
  go_ret
  exact ⟨_, rfl, OwnB.nil_ _ _, Below.refl _ _⟩
theorem growN_c (n : Nat) (w : World) (h1 : n ≤ 1000000) : Calls Tryd.prog 36 #[.slice none 0 0, .int .i64 n] w (Gives [] w) := by
  rcases Nat.eq_zero_or_pos n with rfl | h0
  · exact grow0_c w
  · exact grow_c n w h0 h1
/-- parts handed in: where each lies, its room, its bytes -/
abbrev Part := Option Addr × Nat × List Nat
def pv (p : Part) : Value := .slice p.1 p.2.2.length p.2.1
def cat (ps : List Part) (k : Nat) : List Nat := (ps.take k).flatMap fun p => p.2.2
theorem cat_succ (ps : List Part) (k : Nat) (h : k < ps.length) : cat ps (k + 1) = cat ps k ++ (ps[k]).2.2 := by
  unfold cat
  rw [List.take_succ_eq_append_getElem h, List.flatMap_append]
  simp
theorem cat_le (ps : List Part) : ∀ (k m : Nat), k ≤ m → (cat ps k).length ≤ (cat ps m).length := by
  intro k m h
  have e : ps.take m = ps.take k ++ (ps.drop k).take (m - k) := by rw [← List.take_add, show k + (m - k) = m by omega]
  unfold cat
  rw [e, List.flatMap_append, List.length_append]
  omega
set_option maxRecDepth 100000 in
set_option maxHeartbeats 2000000 in
theorem concatN_c (g n cap : Nat) (ps : List Part) (w : World) (hn : ps.length = n) (hcells : ∀ k (h : k < ps.length), w.cell? ⟨g, k, none⟩ = some (pv ps[k])) (hg : g < w.heap.size)
    (hr : ∀ p ∈ ps, Rd w w.heap.size p.1 (byt p.2.2)) (hlen : (cat ps n).length ≤ 100000) (hn2 : n ≤ 1000) (hcap : n ≤ cap) :
    Calls Tryd.prog 25 #[.slice (some ⟨g, 0, none⟩) n cap] w (Gives (cat ps n) w) := by
  obtain ⟨i0, hi, hz0, hz1, hz2⟩ := info_parts byteInfo
  have HC := Lib.hid hcells
  have HR := Lib.hid hr
  have HN := Lib.hid hn
  have HGR := Lib.hid (growN_c (cat ps n).length)
  have HLE := Lib.hid hlen
  clear hcells hr
  go_enter Tryd.func25, Tryd.ntmps25
  go_wp2_with fail
  go_loopw [3, 11] (fun s i wr => ∃ k : Nat, k ≤ n ∧ i = .int .i64 k ∧ s = .int .i64 ((cat ps k).length : Nat) ∧ w = wr) (fun _ i _ => n - (intOf i).toNat)
  case atStart => exact ⟨0, by omega, rfl, rfl, rfl⟩
  case round =>
    obtain ⟨k, hk, rfl, rfl, rfl⟩ := hrel
    by_cases hlt : k < n
    · have hd := HC.out k (by rw [HN.out]; exact hlt)
      have hs := cat_succ ps k (by rw [HN.out]; exact hlt)
      have hl1 := cat_le ps (k + 1) n hlt
      have hsl : (cat ps (k + 1)).length = (cat ps k).length + (ps[k]'(by rw [HN.out]; exact hlt)).2.2.length := by rw [hs, List.length_append]
      have HSL := Lib.hid hsl
      have hb1 : (cat ps k).length + (ps[k]'(by rw [HN.out]; exact hlt)).2.2.length ≤ 100000 := by rw [← hsl]; omega
      unfold pv at hd
      generalize (ps[k]'(by rw [HN.out]; exact hlt)).2.2.length = pl at *
      generalize (ps[k]'(by rw [HN.out]; exact hlt)).1 = pa at *
      generalize (ps[k]'(by rw [HN.out]; exact hlt)).2.1 = pc at *
      clear hs hsl hl1
      generalize (cat ps k).length = ck at *
      have hkn : (k : Int) < (n : Int) := by omega
      go_wp2_with fail
      go_roundw
      case rel => exact ⟨k + 1, by omega, by go_num, by rw [HSL.out]; go_num, by first | rfl | trivial⟩
      case measure => simp [intOf]; omega
    · obtain rfl : k = n := by omega
      go_wp2_with (go_at_call 36; ((refine (HGR.out _ (by omega)).mono ?_); rintro e w1 ⟨v1, rfl, ho, hb⟩; have HO1 := Lib.hid ho; have HB1 := Lib.hid hb; clear ho hb))
      obtain ⟨n, rfl⟩ : ∃ n, n = k := ⟨_, rfl⟩
      go_loopw [6, 27] (fun v i wr => ∃ j : Nat, j ≤ n ∧ i = .int .i64 j ∧ OwnB wr w.heap.size v (cat ps j) ∧ Below w.heap.size w wr) (fun _ i _ => n - (intOf i).toNat)
      case atStart => exact ⟨0, by omega, rfl, HO1.out, HB1.out⟩
      case round =>
        rename World => wr
        obtain ⟨j, hj, rfl, ho, hbr⟩ := hrel
        have HOK := Lib.hid ho
        have HBK := Lib.hid hbr
        by_cases hltj : j < n
        · have hd := (hbr.cell (p := ⟨g, j, none⟩) hg).trans (HC.out j (by rw [HN.out]; exact hltj))
          have hs := cat_succ ps j (by rw [HN.out]; exact hltj)
          have hl1 := cat_le ps (j + 1) n hltj
          have hpr := (HR.out _ (List.getElem_mem (show j < ps.length by rw [HN.out]; exact hltj))).below hbr
          have HSS := Lib.hid hs
          have hb1 : (cat ps j).length + (ps[j]'(by rw [HN.out]; exact hltj)).2.2.length ≤ 100000 := by rw [hs, List.length_append] at hl1; have := HLE.out; omega
          unfold pv at hd
          clear hs hl1 ho hbr
          generalize (ps[j]'(by rw [HN.out]; exact hltj)).2.2 = pl at *
          generalize (ps[j]'(by rw [HN.out]; exact hltj)).1 = pa at *
          generalize (ps[j]'(by rw [HN.out]; exact hltj)).2.1 = pc at *
          have HPR := Lib.hid hpr
          clear hpr
          have hkn : (j : Int) < (n : Int) := by omega
          go_wp2_with (at_builtin; refine wpList_app _ rfl (.tmp 31) (.tmp 32) _ rfl w.heap.size 5 i0 (.int .u8 0) 1 1 Tryd.underlying36 hi hz0 hz1 hz2 rfl (by decide) _ (cat ps j).length (byt (cat ps j)) rfl (by exact HOK.out) w.heap.size pa pl.length pc (byt pl) rfl (by simp [byt_len]) HPR.out (byt_one _) (by omega) (by omega) (by exact HBK.out.size) ?_; intro v5 w5 hap; have HOA := Lib.hid (show OwnB w5 w.heap.size v5 (cat ps j ++ pl) from OwnB.app hap); have HBA := Lib.hid (show Below w.heap.size w w5 from HBK.out.trans (hap.below HOK.out HBK.out.size)); clear hap)
          go_roundw
          case rel => exact ⟨j + 1, by omega, by go_num, by rw [HSS.out]; exact HOA.out, HBA.out⟩
          case measure => simp [intOf]; omega
        · obtain rfl : j = n := by omega
          go_wp2_with fail
          go_ret
          exact ⟨_, rfl, HOK.out, HBK.out⟩
end Go.Proofs.YtbgnjjbmidkhlaaDoor
/- Regions that draw their order and hold calls whose answers hang on the order (addresses of new memory): one walk of the text's order serves all. -/
namespace Go.Proofs.YtbgnjjbmidkhlaaDoor
set_option linter.unusedVariables false
set_option linter.unusedSimpArgs false
set_option maxRecDepth 100000
open Go.RowKit
set_option linter.unusedVariables false
/-- stands in the walk's frame for what a loud call handed back -/
def tok : Value := .bool true
def isTok (v : Value) : Bool := match v with | .bool true => true | _ => false
theorem isTok_eq {v : Value} (h : isTok v = true) : v = tok := by
  unfold isTok at h; split at h
  · rfl
  · cases h
section
variable {P : Program} {ops : Array Oper} {md : Region.Mode} {Z : World} {ls : List Tmp} {V : Tmp → Value → World → Prop}
def SimAt (ls : List Tmp) (V : Tmp → Value → World → Prop) (b a : Act) (w : World) (k : Tmp) : Prop :=
  (ls.contains k = true → b.eval (.tmp k) = tok → V k (a.eval (.tmp k)) w) ∧ (ls.contains k = false → a.eval (.tmp k) = b.eval (.tmp k))
structure Sim (ls : List Tmp) (V : Tmp → Value → World → Prop) (b a : Act) (w : World) : Prop where
  de : a.defers = b.defers
  sz : a.tmps.size = b.tmps.size
  at_ : ∀ k, SimAt ls V b a w k
def LoudUpon (P : Program) (ls : List Tmp) (V : Tmp → Value → World → Prop) (dst : Option Tmp) (w : World) (v : Value) : Result Next → Prop
  | .ok (.value u) w' => (w' = w ∧ u = v ∧ ∀ d, dst = some d → ls.contains d = false) ∨ (Below w.heap.size w w' ∧ ∀ d, dst = some d → ls.contains d = true ∧ V d u w')
  | .ok (.enter f args) w' => w' = w ∧ Calls P f args w (fun e w'' => ∃ u, e = .returned u ∧ Below w.heap.size w w'' ∧ ∀ d, dst = some d → (ls.contains d = true → V d u w'') ∧ (ls.contains d = false → u = v))
  | _ => False
def LQ (P : Program) (ops : Array Oper) (Z : World) (ls : List Tmp) (V : Tmp → Value → World → Prop) (o : Oper) (b : Act) (v : Value) : Prop :=
  ∀ a w, Below Z.heap.size Z w → (∀ k ∈ o.looksAt ops, SimAt ls V b a w k) → LoudUpon P ls V o.dst w v ((execOp a.eval o).run P w)
theorem LQ.put {o : Oper} {b : Act} {v u : Value} {dst : Option Tmp} (h : ∀ d, dst = some d → d ∉ o.looksAt ops) (hq : LQ P ops Z ls V o b v) : LQ P ops Z ls V o (b.put dst u) v := fun a w hC hs =>
  hq a w hC fun k hk => by
    have := hs k hk
    unfold SimAt at *
    rw [Act.eval_put (a := b) (dst := dst) (v := u) (x := .tmp k) (fun d hd he => h d hd (by injection he with he; rw [← he]; exact hk))] at this
    exact this
theorem LQ.unput {o : Oper} {b : Act} {v u : Value} {dst : Option Tmp} (h : ∀ d, dst = some d → d ∉ o.looksAt ops) (hq : LQ P ops Z ls V o (b.put dst u) v) : LQ P ops Z ls V o b v := fun a w hC hs =>
  hq a w hC fun k hk => by
    have := hs k hk
    unfold SimAt at *
    rw [Act.eval_put (a := b) (dst := dst) (v := u) (x := .tmp k) (fun d hd he => h d hd (by injection he with he; rw [← he]; exact hk))]
    exact this
def wpLoud (P : Program) (ops : Array Oper) (Z : World) (ls : List Tmp) (V : Tmp → Value → World → Prop) (Q : Act → Prop) : List Oper → Act → Prop
  | [], b => Q b
  | o :: rest, b => if Region.wanted o (yielded ops b.tmps) then ∃ v, LQ P ops Z ls V o b v ∧ wpLoud P ops Z ls V Q rest (b.put o.dst v) else wpLoud P ops Z ls V Q rest (b.put o.dst undef)
def lOp (P : Program) (ops : Array Oper) (Z : World) (ls : List Tmp) (V : Tmp → Value → World → Prop) (i : Nat) (K : Act → Prop) (b : Act) : Prop :=
  match ops[i]? with
  | none => K b
  | some o => if Region.wanted o (yielded ops b.tmps) then ∃ v, LQ P ops Z ls V o b v ∧ K (b.put o.dst v) else K (b.put o.dst undef)
theorem lOp_mono {i : Nat} {b : Act} {K K' : Act → Prop} (h : ∀ b, K b → K' b) (hh : lOp P ops Z ls V i K b) : lOp P ops Z ls V i K' b := by
  unfold lOp at *
  split
  · exact h _ (by simpa [*] using hh)
  · rename_i o ho
    simp only [ho] at hh
    split
    · rename_i hw; simp only [hw, if_true] at hh; obtain ⟨v, h1, h2⟩ := hh; exact ⟨v, h1, h _ h2⟩
    · rename_i hw; simp only [hw] at hh; exact h _ hh
def wpAnyL (P : Program) (md : Region.Mode) (ops : Array Oper) (Z : World) (ls : List Tmp) (V : Tmp → Value → World → Prop) (Q : Act → Prop) : Nat → Array Bool → Act → Prop
  | 0, listed, b => Region.ready md ops listed = [] ∧ Q b
  | fuel + 1, listed, b =>
    (Region.ready md ops listed = [] → Q b) ∧
    ∀ i ∈ Region.ready md ops listed, lOp P ops Z ls V i (wpAnyL P md ops Z ls V Q fuel (listed.setIfInBounds i true)) b
theorem eval_put_at (a : Act) (d : Tmp) (v : Value) (k : Tmp) : (a.put (some d) v).eval (.tmp k) = if k = d ∧ d < a.tmps.size then v else a.eval (.tmp k) := by
  by_cases h : k = d
  · subst h
    by_cases h2 : k < a.tmps.size
    · rw [if_pos ⟨rfl, h2⟩]
      simp [Act.put, Act.eval, h2]
    · rw [if_neg (fun h3 => h2 h3.2)]
      simp [Act.put, Act.eval, h2]
  · rw [if_neg (fun h3 => h h3.1)]
    exact Act.eval_put fun e he hx => h (by injection he with he; injection hx with hx; rw [hx, he])
theorem Sim.put {b a : Act} {w : World} (h : Sim ls V b a w) (dst : Option Tmp) (v u : Value) (hd : ∀ d, dst = some d → (ls.contains d = true → v = tok → V d u w) ∧ (ls.contains d = false → u = v)) : Sim ls V (b.put dst v) (a.put dst u) w := by
  cases dst with
  | none => exact h
  | some d =>
    obtain ⟨h1, h2⟩ := hd d rfl
    refine ⟨h.de, by simp [Act.put, h.sz], fun k => ?_⟩
    obtain ⟨s1, s2⟩ := h.at_ k
    unfold SimAt
    rw [eval_put_at, eval_put_at, h.sz]
    by_cases hk : k = d ∧ d < b.tmps.size
    · rw [if_pos hk, if_pos hk]
      obtain ⟨rfl, _⟩ := hk
      exact ⟨h1, h2⟩
    · rw [if_neg hk, if_neg hk]
      exact ⟨s1, s2⟩
theorem Sim.next {b a : Act} {w w' : World} (hV : ∀ k u w w', V k u w → Below w.heap.size w w' → V k u w') (h : Sim ls V b a w) (hb : Below w.heap.size w w') : Sim ls V b a w' :=
  ⟨h.de, h.sz, fun k => ⟨fun h1 h2 => hV k _ _ _ ((h.at_ k).1 h1 h2) hb, (h.at_ k).2⟩⟩
def guardsB (ops : Array Oper) (ls : List Tmp) : Bool := ops.all fun o => match o.guard with
  | none => true
  | some (g, _) => match (ops[g]?).bind (·.dst) with
    | some d => !ls.contains d
    | none => true
theorem wanted_sim {b a : Act} {w : World} (h : Sim ls V b a w) (hG : guardsB ops ls = true) {o : Oper} {i : Nat} (ho : ops[i]? = some o) : Region.wanted o (yielded ops a.tmps) = Region.wanted o (yielded ops b.tmps) := by
  unfold Region.wanted
  cases hg : o.guard with
  | none => rfl
  | some gw =>
    obtain ⟨g, want⟩ := gw
    have hi : i < ops.size := by
      rcases Nat.lt_or_ge i ops.size with h1 | h1
      · exact h1
      · rw [Array.getElem?_eq_none h1] at ho; cases ho
    have he : ops[i] = o := by rw [Array.getElem?_eq_getElem hi] at ho; injection ho
    have h1 := (Array.all_eq_true.1 hG) i hi
    rw [he, hg] at h1
    have hy : yielded ops a.tmps g = yielded ops b.tmps g := by
      unfold yielded
      cases ht : (ops[g]?).bind (·.dst) with
      | none => rfl
      | some t =>
        simp only [ht] at h1
        have h2 := (h.at_ t).2 (by simpa using h1)
        have h3 : a.tmps[t]? = b.tmps[t]? := by
          rcases Nat.lt_or_ge t b.tmps.size with h4 | h4
          · have h5 : t < a.tmps.size := by rw [h.sz]; exact h4
            simp only [Act.eval] at h2
            rw [Array.getElem?_eq_getElem h4, Array.getElem?_eq_getElem h5]
            simpa [h4, h5] using h2
          · rw [Array.getElem?_eq_none h4, Array.getElem?_eq_none (by rw [h.sz]; exact h4)]
        simp [h3]
    simp only [hy]
theorem loudStep (hV : ∀ k u w w', V k u w → Below w.heap.size w w' → V k u w') (hG : guardsB ops ls = true) {Q' : Exit → Act → World → Prop} {K : Act → Prop} {K' : Act → World → Prop} (ih : ∀ b a w, Below Z.heap.size Z w → Sim ls V b a w → K b → K' a w)
    {i : Nat} {b a : Act} {w : World} (hC : Below Z.heap.size Z w) (hs : Sim ls V b a w) (h1 : lOp P ops Z ls V i K b) : wpOp P ops Q' i K' a w := by
  unfold lOp at h1
  unfold wpOp
  cases ho : ops[i]? with
  | none => simp only [ho] at h1 ⊢; exact ih _ _ _ hC hs h1
  | some o =>
    simp only [ho] at h1 ⊢
    rw [wanted_sim hs hG ho]
    split
    · rename_i hw
      simp only [hw, if_true] at h1
      obtain ⟨v, hq, hK⟩ := h1
      refine .inl ?_
      have h2 := hq a w hC (fun k _ => hs.at_ k)
      unfold Oper.wp
      generalize (execOp a.eval o).run P w = r at *
      cases r with
      | ok n w' =>
        cases n <;> simp only [LoudUpon] at h2 <;> simp only [Oper.upon]
        case value u =>
          rcases h2 with ⟨rfl, rfl, h3⟩ | ⟨hb, h3⟩
          · exact ih _ _ _ hC (hs.put _ _ _ fun d hd => ⟨fun h4 => (by rw [h3 d hd] at h4; cases h4), fun _ => rfl⟩) hK
          · exact ih _ _ _ (hC.trans (hb.mono hC.size)) ((hs.next hV hb).put _ _ _ fun d hd => ⟨fun _ _ => (h3 d hd).2, fun h4 => (by rw [(h3 d hd).1] at h4; cases h4)⟩) hK
        case enter f args =>
          obtain ⟨rfl, hc⟩ := h2
          refine hc.mono ?_
          rintro e w'' ⟨u, rfl, hb, hd⟩
          exact ih _ _ _ (hC.trans (hb.mono hC.size)) ((hs.next hV hb).put _ _ _ fun d h3 => ⟨fun h4 _ => (hd d h3).1 h4, (hd d h3).2⟩) hK
      | halt x w' => simp only [LoudUpon] at h2
    · rename_i hw
      simp only [hw] at h1
      exact ih _ _ _ hC (hs.put _ _ _ fun d hd => ⟨fun _ h4 => (by cases h4), fun _ => rfl⟩) h1
theorem wpAny_of_loud (hV : ∀ k u w w', V k u w → Below w.heap.size w w' → V k u w') (hG : guardsB ops ls = true) {Q : Act → Prop} {Q' : Exit → Act → World → Prop} (hQ : ∀ b a w, Below Z.heap.size Z w → Sim ls V b a w → Q b → Q' .normal a w) :
    ∀ (fuel : Nat) (listed : Array Bool) (b a : Act) (w : World), Below Z.heap.size Z w → Sim ls V b a w → wpAnyL P md ops Z ls V Q fuel listed b → wpAny P md ops Q' fuel listed a w
  | 0, _, _, _, _, hC, hs, h => ⟨h.1, hQ _ _ _ hC hs h.2⟩
  | fuel + 1, listed, b, a, w, hC, hs, h => ⟨fun h0 => hQ _ _ _ hC hs (h.1 h0), fun i hi => loudStep hV hG (fun b a w => wpAny_of_loud hV hG hQ fuel _ b a w) hC hs (h.2 i hi)⟩
def YieldsL (P : Program) (ops : Array Oper) (Z : World) (ls : List Tmp) (V : Tmp → Value → World → Prop) (o : Oper) (v : Value) (b : Act) : Prop :=
  (Region.wanted o (yielded ops b.tmps) = true ∧ LQ P ops Z ls V o b v) ∨ (Region.wanted o (yielded ops b.tmps) = false ∧ v = undef)
theorem YieldsL.lOp {i : Nat} {o : Oper} {v : Value} {b : Act} (hi : ops[i]? = some o) (hy : YieldsL P ops Z ls V o v b) {K : Act → Prop} (h : K (b.put o.dst v)) : lOp P ops Z ls V i K b := by
  unfold Go.Proofs.YtbgnjjbmidkhlaaDoor.lOp
  simp only [hi]
  rcases hy with ⟨hw, hv⟩ | ⟨hw, rfl⟩
  · simp only [hw, if_true]; exact ⟨v, hv, h⟩
  · simp only [hw, Bool.false_eq_true, if_false]; exact h
theorem yieldsL_of {i : Nat} {o : Oper} {b : Act} {K : Act → Prop} (hi : ops[i]? = some o) (h : lOp P ops Z ls V i K b) : ∃ v, YieldsL P ops Z ls V o v b ∧ K (b.put o.dst v) := by
  unfold lOp at h
  simp only [hi] at h
  by_cases hw : Region.wanted o (yielded ops b.tmps) = true
  · simp only [hw, if_true] at h
    obtain ⟨v, h1, h2⟩ := h
    exact ⟨v, .inl ⟨hw, h1⟩, h2⟩
  · simp only [hw] at h
    exact ⟨undef, .inr ⟨by simpa using hw, rfl⟩, h⟩
theorem lOp_put {j : Nat} {oi oj : Oper} {v : Value} (hj : ops[j]? = some oj) (hap : oi.apart ops oj = true) {K : Act → Prop} {b : Act}
    (hy : YieldsL P ops Z ls V oi v b) (h : lOp P ops Z ls V j K (b.put oi.dst v)) : lOp P ops Z ls V j (fun b' => YieldsL P ops Z ls V oi v b' ∧ K (b'.put oi.dst v)) b := by
  obtain ⟨h1, h2, h3⟩ := Oper.apart_spec hap
  have keep : ∀ (b : Act), YieldsL P ops Z ls V oi v b → ∀ u, YieldsL P ops Z ls V oi v (b.put oj.dst u) := fun b hy u => by
    unfold YieldsL at *
    rw [wanted_put oi b oj.dst u h3]
    exact hy.imp (fun h => ⟨h.1, h.2.put h3⟩) id
  unfold lOp at *
  simp only [hj] at *
  rw [wanted_put oj b oi.dst v h1] at h
  split
  · rename_i hw
    simp only [hw, if_true] at h
    obtain ⟨u, hu, hn⟩ := h
    exact ⟨u, hu.unput h1, keep b hy u, by rw [← Act.put_comm b v u h2]; exact hn⟩
  · rename_i hw
    simp only [hw] at h
    exact ⟨keep b hy _, by rw [← Act.put_comm b v undef h2]; exact h⟩
theorem wpAnyL_first {Q : Act → Prop} {i : Nat} {oi : Oper} {v : Value} (hi : ops[i]? = some oi) :
    ∀ (fuel : Nat) (listed : Array Bool) (b : Act),
      (∀ j oj, ops[j]? = some oj → j ≠ i → listed.getD j true = false → (∀ e ∈ oj.after, Region.binds md e = true → e.on ≠ i) → oi.apart ops oj = true) →
      i ∈ Region.ready md ops listed → YieldsL P ops Z ls V oi v b →
      wpAnyL P md ops Z ls V Q fuel (listed.setIfInBounds i true) (b.put oi.dst v) → wpAnyL P md ops Z ls V Q (fuel + 1) listed b := by
  intro fuel
  induction fuel with
  | zero =>
    intro listed b _ hr hy H
    refine ⟨fun h => (by rw [h] at hr; cases hr), fun j hj => ?_⟩
    by_cases hji : j = i
    · subst hji; exact hy.lOp hi H
    · have := ready_mono hj hji
      rw [H.1] at this
      cases this
  | succ fuel ih =>
    intro listed b hfree hr hy H
    refine ⟨fun h => (by rw [h] at hr; cases hr), fun j hj => ?_⟩
    by_cases hji : j = i
    · subst hji; exact hy.lOp hi H
    · have h1 := H.2 j (ready_mono hj hji)
      obtain ⟨hjun, oj, hoj, hall⟩ := mem_ready.1 hj
      have hnot : ∀ e ∈ oj.after, Region.binds md e = true → e.on ≠ i := fun e he hb heq => by
        have h1 := hall e he hb
        have h0 := (mem_ready.1 hr).1
        rw [heq] at h1
        rcases Nat.lt_or_ge i listed.size with h' | h'
        · simp [h'] at h0 h1; rw [h0] at h1; cases h1
        · simp [Array.getElem?_eq_none h'] at h1
      have h2 := lOp_put hoj (hfree j oj hoj hji hjun hnot) hy h1
      have hfree' : ∀ k ok, ops[k]? = some ok → k ≠ i → (listed.setIfInBounds j true).getD k true = false →
          (∀ e ∈ ok.after, Region.binds md e = true → e.on ≠ i) → oi.apart ops ok = true := fun k ok hk hki hun hno => by
        refine hfree k ok hk hki ?_ hno
        by_cases hjk : j = k
        · subst hjk; exact hjun
        · rw [getD_set_ne true hjk] at hun; exact hun
      refine lOp_mono (fun b' h3 => ih (listed.setIfInBounds j true) b' hfree' (ready_mono hr (Ne.symm hji)) h3.1 ?_) h2
      rw [Array.setIfInBounds_comm _ _ hji]
      exact h3.2
theorem wpAnyL_lex {Q : Act → Prop} : ∀ (l : List Oper) (k : Nat) (listed : Array Bool) (b : Act), (∀ j, l[j]? = ops[k + j]?) →
    Region.lexFrom md ops l.length k listed = true → wpLoud P ops Z ls V Q l b → wpAnyL P md ops Z ls V Q l.length listed b
  | [], _, _, _, _, hB, h => ⟨by simpa [Region.lexFrom] using hB, h⟩
  | o :: l, k, listed, b, hl, hB, h => by
    have h0 : ops[k]? = some o := by simpa using (hl 0).symm
    simp only [List.length_cons, Region.lexFrom, Bool.and_eq_true] at hB
    obtain ⟨⟨hr, hf⟩, hB'⟩ := hB
    have hst : lOp P ops Z ls V k (wpLoud P ops Z ls V Q l) b := by unfold lOp; simp only [h0]; exact h
    obtain ⟨v, hy, hK⟩ := yieldsL_of h0 hst
    exact wpAnyL_first h0 l.length listed b (Region.free_spec h0 hf) (by simpa using hr) hy
      (wpAnyL_lex l (k + 1) _ _ (fun j => by have := hl (j + 1); simpa [Nat.add_assoc, Nat.add_comm 1 j] using this) hB' hK)
def idleB (a : Act) (ls : List Tmp) : Bool := ls.all fun k => !isTok (a.eval (.tmp k))
theorem idle_sim {a : Act} {w : World} (hI : idleB a ls = true) : Sim ls V a a w := by
  refine ⟨rfl, rfl, fun k => ⟨fun h1 h2 => ?_, fun _ => rfl⟩⟩
  have h3 := List.all_eq_true.1 hI k (by simpa using h1)
  rw [h2] at h3
  cases h3
theorem wp_region_loud (Z : World) (ls : List Tmp) (V : Tmp → Value → World → Prop) {id : Nat} {Q : Exit → Act → World → Prop} {a : Act} {w : World} {l : List Oper} (hm : P.follows .mixedOrders = true) (hB : Region.lexB .any l.toArray = true) (hG : guardsB l.toArray ls = true) (hI : idleB a ls = true)
    (hV : ∀ k u w w', V k u w → Below w.heap.size w w' → V k u w') (hC : Below Z.heap.size Z w.drew)
    (h : wpLoud P l.toArray Z ls V (fun b => ∀ a' w', Below Z.heap.size Z w' → Sim ls V b a' w' → Q .normal a' w') l a) : (Code.region id l.toArray true).wp P Q a w := by
  simp only [Region.lexB, Bool.and_eq_true] at hB
  refine wp_region_any hm (wpAny_of_loud (Q := fun b => ∀ a' w', Below Z.heap.size Z w' → Sim ls V b a' w' → Q .normal a' w') hV hG (fun b a w h1 h2 h3 => h3 a w h1 h2) _ _ a a _ hC (idle_sim hI) ?_)
  · have := wpAnyL_lex (P := P) (Z := Z) (ls := ls) (V := V) (md := .any) l 0 (Array.replicate l.toArray.size false) a (by simp) (by simpa using hB.2) h
    simpa using this
/-! the head of a region so, its tail as it stands -/
def wpAnyLT (P : Program) (md : Region.Mode) (ops : Array Oper) (Z : World) (ls : List Tmp) (V : Tmp → Value → World → Prop) (n : Nat) (L : Array Bool → Act → Prop) : Nat → Array Bool → Act → Prop
  | 0, listed, b => L listed b
  | f + 1, listed, b => Region.ready md ops listed ≠ [] ∧ ∀ i ∈ Region.ready md ops listed, i < n ∧ lOp P ops Z ls V i (wpAnyLT P md ops Z ls V n L f (listed.setIfInBounds i true)) b
theorem wpAny_of_loudHead {n g : Nat} (hV : ∀ k u w w', V k u w → Below w.heap.size w w' → V k u w') (hG : guardsB ops ls = true) {L : Array Bool → Act → Prop} {Q' : Exit → Act → World → Prop} (hL : ∀ listed b a w, Below Z.heap.size Z w → Sim ls V b a w → L listed b → wpAny P md ops Q' g listed a w) :
    ∀ (f : Nat) (listed : Array Bool) (b a : Act) (w : World), Below Z.heap.size Z w → Sim ls V b a w → wpAnyLT P md ops Z ls V n L f listed b → wpAny P md ops Q' (f + g) listed a w
  | 0, listed, b, a, w, hC, hs, h => by rw [Nat.zero_add]; exact hL _ _ _ _ hC hs h
  | f + 1, listed, b, a, w, hC, hs, h => by
    rw [show f + 1 + g = (f + g) + 1 by omega]
    exact ⟨fun h0 => absurd h0 h.1, fun i hi => loudStep hV hG (fun b a w => wpAny_of_loudHead hV hG hL f _ b a w) hC hs (h.2 i hi).2⟩
theorem wpAnyLT_first {n i : Nat} {oi : Oper} {v : Value} {L : Array Bool → Act → Prop} (hi : ops[i]? = some oi)
    (hs : Region.sinkB md ops n = true) (hc : Region.chainB md ops n = true) (hn : n < ops.size) (hin : i < n)
    (hdone : ∀ listed b, L listed b → ∀ j ∈ Region.ready md ops listed, n ≤ j) :
    ∀ (f : Nat) (listed : Array Bool) (b : Act), HeadInv md ops n listed →
      (∀ j oj, ops[j]? = some oj → j ≠ i → listed.getD j true = false → (∀ e ∈ oj.after, Region.binds md e = true → e.on ≠ i) → oi.apart ops oj = true) →
      i ∈ Region.ready md ops listed → YieldsL P ops Z ls V oi v b →
      wpAnyLT P md ops Z ls V n L f (listed.setIfInBounds i true) (b.put oi.dst v) → wpAnyLT P md ops Z ls V n L (f + 1) listed b := by
  intro f
  induction f with
  | zero =>
    intro listed b inv _ hr hy H
    have hun := (mem_ready.1 hr).1
    refine ⟨fun h => (by rw [h] at hr; cases hr), fun j hj => ?_⟩
    have hjn : j < n := by
      rcases Nat.lt_or_ge j n with h | h
      · exact h
      · exact absurd hj (tail_waits hs hc hn inv _ i rfl hin hun j h)
    refine ⟨hjn, ?_⟩
    by_cases hji : j = i
    · subst hji; exact hy.lOp hi H
    · have := hdone _ _ H j (ready_mono hj hji)
      omega
  | succ f ih =>
    intro listed b inv hfree hr hy H
    have hun := (mem_ready.1 hr).1
    refine ⟨fun h => (by rw [h] at hr; cases hr), fun j hj => ?_⟩
    have hjn : j < n := by
      rcases Nat.lt_or_ge j n with h | h
      · exact h
      · exact absurd hj (tail_waits hs hc hn inv _ i rfl hin hun j h)
    refine ⟨hjn, ?_⟩
    by_cases hji : j = i
    · subst hji; exact hy.lOp hi H
    · have h1 := (H.2 j (ready_mono hj hji)).2
      obtain ⟨hjun, oj, hoj, hall⟩ := mem_ready.1 hj
      have hnot : ∀ e ∈ oj.after, Region.binds md e = true → e.on ≠ i := fun e he hb heq => by
        have h1 := hall e he hb
        rw [heq, getD_both hun] at h1
        cases h1
      have h2 := lOp_put hoj (hfree j oj hoj hji hjun hnot) hy h1
      have hfree' : ∀ k ok, ops[k]? = some ok → k ≠ i → (listed.setIfInBounds j true).getD k true = false →
          (∀ e ∈ ok.after, Region.binds md e = true → e.on ≠ i) → oi.apart ops ok = true := fun k ok hk hki hun hno => by
        refine hfree k ok hk hki ?_ hno
        by_cases hjk : j = k
        · subst hjk; exact hjun
        · rw [getD_set_ne true hjk] at hun; exact hun
      refine lOp_mono (fun b' h3 => ih (listed.setIfInBounds j true) b' (inv.set hj hjn) hfree' (ready_mono hr (Ne.symm hji)) h3.1 ?_) h2
      rw [Array.setIfInBounds_comm _ _ hji]
      exact h3.2
theorem wpAnyLT_lex {n g : Nat} {Lq : Act → Prop} (hs : Region.sinkB md ops n = true) (hc : Region.chainB md ops n = true) (hn : n < ops.size) :
    ∀ (l : List Oper) (k : Nat) (listed : Array Bool) (b : Act), (∀ j, j < l.length → l[j]? = ops[k + j]?) → k + l.length = n → HeadInv md ops n listed →
    Region.lexHead md ops g l.length k listed = true → wpLoud P ops Z ls V Lq l b →
    wpAnyLT P md ops Z ls V n (fun listed' b' => Region.seqB md ops g n listed' = true ∧ Lq b') l.length listed b
  | [], k, listed, b, _, hk, _, hB, h => by
    have : k = n := by simpa using hk
    subst this
    exact ⟨by simpa [Region.lexHead] using hB, h⟩
  | o :: l, k, listed, b, hl, hk, inv, hB, h => by
    have h0 : ops[k]? = some o := by simpa using (hl 0 (by simp)).symm
    simp only [List.length_cons, Region.lexHead, Bool.and_eq_true] at hB
    obtain ⟨⟨hr, hf⟩, hB'⟩ := hB
    have hkn : k < n := by simp only [List.length_cons] at hk; omega
    have hr' : k ∈ Region.ready md ops listed := by simpa using hr
    have hst : lOp P ops Z ls V k (wpLoud P ops Z ls V Lq l) b := by unfold lOp; simp only [h0]; exact h
    obtain ⟨v, hy, hK⟩ := yieldsL_of h0 hst
    exact wpAnyLT_first h0 hs hc hn hkn (fun listed' a' hL => seqB_ready hL.1) l.length listed b inv (Region.free_spec h0 hf) hr' hy
      (wpAnyLT_lex hs hc hn l (k + 1) _ _ (fun j hj => by have := hl (j + 1) (by simp; omega); simpa [Nat.add_assoc, Nat.add_comm 1 j] using this) (by simp only [List.length_cons] at hk; omega) (inv.set hr' hkn) hB' hK)
theorem wp_region_loudTail (n : Nat) (Z : World) (ls : List Tmp) (V : Tmp → Value → World → Prop) {id : Nat} {Q : Exit → Act → World → Prop} {a : Act} {w : World} {l : List Oper} (hm : P.follows .mixedOrders = true) (hB : Region.lexTailB .any l.toArray n = true) (hG : guardsB l.toArray ls = true) (hI : idleB a ls = true)
    (hV : ∀ k u w w', V k u w → Below w.heap.size w w' → V k u w') (hC : Below Z.heap.size Z w.drew)
    (h : wpLoud P l.toArray Z ls V (fun b => ∀ a' w', Below Z.heap.size Z w' → Sim ls V b a' w' → wpList P l.toArray Q (l.drop n) a' w') (l.take n) a) : (Code.region id l.toArray true).wp P Q a w := by
  simp only [Region.lexTailB, Bool.and_eq_true, decide_eq_true_eq] at hB
  obtain ⟨⟨⟨⟨hsel, hn⟩, hs⟩, hc⟩, hlex⟩ := hB
  have hn' : n < l.length := by simpa using hn
  have htl : (l.take n).length = n := by simp; omega
  have hdl : (l.drop n).length = l.toArray.size - n := by simp
  have inv0 : HeadInv .any l.toArray n (Array.replicate l.toArray.size false) :=
    ⟨by simp, fun j oj _ hl => (by rw [getD_replicate_false] at hl; cases hl), fun t _ ht => getD_in (by simpa using ht) (getD_replicate_false _ _)⟩
  have H := wpAnyLT_lex (P := P) (Z := Z) (ls := ls) (V := V) (md := .any) (g := l.toArray.size - n) hs hc hn (l.take n) 0 _ a (fun j hj => by
    have hj' : j < n := by rw [htl] at hj; exact hj
    simp [hj']) (by simpa using htl) inv0 (by rw [htl]; exact hlex) h
  refine wp_region_any hm ?_
  have := wpAny_of_loudHead (Q' := Q) (g := l.toArray.size - n) hV hG (fun listed b' a' w' hC' hS hL => by
    have := wpAny_of_seq (md := .any) (Q' := Q) (l.drop n) n listed a' w' (fun j => by simp [List.getElem?_drop]) (by rw [hdl]; exact hL.1) (hL.2 a' w' hC' hS)
    rwa [hdl] at this) _ _ a a w.drew hC (idle_sim hI) H
  rw [htl, show n + (l.toArray.size - n) = l.toArray.size by omega] at this
  exact this
/-- the frame with what the loud calls handed back -/
def fill (g : Tmp → Value) : List Tmp → Act → Act
  | [], b => b
  | k :: ks, b => fill g ks (b.put (some k) (g k))
theorem fill_size (g : Tmp → Value) : ∀ (ls : List Tmp) (b : Act), (fill g ls b).tmps.size = b.tmps.size ∧ (fill g ls b).defers = b.defers
  | [], b => ⟨rfl, rfl⟩
  | k :: ks, b => by
    have := fill_size g ks (b.put (some k) (g k))
    exact ⟨this.1.trans (by simp [Act.put]), this.2⟩
theorem fill_eval (g : Tmp → Value) (k : Tmp) : ∀ (ls : List Tmp) (b : Act), k < b.tmps.size → (fill g ls b).eval (.tmp k) = if ls.contains k then g k else b.eval (.tmp k)
  | [], b, _ => rfl
  | j :: ks, b, hk => by
    have h1 := fill_eval g k ks (b.put (some j) (g j)) (by simpa [Act.put] using hk)
    show (fill g ks (b.put (some j) (g j))).eval (.tmp k) = _
    rw [h1, eval_put_at]
    by_cases h2 : k = j
    · subst h2
      rw [if_pos (c := k = k ∧ _) ⟨rfl, hk⟩]
      simp
    · rw [if_neg (c := k = j ∧ _) (fun h => h2 h.1)]
      have h3 : (j :: ks).contains k = ks.contains k := by
        rw [List.contains_cons]
        have h4 : (k == j) = false := by simpa using h2
        rw [h4]; rfl
      rw [h3]
theorem Sim.filled {b a : Act} {w : World} (h : Sim ls V b a w) : a = fill (fun k => a.eval (.tmp k)) ls b := by
  obtain ⟨s1, s2⟩ := fill_size (fun k => a.eval (.tmp k)) ls b
  have ht : a.tmps = (fill (fun k => a.eval (.tmp k)) ls b).tmps := by
    apply Array.ext
    · rw [s1, h.sz]
    · intro k h1 h2
      have hk : k < b.tmps.size := by rw [← h.sz]; exact h1
      have h3 := fill_eval (fun k => a.eval (.tmp k)) k ls b hk
      have e1 : a.tmps[k] = a.eval (.tmp k) := by simp [Act.eval, h1]
      have e2 : ∀ (c : Act) (h : k < c.tmps.size), c.tmps[k] = c.eval (.tmp k) := fun c h => by simp [Act.eval, h]
      rw [e1, e2, h3]
      cases hc : ls.contains k
      · exact (h.at_ k).2 hc
      · rfl
  have hd : a.defers = (fill (fun k => a.eval (.tmp k)) ls b).defers := by rw [s2, h.de]
  generalize fill (fun k => a.eval (.tmp k)) ls b = c at *
  cases a
  cases c
  simp only at ht hd
  rw [ht, hd]
theorem wpLoud_end {Φ : Act → World → Prop} {b : Act} (need : List Tmp) (hn : (need.all fun k => ls.contains k && isTok (b.eval (.tmp k))) = true)
    (h : ∀ (g : Tmp → Value) (x : Ext Z), (∀ k ∈ need, V k (g k) x.wd) → Φ (fill g ls b) x.wd) : wpLoud P ops Z ls V (fun b => ∀ a' w', Below Z.heap.size Z w' → Sim ls V b a' w' → Φ a' w') [] b := by
  intro a' w' hb hs
  rw [hs.filled]
  refine h _ ⟨w', hb⟩ fun k hk => ?_
  have h1 := List.all_eq_true.1 hn k hk
  rw [Bool.and_eq_true] at h1
  exact (hs.at_ k).1 h1.1 (isTok_eq h1.2)
/-! steps -/
variable {Q : Act → Prop} {b : Act} {o : Oper} {rest : List Oper}
theorem wpLoud_skip (hw : Region.wanted o (yielded ops b.tmps) = false) (b' : Act) (hb : b.put o.dst undef = b') (h : wpLoud P ops Z ls V Q rest b') : wpLoud P ops Z ls V Q (o :: rest) b := by
  subst hb
  unfold wpLoud
  rw [if_neg (by rw [hw]; exact Bool.false_ne_true)]
  exact h
def plainOp : Op → Bool
  | .move _ | .assign _ | .pick _ _ _ | .load _ _ | .binOp _ _ _ _ _ | .unOp _ _ _ | .convert _ _ _ | .fieldAddr _ _ _ | .indexAddr _ _ _ | .extract _ _ | .slice _ _ _ _ _ | .index _ _ _ | .field _ _ _ => true
  | _ => false
def quietB (ops : Array Oper) (ls : List Tmp) (o : Oper) : Bool := (o.looksAt ops).all (fun k => !ls.contains k) && (match o.dst with | some d => !ls.contains d | none => true)
theorem notEnter {α : Type} (s : Sem α) (g : α → Value) (w w' : World) (f : FuncId) (args : Array Value) : ((do pure (.value (g (← s))) : Sem Next)).run P w ≠ .ok (.enter f args) w' := by
  rw [Sem.run_bind]
  cases s.run P w with
  | ok u w1 => simp [Result.andThen]
  | halt x w1 => simp [Result.andThen]
theorem plain_run {ρ : Operand → Value} (hp : plainOp o.op = true) (w w' : World) (f : FuncId) (args : Array Value) : (execOp ρ o).run P w ≠ .ok (.enter f args) w' := by
  obtain ⟨dst, op, type, pos, after, guard⟩ := o
  cases op <;> simp only [plainOp] at hp <;> (try cases hp)
  case move x => simp [execOp]
  case assign x => simp [execOp]
  case pick c x y => exact notEnter (asBool (ρ c)) (fun t => if t then ρ x else ρ y) w w' f args
  all_goals exact notEnter _ (fun t => t) w w' f args
theorem simAt_eval {b a : Act} {w : World} (hq : quietB ops ls o = true) (hs : ∀ k ∈ o.looksAt ops, SimAt ls V b a w k) : ∀ x ∈ o.op.operands, a.eval x = b.eval x := fun x hx => by
  unfold quietB at hq
  rw [Bool.and_eq_true] at hq
  cases x with
  | tmp k =>
    have hk : k ∈ o.looksAt ops := List.mem_append_left _ (List.mem_filterMap.2 ⟨.tmp k, by simpa using hx, rfl⟩)
    have h1 := List.all_eq_true.1 hq.1 k hk
    exact (hs k hk).2 (by simpa using h1)
  | const v => rfl
  | global v => rfl
  | func v => rfl
theorem quietB_dst (hq : quietB ops ls o = true) : ∀ d, o.dst = some d → ls.contains d = false := fun d hd => by
  unfold quietB at hq
  rw [Bool.and_eq_true, hd] at hq
  simpa using hq.2
theorem wpLoud_val (hw : Region.wanted o (yielded ops b.tmps) = true) (hq : quietB ops ls o = true) (hsel : ∀ cs t, o.op ≠ .select cs t) (v : Value) (hr : ∀ x : Ext Z, (execOp b.eval o).run P x.wd = .ok (.value v) x.wd)
    (b' : Act) (hb : b.put o.dst v = b') (h : wpLoud P ops Z ls V Q rest b') : wpLoud P ops Z ls V Q (o :: rest) b := by
  subst hb
  unfold wpLoud
  rw [if_pos hw]
  refine ⟨v, fun a w hC hs => ?_, h⟩
  rw [execOp_congr o hsel (simAt_eval hq hs), show (execOp b.eval o).run P w = .ok (.value v) w from hr ⟨w, hC⟩]
  exact .inl ⟨rfl, rfl, quietB_dst hq⟩
theorem wpLoud_plain (hw : Region.wanted o (yielded ops b.tmps) = true) (hq : quietB ops ls o = true) (hp : plainOp o.op = true)
    (h : ∀ K : Act → Prop, (∀ b, wpLoud P ops Z ls V Q rest b → K b) → o.quiet P b (fun w => ∃ x : Ext Z, w = x.wd) K) : wpLoud P ops Z ls V Q (o :: rest) b := by
  unfold wpLoud
  rw [if_pos hw]
  obtain ⟨v, h1, h2⟩ := h _ (fun _ h => h)
  refine ⟨v, fun a w hC hs => ?_, h2⟩
  have hsel : ∀ cs t, o.op ≠ .select cs t := fun cs t he => by rw [he] at hp; cases hp
  have h3 := h1 w ⟨⟨w, hC⟩, rfl⟩
  rw [execOp_congr o hsel (simAt_eval hq hs)]
  unfold Oper.quietAt at h3
  have hne := plain_run (P := P) (ρ := b.eval) hp w
  have hnk : ∀ w', (execOp b.eval o).run P w ≠ .ok .skip w' := by
    obtain ⟨dst, op, type, pos, after, guard⟩ := o
    have key : ∀ {α : Type} (s : Sem α) (g : α → Value) (w' : World), ((do pure (.value (g (← s))) : Sem Next)).run P w ≠ .ok .skip w' := by
      intro α s g w'
      rw [Sem.run_bind]
      cases s.run P w with
      | ok u w1 => simp [Result.andThen]
      | halt x w1 => simp [Result.andThen]
    intro w'
    cases op <;> simp only [plainOp] at hp <;> (try cases hp)
    case move x => simp [execOp]
    case assign x => simp [execOp]
    case pick c x y => exact key (asBool (b.eval c)) (fun t => if t then b.eval x else b.eval y) w'
    all_goals exact key _ (fun t => t) w'
  generalize (execOp b.eval o).run P w = r at *
  cases r with
  | ok n w' =>
    cases n <;> simp only [Oper.quietUpon] at h3
    case value u => exact .inl ⟨h3.1, h3.2, quietB_dst hq⟩
    case skip => exact absurd rfl (hnk w')
    case enter f args => exact absurd rfl (hne w' f args)
  | halt x w' => simp only [Oper.quietUpon] at h3
theorem wpLoud_load (hw : Region.wanted o (yielded ops b.tmps) = true) (hq : quietB ops ls o = true) (ty : TypeId) (x : Operand) (ho : o.op = .load ty x) (n off : Nat) (hx : b.eval x = .pointer (some ⟨n, off, none⟩)) (cs : List Value) (d : TypeDesc)
    (hc : ∀ y : Ext Z, y.wd.rangeAt n off cs) (hu : P.underlying ty = some d) (hd : d.isRow = true) (hi : (P.info? ty).map (·.size) = some cs.length)
    (b' : Act) (hb : b.put o.dst (.agg cs.toArray) = b') (h : wpLoud P ops Z ls V Q rest b') : wpLoud P ops Z ls V Q (o :: rest) b :=
  wpLoud_val hw hq (fun cs t he => by rw [ho] at he; cases he) _ (fun y => by
    unfold execOp
    simp only [ho, hx, Instr.loadAt, Instr.sureAddr, Sem.run_bind, Sem.run_pure, Result.andThen_ok, run_loadVar_mid y.wd n off ty cs d (hc y) hu hd hi]) b' hb h
/-- an operation that makes memory -/
theorem wpLoud_make (hw : Region.wanted o (yielded ops b.tmps) = true) (hsel : ∀ cs t, o.op ≠ .select cs t) (hq : ((o.looksAt ops).all fun k => !ls.contains k) = true) (d : Tmp) (hd : o.dst = some d) (hl : ls.contains d = true)
    (hr : ∀ x : Ext Z, ∃ u w', (execOp b.eval o).run P x.wd = .ok (.value u) w' ∧ Below x.wd.heap.size x.wd w' ∧ V d u w')
    (b' : Act) (hb : b.put o.dst tok = b') (h : wpLoud P ops Z ls V Q rest b') : wpLoud P ops Z ls V Q (o :: rest) b := by
  subst hb
  unfold wpLoud
  rw [if_pos hw]
  refine ⟨tok, fun a w hC hs => ?_, h⟩
  have he : ∀ x ∈ o.op.operands, a.eval x = b.eval x := fun x hx => by
    cases x with
    | tmp k =>
      have hk : k ∈ o.looksAt ops := List.mem_append_left _ (List.mem_filterMap.2 ⟨.tmp k, by simpa using hx, rfl⟩)
      exact (hs k hk).2 (by simpa using List.all_eq_true.1 hq k hk)
    | const v => rfl
    | global v => rfl
    | func v => rfl
  obtain ⟨u, w', h1, h2, h3⟩ := hr ⟨w, hC⟩
  rw [execOp_congr o hsel he, show (execOp b.eval o).run P w = .ok (.value u) w' from h1]
  exact .inr ⟨h2, fun d' hd' => by rw [hd] at hd'; injection hd' with hd'; subst hd'; exact ⟨hl, h3⟩⟩
/-- what a loud call handed back, moved -/
theorem wpLoud_move (hw : Region.wanted o (yielded ops b.tmps) = true) (k d : Tmp) (ho : o.op = .assign (.tmp k) ∨ o.op = .move (.tmp k)) (hd : o.dst = some d) (hk : ls.contains k = true) (hl : ls.contains d = true) (ht : isTok (b.eval (.tmp k)) = true) (hV : ∀ u w, V k u w → V d u w)
    (b' : Act) (hb : b.put o.dst tok = b') (h : wpLoud P ops Z ls V Q rest b') : wpLoud P ops Z ls V Q (o :: rest) b := by
  subst hb
  unfold wpLoud
  rw [if_pos hw]
  refine ⟨tok, fun a w hC hs => ?_, h⟩
  have hrun : (execOp a.eval o).run P w = .ok (.value (a.eval (.tmp k))) w := by
    rcases ho with ho | ho <;> · unfold execOp; simp only [ho, Sem.run_pure]
  have hm : k ∈ o.looksAt ops := by
    unfold Oper.looksAt
    rcases ho with ho | ho <;> · rw [ho]; simp [Op.operands]
  have hv := (hs k hm).1 hk (isTok_eq ht)
  rw [hrun]
  exact .inr ⟨Below.refl _ _, fun d' hd' => by rw [hd] at hd'; injection hd' with hd'; subst hd'; exact ⟨hl, hV _ _ hv⟩⟩
theorem wpLoud_loadB (hw : Region.wanted o (yielded ops b.tmps) = true) (hq : quietB ops ls o = true) (ty : TypeId) (x : Operand) (ho : o.op = .load ty x) (n off : Nat) (hx : b.eval x = .pointer (some ⟨n, off, none⟩)) (cs : Array Value) (d : TypeDesc)
    (hc : ∀ y : Ext Z, y.wd.rangeAt n off cs.toList) (hu : P.underlying ty = some d) (hd : d.isRow = true) (hi : (P.info? ty).map (·.size) = some cs.toList.length)
    (b' : Act) (hb : b.put o.dst (.agg cs) = b') (h : wpLoud P ops Z ls V Q rest b') : wpLoud P ops Z ls V Q (o :: rest) b :=
  wpLoud_load hw hq ty x ho n off hx cs.toList d hc hu hd hi b' (by rw [Array.toArray_toList]; exact hb) h
def over (ls : List Tmp) (b : Act) (g : Tmp → Value) : Operand → Value
  | .tmp k => if ls.contains k then g k else b.eval (.tmp k)
  | x => b.eval x
/-- a call, by its contract -/
theorem wpLoud_call (d : Tmp) (hd : o.dst = some d) (need : List Tmp) (v : Value) (f : FuncId) (args : (Tmp → Value) → Array Value) (hw : Region.wanted o (yielded ops b.tmps) = true) (hsel : ∀ cs t, o.op ≠ .select cs t)
    (hn : (need.all fun k => ls.contains k && ((o.looksAt ops).contains k && isTok (b.eval (.tmp k)))) = true)
    (hrun : ∀ (g : Tmp → Value) w, (execOp (over ls b g) o).run P w = .ok (.enter f (args g)) w)
    (hc : ∀ (g : Tmp → Value) (x : Ext Z), (∀ k ∈ need, V k (g k) x.wd) → Calls P f (args g) x.wd fun e w'' => ∃ u, e = .returned u ∧ Below x.wd.heap.size x.wd w'' ∧ (if ls.contains d then V d u w'' else u = v))
    (b' : Act) (hb : b.put o.dst v = b') (h : wpLoud P ops Z ls V Q rest b') : wpLoud P ops Z ls V Q (o :: rest) b := by
  subst hb
  unfold wpLoud
  rw [if_pos hw]
  refine ⟨v, fun a w hC hs => ?_, h⟩
  have he : ∀ x ∈ o.op.operands, a.eval x = over ls b (fun k => a.eval (.tmp k)) x := fun x hx => by
    cases x with
    | tmp k =>
      have hk : k ∈ o.looksAt ops := List.mem_append_left _ (List.mem_filterMap.2 ⟨.tmp k, by simpa using hx, rfl⟩)
      show _ = if ls.contains k then _ else _
      cases hcn : ls.contains k
      · exact (hs k hk).2 hcn
      · rfl
    | const v => rfl
    | global v => rfl
    | func v => rfl
  rw [execOp_congr o hsel he, hrun]
  refine ⟨rfl, (hc _ ⟨w, hC⟩ fun k hk => ?_).mono ?_⟩
  · have h1 := List.all_eq_true.1 hn k hk
    simp only [Bool.and_eq_true] at h1
    exact (hs k (by simpa using h1.2.1)).1 h1.1 (isTok_eq h1.2.2)
  · rintro e w'' ⟨u, h1, h2, h3⟩
    refine ⟨u, h1, h2, fun d' hd' => ?_⟩
    rw [hd] at hd'
    injection hd' with hd'
    subst hd'
    exact ⟨fun h4 => by rwa [if_pos h4] at h3, fun h4 => by rwa [if_neg (by rw [h4]; exact Bool.false_ne_true)] at h3⟩
end
end Go.Proofs.YtbgnjjbmidkhlaaDoor
/- Contracts: the start; the fingerprint. -/
namespace Go.Proofs.YtbgnjjbmidkhlaaDoor
set_option linter.unusedVariables false
set_option linter.unusedSimpArgs false
open Go.RowKit
set_option linter.unusedVariables false
set_option maxRecDepth 100000 in
set_option maxHeartbeats 1000000 in
theorem start_c (w : World) : Calls Tryd.prog 26 #[] w fun e w' => e = .returned (.agg (vw h0)) ∧ Below w.heap.size w w' := by
  have zf := zero_8
  have zs1 : z8w.size = 8 := by rfl
  have zs2 : ¬ z8w = #[] := by intro h; have := congrArg Array.size h; rw [zs1] at this; cases this
  have HI := Lib.hid (show (Tryd.prog.info? 63).map (·.size) = some (vw h0).size by kernel_rfl)
  go_enter Tryd.func26, Tryd.ntmps26
  go_wp2_with (refine wpList_store_rowTo rfl 63 (.tmp 0) (.tmp 1) rfl rfl w.heap.size (vw h0) rfl rfl 63 z8w (by exact heap_alloc_new _ _) HI.out rfl (vw_one _) ?_)
  refine bodyPost_ret (results_cell_row rfl _ _ w.heap.size 63 (vw h0) (0, 0) _ rfl (setRow_heap _ _ z8w _ 63 (0, 0) (heap_alloc_new _ _)) Tryd.underlying63 rfl HI.out) rfl ?_
  exact ⟨rfl, ((Below.refl _ _).alloc (Nat.le_refl _) _).trans ⟨rfl, rfl, rfl, by simp [World.setRow], fun i hi => setRow_other _ _ i _ (by omega)⟩⟩
/-- how long a slice is -/
def lenOf : Value → Nat
  | .slice _ n _ => n
  | _ => 0
theorem i64_and63 (n : Int) : bits .and .i64 n 63 = n % 64 := by
  have h63 : (BitVec.ofInt 64 63).toNat = 2 ^ 6 - 1 := by decide
  have key : (BitVec.ofInt 64 n &&& BitVec.ofInt 64 63).toNat = (n % ((2 ^ 64 : Nat) : Int)).toNat % 2 ^ 6 := by
    rw [BitVec.toNat_and, BitVec.toNat_ofInt, h63, Nat.and_two_pow_sub_one_eq_mod]
  show IntKind.i64.wrap ((BitVec.ofInt 64 n &&& BitVec.ofInt 64 63).toNat : Nat) = n % 64
  rw [key, IntKind.wrap_i64]
  omega
theorem OwnB.lenOf {w : World} {base : Nat} {v : Value} {l : List Nat} (h : OwnB w base v l) : lenOf v = l.length := by
  obtain ⟨A, c, e, _⟩ := h.rd
  rw [e]; rfl
def zSum : Array Value := vb (List.replicate 32 0)
theorem zero_sum (w : World) : (zeroValue 41).run Tryd.prog w = .ok (.agg zSum) w := by kernel_rfl
theorem zs_at (m j : Nat) (h : j < zs m) : ((m + 1 + j : Nat) : Int) % 64 ≠ 56 := by unfold zs at h; omega
theorem zs_end (m : Nat) : ((m + 1 + zs m : Nat) : Int) % 64 = 56 := by unfold zs; omega
theorem zs_lt (m : Nat) : zs m < 64 := by unfold zs; omega
/-- the padding as far as it is laid -/
def padZ (m : List Nat) (j : Nat) : List Nat := m ++ [128] ++ List.replicate j 0
theorem padZ_len (m : List Nat) (j : Nat) : (padZ m j).length = m.length + 1 + j := by simp [padZ]; omega
theorem padZ_succ (m : List Nat) (j : Nat) : padZ m (j + 1) = padZ m j ++ [0] := by
  unfold padZ
  rw [List.replicate_succ', ← List.append_assoc]
theorem high_take (S : Nat) : high S 8 = [S / 72057594037927936 % 256, S / 281474976710656 % 256, S / 1099511627776 % 256, S / 4294967296 % 256, S / 16777216 % 256, S / 65536 % 256, S / 256 % 256, S % 256] := by
  simp only [high, List.nil_append, List.cons_append, Nat.div_div_eq_div_mul]
theorem high_at8 (S i : Nat) (h : i < 8) : (high S 8).getD i 0 = S / 2 ^ (56 - 8 * i) % 256 := by
  rw [high_take]
  match i, h with
  | 0, _ => rfl
  | 1, _ => rfl
  | 2, _ => rfl
  | 3, _ => rfl
  | 4, _ => rfl
  | 5, _ => rfl
  | 6, _ => rfl
  | 7, _ => simp
theorem pad_lt {m : List Nat} (h : ∀ c ∈ m, c < 256) : ∀ c ∈ pad m, c < 256 := by
  intro c hc
  unfold pad at hc
  simp only [List.mem_append] at hc
  rcases hc with ((hc | hc) | hc) | hc
  · exact h c hc
  · rw [List.mem_singleton.1 hc]; decide
  · rw [List.eq_of_mem_replicate hc]; decide
  · exact high_lt _ _ c hc
theorem rangeAt_vw {w : World} {g : Nat} {t : TypeId} {l : List Nat} (h : Blk w g t (vw l)) : w.rangeAt g 0 (vw l).toList := fun j u hu => by
  rw [Nat.zero_add, h.cell]
  simpa using hu
theorem Rd.take_ {w : World} {B : Nat} {A : Option Addr} {l : List Nat} (h : Rd w B A (byt l)) (k : Nat) : Rd w B A (byt (l.take k)) := fun hn => by
  obtain ⟨ad, e, hb, hc⟩ := h (fun h0 => hn (by unfold byt at h0 ⊢; rw [List.map_take, h0, List.take_nil]))
  refine ⟨ad, e, hb, fun j u hu => hc j u ?_⟩
  unfold byt at hu ⊢
  rw [List.map_take, List.getElem?_take] at hu
  split at hu
  · exact hu
  · cases hu
theorem Rd.drop64 {w : World} {B : Nat} {A : Addr} {l : List Nat} (h : Rd w B (some A) (byt l)) : Rd w B (some ⟨A.block, A.off + 64, none⟩) (byt (l.drop 64)) := fun hn => by
  obtain ⟨ad, e, hb, hc⟩ := h (fun h0 => hn (by unfold byt at h0 ⊢; rw [List.map_drop, h0, List.drop_nil]))
  injection e with e
  subst e
  refine ⟨_, rfl, hb, fun j u hu => ?_⟩
  have h1 := hc (64 + j) u (by unfold byt at hu ⊢; rw [List.map_drop, List.getElem?_drop] at hu; exact hu)
  have e1 : (Addr.add ⟨A.block, A.off + 64, none⟩ j) = A.add (64 + j) := by
    unfold Addr.add
    split
    · subst_vars; simp
    · simp; omega
  rw [e1]; exact h1
theorem u64_and3 (n : Int) : bits .and .u64 n 3 = n % 4 := by
  have h63 : (BitVec.ofInt 64 3).toNat = 2 ^ 2 - 1 := by decide
  have key : (BitVec.ofInt 64 n &&& BitVec.ofInt 64 3).toNat = (n % ((2 ^ 64 : Nat) : Int)).toNat % 2 ^ 2 := by
    rw [BitVec.toNat_and, BitVec.toNat_ofInt, h63, Nat.and_two_pow_sub_one_eq_mod]
  show IntKind.u64.wrap ((BitVec.ofInt 64 n &&& BitVec.ofInt 64 3).toNat : Nat) = n % 4
  rw [key, IntKind.wrap_u64]
  omega
theorem getD_mem (l : List Nat) (i : Nat) (h : i < l.length) : l.getD i 0 ∈ l := by
  rw [List.getD_eq_getElem?_getD, List.getElem?_eq_getElem h]
  exact List.getElem_mem _
theorem vb_at (l : List Nat) (i : Nat) (h : i < l.length) : (vb l)[i]? = some (.int .u8 (l.getD i 0 : Nat)) := by
  simp [vb, byt, List.getD_eq_getElem?_getD, h]
theorem vb_one (l : List Nat) : (vb l).all (·.oneCell') = true := by
  simp [vb, byt, Value.oneCell']
theorem high4 (n : Nat) : high n 4 = [n / 16777216 % 256, n / 65536 % 256, n / 256 % 256, n % 256] := by
  simp only [high, List.nil_append, List.cons_append, Nat.div_div_eq_div_mul]
theorem flat4_at (H : List Nat) : ∀ k, k / 4 < H.length → (H.flatMap fun w => high w 4).getD k 0 = H.getD (k / 4) 0 / 2 ^ (24 - 8 * (k % 4)) % 256 := by
  induction H with
  | nil => intro k h; simp at h
  | cons a H ih =>
    intro k h
    rw [List.flatMap_cons]
    rcases Nat.lt_or_ge k 4 with h4 | h4
    · rw [high4]
      match k, h4 with
      | 0, _ => rfl
      | 1, _ => rfl
      | 2, _ => rfl
      | 3, _ => simp
    · have h1 := ih (k - 4) (by simp at h; omega)
      rw [List.getD_eq_getElem?_getD, List.getElem?_append_right (by rw [high_len]; exact h4), high_len, ← List.getD_eq_getElem?_getD, h1]
      rw [show k / 4 = (k - 4) / 4 + 1 by omega, show (k - 4) % 4 = k % 4 by omega]
      simp
/-- what is laid of a row -/
def outZ (s : List Nat) (k : Nat) : List Nat := s.take k ++ List.replicate (s.length - k) 0
theorem outZ_zero {s : List Nat} {n : Nat} (h : s.length = n) : outZ s 0 = List.replicate n 0 := by simp [outZ, h]
theorem outZ_end (s : List Nat) : outZ s s.length = s := by simp [outZ]
theorem outZ_set (s : List Nat) (k : Nat) (h : k < s.length) : (outZ s k).set k (s.getD k 0) = outZ s (k + 1) := by
  unfold outZ
  have h1 : (s.take k).length = k := by simp; omega
  rw [List.set_append_right _ _ (by omega), h1, Nat.sub_self, show s.length - k = (s.length - (k + 1)) + 1 by omega, List.replicate_succ, List.set_cons_zero, List.take_add_one, List.getElem?_eq_getElem h, List.append_assoc]
  rw [show s.getD k 0 = s[k] by rw [List.getD_eq_getElem?_getD, List.getElem?_eq_getElem h]; rfl]
  rfl
theorem outZ_len (s : List Nat) (k : Nat) (h : k ≤ s.length) : (outZ s k).length = s.length := by simp [outZ]; omega
structure OutS (Z W : World) (B O : Nat) (H s : List Nat) (k : Nat) : Prop where
  bel : Below Z.heap.size Z W
  hB : Blk W B 63 (vw H)
  hO : Blk W O 41 (vb (outZ s k))
/-- the padding with the size's bytes as far as they are laid -/
def padS (m : List Nat) (i : Nat) : List Nat := padZ m (zs m.length) ++ (high (8 * m.length) 8).take i
theorem padS_zero (m : List Nat) : padS m 0 = padZ m (zs m.length) := by simp [padS]
theorem padS_end (m : List Nat) : padS m 8 = pad m := by
  unfold padS
  rw [List.take_of_length_le (by rw [high_len]; exact Nat.le_refl _)]
  rfl
theorem padS_len (m : List Nat) (i : Nat) (h : i ≤ 8) : (padS m i).length = m.length + 1 + zs m.length + i := by
  simp only [padS, List.length_append, padZ_len, List.length_take, high_len]; omega
theorem padS_succ (m : List Nat) (i : Nat) (h : i < 8) : padS m (i + 1) = padS m i ++ [(high (8 * m.length) 8).getD i 0] := by
  unfold padS
  rw [List.append_assoc, List.take_add_one, List.getElem?_eq_getElem (by rw [high_len]; exact h)]
  simp [List.getD_eq_getElem?_getD, high_len, h]
set_option maxRecDepth 100000 in
set_option maxHeartbeats 2000000 in
theorem of_c (g n cap : Nat) (ps : List Part) (m : List Nat) (w : World) (hm : cat ps n = m) (hml : ∀ c ∈ m, c < 256) (hn : ps.length = n) (hcells : ∀ k (h : k < ps.length), w.cell? ⟨g, k, none⟩ = some (pv ps[k])) (hg : g < w.heap.size)
    (hr : ∀ p ∈ ps, Rd w w.heap.size p.1 (byt p.2.2)) (hlen : m.length ≤ 10000) (hn2 : n ≤ 1000) (hcap : n ≤ cap) (ht : ∀ i, i < 64 → w.cell? ⟨0, i, none⟩ = some (.int .u32 (kc.getD i 0 : Nat))) (hw : 0 < w.heap.size) :
    Calls Tryd.prog 14 #[.slice (some ⟨g, 0, none⟩) n cap] w fun e w' => e = .returned (.agg (vb (sha m))) ∧ Below w.heap.size w w' := by
  obtain ⟨i0, hi, hz0, hz1, hz2⟩ := info_parts byteInfo
  have hcon := fun W (hb : Below w.heap.size w W) => concatN_c g n cap ps W hn (fun k h => (hb.cell (p := ⟨g, k, none⟩) hg).trans (hcells k h)) (Nat.lt_of_lt_of_le hg hb.size) (fun p hp => ((hr p hp).below hb).more hb.size) (by rw [hm]; omega) hn2 hcap
  rw [hm] at hcon
  have HCON := Lib.hid hcon
  have HML := Lib.hid hml
  have HLEN := Lib.hid hlen
  have HT := Lib.hid ht
  have HI8 := Lib.hid (show (Tryd.prog.info? 63).map (·.size) = some (vw h0).size by kernel_rfl)
  clear hcon hm hcells hr hml ht
  go_enter Tryd.func14, Tryd.ntmps14
  have zf := zero_sum
  have zs1 : zSum.size = 32 := by rfl
  have zs2 : ¬ zSum = #[] := by intro h; have := congrArg Array.size h; rw [zs1] at this; cases this
  go_upto_region 1 with fail
  obtain ⟨Z, hZ⟩ : ∃ Z, Z = w.alloc (Obj.cells zSum 41) := ⟨_, rfl⟩
  have hbz : Below w.heap.size w Z := by rw [hZ]; exact (Below.refl _ _).alloc (Nat.le_refl _) _
  have h2 : Blk Z w.heap.size 41 zSum := by rw [hZ]; exact Blk.new _ _ _
  rw [← hZ]
  clear hZ zf zs1 zs2
  have HZ := Lib.hid hbz
  have H2 := Lib.hid h2
  clear hbz h2
  have esz : IntKind.u64.wrap ((m.length : Int) * 8) = ((8 * m.length : Nat) : Int) := by simp [IntKind.wrap, IntKind.signed, IntKind.bits]; omega
  have ec : IntKind.u64.wrap (m.length : Int) = (m.length : Int) := by simp [IntKind.wrap, IntKind.signed, IntKind.bits]; omega
  go_step3
  go_wp2_with (first
    | (go_at_call 25; (refine (HCON.out _ HZ.out).mono ?_); rintro e w1 ⟨v1, rfl, ho, hb⟩; obtain ⟨A1, k1, rfl, _, _, _⟩ := ho.rd; have HO1 := Lib.hid (show OwnB w1 Z.heap.size _ m from ho); have HB1 := Lib.hid (show Below Z.heap.size Z w1 from hb); clear ho hb)
    | (at_builtin; refine wpList_app _ rfl (.tmp 15) (.tmp 16) _ rfl Z.heap.size 5 i0 (.int .u8 0) 1 1 Tryd.underlying36 hi hz0 hz1 hz2 rfl (by decide) _ _ _ rfl (HO1.out.alloc _) _ _ 1 1 [.int .u8 (128 : Nat)] rfl rfl (by exact rd_one _ _ _) (byt_one [128]) (by omega) (by omega) (by have := HB1.out.size; simp; omega) ?_; intro v3 w3 hap; have HO3 := Lib.hid (show OwnB w3 Z.heap.size v3 (padZ m 0) from by have h1 := OwnB.snoc hap; simpa [padZ] using h1); have HB3 := Lib.hid (show Below Z.heap.size Z w3 from (HB1.out.alloc HB1.out.size _).trans (hap.below (HO1.out.alloc _) (by have := HB1.out.size; simp; omega))); clear hap))
  go_loopw [3] (fun v wr => ∃ j : Nat, j ≤ zs m.length ∧ OwnB wr Z.heap.size v (padZ m j) ∧ Below Z.heap.size Z wr) (fun v _ => m.length + 1 + zs m.length - lenOf v)
  case atStart => exact ⟨0, Nat.zero_le _, HO3.out, HB3.out⟩
  case round =>
    rename World => wr
    obtain ⟨j, hj, ho, hb⟩ := hrel
    have hzl := zs_lt m.length
    obtain ⟨A4, k4, rfl, _, _, _⟩ := ho.rd
    have HO4 := Lib.hid ho
    have HB4 := Lib.hid hb
    have hL := padZ_len m j
    have h63 := i64_and63 ((padZ m j).length : Int)
    have HL4 := Lib.hid hL
    clear ho hb HO1 HB1 HO3 HB3
    by_cases hlt : j < zs m.length
    · have hne := zs_at m.length j hlt
      rw [← hL] at hne
      have tne : ((((padZ m j).length : Int) % 64) != 56) = true := by rw [bne_iff_ne]; exact hne
      clear hne hL
      have HSU := Lib.hid (padZ_succ m j)
      have HPL := Lib.hid (padZ_len m (j + 1))
      go_wp2_with (at_builtin; refine wpList_app _ rfl (.tmp 22) (.tmp 23) _ rfl Z.heap.size 5 i0 (.int .u8 0) 1 1 Tryd.underlying36 hi hz0 hz1 hz2 rfl (by decide) _ _ _ rfl (HO4.out.alloc _) _ _ 1 1 [.int .u8 (0 : Nat)] rfl rfl (by exact rd_one _ _ _) (byt_one [0]) (by have := HL4.out; have := HLEN.out; omega) (by have := HL4.out; have := HLEN.out; omega) (by have := HB4.out.size; simp; omega) ?_; intro v5 w5 hap; have HO5 := Lib.hid (show OwnB w5 Z.heap.size v5 (padZ m (j + 1)) from by rw [HSU.out]; exact OwnB.snoc hap); have HB5 := Lib.hid (show Below Z.heap.size Z w5 from (HB4.out.alloc HB4.out.size _).trans (hap.below (HO4.out.alloc _) (by have := HB4.out.size; simp; omega))); clear hap)
      refine ⟨⟨j + 1, by omega, HO5.out, HB5.out⟩, ?_⟩
      have := HO5.out.lenOf; have := HPL.out; have := HO4.out.lenOf; have := HL4.out
      omega
    · obtain rfl : j = zs m.length := by omega
      have hend := zs_end m.length
      rw [← hL] at hend
      have tne : ((((padZ m (zs m.length)).length : Int) % 64) != 56) = false := by rw [bne_eq_false_iff_eq]; exact hend
      clear hend hL
      have HNL := Lib.hid (show (padZ m (zs m.length)).length ≤ 20000 by have := HL4.out; have := HLEN.out; omega)
      clear hlen
      go_wp2_with fail
      go_loopw [3, 5] (fun v vi wr => ∃ j : Nat, j ≤ 8 ∧ vi = .int .i64 (56 - 8 * (j : Int)) ∧ OwnB wr Z.heap.size v (padS m j) ∧ Below Z.heap.size Z wr) (fun _ vi _ => match vi with | .int _ n => (n + 8).toNat | _ => 0)
      case atStart => exact ⟨0, Nat.zero_le _, rfl, by rw [padS_zero]; exact HO4.out, HB4.out⟩
      case round =>
        rename World => wt
        obtain ⟨i, hi8, rfl, ho, hb⟩ := hrel
        obtain ⟨A6, k6, rfl, _, _, _⟩ := ho.rd
        have HO6 := Lib.hid ho
        have HB6 := Lib.hid hb
        have HL6 := Lib.hid (padS_len m i hi8)
        clear ho hb HO4 HB4
        by_cases hlt : i < 8
        · have HS6 := Lib.hid (padS_succ m i hlt)
          have HN6 := Lib.hid (show (8 * (m.length : Int) / 2 ^ (56 - 8 * i) % 256) = (((high (8 * m.length) 8).getD i 0 : Nat) : Int) by rw [high_at8 _ _ hlt]; simp)
          go_wp2_with (at_builtin; rw [HN6.out]; refine wpList_app _ rfl (.tmp 29) (.tmp 35) _ rfl Z.heap.size 5 i0 (.int .u8 0) 1 1 Tryd.underlying36 hi hz0 hz1 hz2 rfl (by decide) _ _ _ rfl (HO6.out.alloc _) _ _ 1 1 [.int .u8 ((high (8 * m.length) 8).getD i 0 : Nat)] rfl rfl (by exact rd_one _ _ _) (byt_one [_]) (by have := HL6.out; have := HLEN.out; omega) (by have := HL6.out; have := HLEN.out; omega) (by have := HB6.out.size; simp; omega) ?_; intro v7 w7 hap; have HO7 := Lib.hid (show OwnB w7 Z.heap.size v7 (padS m (i + 1)) from by rw [HS6.out]; exact OwnB.snoc hap); have HB7 := Lib.hid (show Below Z.heap.size Z w7 from (HB6.out.alloc HB6.out.size _).trans (hap.below (HO6.out.alloc _) (by have := HB6.out.size; simp; omega))); clear hap)
          refine ⟨⟨i + 1, by omega, ?_, HO7.out, HB7.out⟩, ?_⟩
          · congr 1; omega
          · show (56 - 8 * (i : Int) - 8 + 8).toNat < (56 - 8 * (i : Int) + 8).toNat; omega
        · obtain rfl : i = 8 := by omega
          have HO8 := Lib.hid (show OwnB wt Z.heap.size _ (pad m) from by have := HO6.out; rw [padS_end] at this; exact this)
          have zf := zero_8
          have zs1 : z8w.size = 8 := by rfl
          have zs2 : ¬ z8w = #[] := by intro h; have := congrArg Array.size h; rw [zs1] at this; cases this
          go_wp2_with (first
            | (go_at_call 26; (refine (start_c _).mono ?_); rintro e w9 ⟨rfl, hb9⟩; have HB9 := Lib.hid hb9; clear hb9)
            | (refine wpList_store_rowTo rfl 63 (.tmp 6) (.tmp 37) rfl rfl w9.heap.size (vw h0) rfl rfl 63 z8w (by exact heap_alloc_new _ _) HI8.out rfl (vw_one _) ?_))
          obtain ⟨Y, hY⟩ : ∃ Y, Y = (w9.alloc (Obj.cells z8w 63)).setRow w9.heap.size (vw h0) := ⟨_, rfl⟩
          obtain ⟨B, hB⟩ : ∃ B, B = w9.heap.size := ⟨_, rfl⟩
          have hzB : Z.heap.size ≤ B := by rw [hB]; exact Nat.le_trans HB6.out.size HB9.out.size
          have hbY : Below B w9 Y := by rw [hY, hB]; exact ((Below.refl _ _).alloc (Nat.le_refl _) _).trans ⟨rfl, rfl, rfl, by simp [World.setRow], fun i hi => setRow_other _ _ i _ (by omega)⟩
          have hblk : Blk Y B 63 (vw h0) := by rw [hY, hB]; exact setRow_heap _ _ z8w _ _ (0, 0) (heap_alloc_new _ _)
          rw [← hY, ← hB]
          obtain ⟨A9, c9, e9, hc9, _, hr9⟩ := HO8.out.rd
          have hBK := Lib.hid hblk
          have hr2 := (hr9.below HB9.out).more HB9.out.size
          rw [← hB] at hr2
          have hr3 := hr2.below hbY
          injection e9 with e91 e92 e93
          subst e91 e93
          have hpl := pad_len m
          have hp64 := pad_64 m
          obtain ⟨ad9, e9a, hb9a, _⟩ := hr3 (by intro h0; have := congrArg List.length h0; rw [byt_len, List.length_nil] at this; omega)
          subst e9a
          obtain ⟨nb, hnb⟩ : ∃ nb, nb = (pad m).length / 64 := ⟨_, rfl⟩
          have hpn : (pad m).length = 64 * nb := by omega
          have hnb0 : 0 < nb := by omega
          have hnbl : nb ≤ 1000 := by have := zs_lt m.length; have := HLEN.out; omega
          have HBL := Lib.hid hblk
          have HRB := Lib.hid hr3
          have HBZ := Lib.hid (show Below Z.heap.size Z Y from (HB6.out.trans (HB9.out.mono HB6.out.size)).trans (hbY.mono hzB))
          have HPN := Lib.hid hpn
          rw [hpn] at hc9
          rw [padS_end, hpn]
          have HPD := Lib.hid (show ∀ c ∈ pad m, c < 256 from pad_lt HML.out)
          clear hblk zf zs1 zs2 hr3 hr2 hr9 hpl hp64 hnb hpn hY hB hbY e92 HB6 HB9 HO6 HO8 HL6
          go_step3
          go_wp2_with fail
          go_loopw [3] (fun v wr => ∃ j r : Nat, j + r + 1 = nb ∧ (∃ A c, v = .slice (some A) (64 * (r + 1)) c ∧ 64 * (r + 1) ≤ c ∧ Rd wr B (some A) (byt ((pad m).drop (64 * j)))) ∧ Blk wr B 63 (vw (fld (pad m) j)) ∧ Below Z.heap.size Z wr) (fun v _ => lenOf v)
          case atStart => exact ⟨0, nb - 1, by omega, ⟨ad9, k6, by rw [show nb - 1 + 1 = nb by omega], by rw [show nb - 1 + 1 = nb by omega]; exact hc9, by simpa using HRB.out⟩, HBL.out, HBZ.out⟩
          case round =>
            clear HBL HRB HBZ hc9
            rename World => wr
            obtain ⟨j, r, hjr, ⟨A, c, rfl, hc, hr⟩, hbl, hb⟩ := hrel
            have HR := Lib.hid hr
            have HBL := Lib.hid hbl
            have HBE := Lib.hid hb
            clear hr hbl hb
            have hc64 : 64 ≤ c := by omega
            have hcz : (64 : Int) ≤ (c : Int) := by omega
            have hr64 : 64 ≤ 64 * (r + 1) := by omega
            have HSP := Lib.hid (fun W (hb : Below wr.heap.size wr W) => step_c B A c (((pad m).drop (64 * j)).take 64) (fld (pad m) j) W (fun c hc => HPD.out c (List.mem_of_mem_drop (List.mem_of_mem_take hc))) (((HR.out.take_ 64).below (hb.mono (Nat.le_of_lt HBL.out.lt)))) (Nat.le_trans (Nat.le_of_lt HBL.out.lt) hb.size) (by rw [List.length_take, List.length_drop, HPN.out]; omega) hc64 (fld_len _ _) (fld_lt _ _) (fun i hi => ((hb.mono (Nat.le_refl _)).cell (p := ⟨0, i, none⟩) (Nat.lt_of_lt_of_le hw (Nat.le_trans (Nat.le_trans HZ.out.size HBE.out.size) (Nat.le_refl _)))).trans ((HBE.out.cell (p := ⟨0, i, none⟩) (Nat.lt_of_lt_of_le hw HZ.out.size)).trans ((HZ.out.cell (p := ⟨0, i, none⟩) hw).trans (HT.out i hi)))) (Nat.lt_of_lt_of_le hw (Nat.le_trans HZ.out.size (Nat.le_trans HBE.out.size hb.size))))
            have HIF := Lib.hid (show (Tryd.prog.info? 63).map (·.size) = some (vw (fld (pad m) j)).size by rw [vw_size, fld_len]; kernel_rfl)
            have HIG := Lib.hid (show (Tryd.prog.info? 63).map (·.size) = some (vw (fld (pad m) j)).toList.length by rw [Array.length_toList, vw_size, fld_len]; kernel_rfl)
            go_wp2_with fail
            refine wp_region_loudTail 4 wr [] (fun _ _ _ => True) (by kernel_rfl) (by kernel_rfl) (by kernel_rfl) (by kernel_rfl) (fun _ _ _ _ h hb => True.intro) (Below.refl _ _).drew ?_
            simp only [List.take_succ_cons, List.take_zero, List.drop_succ_cons, List.drop_zero]
            repeat (first
              | (refine wpLoud_loadB rfl rfl 63 (.tmp 6) rfl B 0 rfl (vw (fld (pad m) j)) _ (fun z => rangeAt_vw (HBL.out.below z.bel HBL.out.lt)) Tryd.underlying63 rfl HIG.out _ (by simp only [Act.put, List.setIfInBounds_toArray, List.set_cons_succ, List.set_cons_zero]; rfl) ?_)
              | (refine wpLoud_call 41 rfl [] (.agg (vw (fld (pad m) (j + 1)))) 27 (fun g => #[.agg (vw (fld (pad m) j)), .slice (some A) 64 c]) rfl (fun _ _ h => by cases h) rfl (fun g w => by kernel_rfl) (fun g z hg => by
                  refine (HSP.out _ z.bel).mono ?_
                  rintro e w' ⟨rfl, hb⟩
                  exact ⟨_, rfl, hb, rfl⟩) _ (by simp only [Act.put, List.setIfInBounds_toArray, List.set_cons_succ, List.set_cons_zero]; rfl) ?_)
              | (refine wpLoud_plain rfl rfl rfl ?_; intro K hK; go_big_quiet_op; go_big_quiet_on))
            refine wpLoud_end [] (by rfl) ?_
            intro g' z hg'
            have HBL2 := Lib.hid (HBL.out.below z.bel HBL.out.lt)
            have HBY := Lib.hid z.bel
            have HIJ := Lib.hid (show (Tryd.prog.info? 63).map (·.size) = some (vw (fld (pad m) (j + 1))).size by rw [vw_size, fld_len]; kernel_rfl)
            have HIK := Lib.hid (show (vw (fld (pad m) j)).size = (vw (fld (pad m) (j + 1))).size by rw [vw_size, fld_len, vw_size, fld_len])
            generalize z.wd = Y2 at *
            clear hg'
            simp only [fill, Act.put, List.setIfInBounds_toArray, List.set_cons_succ, List.set_cons_zero]
            refine wpList_store_rowTo rfl 63 (.tmp 6) (.tmp 41) rfl rfl B (vw (fld (pad m) (j + 1))) rfl rfl 63 (vw (fld (pad m) j)) HBL2.out HIJ.out HIK.out (vw_one _) ?_
            obtain ⟨Y3, hY3⟩ : ∃ Y3, Y3 = Y2.setRow B (vw (fld (pad m) (j + 1))) := ⟨_, rfl⟩
            have hb3 : Blk Y3 B 63 (vw (fld (pad m) (j + 1))) := by rw [hY3]; exact setRow_heap _ _ _ _ _ (0, 0) HBL2.out
            have hq3 : Below B Y2 Y3 := by rw [hY3]; exact ⟨rfl, rfl, rfl, by simp [World.setRow], fun i hi => setRow_other _ _ i _ (by omega)⟩
            rw [← hY3]
            have HB3' := Lib.hid hb3
            have HQ3 := Lib.hid ((HBY.out.mono (Nat.le_of_lt HBL.out.lt)).trans hq3)
            clear hb3 hq3 hY3 HBL2 HBY HIJ HIK HIF HIG
            rcases Nat.eq_zero_or_pos r with hr0 | hr0
            · subst hr0
              obtain ⟨A2, hA2⟩ : ∃ A2 : Option Addr, (if c = 64 then some A else some { block := A.block, off := A.off + 64 }) = A2 := ⟨_, rfl⟩
              have zf := zero_sum
              have zs1 : zSum.size = 32 := by rfl
              have zs2 : ¬ zSum = #[] := by intro h; have := congrArg Array.size h; rw [zs1] at this; cases this
              have hsh : sha m = (fld (pad m) (j + 1)).flatMap fun w => high w 4 := by
                unfold sha
                rw [HPN.out, show 64 * nb / 64 = j + 1 by omega]
              have HSH := Lib.hid hsh
              have HFL := Lib.hid (fld_len (pad m) (j + 1))
              have HFT := Lib.hid (fld_lt (pad m) (j + 1))
              have hBlt := HB3'.out.lt
              have HBE3 := Lib.hid (show Below Z.heap.size Z Y3 from HBE.out.trans (HQ3.out.mono hzB))
              clear hsh hjr hc hr64 HR HBL HBE HQ3 HSP HPN HPD
              generalize fld (pad m) (j + 1) = H at *
              go_wp2_with fail
              obtain ⟨Y4, hY4⟩ : ∃ Y4, Y4 = Y3.alloc (Obj.cells zSum 41) := ⟨_, rfl⟩
              have HO := Lib.hid (show OutS Z Y4 B Y3.heap.size H (sha m) 0 by
                rw [hY4]
                exact ⟨HBE3.out.alloc HBE3.out.size _, HB3'.out.alloc _, by rw [outZ_zero (by rw [sha_len])]; exact Blk.new _ _ _⟩)
              rw [← hY4]
              clear zf zs1 zs2 hY4 hA2
              obtain ⟨O, hO⟩ : ∃ O, O = Y3.heap.size := ⟨_, rfl⟩
              rw [← hO] at HO hBlt ⊢
              have hzO : Z.heap.size ≤ O := by omega
              have hBO : B ≠ O := by omega
              clear hO hBlt
              go_loopw [47] (fun i wr => ∃ k : Nat, k ≤ 32 ∧ i = .int .i64 k ∧ OutS Z wr B O H (sha m) k) (fun i _ => 32 - (intOf i).toNat)
              case atStart => exact ⟨0, by omega, rfl, HO.out⟩
              case round =>
                rename World => wo
                obtain ⟨k, hk, rfl, hs⟩ := hrel
                have HK := Lib.hid hs
                clear hs HO
                by_cases hlt : k < 32
                · have f1 := u64_and3 (k : Int)
                  have ec := HK.out.hB.cell (k / 4)
                  rw [vw_at _ _ (by rw [HFL.out]; omega)] at ec
                  have hl := HFT.out _ (getD_mem H (k / 4) (by rw [HFL.out]; omega))
                  have eo := HK.out.hO.cell k
                  rw [vb_at _ k (by rw [outZ_len _ _ (by rw [sha_len]; omega), sha_len]; exact hlt)] at eo
                  have ef := HK.out.hO.free k
                  go_wp2_with fail
                  refine ⟨⟨k + 1, by omega, by push_cast; rfl, ?_⟩, ?_⟩
                  · have h1 : Value.int .u8 ((H[k / 4]?.getD 0 : Nat) / 2 ^ (24 - 8 * (k % 4)) % 256 : Int) = .int .u8 (((sha m).getD k 0 : Nat) : Int) := by
                      rw [HSH.out, flat4_at H k (by rw [HFL.out]; omega), List.getD_eq_getElem?_getD]
                      simp
                    rw [h1]
                    refine ⟨HK.out.bel.setCell hzO _, HK.out.hB.far hBO _, ?_⟩
                    rw [← outZ_set _ _ (by rw [sha_len]; exact hlt), ← vb_set]
                    exact HK.out.hO.set_ _ _
                  · show 32 - (intOf (Value.int IntKind.i64 (k + 1))).toNat < 32 - (intOf (Value.int IntKind.i64 k)).toNat
                    simp [intOf]; omega
                · obtain rfl : k = 32 := by omega
                  have h3 := HK.out.hO
                  rw [show (32 : Nat) = (sha m).length from (sha_len m).symm, outZ_end] at h3
                  have HO3 := Lib.hid h3
                  have HZS := Lib.hid (H2.out.below HK.out.bel H2.out.lt)
                  have HIS := Lib.hid (show (Tryd.prog.info? 41).map (·.size) = some (vb (sha m)).size by rw [vb_size, sha_len]; kernel_rfl)
                  clear h3
                  go_wp2_with (first
                    | (refine wpList_load_row rfl 41 (.tmp 7) rfl O rfl 41 (vb (sha m)) (0, 0) _ (by exact HO3.out) Tryd.underlying41 rfl HIS.out ?_)
                    | (refine wpList_store_rowTo rfl 41 (.tmp 2) (.tmp 64) rfl rfl w.heap.size (vb (sha m)) rfl rfl 41 zSum (by exact HZS.out) HIS.out (by rw [vb_size, sha_len]; rfl) (vb_one _) ?_))
                  rw [Exit.noGoto_ret]
                  refine bodyPost_ret (results_cell_row rfl _ _ w.heap.size 41 (vb (sha m)) (0, 0) _ rfl (setRow_heap _ _ zSum _ 41 (0, 0) HZS.out) Tryd.underlying41 rfl HIS.out) rfl ?_
                  exact ⟨rfl, (HZ.out.trans (HK.out.bel.mono HZ.out.size)).trans ⟨rfl, rfl, rfl, by simp [World.setRow], fun i hi => setRow_other _ _ i _ (by omega)⟩⟩
            · have hc' : ¬ c = 64 := by omega
              have e0 : (((64 * (r + 1) - 64 : Nat) : Int) == 0) = false := by simp; omega
              go_wp2_with fail
              refine ⟨⟨j + 1, r - 1, by omega, ⟨⟨A.block, A.off + 64, none⟩, c - 64, by congr 1; omega, by omega, ?_⟩, HB3'.out, HBE.out.trans (HQ3.out.mono hzB)⟩, ?_⟩
              · have h1 := (HR.out.below HQ3.out).drop64
                rw [List.drop_drop] at h1
                exact h1
              · show 64 * (r + 1) - 64 < 64 * (r + 1); omega
end Go.Proofs.YtbgnjjbmidkhlaaDoor
