/- Contracts: zigzags. -/
import Derived.Test.YtlidfmbmlhaacaaDg1
namespace Go.Proofs.Ytlidfmbmlhaacaa
open Go.RowKit
set_option linter.unusedVariables false
set_option linter.unusedSimpArgs false
theorem wrapU (x : Int) : IntKind.u64.wrap x = x % 18446744073709551616 := by simp [IntKind.wrap, IntKind.signed, IntKind.bits]
theorem xor_ones (a : Nat) (ha : a < 18446744073709551616) : a ^^^ 18446744073709551615 = 18446744073709551615 - a := by
  have h := BitVec.xor_allOnes (x := BitVec.ofNat 64 a)
  have h2 := congrArg BitVec.toNat h
  rw [BitVec.toNat_xor, BitVec.toNat_not, BitVec.toNat_ofNat, BitVec.toNat_allOnes, Nat.mod_eq_of_lt (by simpa using ha)] at h2
  simpa using h2
theorem zig_pos (n : Int) (h0 : 0 ≤ n) (h1 : n ≤ 9223372036854775807) : bits BinOp.xor IntKind.u64 (n * 2) (n / 9223372036854775808) = (zig n : Nat) := by
  rw [u64_xor _ _ (by omega) (by omega) (by omega) (by omega), show (n / 9223372036854775808).toNat = 0 by omega, Nat.xor_zero]
  unfold zig
  rw [if_pos h0]
  congr 2
  omega
theorem zig_neg (n : Int) (h0 : n < 0) (h1 : -9223372036854775808 ≤ n) : bits BinOp.xor IntKind.u64 (IntKind.u64.wrap (IntKind.u64.wrap n * 2)) (IntKind.u64.wrap (n / 9223372036854775808)) = (zig n : Nat) := by
  have e1 : IntKind.u64.wrap (IntKind.u64.wrap n * 2) = n * 2 + 18446744073709551616 := by
    rw [wrapU, wrapU]
    omega
  have e2 : IntKind.u64.wrap (n / 9223372036854775808) = 18446744073709551615 := by
    rw [show n / 9223372036854775808 = -1 by omega]
    rfl
  rw [e1, e2, u64_xor _ _ (by omega) (by omega) (by omega) (by omega), show (18446744073709551615 : Int).toNat = 18446744073709551615 from rfl, xor_ones _ (by omega)]
  unfold zig
  rw [if_neg (by omega)]
  congr 1
  omega
theorem zag_even (n : Nat) (h : n % 2 = 0) (h1 : n < 18446744073709551616) : bits BinOp.xor IntKind.i64 ((n : Int) / 2) (wrap64 (-wrap64 (bits BinOp.and IntKind.u64 (n : Int) 1))) = zag n := by
  have e : bits BinOp.and IntKind.u64 (n : Int) 1 = 0 := by
    have h2 := u64_and_nat n 1 h1 (by decide)
    rw [show ((1 : Nat) : Int) = 1 from rfl] at h2
    rw [h2, Nat.and_one_is_mod, h]
    rfl
  rw [e]
  unfold zag
  rw [if_pos h]
  rw [show wrap64 (-wrap64 0) = 0 by simp [wrap64]]
  obtain ⟨m, hm⟩ : ∃ m : Nat, m = n / 2 := ⟨_, rfl⟩
  rw [show (n : Int) / 2 = (m : Int) by omega, ← hm]
  show IntKind.i64.wrap ((BitVec.ofInt 64 (m : Int) ^^^ BitVec.ofInt 64 0).toNat : Nat) = _
  rw [show BitVec.ofInt 64 0 = 0#64 from rfl, BitVec.xor_zero, BitVec.toNat_ofInt, IntKind.wrap_i64]
  omega
theorem zag_odd (n : Nat) (h : n % 2 = 1) (h1 : n < 18446744073709551616) : bits BinOp.xor IntKind.i64 ((n : Int) / 2) (wrap64 (-wrap64 (bits BinOp.and IntKind.u64 (n : Int) 1))) = zag n := by
  have e : bits BinOp.and IntKind.u64 (n : Int) 1 = 1 := by
    have h2 := u64_and_nat n 1 h1 (by decide)
    rw [show ((1 : Nat) : Int) = 1 from rfl] at h2
    rw [h2, Nat.and_one_is_mod, h]
    rfl
  rw [e]
  unfold zag
  rw [if_neg (by omega)]
  rw [show wrap64 (-wrap64 1) = -1 by simp [wrap64]]
  obtain ⟨m, hm⟩ : ∃ m : Nat, m = n / 2 := ⟨_, rfl⟩
  rw [show (n : Int) / 2 = (m : Int) by omega, ← hm]
  show IntKind.i64.wrap ((BitVec.ofInt 64 (m : Int) ^^^ BitVec.ofInt 64 (-1)).toNat : Nat) = _
  rw [show BitVec.ofInt 64 (-1) = BitVec.allOnes 64 from rfl, BitVec.xor_allOnes, BitVec.toNat_not, BitVec.toNat_ofInt, IntKind.wrap_i64]
  omega
theorem rzig_neg (n : Int) (h0 : n < 0) (h1 : -9223372036854775808 ≤ n) : IntKind.u64.wrap (IntKind.u64.wrap (IntKind.u64.wrap (-IntKind.u64.wrap n) * 2) - 1) = (zig n : Nat) := by
  unfold zig
  rw [if_neg (by omega)]
  rw [wrapU, wrapU, wrapU, wrapU]
  omega
theorem zig_c (n : Int) (w : World) (h0 : -9223372036854775808 ≤ n) (h1 : n ≤ 9223372036854775807) :
    Calls Try.prog 63 #[.int .i64 n] w fun e w' => e = .returned (.int .u64 (zig n : Nat)) ∧ w = w' := by
  rcases (show 0 ≤ n ∨ n < 0 by omega) with hn | hn
  · go_enter Try.func63, Try.ntmps63
    go_wp2
    go_ret
    exact ⟨by rw [← zig_pos n hn h1]; rfl, rfl⟩
  · go_enter Try.func63, Try.ntmps63
    go_wp2
    go_ret
    exact ⟨by rw [← zig_neg n hn h0]; rfl, rfl⟩
theorem zag_c (n : Nat) (w : World) (h1 : n < 18446744073709551616) :
    Calls Try.prog 53 #[.int .u64 n] w fun e w' => e = .returned (.int .i64 (zag n)) ∧ w = w' := by
  go_enter Try.func53, Try.ntmps53
  go_wp2
  go_ret
  rcases (show n % 2 = 0 ∨ n % 2 = 1 by omega) with h | h
  · exact ⟨by rw [← zag_even n h h1]; rfl, rfl⟩
  · exact ⟨by rw [← zag_odd n h h1]; rfl, rfl⟩
theorem rzig_c (n : Int) (w : World) (h0 : -9223372036854775808 ≤ n) (h1 : n ≤ 9223372036854775807) :
    Calls Try.prog 55 #[.int .i64 n] w fun e w' => e = .returned (.int .u64 (zig n : Nat)) ∧ w = w' := by
  rcases (show 0 ≤ n ∨ n < 0 by omega) with hn | hn
  · go_enter Try.func55, Try.ntmps55
    go_wp2
    go_ret
    exact ⟨by rw [show ((zig n : Nat) : Int) = n * 2 by unfold zig; rw [if_pos hn]; omega]; rfl, rfl⟩
  · go_enter Try.func55, Try.ntmps55
    go_wp2
    go_ret
    exact ⟨by rw [← rzig_neg n hn h0]; rfl, rfl⟩
end Go.Proofs.Ytlidfmbmlhaacaa
