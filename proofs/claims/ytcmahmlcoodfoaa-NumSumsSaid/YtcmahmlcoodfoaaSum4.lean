/- Add of any two wide numbers. -/
import Derived.Test.YtcmahmlcoodfoaaSum3
namespace Go.Proofs.Ytcmahmlcoodfoaa
open Go.RowKit
set_option linter.unusedVariables false
/-- a sum's upper half, lower half; is it too great? -/
def sumLo (al bl : Nat) : Nat := (al + bl) % 18446744073709551616
def sumHi (ah bh : Int) (al bl : Nat) : Int := wrap64 (ah + bh + ((al + bl) / 18446744073709551616 : Nat))
def sumOver (ah bh : Int) (al bl : Nat) : Bool := (ah / 9223372036854775808 == bh / 9223372036854775808) && (sumHi ah bh al bl / 9223372036854775808 != ah / 9223372036854775808)
theorem hi_eq (ah bh : Int) (U1 U2 C R : Nat) (h1 : IntKind.u64.wrap ah = (U1 : Int)) (h2 : IntKind.u64.wrap bh = (U2 : Int)) (hR : R = (U1 + U2 + C) % 18446744073709551616) : wrap64 (R : Int) = wrap64 (ah + bh + (C : Int)) := by
  rw [IntKind.wrap_u64] at h1 h2
  unfold wrap64
  omega
theorem add_c (ah bh : Int) (al bl : Nat) (w : World) (ha0 : -9223372036854775808 ≤ ah) (ha1 : ah ≤ 9223372036854775807) (hb0 : -9223372036854775808 ≤ bh) (hb1 : bh ≤ 9223372036854775807) (hal : al < 2 ^ 64) (hbl : bl < 2 ^ 64) :
    Calls Try.prog 34 #[.agg #[.int .i64 ah, .int .u64 al], .agg #[.int .i64 bh, .int .u64 bl]] w fun e w' => e = .returned (.tuple #[.agg #[.int .i64 (if sumOver ah bh al bl then 0 else sumHi ah bh al bl), .int .u64 (if sumOver ah bh al bl then 0 else (sumLo al bl : Int))], .int .i64 (if sumOver ah bh al bl then 19 else 0)]) ∧ Below w.heap.size w w' := by
  obtain ⟨U1, hU1⟩ : ∃ U1 : Nat, IntKind.u64.wrap ah = (U1 : Int) := ⟨(IntKind.u64.wrap ah).toNat, by rw [IntKind.wrap_u64]; omega⟩
  obtain ⟨U2, hU2⟩ : ∃ U2 : Nat, IntKind.u64.wrap bh = (U2 : Int) := ⟨(IntKind.u64.wrap bh).toNat, by rw [IntKind.wrap_u64]; omega⟩
  have hC : (al + bl) / 18446744073709551616 ≤ 1 := by omega
  refine add_core ah bh _ al bl U1 U2 _ ((al + bl) / 18446744073709551616) ((U1 + U2 + (al + bl) / 18446744073709551616) % 18446744073709551616) ((U1 + U2 + (al + bl) / 18446744073709551616) / 18446744073709551616) w ha0 ha1 hb0 hb1 hU1 hU2 (hi_eq ah bh U1 U2 ((al + bl) / 18446744073709551616) _ hU1 hU2 rfl) (fun w => ?_) (fun w => ?_) _ _ rfl rfl
  · have := call_add al bl 0 (by omega) w
    rw [show ((al : Int) + bl + ((0 : Nat) : Int)) % 18446744073709551616 = (((al + bl) % 18446744073709551616 : Nat) : Int) by omega, show ((al : Int) + bl + ((0 : Nat) : Int)) / 18446744073709551616 = (((al + bl) / 18446744073709551616 : Nat) : Int) by omega] at this
    exact this
  · obtain ⟨C, hCe⟩ : ∃ C, C = (al + bl) / 18446744073709551616 := ⟨_, rfl⟩
    rw [← hCe] at hC ⊢
    have := call_add U1 U2 C hC w
    rw [show ((U1 : Int) + U2 + (C : Int)) % 18446744073709551616 = (((U1 + U2 + C) % 18446744073709551616 : Nat) : Int) by omega, show ((U1 : Int) + U2 + (C : Int)) / 18446744073709551616 = (((U1 + U2 + C) / 18446744073709551616 : Nat) : Int) by omega] at this
    exact this
theorem wide2_c (n : Int) (w : World) (h0 : -9223372036854775808 ≤ n) (h1 : n ≤ 9223372036854775807) :
    Calls Try.prog 40 #[.int .i64 n] w fun e w' => e = .returned (.agg #[.int .i64 (n / 9223372036854775808), .int .u64 ((n % 18446744073709551616).toNat : Nat)]) ∧ Below w.heap.size w w' :=
  wide_c n w _ h0 h1 (by rw [IntKind.wrap_u64]; omega)
end Go.Proofs.Ytcmahmlcoodfoaa
