/- Words in the machine's arithmetic. -/
import Derived.Test.YthlmlmkabjppeaaDoorSha0
import Derived.Laws.BitsAllLaws
namespace Go.Proofs.YthlmlmkabjppeaaDoor
set_option linter.unusedVariables false
theorem rot_or {n k : Nat} (hn : n < 4294967296) (hk : 0 < k) (hk2 : k < 32) : (n * 2 ^ (32 - k) % 4294967296) ||| (n / 2 ^ k) = rotr n k := by
  have e : (4294967296 : Nat) = 2 ^ k * 2 ^ (32 - k) := by rw [← Nat.pow_add, show k + (32 - k) = 32 by omega]
  have h1 : n / 2 ^ k < 2 ^ (32 - k) := (Nat.div_lt_iff_lt_mul (Nat.two_pow_pos k)).2 (by rw [Nat.mul_comm]; omega)
  rw [e, Nat.mul_mod_mul_right, Nat.mul_comm (n % 2 ^ k), ← Nat.two_pow_add_eq_or_of_lt h1]
  unfold rotr
  rw [Nat.mul_comm (n % 2 ^ k)]
  omega
theorem wrap32 (z : Int) : IntKind.u32.wrap z = z % 4294967296 := by simp [IntKind.wrap, IntKind.signed, IntKind.bits]
theorem wrap32_add (a b : Nat) : IntKind.u32.wrap ((a : Int) + (b : Int)) = ((ad a b : Nat) : Int) := by
  rw [wrap32]; unfold ad; omega
/-- a number from the left, byte by byte -/
theorem high_succ (n w : Nat) : high n (w + 1) = (n / 256 ^ w % 256) :: high n w := by
  induction w generalizing n with
  | zero => simp [high]
  | succ w ih =>
    rw [high, ih (n / 256), high, Nat.div_div_eq_div_mul, Nat.pow_succ', List.cons_append]
end Go.Proofs.YthlmlmkabjppeaaDoor
