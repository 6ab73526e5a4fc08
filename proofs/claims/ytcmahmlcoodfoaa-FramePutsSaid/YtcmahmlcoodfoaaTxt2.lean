/- Contracts: Add64, Sub64, Floor, size. -/
import Derived.Test.YtcmahmlcoodfoaaTxt1
import Derived.Laws.Externs
namespace Go.Proofs.Ytcmahmlcoodfoaa
open Go.RowKit
set_option linter.unusedVariables false
def sub64Entry : Array Value → Sem Value := fun args => do
  let (x, y, b) ← Extern.MathBitsCarry.three "Sub64" args
  pure (Extern.MathBitsCarry.pair ((x + Extern.MathBitsCarry.m64 - y - b) % Extern.MathBitsCarry.m64) (if x < y + b then 1 else 0))
theorem run_sub64 {P : Program} (x y b : Nat) (hb : b ≤ 1) (w : World) :
    (sub64Entry #[.int .u64 (x : Int), .int .u64 (y : Int), .int .u64 (b : Int)]).run P w = .ok (.tuple #[.int .u64 (((x + 2 ^ 64 - y - b) % 2 ^ 64 : Nat) : Int), .int .u64 ((if x < y + b then 1 else 0 : Nat) : Int)]) w := by
  have : b = 0 ∨ b = 1 := by omega
  rcases this with rfl | rfl <;> rfl
theorem call_add (x y c : Nat) (hc : c ≤ 1) (w : World) : (callFunc 45 #[.int .u64 (x : Int), .int .u64 (y : Int), .int .u64 (c : Int)]).run Try.prog w =
    .ok (.value (.tuple #[.int .u64 (((x : Int) + y + c) % 18446744073709551616), .int .u64 (((x : Int) + y + c) / 18446744073709551616)])) w := by
  rw [run_callFunc_extern (e := add64Entry) Try.func45 (by kernel_rfl) (by kernel_rfl) (by kernel_rfl) (by kernel_rfl), run_add64 _ _ _ (by omega) (by omega) (by omega) (by omega)]
  rfl
theorem call_sub (x y c : Nat) (hc : c ≤ 1) (w : World) : (callFunc 56 #[.int .u64 (x : Int), .int .u64 (y : Int), .int .u64 (c : Int)]).run Try.prog w =
    .ok (.value (.tuple #[.int .u64 (((x + 2 ^ 64 - y - c) % 2 ^ 64 : Nat) : Int), .int .u64 ((if x < y + c then 1 else 0 : Nat) : Int)])) w := by
  rw [run_callFunc_extern (e := sub64Entry) Try.func56 (by kernel_rfl) (by kernel_rfl) (by kernel_rfl) (by kernel_rfl), run_sub64 x y c hc]
  rfl
/-- floors -/
def flo (a b : Int) : Int := if b = 0 then 0 else if a = -9223372036854775808 ∧ b = -1 then 0 else a / b
end Go.Proofs.Ytcmahmlcoodfoaa
