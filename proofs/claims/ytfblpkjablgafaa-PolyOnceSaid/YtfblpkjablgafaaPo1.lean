/- Poly: laws of bits. -/
import Derived.Test.YtfblpkjablgafaaPo0
import Derived.Laws.BitsAllLaws
namespace Go.Proofs.Ytfblpkjablgafaa
open Go.RowKit
theorem and26 (n : Nat) (h : n < 18446744073709551616) : Go.bits BinOp.and IntKind.u64 (n : Int) 67108863 = ((n % 67108864 : Nat) : Int) := by
  rw [show (67108863 : Int) = ((67108863 : Nat) : Int) from rfl, u64_and_nat _ _ h (by decide), show 67108863 = 2 ^ 26 - 1 from rfl, Nat.and_two_pow_sub_one_eq_mod]
/-- disjoint bits: or is plus -/
theorem or_at (a b k : Nat) (ha : a < 2 ^ k) : a ||| b * 2 ^ k = a + b * 2 ^ k := by
  rw [Nat.or_comm, Nat.mul_comm, ← Nat.two_pow_add_eq_or_of_lt ha, Nat.add_comm]
theorem or12 (a b : Nat) (ha : a < 4096) (hb : b * 4096 < 18446744073709551616) : Go.bits BinOp.or IntKind.u64 (a : Int) ((b * 4096 : Nat) : Int) = ((a + b * 4096 : Nat) : Int) := by
  rw [u64_or_nat _ _ (by omega) hb, show b * 4096 = b * 2 ^ 12 from rfl, or_at _ _ 12 ha]
theorem or24 (a b : Nat) (ha : a < 16777216) (hb : b * 16777216 < 18446744073709551616) : Go.bits BinOp.or IntKind.u64 (a : Int) ((b * 16777216 : Nat) : Int) = ((a + b * 16777216 : Nat) : Int) := by
  rw [u64_or_nat _ _ (by omega) hb, show b * 16777216 = b * 2 ^ 24 from rfl, or_at _ _ 24 ha]
theorem or_n (a b k : Nat) (ha : a < 2 ^ k) (hk : 2 ^ k ≤ 18446744073709551616) (hb : b * 2 ^ k < 18446744073709551616) : Go.bits BinOp.or IntKind.u64 (a : Int) ((b * 2 ^ k : Nat) : Int) = ((a + b * 2 ^ k : Nat) : Int) := by
  rw [u64_or_nat _ _ (by omega) hb, or_at _ _ k ha]
theorem wrap_nat (n : Nat) : IntKind.u64.wrap (n : Int) = ((n % 18446744073709551616 : Nat) : Int) := by
  simp [IntKind.wrap, IntKind.signed, IntKind.bits]
theorem wrap_lt (n : Nat) (h : n < 18446744073709551616) : IntKind.u64.wrap (n : Int) = (n : Int) := by
  rw [wrap_nat, Nat.mod_eq_of_lt h]
/-- five limbs' cells -/
def q64 (l : List Nat) : List Value := l.map fun (n : Nat) => Value.int .u64 (n : Int)
def vq (l : List Nat) : Array Value := (q64 l).toArray
theorem q64_len (l : List Nat) : (q64 l).length = l.length := by simp [q64]
theorem vq_size (l : List Nat) : (vq l).size = l.length := by simp [vq, q64_len]
theorem q64_at {l : List Nat} {k : Nat} (h : k < l.length) : (q64 l)[k]? = some (.int .u64 (l.getD k 0 : Nat)) := by
  simp [q64, List.getD_eq_getElem?_getD, h]
theorem vq_at (l : List Nat) (i : Nat) (h : i < l.length) : (vq l)[i]? = some (.int .u64 (l.getD i 0 : Nat)) := by
  rw [← q64_at h]; simp [vq]
theorem vq_one (l : List Nat) : (vq l).all (·.oneCell') = true := by
  simp only [vq, List.all_toArray, List.all_eq_true]
  intro u hu
  obtain ⟨n, _, rfl⟩ := List.mem_map.1 hu
  rfl
theorem vq_set (l : List Nat) (i n : Nat) : (vq l).setIfInBounds i (.int .u64 (n : Int)) = vq (l.set i n) := by
  simp [vq, q64, List.map_set]
end Go.Proofs.Ytfblpkjablgafaa
