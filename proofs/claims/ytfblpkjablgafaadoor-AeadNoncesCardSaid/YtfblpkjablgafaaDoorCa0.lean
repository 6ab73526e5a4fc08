/- Words of 32 bits; the stream's blocks: plain. Contracts: a turn, by the library, by the document. -/
import Derived.Test.YtfblpkjablgafaaDoorPco
import Derived.Laws.ShiftsVarLaws
import Derived.IntWalk
namespace Go.Proofs.YtfblpkjablgafaaDoor
open Go.RowKit
set_option linter.unusedVariables false
set_option linter.unusedSimpArgs false
/-- words as cells -/
def w32 (l : List Nat) : List Value := l.map fun (n : Nat) => Value.int .u32 (n : Int)
def vw (l : List Nat) : Array Value := (w32 l).toArray
theorem w32_len (l : List Nat) : (w32 l).length = l.length := by simp [w32]
theorem vw_size (l : List Nat) : (vw l).size = l.length := by simp [vw, w32]
theorem vw_at (l : List Nat) (i : Nat) (h : i < l.length) : (vw l)[i]? = some (.int .u32 (l.getD i 0 : Nat)) := by
  simp [vw, w32, h, List.getD_eq_getElem?_getD]
theorem vw_set (l : List Nat) (i n : Nat) : (vw l).setIfInBounds i (.int .u32 (n : Nat)) = vw (l.set i n) := by
  unfold vw w32
  rw [List.setIfInBounds_toArray, List.map_set]
theorem vw_one (l : List Nat) : (vw l).all (·.oneCell') = true := by
  rw [Array.all_eq_true_iff_forall_mem]
  intro v hv
  simp only [vw, w32, List.mem_toArray, List.mem_map] at hv
  obtain ⟨n, _, rfl⟩ := hv
  rfl
def rotl (x n : Nat) : Nat := x * 2 ^ n % 4294967296 + x / 2 ^ (32 - n)
theorem rotl_lt (x n : Nat) (hx : x < 4294967296) (hn : n ≤ 32) : rotl x n < 4294967296 := by
  unfold rotl
  have e : (4294967296 : Nat) = 2 ^ (32 - n) * 2 ^ n := by rw [← Nat.pow_add, show 32 - n + n = 32 by omega]
  have h1 : x / 2 ^ (32 - n) < 2 ^ n := Nat.div_lt_of_lt_mul (by rw [← e]; exact hx)
  have h2 : x * 2 ^ n % 4294967296 = x % 2 ^ (32 - n) * 2 ^ n := by rw [e, Nat.mul_mod_mul_right]
  have h3 : x % 2 ^ (32 - n) < 2 ^ (32 - n) := Nat.mod_lt _ (Nat.two_pow_pos _)
  rw [h2]
  have h4 : (x % 2 ^ (32 - n) + 1) * 2 ^ n ≤ 2 ^ (32 - n) * 2 ^ n := Nat.mul_le_mul_right _ h3
  rw [← e, Nat.add_mul] at h4
  omega
theorem rotl_zero (x : Nat) (hx : x < 4294967296) : rotl x 0 = x := by
  unfold rotl
  rw [Nat.pow_zero, Nat.mul_one, Nat.mod_eq_of_lt hx, Nat.div_eq_of_lt hx]
  rfl
theorem rotl_succ (x n : Nat) (hx : x < 4294967296) (hn : n < 32) : rotl x n * 2 % 4294967296 + rotl x n / 2147483648 = rotl x (n + 1) := by
  have e : (4294967296 : Nat) = 2 ^ (32 - n) * 2 ^ n := by rw [← Nat.pow_add, show 32 - n + n = 32 by omega]
  have e2 : (4294967296 : Nat) = 2 ^ (32 - (n + 1)) * 2 ^ (n + 1) := by rw [← Nat.pow_add, show 32 - (n + 1) + (n + 1) = 32 by omega]
  have p1 : 2 ^ (32 - n) = 2 ^ (32 - (n + 1)) * 2 := by rw [← Nat.pow_succ]; congr 1; omega
  have p2 : 2 ^ (n + 1) = 2 * 2 ^ n := Nat.pow_succ'
  unfold rotl
  have h2 : x * 2 ^ n % 4294967296 = x % 2 ^ (32 - n) * 2 ^ n := by rw [e, Nat.mul_mod_mul_right]
  have h3 : x * 2 ^ (n + 1) % 4294967296 = x % 2 ^ (32 - (n + 1)) * 2 ^ (n + 1) := by
    conv => lhs; rw [e2]
    rw [Nat.mul_mod_mul_right]
  have h1 : x / 2 ^ (32 - n) < 2 ^ n := Nat.div_lt_of_lt_mul (by rw [← e]; exact hx)
  have h4 : x % 2 ^ (32 - n) < 2 ^ (32 - n) := Nat.mod_lt _ (Nat.two_pow_pos _)
  rw [h2, h3]
  generalize hP : 2 ^ (32 - (n + 1)) = P at *
  generalize hQ : 2 ^ n = Q at *
  rw [p1] at h1 h4 e ⊢
  rw [p2]
  have hP0 : 0 < P := by rw [← hP]; exact Nat.two_pow_pos _
  have hQ0 : 0 < Q := by rw [← hQ]; exact Nat.two_pow_pos _
  -- the highest bit of what stays
  have d1 := Nat.div_add_mod x P
  have d2 : x / P = 2 * (x / (P * 2)) + x / P % 2 := by rw [← Nat.div_div_eq_div_mul]; omega
  have d3 : x % (P * 2) = P * (x / P % 2) + x % P := by
    have := Nat.div_add_mod x (P * 2)
    have e5 : P * 2 * (x / (P * 2)) = P * (2 * (x / (P * 2))) := Nat.mul_assoc _ _ _
    have e6 : P * (x / P) = P * (2 * (x / (P * 2))) + P * (x / P % 2) := by rw [← Nat.mul_add, ← d2]
    omega
  have hb : x / P % 2 = 0 ∨ x / P % 2 = 1 := by omega
  have hm : x % P < P := Nat.mod_lt _ hP0
  have half : 2147483648 = P * Q := by
    have e7 : P * 2 * Q = 2 * (P * Q) := by rw [Nat.mul_comm P 2, Nat.mul_assoc]
    omega
  have hmQ : x % P * Q + Q ≤ P * Q := by
    have h5 := Nat.mul_le_mul_right Q (show x % P + 1 ≤ P from hm)
    rw [Nat.add_mul, Nat.one_mul] at h5
    exact h5
  rw [d3]
  generalize x / (P * 2) = y at *
  generalize x % P = z at *
  generalize x / P = u at *
  have hz : z * (2 * Q) = 2 * (z * Q) := Nat.mul_left_comm _ _ _
  rcases hb with hb | hb
  · rw [hb] at d2 ⊢
    rw [Nat.mul_zero, Nat.zero_add, hz]
    generalize z * Q = zQ at *
    have : (zQ + y) / 2147483648 = 0 := Nat.div_eq_of_lt (by omega)
    rw [this, Nat.mod_eq_of_lt (by omega)]
    omega
  · rw [hb] at d2 ⊢
    have e8 : (P + z) * Q = 2147483648 + z * Q := by rw [Nat.add_mul, ← half]
    rw [Nat.mul_one, e8, hz]
    generalize z * Q = zQ at *
    have h7 : (2147483648 + zQ + y) / 2147483648 = 1 := by omega
    rw [h7]
    omega
def mixL (w : List Nat) (a b d n : Nat) : List Nat :=
  ((w.set a ((w.getD a 0 + w.getD b 0) % 4294967296)).set d (rotl ((w.set a ((w.getD a 0 + w.getD b 0) % 4294967296)).getD d 0 ^^^ (w.set a ((w.getD a 0 + w.getD b 0) % 4294967296)).getD a 0) n))
def qtrL (w : List Nat) (p : List Nat) : List Nat :=
  mixL (mixL (mixL (mixL w (p.getD 0 0) (p.getD 1 0) (p.getD 3 0) 16) (p.getD 2 0) (p.getD 3 0) (p.getD 1 0) 12) (p.getD 0 0) (p.getD 1 0) (p.getD 3 0) 8) (p.getD 2 0) (p.getD 3 0) (p.getD 1 0) 7
/-- sixteen words -/
structure W16 (w : List Nat) : Prop where
  len : w.length = 16
  lt : ∀ j, w.getD j 0 < 4294967296
theorem W16.set {w : List Nat} (h : W16 w) (i v : Nat) (hi : i < 16) (hv : v < 4294967296) : W16 (w.set i v) :=
  ⟨by rw [List.length_set]; exact h.len, fun j => by
    rw [getD_set _ _ _ _ (by rw [h.len]; exact hi)]
    split
    · exact hv
    · exact h.lt j⟩
theorem W16.mix {w : List Nat} (h : W16 w) (a b d n : Nat) (ha : a < 16) (hd : d < 16) (hn : n ≤ 32) : W16 (mixL w a b d n) := by
  have h1 := h.set a ((w.getD a 0 + w.getD b 0) % 4294967296) ha (Nat.mod_lt _ (by decide))
  exact h1.set d _ hd (rotl_lt _ _ (Nat.xor_lt_two_pow (n := 32) (h1.lt d) (h1.lt a)) hn)
theorem W16.qtr {w p : List Nat} (h : W16 w) (hp : ∀ j, p.getD j 0 < 16) : W16 (qtrL w p) :=
  (((h.mix _ _ _ 16 (hp 0) (hp 3) (by decide)).mix _ _ _ 12 (hp 2) (hp 1) (by decide)).mix _ _ _ 8 (hp 0) (hp 3) (by decide)).mix _ _ _ 7 (hp 2) (hp 1) (by decide)
end Go.Proofs.YtfblpkjablgafaaDoor
