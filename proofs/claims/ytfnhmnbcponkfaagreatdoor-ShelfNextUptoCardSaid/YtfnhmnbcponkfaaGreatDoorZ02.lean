/- Parts, one behind the other: PwM Chk Hld. -/
import Derived.Test.YtfnhmnbcponkfaaGreatDoorZ01
import Derived.Laws.BitsAllLaws
import Derived.Laws.CopyRow
import Derived.RangeFuncNested
import Derived.RangeFuncBound
import Derived.RangeFuncCalls
import Derived.RangeFuncLeaves
import Derived.Shelf.Abstract
import Derived.Shelf.RegionOpen
import Derived.WalkKit
import Derived.OwnWalkIn
import Derived.TacticsInMore
import Derived.LoopNIn
import Derived.LoopIn
import Derived.Sort.QuietIn
import Derived.OrdersHeld
set_option maxRecDepth 100000
set_option linter.unusedVariables false
set_option linter.unusedSimpArgs false
set_option maxHeartbeats 8000000
namespace Go.Proofs.YtfnhmnbcponkfaaGreatDoor
def P130 : Nat := 1361129467683753853853498429727072845819
def V5 (n : List Nat) : Nat := n.getD 0 0 + 67108864 * n.getD 1 0 + 4503599627370496 * n.getD 2 0 + 302231454903657293676544 * n.getD 3 0 + 20282409603651670423947251286016 * n.getD 4 0
def mulStep (x y : List Nat) (i k : Nat) (o : List Nat) : List Nat :=
 if i + k < 5 then o.set (i + k) (o.getD (i + k) 0 + x.getD i 0 * y.getD k 0) else o.set (i + k - 5) (o.getD (i + k - 5) 0 + 5 * x.getD i 0 * y.getD k 0)
def mulRow (x y : List Nat) (i : Nat) (o : List Nat) : Nat → List Nat
 | 0 => o
 | k + 1 => mulStep x y i k (mulRow x y i o k)
def mulAll (x y : List Nat) : Nat → List Nat
 | 0 => [0, 0, 0, 0, 0]
 | i + 1 => mulRow x y i (mulAll x y i) 5
theorem mulAll_eq (x0 x1 x2 x3 x4 y0 y1 y2 y3 y4 : Nat) : mulAll [x0, x1, x2, x3, x4] [y0, y1, y2, y3, y4] 5 =
  [0 + x0*y0 + 5*x1*y4 + 5*x2*y3 + 5*x3*y2 + 5*x4*y1, 0 + x0*y1 + x1*y0 + 5*x2*y4 + 5*x3*y3 + 5*x4*y2, 0 + x0*y2 + x1*y1 + x2*y0 + 5*x3*y4 + 5*x4*y3, 0 + x0*y3+x1*y2+x2*y1+x3*y0+5*x4*y4, 0 + x0*y4+x1*y3+x2*y2+x3*y1+x4*y0] := by
 simp [mulAll, mulRow, mulStep]
theorem mulAll_V (x0 x1 x2 x3 x4 y0 y1 y2 y3 y4 : Nat) : ∃ q, V5 [x0, x1, x2, x3, x4] * V5 [y0, y1, y2, y3, y4] = V5 (mulAll [x0, x1, x2, x3, x4] [y0, y1, y2, y3, y4] 5) + P130 * q := by
 refine ⟨(x1*y4 + x2*y3+x3*y2+x4*y1) + 67108864*(x2*y4+x3*y3+x4*y2) + 4503599627370496*(x3*y4+x4*y3)+302231454903657293676544*(x4*y4), ?_⟩
 rw [mulAll_eq]
 simp only [V5, P130, List.getD_cons_zero, List.getD_cons_succ]
 grind
def crr (n : List Nat) : Nat → Nat
 | 0 => 0
 | j + 1 => (n.getD j 0 + crr n j) / 67108864
def carL (n : List Nat) : List Nat :=
 [(n.getD 0 0 % 67108864 + 5 * crr n 5) % 67108864, (n.getD 1 0 + crr n 1) % 67108864 + (n.getD 0 0 % 67108864 + 5 * crr n 5) / 67108864, (n.getD 2 0 + crr n 2) % 67108864, (n.getD 3 0 + crr n 3) % 67108864, (n.getD 4 0 + crr n 4) % 67108864]
theorem carL_V (n : List Nat) : V5 n = V5 (carL n) + P130 * crr n 5 := by
 simp only [V5, carL, P130, crr, List.getD_cons_zero, List.getD_cons_succ, Nat.add_zero]
 omega
def lbel (n : List Nat) (a b : Nat) : Prop := n.getD 0 0 < a ∧ n.getD 1 0 < b ∧ n.getD 2 0 < a ∧ n.getD 3 0 < a ∧ n.getD 4 0 < a
theorem carL_below (n : List Nat) (h : lbel n 4611686018427387904 4611686018427387904) : lbel (carL n) 67108864 67125248 := by
 obtain ⟨h0, h1, h2, h3, h4⟩ := h
 simp only [lbel, carL, crr, List.getD_cons_zero, List.getD_cons_succ, Nat.add_zero]
 omega
theorem carL_canon (n : List Nat) (h : lbel n 67108864 67125248) : lbel (carL n) 67108864 67108864 := by
 obtain ⟨h0, h1, h2, h3, h4⟩ := h
 simp only [lbel, carL, crr, List.getD_cons_zero, List.getD_cons_succ, Nat.add_zero]
 omega
def limbL (v : Nat) : List Nat := [v % 67108864, v / 67108864 % 67108864, v / 4503599627370496 % 67108864, v / 302231454903657293676544 % 67108864, v / 20282409603651670423947251286016]
theorem limbL_V (v : Nat) : V5 (limbL v) = v := by
 simp only [V5, limbL, List.getD_cons_zero, List.getD_cons_succ]
 omega
theorem limbL_below (v : Nat) (h : v < 2 * 340282366920938463463374607431768211456) : lbel (limbL v) 67108864 67108864 := by
 simp only [lbel, limbL, List.getD_cons_zero, List.getD_cons_succ]
 omega
def m5 (n : List Nat) : Nat → Nat
 | 0 => n.getD 0 0 + 5
 | j + 1 => n.getD (j + 1) 0 + m5 n j / 67108864
def finL (n : List Nat) : List Nat := if m5 n 4 / 67108864 = 0 then n else [m5 n 0 % 67108864, m5 n 1 % 67108864, m5 n 2 % 67108864, m5 n 3 % 67108864, m5 n 4 % 67108864]
theorem m5_over (n : List Nat) (h : lbel n 67108864 67108864) : m5 n 4 / 67108864 = 0 ∨ m5 n 4 / 67108864 = 1 := by
 obtain ⟨h0, h1, h2, h3, h4⟩ := h
 simp only [m5, Nat.reduceAdd]
 omega
theorem finL_V (n : List Nat) (h : lbel n 67108864 67108864) : V5 (finL n) = V5 n % P130 ∧ lbel (finL n) 67108864 67108864 := by
 obtain ⟨h0, h1, h2, h3, h4⟩ := h
 unfold finL
 split
 ·rename_i hz
  simp only [m5, Nat.reduceAdd] at hz
  simp only [V5, P130, lbel]
  omega
 ·rename_i hz
  have h1 := (m5_over n ⟨h0, h1, h2, h3, h4⟩).resolve_left hz
  simp only [m5, Nat.reduceAdd] at h1
  have hge : P130 ≤ V5 n := by simp only [V5, P130]; omega
  have hlt : V5 n < P130 + P130 := by simp only [V5, P130]; omega
  have hmod : V5 n % P130 = V5 n - P130 := by rw [Nat.mod_eq_sub_mod hge, Nat.mod_eq_of_lt (by omega)]
  rw [hmod]
  clear hmod hlt
  simp only [P130, V5] at hge
  simp only [V5, P130, lbel, m5, Nat.reduceAdd, List.getD_cons_zero, List.getD_cons_succ]
  omega
def pcy (X Y : Nat) : Nat → Nat
 | 0 => 0
 | i + 1 => (pcy X Y i + X / 256 ^ i % 256 + Y / 256 ^ i % 256) / 256
theorem pcy_eq (X Y i : Nat) : pcy X Y i = (X % 256 ^ i + Y % 256 ^ i) / 256 ^ i := by
 induction i with
 | zero => simp [pcy, Nat.mod_one]
 | succ i ih =>
  unfold pcy
  rw [ih]
  have hB : 0 < 256 ^ i := Nat.pow_pos (by decide)
  rw [Nat.pow_succ, Nat.mod_mul (a := 256 ^ i), Nat.mod_mul (a := 256 ^ i), ← Nat.div_div_eq_div_mul]
  generalize 256 ^ i = B at *
  rw [show X % B + B * (X / B % 256) + (Y % B + B * (Y / B % 256)) = (X % B + Y % B) + B * (X / B % 256 + Y / B % 256) by rw [Nat.mul_add]; omega, Nat.add_mul_div_left _ _ hB]
  congr 1
  omega
theorem pcy_byte (X Y i : Nat) : (pcy X Y i + X / 256 ^ i % 256 + Y / 256 ^ i % 256) % 256 = (X + Y) / 256 ^ i % 256 := by
 rw [pcy_eq]
 have hB : 0 < 256 ^ i := Nat.pow_pos (by decide)
 generalize 256 ^ i = B at *
 have e : (X + Y) / B = (X % B + Y % B) / B + (X / B + Y / B) := by
  conv => lhs; rw [← Nat.mod_add_div X B, ← Nat.mod_add_div Y B]
  rw [show X % B + B * (X / B) + (Y % B + B * (Y / B)) = (X % B + Y % B) + B * (X / B + Y / B) by rw [Nat.mul_add]; omega, Nat.add_mul_div_left _ _ hB]
 rw [e]
 omega
theorem pcy_le (X Y i : Nat) : pcy X Y i ≤ 1 := by
 cases i with
 | zero => exact Nat.zero_le _
 | succ i =>
  rw [pcy_eq]
  have hB : 0 < 256 ^ (i+1) := Nat.pow_pos (by decide)
  generalize 256 ^ (i+1) = B at *
  have h1 := Nat.mod_lt X hB
  have h2 := Nat.mod_lt Y hB
  have : (X % B + Y % B) / B < 2 := Nat.div_lt_of_lt_mul (by omega)
  omega
def blkV (b : List Nat) : Nat := number b + 256 ^ b.length
def polA (r : Nat) (m : List Nat) : Nat → Nat
 | 0 => 0
 | i + 1 => (polA r m i + blkV ((m.drop (16 * i)).take 16)) * r % P130
def clampB (i c : Nat) : Nat := if i % 4 = 3 then c % 16 else if i % 4 = 0 ∧ 0 < i then c / 4 * 4 else c
def clampL (k : List Nat) : List Nat := (List.range 16).map fun i => clampB i (k.getD i 0)
def polV (k m : List Nat) : Nat := polA (number (clampL k)) m ((m.length + 15) / 16)
def polT (k m : List Nat) : List Nat := form ((polV k m + number ((k.drop 16).take 16)) % 340282366920938463463374607431768211456) 16
def addL (n m : List Nat) : List Nat := [n.getD 0 0 + m.getD 0 0, n.getD 1 0 + m.getD 1 0, n.getD 2 0 + m.getD 2 0, n.getD 3 0 + m.getD 3 0, n.getD 4 0 + m.getD 4 0]
theorem addL_V (n m : List Nat) : V5 (addL n m) = V5 n + V5 m := by
 simp only [V5, addL, List.getD_cons_zero, List.getD_cons_succ]
 omega
theorem addL_below (n m : List Nat) (hn : lbel n 67108864 67125248) (hm : lbel m 67108864 67108864) : lbel (addL n m) 268435456 268435456 := by
 obtain ⟨h0, h1, h2, h3, h4⟩ := hn
 obtain ⟨g0, g1, g2, g3, g4⟩ := hm
 simp only [lbel, addL, List.getD_cons_zero, List.getD_cons_succ]
 omega
theorem five_eq (n : List Nat) (h : n.length = 5) : n = [n.getD 0 0, n.getD 1 0, n.getD 2 0, n.getD 3 0, n.getD 4 0] := by
 match n, h with
 | [_, _, _, _, _], _ => rfl
theorem prod_lt {a b : Nat} (ha : a < 268435456) (hb : b < 67108864) : a * b < 18014398509481984 := Nat.mul_lt_mul'' ha hb
theorem mulAll_V' (x y : List Nat) (hx : x.length = 5) (hy : y.length = 5) : ∃ q, V5 x * V5 y = V5 (mulAll x y 5) + P130 * q := by
 rw [five_eq x hx, five_eq y hy]
 exact mulAll_V _ _ _ _ _ _ _ _ _ _
theorem mulAll_below (x y : List Nat) (hx : x.length = 5) (hy : y.length = 5) (bx : lbel x 268435456 268435456) (by_ : lbel y 67108864 67108864) : lbel (mulAll x y 5) 4611686018427387904 4611686018427387904 := by
 obtain ⟨h0, h1, h2, h3, h4⟩ := bx
 obtain ⟨g0, g1, g2, g3, g4⟩ := by_
 rw [five_eq x hx, five_eq y hy, mulAll_eq]
 generalize x.getD 0 0 = x0 at *
 generalize x.getD 1 0 = x1 at *
 generalize x.getD 2 0 = x2 at *
 generalize x.getD 3 0 = x3 at *
 generalize x.getD 4 0 = x4 at *
 generalize y.getD 0 0 = y0 at *
 generalize y.getD 1 0 = y1 at *
 generalize y.getD 2 0 = y2 at *
 generalize y.getD 3 0 = y3 at *
 generalize y.getD 4 0 = y4 at *
 have a00 := prod_lt h0 g0
 have a01 := prod_lt h0 g1
 have a02 := prod_lt h0 g2
 have a03 := prod_lt h0 g3
 have a04 := prod_lt h0 g4
 have a10 := prod_lt h1 g0
 have a11 := prod_lt h1 g1
 have a12 := prod_lt h1 g2
 have a13 := prod_lt h1 g3
 have a14 := prod_lt h1 g4
 have a20 := prod_lt h2 g0
 have a21 := prod_lt h2 g1
 have a22 := prod_lt h2 g2
 have a23 := prod_lt h2 g3
 have a24 := prod_lt h2 g4
 have a30 := prod_lt h3 g0
 have a31 := prod_lt h3 g1
 have a32 := prod_lt h3 g2
 have a33 := prod_lt h3 g3
 have a34 := prod_lt h3 g4
 have a40 := prod_lt h4 g0
 have a41 := prod_lt h4 g1
 have a42 := prod_lt h4 g2
 have a43 := prod_lt h4 g3
 have a44 := prod_lt h4 g4
 simp only [lbel, List.getD_cons_zero, List.getD_cons_succ, Nat.mul_assoc]
 omega
def rndL (h r : List Nat) (v : Nat) : List Nat := carL (mulAll (addL h (limbL v)) r 5)
theorem carL_len (n : List Nat) : (carL n).length = 5 := rfl
theorem limbL_len (n : Nat) : (limbL n).length = 5 := rfl
theorem rndL_ok (h r : List Nat) (v a : Nat) (hr : r.length = 5) (bh : lbel h 67108864 67125248) (br : lbel r 67108864 67108864) (hv : v < 2 * 340282366920938463463374607431768211456) (hh : V5 h % P130 = a) :
  lbel (rndL h r v) 67108864 67125248 ∧ V5 (rndL h r v) % P130 = (a + v) * V5 r % P130 := by
 have b1 := addL_below h (limbL v) bh (limbL_below v hv)
 have b2 := mulAll_below (addL h (limbL v)) r rfl hr b1 br
 refine ⟨carL_below _ b2, ?_⟩
 obtain ⟨q, hq⟩ := mulAll_V' (addL h (limbL v)) r rfl hr
 have e1 := carL_V (mulAll (addL h (limbL v)) r 5)
 rw [addL_V, limbL_V] at hq
 unfold rndL
 rw [e1] at hq
 have e2 : (V5 h + v) * V5 r % P130 = V5 (carL (mulAll (addL h (limbL v)) r 5)) % P130 := by
  rw [hq, Nat.add_assoc, ← Nat.mul_add, Nat.add_mul_mod_self_left]
 rw [← e2, ← hh, Nat.mul_mod, Nat.mul_mod (V5 h % P130 + v), Nat.mod_add_mod]
def endL (h : List Nat) : List Nat := finL (carL (carL h))
theorem endL_ok (h : List Nat) (a : Nat) (bh : lbel h 67108864 67125248) (hh : V5 h % P130 = a) : lbel (endL h) 67108864 67108864 ∧ V5 (endL h) = a := by
 have b1 := carL_canon h bh
 have b2 : lbel (carL h) 67108864 67125248 := ⟨b1.1, Nat.lt_trans b1.2.1 (by decide), b1.2.2.1, b1.2.2.2.1, b1.2.2.2.2⟩
 have b3 := carL_canon _ b2
 obtain ⟨e, b⟩ := finL_V _ b3
 refine ⟨b, ?_⟩
 unfold endL
 rw [e, ← hh, carL_V h, carL_V (carL h), Nat.add_assoc, ← Nat.mul_add, Nat.add_mul_mod_self_left]
end Go.Proofs.YtfnhmnbcponkfaaGreatDoor
namespace Go.Proofs.YtfnhmnbcponkfaaGreatDoor
open Go.RowKit
theorem and26 (n : Nat) (h : n < 18446744073709551616) : Go.bits BinOp.and IntKind.u64 (n : Int) 67108863 = ((n % 67108864 : Nat) : Int) := by
 rw [show (67108863 : Int) = ((67108863 : Nat) : Int) from rfl, u64_and_nat _ _ h (by decide), show 67108863 = 2 ^ 26 - 1 from rfl, Nat.and_two_pow_sub_one_eq_mod]
theorem or_at (a b k : Nat) (ha : a < 2 ^ k) : a ||| b * 2 ^ k = a + b * 2 ^ k := by
 rw [Nat.or_comm, Nat.mul_comm, ← Nat.two_pow_add_eq_or_of_lt ha, Nat.add_comm]
theorem or12 (a b : Nat) (ha : a < 4096) (hb : b * 4096 < 18446744073709551616) : Go.bits BinOp.or IntKind.u64 (a : Int) ((b * 4096 : Nat) : Int) = ((a + b * 4096 : Nat) : Int) := by
 rw [u64_or_nat _ _ (by omega) hb, show b * 4096 = b * 2 ^ 12 from rfl, or_at _ _ 12 ha]
theorem or24 (a b : Nat) (ha : a < 16777216) (hb : b * 16777216 < 18446744073709551616) : Go.bits BinOp.or IntKind.u64 (a : Int) ((b * 16777216 : Nat) : Int) = ((a + b * 16777216 : Nat) : Int) := by
 rw [u64_or_nat _ _ (by omega) hb, show b * 16777216 = b * 2 ^ 24 from rfl, or_at _ _ 24 ha]
theorem or_n (a b k : Nat) (ha : a < 2 ^ k) (hk : 2 ^ k ≤ 18446744073709551616) (hb : b * 2 ^ k < 18446744073709551616) : Go.bits BinOp.or IntKind.u64 (a : Int) ((b * 2 ^ k : Nat) : Int) = ((a + b * 2 ^ k : Nat) : Int) := by
 rw [u64_or_nat _ _ (by omega) hb, or_at _ _ k ha]
theorem wrap_nat (n : Nat) : IntKind.u64.wrap (n : Int) = ((n % 18446744073709551616 : Nat) : Int) := by
 simp [IntKind.wrap, IntKind.signed, IntKind.bits]
theorem wrap_lt (n : Nat) (h : n < 18446744073709551616) : IntKind.u64.wrap (n : Int) = (n : Int) := by
 rw [wrap_nat, Nat.mod_eq_of_lt h]
def q64 (l : List Nat) : List Value := l.map fun (n : Nat) => Value.int .u64 (n : Int)
def vq (l : List Nat) : Array Value := (q64 l).toArray
theorem q64_len (l : List Nat) : (q64 l).length = l.length := by simp [q64]
theorem vq_size (l : List Nat) : (vq l).size = l.length := by simp [vq, q64_len]
theorem q64_at {l : List Nat} {k : Nat} (h : k < l.length) : (q64 l)[k]? = some (.int .u64 (l.getD k 0 : Nat)) := by
 simp [q64, jA, h]
theorem vq_at (l : List Nat) (i : Nat) (h : i < l.length) : (vq l)[i]? = some (.int .u64 (l.getD i 0 : Nat)) := by
 rw [← q64_at h]; simp [vq]
theorem vq_one (l : List Nat) : (vq l).all (·.oneCell') = true := by
 simp only [vq, List.all_toArray, List.all_eq_true]
 intro u hu
 obtain ⟨n, _, rfl⟩ := List.mem_map.1 hu
 rfl
theorem vq_set (l : List Nat) (i n : Nat) : (vq l).setIfInBounds i (.int .u64 (n : Int)) = vq (l.set i n) := by
 simp [vq, q64, List.map_set]
theorem number_snoc : ∀ (l : List Nat) (c : Nat), number (l ++ [c]) = number l + c * 256 ^ l.length
 | [], c => by simp [number]
 | a :: l, c => by
  rw [List.cons_append, number, number_snoc l c, number, List.length_cons, Nat.pow_succ, Nat.add_mul, Nat.mul_assoc]
  omega
theorem number_take (l : List Nat) (k : Nat) (h : k < l.length) : number (l.take (k + 1)) = number (l.take k) + l.getD k 0 * 256 ^ k := by
 rw [List.take_add_one, jB h, Option.toList_some, number_snoc, List.length_take, Nat.min_eq_left (by omega), jA, jB h, Option.getD_some]
theorem low_step (N c k : Nat) (hN : N < 256 ^ k) (hc : c < 256) (hk : k < 8) : Go.bits BinOp.or IntKind.u64 (N : Int) (IntKind.u64.wrap ((c : Int) * 2 ^ (8 * k))) = ((N + c * 256 ^ k : Nat) : Int) := by
 have e : (256 : Nat) ^ k = 2 ^ (8 * k) := by rw [show (256 : Nat) = 2 ^ 8 from rfl, ← Nat.pow_mul]
 have hp : (256 : Nat) ^ k ≤ 256 ^ 7 := Nat.pow_le_pow_right (by decide) (by omega)
 have hb : c * 256 ^ k < 18446744073709551616 := by
  have h1 : c * 256 ^ k ≤ 255 * 256 ^ 7 := Nat.mul_le_mul (by omega) hp
  have : (255 : Nat) * 256 ^ 7 < 18446744073709551616 := by decide
  omega
 have e2 : (c : Int) * 2 ^ (8 * k) = ((c * 2 ^ (8 * k) : Nat) : Int) := by simp
 rw [e2, wrap_lt _ (by rw [← e]; exact hb), or_n N c (8 * k) (by rw [← e]; exact hN) (by rw [← e]; exact Nat.le_trans hp (by decide)) (by rw [← e]; exact hb), e]
theorem low_c (B : Nat) (A : Option Addr) (ca : Nat) (l : List Nat) (w : World) (hr : Rd w B A (byt l)) (hl : ∀ c ∈ l, c < 256) (h8 : 8 ≤ l.length) (h1 : l.length ≤ 1000) (hca : 8 ≤ ca) :
  Calls Tryz.prog 136 #[.slice A l.length ca] w fun e w' => e = .returned (.int .u64 (number (l.take 8) : Nat)) ∧ w = w' := by
 have HR := Li hr
 have HL := Li hl
 clear hr hl
 generalize hn : l.length = n at *
 obtain ⟨ad, rfl, hab, _⟩ := HR.out.byte (k := 0) (by omega)
 go_enter Tryz.func136, Tryz.ntmps136
 go_wp2
 go_loop [3, 9] (fun v i => ∃ k : Nat, k ≤ 8 ∧ i = .int .i64 (k : Int) ∧ v = .int .u64 (number (l.take k) : Nat)) (fun _ i => 8 - (intOf i).toNat)
 case atStart => exact ⟨0, by omega, rfl, rfl⟩
 case round =>
  obtain ⟨k, hk, rfl, rfl⟩ := hrel
  by_cases hlt : k < 8
  ·obtain ⟨ad', e1, _, q0⟩ := HR.out.byte (k := k) (by omega)
   cases e1
   have hc := getD_lt HL.out k
   have HT := Li (number_take l k (by omega))
   have hNb : number (l.take k) < 256 ^ k := by
    have := number_lt (l.take k) (fun c hc => HL.out c (List.mem_of_mem_take hc))
    rwa [List.length_take, hn, Nat.min_eq_left (by omega)] at this
   generalize l.getD k 0 = c at *
   generalize number (l.take k) = N at *
   have HS := Li (low_step N c k hNb hc hlt)
   clear hNb
   go_wp2
   exact ⟨⟨k + 1, by omega, rfl, by rw [HS.out, HT.out]⟩, by simp [intOf]; omega⟩
  ·obtain rfl : k = 8 := by omega
   go_wp2
   go_ret
   exact ⟨rfl, rfl⟩
def zL5 : List Nat := [0, 0, 0, 0, 0]
def zN5 : Array Value := vq zL5
theorem zero_num (w : World) : (zeroValue 186).run Tryz.prog w = .ok (.agg zN5) w := by kernel_rfl
theorem number_append : ∀ (l m : List Nat), number (l ++ m) = number l + 256 ^ l.length * number m
 | [], m => by simp [number]
 | a :: l, m => by
  rw [List.cons_append, number, number_append l m, number, List.length_cons, Nat.pow_succ, Nat.add_mul, Nat.mul_right_comm]
  omega
theorem limbL_parts (l : List Nat) (h : l.length = 17) : number l = number (l.take 8) + 18446744073709551616 * number ((l.drop 8).take 8) + 340282366920938463463374607431768211456 * l.getD 16 0 := by
 have e : l = l.take 8 ++ ((l.drop 8).take 8 ++ [l.getD 16 0]) := by
  match l, h with
  | [_, _, _, _, _, _, _, _, _, _, _, _, _, _, _, _, _], _ => rfl
 conv => lhs; rw [e, number_append, number_append]
 rw [List.length_take, List.length_take, List.length_drop, h, show number [l.getD 16 0] = l.getD 16 0 by simp [number]]
 simp only [show (min 8 17) = 8 from rfl, show min 8 (17 - 8) = 8 from rfl]
 omega
theorem built_num (a0 a1 a2 a3 a4 : Nat) : Tryz.prog.built 186 [(0, .int .u64 (a0 : Nat)), (1, .int .u64 (a1 : Nat)), (2, .int .u64 (a2 : Nat)), (3, .int .u64 (a3 : Nat)), (4, .int .u64 (a4 : Nat))] = some (vq [a0, a1, a2, a3, a4]) := by kernel_rfl
theorem numInfo : (Tryz.prog.info? 186).map (·.size) = some 5 := by kernel_rfl
theorem ediv_nat (a b : Nat) : (a : Int) / (b : Int) = ((a / b : Nat) : Int) := by simp
theorem limbs_c (l : List Nat) (w : World) (h17 : l.length = 17) (hl : ∀ c ∈ l, c < 256) :
  Calls Tryz.prog 122 #[.agg (vb l)] w fun e w' => e = .returned (.agg (vq (limbL (number l)))) ∧ Below w.heap.size w w' := by
 have zf := zero_num
 have zs1 : zN5.size = 5 := by rfl
 have zs2 : ¬ zN5 = #[] := by intro h; have := congrArg Array.size h; rw [zs1] at this; cases this
 have lsz : (vb l).size = 17 := by rw [vb_size, h17]
 have HL := Li hl
 have HP := Li (limbL_parts l h17)
 obtain ⟨Z, hZ⟩ : ∃ Z, Z = (w.alloc (Obj.cells (vb l) 192)).alloc (Obj.cells zN5 186) := ⟨_, rfl⟩
 have B0 := Li (show Below w.heap.size w Z by rw [hZ]; exact ((jE _ _).alloc (jD _) _).alloc (by simp) _)
 have A0 := Li (show Blk Z w.heap.size 192 (vb l) by rw [hZ]; exact (Blk.new w _ _).alloc _)
 have E0 := Li (show Blk Z (w.heap.size + 1) 186 zN5 by
  have h1 := Blk.new (w.alloc (Obj.cells (vb l) 192)) 186 zN5
  rw [show (w.alloc (Obj.cells (vb l) 192)).heap.size = w.heap.size + 1 by simp] at h1
  rw [hZ]; exact h1)
 have rd0 : ∀ W, Below Z.heap.size Z W → Rd W (w.heap.size + 1) (some ⟨w.heap.size, 0, none⟩) (byt l) := fun W hb => rd_blk (A0.out.below hb A0.out.lt) (byt l) 17 (by show byt l = ((byt l).toArray.toList).take 17; rw [List.toList_toArray, List.take_of_length_le (by rw [byt_len, h17]; decide)])
 have rd8 : ∀ W, Below Z.heap.size Z W → Rd W (w.heap.size + 1) (some ⟨w.heap.size, 8, none⟩) (byt (l.drop 8)) := fun W hb _ => ⟨_, rfl, Nat.lt_succ_self _, fun j u hu => by
  have h1 := (A0.out.below hb A0.out.lt).cell (8 + j)
  have e : (Addr.add ⟨w.heap.size, 8, none⟩ j) = ⟨w.heap.size, 8 + j, none⟩ := by
   cases j <;> simp [Addr.add]
  rw [e, h1]
  rw [byt, List.map_drop, List.getElem?_drop] at hu
  simpa [vb, byt] using hu⟩
 have HC1 := Li (fun W hb => low_c (w.heap.size + 1) (some ⟨w.heap.size, 0, none⟩) 17 l W (rd0 W hb) hl (by omega) (by omega) (by omega))
 rw [h17] at HC1
 have HC2 := Li (fun W hb => low_c (w.heap.size + 1) (some ⟨w.heap.size, 8, none⟩) 9 (l.drop 8) W (rd8 W hb) (fun c hc => hl c (List.mem_of_mem_drop hc)) (by rw [List.length_drop]; omega) (by rw [List.length_drop]; omega) (by omega))
 rw [List.length_drop, h17] at HC2
 have HLO : number (l.take 8) < 18446744073709551616 := by
  have := number_lt (l.take 8) (fun c hc => hl c (List.mem_of_mem_take hc))
  rwa [List.length_take, h17] at this
 have HHI : number ((l.drop 8).take 8) < 18446744073709551616 := by
  have := number_lt ((l.drop 8).take 8) (fun c hc => hl c (List.mem_of_mem_drop (List.mem_of_mem_take hc)))
  rwa [List.length_take, List.length_drop, h17] at this
 have HTP := getD_lt hl 16
 have q16 := A0.out.cell 16
 rw [vb_at l 16 (by omega)] at q16
 generalize number (l.take 8) = lo at *
 generalize number ((l.drop 8).take 8) = hi at *
 generalize l.getD 16 0 = top at *
 obtain ⟨a0, h0⟩ : ∃ a0, a0 = lo % 67108864 := ⟨_, rfl⟩
 obtain ⟨a1, h1⟩ : ∃ a1, a1 = lo / 67108864 % 67108864 := ⟨_, rfl⟩
 obtain ⟨m1, hm1⟩ : ∃ m1, m1 = hi % 4503599627370496 * 4096 := ⟨_, rfl⟩
 obtain ⟨m2, hm2⟩ : ∃ m2, m2 = lo / 4503599627370496 + hi % 4503599627370496 * 4096 := ⟨_, rfl⟩
 obtain ⟨a2, h2⟩ : ∃ a2, a2 = m2 % 67108864 := ⟨_, rfl⟩
 obtain ⟨a3, h3⟩ : ∃ a3, a3 = hi / 16384 % 67108864 := ⟨_, rfl⟩
 obtain ⟨a4, h4⟩ : ∃ a4, a4 = hi / 1099511627776 + top * 16777216 := ⟨_, rfl⟩
 have HV := Li (show limbL (number l) = [a0, a1, a2, a3, a4] by
  rw [HP.out]
  unfold limbL
  congr 1
  ·omega
  congr 1
  ·omega
  congr 1
  ·omega
  congr 1
  ·omega
  congr 1
  omega)
 have f1 : bits BinOp.and IntKind.u64 (lo : Int) 67108863 = (a0 : Int) := by rw [and26 _ HLO, h0]
 have f2 : bits BinOp.and IntKind.u64 ((lo : Int) / 67108864) 67108863 = (a1 : Int) := by
  rw [show (67108864 : Int) = ((67108864 : Nat) : Int) from rfl, ediv_nat, and26 _ (by omega), h1]
 have f3 : IntKind.u64.wrap ((hi : Int) * 4096) = (m1 : Int) := by
  rw [show (hi : Int) * 4096 = ((hi * 4096 : Nat) : Int) by omega, wrap_nat, hm1]; omega
 have f4 : bits BinOp.or IntKind.u64 ((lo : Int) / 4503599627370496) (m1 : Int) = (m2 : Int) := by
  rw [show (4503599627370496 : Int) = ((4503599627370496 : Nat) : Int) from rfl, ediv_nat, hm1, or12 _ _ (by omega) (by omega), hm2]
 have f5 : bits BinOp.and IntKind.u64 (m2 : Int) 67108863 = (a2 : Int) := by rw [and26 _ (by omega), h2]
 have f6 : bits BinOp.and IntKind.u64 ((hi : Int) / 16384) 67108863 = (a3 : Int) := by
  rw [show (16384 : Int) = ((16384 : Nat) : Int) from rfl, ediv_nat, and26 _ (by omega), h3]
 have f7 : bits BinOp.or IntKind.u64 ((hi : Int) / 1099511627776) ((top : Int) * 16777216) = (a4 : Int) := by
  rw [show (1099511627776 : Int) = ((1099511627776 : Nat) : Int) from rfl, ediv_nat, show (top : Int) * 16777216 = ((top * 16777216 : Nat) : Int) by omega, or24 _ _ (by omega) (by omega), h4]
 have HBN := Li (built_num a0 a1 a2 a3 a4)
 have HSZ := Li (show (Tryz.prog.info? 186).map (·.size) = some (vq [a0, a1, a2, a3, a4]).size by rw [vq_size]; exact numInfo)
 have HEQ := Li (show (vq [a0, a1, a2, a3, a4]).size = zN5.size by rw [vq_size]; rfl)
 clear h0 h1 hm1 hm2 h2 h3 h4
 clear hl rd0 rd8
 go_enter Tryz.func122, Tryz.ntmps122
 go_upto_region 1 with fail
 rw [← hZ]
 clear hZ
 have q16e := cell_ext q16
 refine wp_region_loud Z [] (fun _ _ _ => True) (by kernel_rfl) (by kernel_rfl) (by kernel_rfl) (by kernel_rfl) (fun _ _ _ _ h hb => True.intro) (jE _ _).drew ?_
 repeat (first
  | (refine wpLoud_call 7 rfl [] (.int .u64 (lo : Nat)) 136 (fun g => #[.slice (some ⟨w.heap.size, 0, none⟩) 17 17]) rfl (fun _ _ h => by cases h) rfl (fun g w => by kernel_rfl) (fun g z hg => by
    refine (HC1.out z.wd z.bel).mono ?_
    rintro e w' ⟨rfl, rfl⟩
    exact ⟨_, rfl, jE _ _, rfl⟩) _ (by simp only [Act.put, sI, sS, sZ]; rfl) ?_)
  | (refine wpLoud_call 9 rfl [] (.int .u64 (hi : Nat)) 136 (fun g => #[.slice (some ⟨w.heap.size, 8, none⟩) 9 9]) rfl (fun _ _ h => by cases h) rfl (fun g w => by kernel_rfl) (fun g z hg => by
    refine (HC2.out z.wd z.bel).mono ?_
    rintro e w' ⟨rfl, rfl⟩
    exact ⟨_, rfl, jE _ _, rfl⟩) _ (by simp only [Act.put, sI, sS, sZ]; rfl) ?_)
  | (refine wpLoud_plain rfl rfl rfl ?_; intro K hK; go_big_quiet_op; go_big_quiet_on))
 refine wpLoud_end [] (by rfl) ?_
 intro g z hg
 have B1 := Li (B0.out.trans (z.bel.mono B0.out.size))
 have E1 := Li (E0.out.below z.bel E0.out.lt)
 generalize z.wd = Y at *
 simp only [fill, Act.put, sI, sS, sZ]
 go_wp2_with (first
  | (refine wpList_valG (by kernel_rfl) (.agg (vq [a0, a1, a2, a3, a4])) (run_built _ 186 _ _ HBN.out #[(0, .tmp 14), (1, .tmp 17), (2, .tmp 23), (3, .tmp 26), (4, .tmp 31)] rfl (by kernel_rfl)) ?_)
  | (refine wpList_store_rowTo rfl 186 (.tmp 2) (.tmp 32) rfl rfl (w.heap.size + 1) (vq [a0, a1, a2, a3, a4]) rfl rfl 186 zN5 E1.out HSZ.out HEQ.out (vq_one _) ?_))
 first
  | rw [Exit.noGoto_ret]
  | skip
 refine bodyPost_ret (results_cell_row rfl _ _ (w.heap.size + 1) 186 (vq [a0, a1, a2, a3, a4]) (0, 0) _ rfl (setRow_heap _ _ zN5 _ 186 (0, 0) E1.out) Tryz.underlying186 rfl HSZ.out) rfl ?_
 exact ⟨by rw [HV.out], below_row B1.out (by omega) _⟩
theorem getD_set (L : List Nat) (k v j : Nat) (hk : k < L.length) : (L.set k v).getD j 0 = if j = k then v else L.getD j 0 := by
 simp only [jA, List.getElem?_set]
 by_cases h : k = j
 ·subst h; simp [hk]
 ·rw [if_neg h, if_neg (fun h2 => h h2.symm)]
theorem u64_info : ∃ i, Tryz.prog.info? 43 = some i ∧ i.size = 1 := by
 obtain ⟨i, hi, h⟩ := Option.map_eq_some_iff.1 (show (Tryz.prog.info? 43).map (·.size) = some 1 by kernel_rfl)
 exact ⟨i, hi, h⟩
theorem run_index_num (l : List Nat) (m : Nat) (hl : l.length = 5) (hm : m < 5) (w : World) : (Instr.index 186 (.agg (vq l)) (.int .i64 (m : Int))).run Tryz.prog w = .ok (.int .u64 (l.getD m 0 : Nat)) w := by
 obtain ⟨i, hi, hs⟩ := u64_info
 have hu := Tryz.underlying186
 have hv := vq_at l m (by omega)
 simp [Instr.index, asIntOf, run_underlying hu, sizeOf, typeInfo, hi, hs, part, Sem.run_bind, hv, hm]
theorem wpList_loadN {ops : Array Oper} {rest : List Oper} {o : Oper} {a : Act} {w : World} {Q : Exit → Act → World → Prop} (hw : Region.wanted o (yielded ops a.tmps) = true) (x : Operand) (ho : o.op = .load 186 x) (g : Nat) (hx : a.eval x = .pointer (some ⟨g, 0, none⟩)) (L : List Nat)
  (hc : Blk w g 186 (vq L)) (h5 : L.length = 5) (h : wpList Tryz.prog ops Q rest (a.put o.dst (.agg (vq L))) w) : wpList Tryz.prog ops Q (o :: rest) a w :=
 wpList_loadG hw 186 x ho g 0 hx (q64 L) _ (by have := rangeAt_blk hc; simpa [vq] using this) Tryz.underlying186 rfl (by rw [q64_len, h5]; exact numInfo) h
structure NumSt (w wr : World) (g b : Nat) (L : List Nat) : Prop where
 len : L.length = 5
 at_ : Blk wr g 186 (vq L)
 out : Blk wr b 186 zN5
 bel : Below w.heap.size w wr
theorem NumSt.set {w wr : World} {g b : Nat} {L : List Nat} (h : NumSt w wr g b L) (k v : Nat) (hg : w.heap.size ≤ g) (hb : b ≠ g) : NumSt w (wr.setCell ⟨g, k, none⟩ (.int .u64 (v : Int))) g b (L.set k v) :=
 ⟨by rw [List.length_set]; exact h.len, by rw [← vq_set]; exact h.at_.set_ _ _, h.out.far hb _, h.bel.setCell hg _⟩
theorem numSz {L : List Nat} (h : L.length = 5) : (Tryz.prog.info? 186).map (·.size) = some (vq L).size := by rw [vq_size, h]; exact numInfo
theorem add_c (n m : List Nat) (w : World) (hn : n.length = 5) (hm : m.length = 5) (hs : ∀ j, j < 5 → n.getD j 0 + m.getD j 0 < 18446744073709551616) :
  Calls Tryz.prog 121 #[.agg (vq n), .agg (vq m)] w fun e w' => e = .returned (.agg (vq (addL n m))) ∧ Below w.heap.size w w' := by
 have zf := zero_num
 have zs1 : zN5.size = 5 := by rfl
 have zs2 : ¬ zN5 = #[] := by intro h; have := congrArg Array.size h; rw [zs1] at this; cases this
 have nsz : (vq n).size = 5 := by rw [vq_size, hn]
 have msz : (vq m).size = 5 := by rw [vq_size, hm]
 have HS := Li hs
 have HM := Li hm
 have HIX := fun k hk w => run_index_num m k hm hk w
 obtain ⟨Z, hZ⟩ : ∃ Z, Z = ((w.alloc (Obj.cells (vq n) 186)).alloc (Obj.cells (vq m) 186)).alloc (Obj.cells zN5 186) := ⟨_, rfl⟩
 have h1 : Blk Z (w.heap.size + 1) 186 (vq m) := by
  have h1 := (Blk.new (w.alloc (Obj.cells (vq n) 186)) 186 (vq m)).alloc (Obj.cells zN5 186)
  rw [show (w.alloc (Obj.cells (vq n) 186)).heap.size = w.heap.size + 1 by simp] at h1
  rw [hZ]; exact h1
 have h2 : Blk Z (w.heap.size + 1 + 1) 186 zN5 := by
  have h1 := Blk.new ((w.alloc (Obj.cells (vq n) 186)).alloc (Obj.cells (vq m) 186)) 186 zN5
  rw [show ((w.alloc (Obj.cells (vq n) 186)).alloc (Obj.cells (vq m) 186)).heap.size = w.heap.size + 1 + 1 by simp] at h1
  rw [hZ]; exact h1
 have A0 := Li (show NumSt w Z w.heap.size (w.heap.size + 1 + 1) n from ⟨hn, by rw [hZ]; exact ((Blk.new w _ _).alloc _).alloc _, h2, by rw [hZ]; exact (((jE _ _).alloc (jD _) _).alloc (by simp) _).alloc (by simp; omega) _⟩)
 have E1 := Li h1
 clear h1 h2 hs
 go_enter Tryz.func121, Tryz.ntmps121
 go_upto_region 1 with fail
 rw [← hZ]
 clear hZ
 go_wp2_with (refine wpList_loadN rfl (.tmp 3) rfl (w.heap.size + 1) rfl m E1.out HM.out ?_)
 go_loopw [8] (fun i wr => ∃ (k : Nat) (L : List Nat), k ≤ 5 ∧ i = .int .i64 (k : Int) ∧ NumSt w wr w.heap.size (w.heap.size + 1 + 1) L ∧ ∀ j, j < 5 → L.getD j 0 = if j < k then n.getD j 0 + m.getD j 0 else n.getD j 0) (fun i _ => 5 - (intOf i).toNat)
 case atStart => exact ⟨0, n, by omega, rfl, A0.out, fun j _ => by simp⟩
 case round =>
  rename World => wr
  obtain ⟨k, L, hk, rfl, hst, hL⟩ := hrel
  have ST := Li hst
  by_cases hlt : k < 5
  ·have q1 : (k : Int) < 5 := by omega
   have q0 := HIX k hlt
   have eo := hst.at_.cell k
   rw [vq_at _ k (by rw [hst.len]; exact hlt), hL k hlt, if_neg (Nat.lt_irrefl k)] at eo
   have ef := hst.at_.free k
   have hsum := HS.out k hlt
   have HLK := Li hL
   clear hst hL HIX
   generalize hx : n.getD k 0 = x at *
   generalize hy : m.getD k 0 = y at *
   have HX := Li hx
   have HY := Li hy
   clear hx hy
   obtain ⟨v, hv⟩ : ∃ v, v = x + y := ⟨_, rfl⟩
   have hvi : (x : Int) + (y : Int) = (v : Int) := by omega
   have HVI := Li hvi
   have HV := Li hv
   clear hv hvi
   go_wp2_with fail
   refine ⟨⟨k + 1, L.set k v, by omega, rfl, by rw [HVI.out]; exact ST.out.set k v (jD _) (by omega), fun j hj => ?_⟩, by simp only [intOf]; omega⟩
   rw [getD_set _ _ _ _ (by rw [ST.out.len]; exact hlt), HLK.out j hj, HV.out, ← HX.out, ← HY.out]
   by_cases hjk : j = k
   ·subst hjk; rw [if_pos rfl, if_pos (Nat.lt_succ_self _)]
   ·rw [if_neg hjk]
    by_cases h3 : j < k
    ·rw [if_pos h3, if_pos (by omega)]
    ·rw [if_neg h3, if_neg (by omega)]
  ·obtain rfl : k = 5 := by omega
   have HE := Li (show L = addL n m by
    rw [five_eq L hst.len, hL 0 (by decide), hL 1 (by decide), hL 2 (by decide), hL 3 (by decide), hL 4 (by decide)]; rfl)
   clear hL
   have HSZ := Li (numSz hst.len)
   have HQ := Li (show (vq L).size = zN5.size by rw [vq_size, hst.len]; rfl)
   clear hst
   go_wp2_with (first
    | (refine wpList_loadN rfl (.tmp 2) rfl w.heap.size rfl L ST.out.at_ ST.out.len ?_)
    | (refine wpList_store_rowTo rfl 186 (.tmp 4) (.tmp 19) rfl rfl (w.heap.size + 1 + 1) (vq L) rfl rfl 186 zN5 ST.out.out HSZ.out HQ.out.symm (vq_one _) ?_))
   first
    | rw [Exit.noGoto_ret]
    | skip
   refine bodyPost_ret (results_cell_row rfl _ _ (w.heap.size + 1 + 1) 186 (vq L) (0, 0) _ rfl (setRow_heap _ _ zN5 _ 186 (0, 0) ST.out.out) Tryz.underlying186 rfl HSZ.out) rfl ?_
   exact ⟨by rw [HE.out], below_row ST.out.bel (by omega) _⟩
theorem crr_lt (n : List Nat) (h : ∀ j, j < 5 → n.getD j 0 < 4611686018427387904) : ∀ k, k ≤ 5 → crr n k < 137438953472
 | 0, _ => by simp [crr]
 | k + 1, hk => by
  have h1 := crr_lt n h k (by omega)
  have h2 := h k (by omega)
  unfold crr
  omega
theorem NumSt.cell {w wr : World} {g b : Nat} {L : List Nat} (h : NumSt w wr g b L) (k : Nat) (hk : k < 5) : wr.cell? ⟨g, k, none⟩ = some (.int .u64 (L.getD k 0 : Nat)) :=
 (h.at_.cell k).trans (vq_at _ k (by rw [h.len]; exact hk))
theorem set_list (L : List Nat) (h : L.length = 5) (v0 v1 v2 : Nat) : ((L.set 0 v0).set 1 v1).set 0 v2 = [v2, v1, L.getD 2 0, L.getD 3 0, L.getD 4 0] := by
 match L, h with
 | [_, _, _, _, _], _ => rfl
theorem carried_c (n : List Nat) (w : World) (hn : n.length = 5) (hs : ∀ j, j < 5 → n.getD j 0 < 4611686018427387904) :
  Calls Tryz.prog 137 #[.agg (vq n)] w fun e w' => e = .returned (.agg (vq (carL n))) ∧ Below w.heap.size w w' := by
 have zf := zero_num
 have zs1 : zN5.size = 5 := by rfl
 have zs2 : ¬ zN5 = #[] := by intro h; have := congrArg Array.size h; rw [zs1] at this; cases this
 have nsz : (vq n).size = 5 := by rw [vq_size, hn]
 have HS := Li hs
 have HN := Li hn
 have HC := Li (crr_lt n hs)
 have HIX := fun k hk w => run_index_num n k hn hk w
 obtain ⟨Z, hZ⟩ : ∃ Z, Z = (w.alloc (Obj.cells (vq n) 186)).alloc (Obj.cells zN5 186) := ⟨_, rfl⟩
 have h2 : Blk Z (w.heap.size + 1) 186 zN5 := by
  have h1 := Blk.new (w.alloc (Obj.cells (vq n) 186)) 186 zN5
  rw [show (w.alloc (Obj.cells (vq n) 186)).heap.size = w.heap.size + 1 by simp] at h1
  rw [hZ]; exact h1
 have A0 := Li (show NumSt w Z w.heap.size (w.heap.size + 1) n from ⟨hn, by rw [hZ]; exact (Blk.new w _ _).alloc _, h2, by rw [hZ]; exact ((jE _ _).alloc (jD _) _).alloc (by simp) _⟩)
 clear h2 hs
 go_enter Tryz.func137, Tryz.ntmps137
 go_upto_region 1 with fail
 rw [← hZ]
 clear hZ
 go_wp2_with (refine wpList_loadN rfl (.tmp 1) rfl w.heap.size rfl n A0.out.at_ HN.out ?_)
 go_loopw [3, 7] (fun c i wr => ∃ (k : Nat) (L : List Nat), k ≤ 5 ∧ i = .int .i64 (k : Int) ∧ c = .int .u64 (crr n k : Nat) ∧ NumSt w wr w.heap.size (w.heap.size + 1) L ∧ ∀ j, j < 5 → L.getD j 0 = if j < k then (n.getD j 0 + crr n j) % 67108864 else n.getD j 0) (fun _ i _ => 5 - (intOf i).toNat)
 case atStart => exact ⟨0, n, by omega, rfl, rfl, A0.out, fun j _ => by simp⟩
 case round =>
  rename World => wr
  obtain ⟨k, L, hk, rfl, rfl, hst, hL⟩ := hrel
  have ST := Li hst
  by_cases hlt : k < 5
  ·have q1 : (k : Int) < 5 := by omega
   have q0 := HIX k hlt
   have eo := hst.cell k hlt
   rw [hL k hlt, if_neg (Nat.lt_irrefl k)] at eo
   have ef := hst.at_.free k
   have hx1 := HS.out k hlt
   have hc1 := HC.out k (by omega)
   have HLK := Li hL
   have HCS := Li (show crr n (k + 1) = (n.getD k 0 + crr n k) / 67108864 from rfl)
   clear hst hL HIX
   have HX := Li (show n.getD k 0 = n.getD k 0 from rfl)
   generalize hx : n.getD k 0 = x at *
   generalize hy : crr n k = c at *
   have HX := Li hx
   have HY := Li hy
   clear hx hy
   obtain ⟨v, hv⟩ : ∃ v, v = (x + c) % 67108864 := ⟨_, rfl⟩
   have f1 : bits BinOp.and IntKind.u64 ((x : Int) + (c : Int)) 67108863 = (v : Int) := by
    rw [show (x : Int) + (c : Int) = ((x + c : Nat) : Int) by omega, and26 _ (by omega), hv]
   have HV := Li hv
   clear hv
   go_wp2_with fail
   refine ⟨⟨k + 1, L.set k v, by omega, rfl, by rw [HCS.out]; congr 1, ST.out.set k v (jD _) (by omega), fun j hj => ?_⟩, by simp only [intOf]; omega⟩
   rw [getD_set _ _ _ _ (by rw [ST.out.len]; exact hlt), HLK.out j hj, HV.out, ← HX.out, ← HY.out]
   by_cases hjk : j = k
   ·subst hjk; rw [if_pos rfl, if_pos (Nat.lt_succ_self _)]
   ·rw [if_neg hjk]
    by_cases h3 : j < k
    ·rw [if_pos h3, if_pos (by omega)]
    ·rw [if_neg h3, if_neg (by omega)]
  ·obtain rfl : k = 5 := by omega
   have l0 : L.getD 0 0 = n.getD 0 0 % 67108864 := hL 0 (by decide)
   have l1 : L.getD 1 0 = (n.getD 1 0 + crr n 1) % 67108864 := hL 1 (by decide)
   have l2 : L.getD 2 0 = (n.getD 2 0 + crr n 2) % 67108864 := hL 2 (by decide)
   have l3 : L.getD 3 0 = (n.getD 3 0 + crr n 3) % 67108864 := hL 3 (by decide)
   have l4 : L.getD 4 0 = (n.getD 4 0 + crr n 4) % 67108864 := hL 4 (by decide)
   clear hL
   have hc5 := HC.out 5 (by omega)
   have c0 := hst.cell 0 (by decide)
   have e0 := hst.at_.free 0
   rw [l0] at c0
   have b0 : n.getD 0 0 % 67108864 < 67108864 := Nat.mod_lt _ (by decide)
   have b1 : (n.getD 1 0 + crr n 1) % 67108864 < 67108864 := Nat.mod_lt _ (by decide)
   obtain ⟨v1, hv1⟩ : ∃ v1, v1 = (n.getD 1 0 + crr n 1) % 67108864 + (n.getD 0 0 % 67108864 + 5 * crr n 5) / 67108864 := ⟨_, rfl⟩
   obtain ⟨v2, hv2⟩ : ∃ v2, v2 = (n.getD 0 0 % 67108864 + 5 * crr n 5) % 67108864 := ⟨_, rfl⟩
   have HR := Li (show ∀ v0, ((L.set 0 v0).set 1 v1).set 0 v2 = carL n by
    intro v0
    rw [set_list L hst.len, l2, l3, l4, hv1, hv2]; rfl)
   rw [← l1] at b1 hv1
   clear l0 l1 l2 l3 l4
   generalize crr n 5 = C at *
   generalize n.getD 0 0 % 67108864 = x0 at *
   obtain ⟨v0, hv0⟩ : ∃ v0, v0 = x0 + 5 * C := ⟨_, rfl⟩
   have i0 : (x0 : Int) + 5 * (C : Int) = (v0 : Int) := by omega
   have HI0 := Li i0
   clear i0
   go_upto_region 9 with fail
   rw [HI0.out]
   have st1 := hst.set 0 v0 (jD _) (by omega)
   have c1 := st1.cell 1 (by decide)
   have c0' := st1.cell 0 (by decide)
   rw [getD_set _ _ _ _ (by rw [hst.len]; decide), if_neg (by decide)] at c1
   rw [getD_set _ _ _ _ (by rw [hst.len]; decide), if_pos rfl] at c0'
   have e1 := st1.at_.free 1
   have e0' := st1.at_.free 0
   have ST1 := Li st1
   clear c0 e0 hst st1 ST
   generalize wr.setCell ⟨w.heap.size, 0, none⟩ (.int .u64 (v0 : Nat)) = W1 at *
   have HR' := Li (HR.out v0)
   clear HR
   have i1 : ((L.getD 1 0 : Nat) : Int) + (v0 : Int) / 67108864 = (v1 : Int) := by omega
   have i2 : bits BinOp.and IntKind.u64 (v0 : Int) 67108863 = (v2 : Int) := by
    rw [and26 _ (by omega), hv2, hv0]
   have w1 : v0 / 67108864 < 274877906944 := by omega
   have HI1 := Li i1
   clear i1 hv1 hv2 hv0 HI0
   generalize L.getD 1 0 = x1 at *
   go_upto_region 10 with fail
   rw [HI1.out]
   have st2 := ST1.out.set 1 v1 (jD _) (by omega)
   have c2 := st2.cell 0 (by decide)
   rw [getD_set _ _ _ _ (by rw [ST1.out.len]; decide), if_neg (by decide)] at c2
   have e2 := st2.at_.free 0
   rw [ST1.out.cell 0 (by decide)] at c0'
   have hv : ((L.set 0 v0).getD 0 0) = v0 := by
    injection c0' with h1; injection h1 with _ h2; exact Int.ofNat_inj.1 h2
   rw [hv] at c2
   have ST2 := Li st2
   clear c0' e0' c1 e1 st2 ST1
   generalize W1.setCell ⟨w.heap.size, 1, none⟩ (.int .u64 (v1 : Nat)) = W2 at *
   go_upto_region 11 with fail
   have st3 := ST2.out.set 0 v2 (jD _) (by omega)
   rw [HR'.out] at st3
   have ST3 := Li st3
   clear c2 e2 st3 ST2 i2
   generalize W2.setCell ⟨w.heap.size, 0, none⟩ (.int .u64 (v2 : Nat)) = W3 at *
   have HSZ := Li (numSz (carL_len n))
   obtain ⟨R, hR⟩ : ∃ R, R = carL n := ⟨_, rfl⟩
   rw [← hR] at ST3 HSZ
   have HRR := Li hR
   clear hR
   have HQ := Li (show (vq R).size = zN5.size by rw [vq_size, ST3.out.len]; rfl)
   go_wp2_with (first
    | (refine wpList_loadN rfl (.tmp 1) rfl w.heap.size rfl R ST3.out.at_ ST3.out.len ?_)
    | (refine wpList_store_rowTo rfl 186 (.tmp 2) (.tmp 38) rfl rfl (w.heap.size + 1) (vq R) rfl rfl 186 zN5 ST3.out.out HSZ.out HQ.out.symm (vq_one _) ?_))
   first
    | rw [Exit.noGoto_ret]
    | skip
   refine bodyPost_ret (results_cell_row rfl _ _ (w.heap.size + 1) 186 (vq R) (0, 0) _ rfl (setRow_heap _ _ zN5 _ 186 (0, 0) ST3.out.out) Tryz.underlying186 rfl HSZ.out) rfl ?_
   exact ⟨by rw [HRR.out], below_row ST3.out.bel (by omega) _⟩
theorem mulStep_len (x y : List Nat) (i k : Nat) (o : List Nat) : (mulStep x y i k o).length = o.length := by
 unfold mulStep; split <;> rw [List.length_set]
theorem mulRow_len (x y : List Nat) (i : Nat) (o : List Nat) : ∀ k, (mulRow x y i o k).length = o.length
 | 0 => rfl
 | k + 1 => by rw [mulRow, mulStep_len, mulRow_len x y i o k]
theorem mulAll_len (x y : List Nat) : ∀ i, (mulAll x y i).length = 5
 | 0 => rfl
 | i + 1 => by rw [mulAll, mulRow_len, mulAll_len x y i]
structure TmSt (w wr : World) (g : Nat) (y o : List Nat) : Prop where
 len : o.length = 5
 at_ : Blk wr (g + 1 + 1 + 1) 186 (vq o)
 my : Blk wr (g + 1) 186 (vq y)
 out : Blk wr (g + 1 + 1) 186 zN5
 bel : Below w.heap.size w wr
theorem TmSt.set {w wr : World} {g : Nat} {y o : List Nat} (h : TmSt w wr g y o) (k v : Nat) (hg : w.heap.size ≤ g) : TmSt w (wr.setCell ⟨g + 1 + 1 + 1, k, none⟩ (.int .u64 (v : Int))) g y (o.set k v) :=
 ⟨by rw [List.length_set]; exact h.len, by rw [← vq_set]; exact h.at_.set_ _ _, h.my.far (by show g + 1 ≠ g + 1 + 1 + 1; omega) _, h.out.far (by show g + 1 + 1 ≠ g + 1 + 1 + 1; omega) _, h.bel.setCell (by show w.heap.size ≤ g + 1 + 1 + 1; omega) _⟩
theorem TmSt.cell {w wr : World} {g : Nat} {y o : List Nat} (h : TmSt w wr g y o) (k : Nat) (hk : k < 5) : wr.cell? ⟨g + 1 + 1 + 1, k, none⟩ = some (.int .u64 (o.getD k 0 : Nat)) :=
 (h.at_.cell k).trans (vq_at _ k (by rw [h.len]; exact hk))
theorem lbel_at {n : List Nat} {a : Nat} (h : lbel n a a) (j : Nat) (hj : j < 5) : n.getD j 0 < a := by
 obtain ⟨h0, h1, h2, h3, h4⟩ := h
 have : j = 0 ∨ j = 1 ∨ j = 2 ∨ j = 3 ∨ j = 4 := by omega
 rcases this with rfl | rfl | rfl | rfl | rfl <;> assumption
theorem bnd_step (i k a p : Nat) (h : a ≤ (5 * i + k) * 144115188075855872) (hp : p < 144115188075855872) : a + p ≤ (5 * i + (k + 1)) * 144115188075855872 := by
 rw [← Nat.add_assoc, Nat.succ_mul]
 omega
theorem bnd_more (i k a : Nat) (h : a ≤ (5 * i + k) * 144115188075855872) : a ≤ (5 * i + (k + 1)) * 144115188075855872 :=
 Nat.le_trans h (Nat.mul_le_mul_right _ (by omega))
theorem prod5_lt {a b : Nat} (ha : a < 268435456) (hb : b < 67108864) : 5 * a * b < 144115188075855872 := by
 have := prod_lt ha hb
 rw [Nat.mul_assoc]; omega
theorem times_c (x y : List Nat) (w : World) (hx : x.length = 5) (hy : y.length = 5) (bx : lbel x 268435456 268435456) (by_ : lbel y 67108864 67108864) :
  Calls Tryz.prog 123 #[.agg (vq x), .agg (vq y)] w fun e w' => e = .returned (.agg (vq (carL (mulAll x y 5)))) ∧ Below w.heap.size w w' := by
 have zf := zero_num
 have zs1 : zN5.size = 5 := by rfl
 have zs2 : ¬ zN5 = #[] := by intro h; have := congrArg Array.size h; rw [zs1] at this; cases this
 have xsz : (vq x).size = 5 := by rw [vq_size, hx]
 have ysz : (vq y).size = 5 := by rw [vq_size, hy]
 have HX := Li (fun j hj => lbel_at bx j hj)
 have HY := Li (fun j hj => lbel_at by_ j hj)
 have HYL := Li hy
 have HXL := Li hx
 have HCA := Li (fun W => carried_c (mulAll x y 5) W (mulAll_len x y 5) (fun j hj => lbel_at (mulAll_below x y hx hy bx by_) j hj))
 have HIX := Li (fun k hk w => run_index_num x k hx hk w)
 have HIY := Li (fun k hk w => run_index_num y k hy hk w)
 obtain ⟨Z, hZ⟩ : ∃ Z, Z = (((w.alloc (Obj.cells (vq x) 186)).alloc (Obj.cells (vq y) 186)).alloc (Obj.cells zN5 186)).alloc (Obj.cells zN5 186) := ⟨_, rfl⟩
 have h0 : Blk Z w.heap.size 186 (vq x) := by rw [hZ]; exact (((Blk.new w _ _).alloc _).alloc _).alloc _
 have h1 : Blk Z (w.heap.size + 1) 186 (vq y) := by
  have h1 := ((Blk.new (w.alloc (Obj.cells (vq x) 186)) 186 (vq y)).alloc (Obj.cells zN5 186)).alloc (Obj.cells zN5 186)
  rw [show (w.alloc (Obj.cells (vq x) 186)).heap.size = w.heap.size + 1 by simp] at h1
  rw [hZ]; exact h1
 have h2 : Blk Z (w.heap.size + 1 + 1) 186 zN5 := by
  have h1 := (Blk.new ((w.alloc (Obj.cells (vq x) 186)).alloc (Obj.cells (vq y) 186)) 186 zN5).alloc (Obj.cells zN5 186)
  rw [show ((w.alloc (Obj.cells (vq x) 186)).alloc (Obj.cells (vq y) 186)).heap.size = w.heap.size + 1 + 1 by simp] at h1
  rw [hZ]; exact h1
 have h3 : Blk Z (w.heap.size + 1 + 1 + 1) 186 (vq zL5) := by
  have h1 := Blk.new (((w.alloc (Obj.cells (vq x) 186)).alloc (Obj.cells (vq y) 186)).alloc (Obj.cells zN5 186)) 186 zN5
  rw [show (((w.alloc (Obj.cells (vq x) 186)).alloc (Obj.cells (vq y) 186)).alloc (Obj.cells zN5 186)).heap.size = w.heap.size + 1 + 1 + 1 by simp] at h1
  rw [hZ]; exact h1
 have A0 := Li (show TmSt w Z w.heap.size y zL5 from ⟨rfl, h3, h1, h2, by rw [hZ]; exact ((((jE _ _).alloc (jD _) _).alloc (by simp) _).alloc (by simp; omega) _).alloc (by simp; omega) _⟩)
 have X0 := Li h0
 clear h0 h1 h2 h3 bx by_
 go_enter Tryz.func123, Tryz.ntmps123
 go_upto_region 2 with fail
 rw [← hZ]
 clear hZ zf
 go_wp2_with (refine wpList_loadN rfl (.tmp 2) rfl w.heap.size rfl x X0.out HXL.out ?_)
 go_loopw [11] (fun i wr => ∃ k : Nat, k ≤ 5 ∧ i = .int .i64 (k : Int) ∧ TmSt w wr w.heap.size y (mulAll x y k) ∧ ∀ j, j < 5 → (mulAll x y k).getD j 0 ≤ 5 * k * 144115188075855872) (fun i _ => 5 - (intOf i).toNat)
 case atStart => exact ⟨0, by omega, rfl, A0.out, fun j hj => by
  show (zL5).getD j 0 ≤ _
  have : j = 0 ∨ j = 1 ∨ j = 2 ∨ j = 3 ∨ j = 4 := by omega
  rcases this with rfl | rfl | rfl | rfl | rfl <;> decide⟩
 case round =>
  rename World => wo
  obtain ⟨i, hi, rfl, hst, hbd⟩ := hrel
  have ST := Li hst
  have BD := Li hbd
  by_cases hlt : i < 5
  ·have p1 : (i : Int) < 5 := by omega
   have p0 := HIX.out i hlt
   have HXI := Li (HX.out i hlt)
   have HO0 := Li (show mulRow x y i (mulAll x y i) 0 = mulAll x y i from rfl)
   have HO5 := Li (show mulRow x y i (mulAll x y i) 5 = mulAll x y (i + 1) from rfl)
   clear hst hbd
   obtain ⟨xi, hxi⟩ : ∃ xi, xi = x.getD i 0 := ⟨_, rfl⟩
   rw [← hxi] at p0 HXI
   have XI := Li hxi
   clear hxi
   generalize mulAll x y i = O at *
   go_wp2_with (refine wpList_loadN rfl (.tmp 3) rfl (w.heap.size + 1) rfl y ST.out.my HYL.out ?_)
   go_loopw [16] (fun kk wr => ∃ k : Nat, k ≤ 5 ∧ kk = .int .i64 (k : Int) ∧ TmSt w wr w.heap.size y (mulRow x y i O k) ∧ ∀ j, j < 5 → (mulRow x y i O k).getD j 0 ≤ (5 * i + k) * 144115188075855872) (fun kk _ => 5 - (intOf kk).toNat)
   case atStart => exact ⟨0, by omega, rfl, by rw [HO0.out]; exact ST.out, fun j hj => by rw [HO0.out]; exact BD.out j hj⟩
   case round =>
    rename World => wi
    obtain ⟨k, hk, rfl, hst2, hbd2⟩ := hrel
    have ST2 := Li hst2
    have BD2 := Li hbd2
    by_cases hlt2 : k < 5
    ·have q1 : (k : Int) < 5 := by omega
     have q0 := HIY.out k hlt2
     have HYK := HY.out k hlt2
     have HMS := Li (show mulRow x y i O (k + 1) = mulStep x y i k (mulRow x y i O k) from rfl)
     obtain ⟨yk, hyk⟩ : ∃ yk, yk = y.getD k 0 := ⟨_, rfl⟩
     rw [← hyk] at q0 HYK
     have YK := Li hyk
     clear hyk hst2 hbd2
     generalize mulRow x y i O k = o at *
     by_cases hik : i + k < 5
     ·obtain ⟨s, hs⟩ : ∃ s, s = i + k := ⟨_, rfl⟩
      have hsi : (i : Int) + (k : Int) = (s : Int) := by omega
      have hs5 : (s : Int) < 5 := by omega
      have hsn : s < 5 := by omega
      have c0 := ST2.out.cell s hsn
      have e0 := ST2.out.at_.free s
      have bo := BD2.out s hsn
      have bo2 : o.getD s 0 ≤ 3458764513820540928 := by omega
      have hp := prod_lt HXI.out HYK
      have HPE := Li (show mulStep x y i k o = o.set s (o.getD s 0 + xi * yk) by unfold mulStep; rw [if_pos hik, hs, XI.out, YK.out])
      obtain ⟨p, hpp⟩ : ∃ p, p = xi * yk := ⟨_, rfl⟩
      rw [← hpp] at hp
      have f1 : IntKind.u64.wrap ((xi : Int) * (yk : Int)) = (p : Int) := by
       rw [show (xi : Int) * (yk : Int) = ((xi * yk : Nat) : Int) by simp, wrap_lt _ (by omega), hpp]
      have HPB := Li hp
      have HPP := Li hpp
      clear hpp bo HYK
      generalize ho : o.getD s 0 = os at *
      have HOS := Li ho
      have HSS := Li hs
      clear ho hs hik
      obtain ⟨v, hv⟩ : ∃ v, v = os + p := ⟨_, rfl⟩
      have hvi : (os : Int) + (p : Int) = (v : Int) := by omega
      have HVI := Li hvi
      have HV := Li hv
      clear hvi hv
      go_wp2_with fail
      refine ⟨⟨k + 1, by omega, rfl, by rw [HVI.out, HMS.out, HPE.out, ← HPP.out, ← HV.out]; exact ST2.out.set s v (jD _), fun j hj => ?_⟩, by simp only [intOf]; omega⟩
      rw [HMS.out, HPE.out, getD_set _ _ _ _ (by rw [ST2.out.len]; exact hsn), ← HPP.out]
      by_cases hjs : j = s
      ·rw [if_pos hjs]
       have h1 := BD2.out s hsn
       rw [HOS.out] at h1
       exact bnd_step i k _ _ h1 (jH HPB.out (by decide))
      ·rw [if_neg hjs]
       exact bnd_more i k _ (BD2.out j hj)
     ·obtain ⟨s, hs⟩ : ∃ s, s = i + k := ⟨_, rfl⟩
      have hsi : (i : Int) + (k : Int) = (s : Int) := by omega
      have hs5 : ¬ (s : Int) < 5 := by omega
      obtain ⟨s5, hs5e⟩ : ∃ s5, s5 = i + k - 5 := ⟨_, rfl⟩
      have hsi5 : (s : Int) - 5 = (s5 : Int) := by omega
      have hsn : s5 < 5 := by omega
      have hsn2 : (s5 : Int) < 5 := by omega
      have c0 := ST2.out.cell s5 hsn
      have e0 := ST2.out.at_.free s5
      have bo := BD2.out s5 hsn
      have bo2 : o.getD s5 0 ≤ 3458764513820540928 := by omega
      have hp := prod5_lt HXI.out HYK
      have hx31 := HXI.out
      have HPE := Li (show mulStep x y i k o = o.set s5 (o.getD s5 0 + 5 * xi * yk) by unfold mulStep; rw [if_neg hik, hs5e, XI.out, YK.out])
      obtain ⟨p, hpp⟩ : ∃ p, p = 5 * xi * yk := ⟨_, rfl⟩
      rw [← hpp] at hp
      have f1 : IntKind.u64.wrap (5 * (xi : Int) * (yk : Int)) = (p : Int) := by
       rw [show 5 * (xi : Int) * (yk : Int) = ((5 * xi * yk : Nat) : Int) by simp, wrap_lt _ (by omega), hpp]
      have HPB := Li hp
      have HPP := Li hpp
      clear hpp bo HYK
      generalize ho : o.getD s5 0 = os at *
      have HOS := Li ho
      clear ho hs hs5e hik
      obtain ⟨v, hv⟩ : ∃ v, v = os + p := ⟨_, rfl⟩
      have hvi : (os : Int) + (p : Int) = (v : Int) := by omega
      have HVI := Li hvi
      have HV := Li hv
      clear hvi hv
      go_wp2_with fail
      refine ⟨⟨k + 1, by omega, rfl, by rw [HVI.out, HMS.out, HPE.out, ← HPP.out, ← HV.out]; exact ST2.out.set s5 v (jD _), fun j hj => ?_⟩, by simp only [intOf]; omega⟩
      rw [HMS.out, HPE.out, getD_set _ _ _ _ (by rw [ST2.out.len]; exact hsn), ← HPP.out]
      by_cases hjs : j = s5
      ·rw [if_pos hjs]
       have h1 := BD2.out s5 hsn
       rw [HOS.out] at h1
       exact bnd_step i k _ _ h1 (jH HPB.out (by decide))
      ·rw [if_neg hjs]
       exact bnd_more i k _ (BD2.out j hj)
    ·obtain rfl : k = 5 := by omega
     rw [HO5.out] at hst2 hbd2
     have ST3 := Li hst2
     have BD3 := Li hbd2
     clear hst2 hbd2 ST2 BD2
     go_wp2_with fail
     exact ⟨⟨i + 1, by omega, rfl, ST3.out, fun j hj => by have := BD3.out j hj; omega⟩, by simp only [intOf]; omega⟩
  ·obtain rfl : i = 5 := by omega
   clear hst hbd
   have HCL := Li (carL_len (mulAll x y 5))
   have HML := Li (mulAll_len x y 5)
   obtain ⟨M, hM⟩ : ∃ M, M = mulAll x y 5 := ⟨_, rfl⟩
   rw [← hM] at HCA ST HCL HML
   obtain ⟨R, hR⟩ : ∃ R, R = carL M := ⟨_, rfl⟩
   rw [← hR] at HCA HCL
   have HRR := Li (show R = carL (mulAll x y 5) by rw [hR, hM])
   clear hM hR
   have HSZ := Li (numSz HCL.out)
   have HQ := Li (show (vq R).size = zN5.size by rw [vq_size, HCL.out]; rfl)
   go_wp2_with (first
    | (refine wpList_loadN rfl (.tmp 5) rfl (w.heap.size + 1 + 1 + 1) rfl M ST.out.at_ HML.out ?_)
    | (go_at_call 137; (refine (HCA.out _).mono ?_); rintro e w1 ⟨rfl, hb⟩; have E1 := Li (ST.out.out.below hb ST.out.out.lt); have B1 := Li (ST.out.bel.trans (hb.mono ST.out.bel.size)); clear hb)
    | (refine wpList_store_rowTo rfl 186 (.tmp 4) (.tmp 49) rfl rfl (w.heap.size + 1 + 1) (vq R) rfl rfl 186 zN5 E1.out HSZ.out HQ.out.symm (vq_one _) ?_))
   first
    | rw [Exit.noGoto_ret]
    | skip
   refine bodyPost_ret (results_cell_row rfl _ _ (w.heap.size + 1 + 1) 186 (vq R) (0, 0) _ rfl (setRow_heap _ _ zN5 _ 186 (0, 0) E1.out) Tryz.underlying186 rfl HSZ.out) rfl ?_
   exact ⟨by rw [HRR.out], below_row B1.out (by omega) _⟩
structure FnSt (w wr : World) (g gm : Nat) (L M : List Nat) : Prop where
 ll : L.length = 5
 lm : M.length = 5
 a : Blk wr g 186 (vq L)
 m : Blk wr gm 186 (vq M)
 o : Blk wr (g + 1) 186 zN5
 bel : Below w.heap.size w wr
 gg : w.heap.size ≤ g
 gb : g + 1 < gm
theorem FnSt.setM {w wr : World} {g gm : Nat} {L M : List Nat} (h : FnSt w wr g gm L M) (k v : Nat) : FnSt w (wr.setCell ⟨gm, k, none⟩ (.int .u64 (v : Int))) g gm L (M.set k v) :=
 ⟨h.ll, by rw [List.length_set]; exact h.lm, h.a.far (by have := h.gb; show g ≠ gm; omega) _, by rw [← vq_set]; exact h.m.set_ _ _, h.o.far (by have := h.gb; show g + 1 ≠ gm; omega) _, h.bel.setCell (by have := h.gb; have := h.gg; show w.heap.size ≤ gm; omega) _, h.gg, h.gb⟩
theorem FnSt.setL {w wr : World} {g gm : Nat} {L M : List Nat} (h : FnSt w wr g gm L M) (k v : Nat) : FnSt w (wr.setCell ⟨g, k, none⟩ (.int .u64 (v : Int))) g gm (L.set k v) M :=
 ⟨by rw [List.length_set]; exact h.ll, h.lm, by rw [← vq_set]; exact h.a.set_ _ _, h.m.far (by have := h.gb; show gm ≠ g; omega) _, h.o.far (by show g + 1 ≠ g; omega) _, h.bel.setCell h.gg _, h.gg, h.gb⟩
theorem FnSt.next {w wr wr' : World} {g gm : Nat} {L M : List Nat} (h : FnSt w wr g gm L M) (hb : Below wr.heap.size wr wr') : FnSt w wr' g gm L M :=
 ⟨h.ll, h.lm, h.a.below hb h.a.lt, h.m.below hb h.m.lt, h.o.below hb h.o.lt, h.bel.trans (hb.mono h.bel.size), h.gg, h.gb⟩
theorem FnSt.cellL {w wr : World} {g gm : Nat} {L M : List Nat} (h : FnSt w wr g gm L M) (k : Nat) (hk : k < 5) : wr.cell? ⟨g, k, none⟩ = some (.int .u64 (L.getD k 0 : Nat)) :=
 (h.a.cell k).trans (vq_at _ k (by rw [h.ll]; exact hk))
theorem FnSt.cellM {w wr : World} {g gm : Nat} {L M : List Nat} (h : FnSt w wr g gm L M) (k : Nat) (hk : k < 5) : wr.cell? ⟨gm, k, none⟩ = some (.int .u64 (M.getD k 0 : Nat)) :=
 (h.m.cell k).trans (vq_at _ k (by rw [h.lm]; exact hk))
theorem new_num (w : World) (L : List Nat) : Blk ((w.alloc (Obj.cells zN5 186)).setRow w.heap.size (vq L)) w.heap.size 186 (vq L) ∧ Below w.heap.size w ((w.alloc (Obj.cells zN5 186)).setRow w.heap.size (vq L)) :=
 ⟨setRow_heap _ _ _ _ _ (0, 0) (Blk.new w _ _), below_row ((jE _ _).alloc (jD _) _) (jD _) _⟩
def morL (n : List Nat) (k j : Nat) : Nat := if j < k then m5 n j % 67108864 else if j = k then m5 n k else n.getD j 0
theorem m5_lt (n : List Nat) (h : lbel n 67108864 67108864) : ∀ k, k < 5 → m5 n k < 134217733
 | 0, _ => by have := h.1; simp only [m5]; omega
 | k + 1, hk => by
  have h1 := m5_lt n h k (by omega)
  have h2 := lbel_at h (k + 1) hk
  simp only [m5]; omega
theorem and0 (n : Nat) (h : n < 18446744073709551616) : Go.bits BinOp.and IntKind.u64 (n : Int) 0 = 0 := by
 rw [show (0 : Int) = ((0 : Nat) : Int) from rfl, u64_and_nat _ _ h (by decide), Nat.and_zero]
theorem andF (n : Nat) (h : n < 18446744073709551616) : Go.bits BinOp.and IntKind.u64 (n : Int) 18446744073709551615 = (n : Int) := by
 rw [show (18446744073709551615 : Int) = ((18446744073709551615 : Nat) : Int) from rfl, u64_and_nat _ _ h (by decide), show 18446744073709551615 = 2 ^ 64 - 1 from rfl, Nat.and_two_pow_sub_one_eq_mod, Nat.mod_eq_of_lt h]
theorem xor64 (a b : Nat) (ha : a < 18446744073709551616) (hb : b < 18446744073709551616) : Go.bits BinOp.xor IntKind.u64 (a : Int) (b : Int) = ((a ^^^ b : Nat) : Int) := u64_xor_nat _ _ ha hb
theorem xor0 (a : Nat) (ha : a < 18446744073709551616) : Go.bits BinOp.xor IntKind.u64 (a : Int) 0 = (a : Int) := by
 rw [show (0 : Int) = ((0 : Nat) : Int) from rfl, u64_xor_nat _ _ ha (by decide), Nat.xor_zero]
theorem final_c (n0 : List Nat) (w : World) (hn0 : n0.length = 5) (hb0 : lbel n0 67108864 67125248) :
  Calls Tryz.prog 125 #[.agg (vq n0)] w fun e w' => e = .returned (.agg (vq (endL n0))) ∧ Below w.heap.size w w' := by
 have zf := zero_num
 have zs1 : zN5.size = 5 := by rfl
 have zs2 : ¬ zN5 = #[] := by intro h; have := congrArg Array.size h; rw [zs1] at this; cases this
 have nsz : (vq n0).size = 5 := by rw [vq_size, hn0]
 have HN0 := Li hn0
 have b1 := carL_canon n0 hb0
 have b2 : lbel (carL n0) 67108864 67125248 := ⟨b1.1, Nat.lt_trans b1.2.1 (by decide), b1.2.2.1, b1.2.2.2.1, b1.2.2.2.2⟩
 have b3 := carL_canon _ b2
 have HC1 := Li (fun W => carried_c n0 W hn0 (fun j hj => by
  obtain ⟨h0, h1, h2, h3, h4⟩ := hb0
  have : j = 0 ∨ j = 1 ∨ j = 2 ∨ j = 3 ∨ j = 4 := by omega
  rcases this with rfl | rfl | rfl | rfl | rfl <;> omega))
 have HC2 := Li (fun W => carried_c (carL n0) W (carL_len n0) (fun j hj => Nat.lt_trans (lbel_at b1 j hj) (by decide)))
 have HEND := Li (show endL n0 = finL (carL (carL n0)) from rfl)
 have HML := Li (m5_lt _ b3)
 have HNL := Li (fun j hj => lbel_at b3 j hj)
 have HOV := Li (m5_over _ b3)
 have n1l := carL_len n0
 have nl := carL_len (carL n0)
 obtain ⟨n1, hn1⟩ : ∃ n1, n1 = carL n0 := ⟨_, rfl⟩
 rw [← hn1] at HC1 HC2 HEND HML HNL HOV n1l nl
 obtain ⟨n, hn⟩ : ∃ n, n = carL n1 := ⟨_, rfl⟩
 rw [← hn] at HC2 HEND HML HNL HOV nl
 have HN := Li nl
 have HSZ := Li (numSz nl)
 have HQ := Li (show (vq n).size = zN5.size by rw [vq_size, nl]; rfl)
 have HQ0 := Li (show (vq n0).size = (vq n).size by rw [vq_size, vq_size, nl, hn0])
 clear hn1 hn b1 b2 b3 hb0 n1l nl hn0
 obtain ⟨Z, hZ⟩ : ∃ Z, Z = (w.alloc (Obj.cells (vq n0) 186)).alloc (Obj.cells zN5 186) := ⟨_, rfl⟩
 have A0 := Li (show Blk Z w.heap.size 186 (vq n0) by rw [hZ]; exact (Blk.new w _ _).alloc _)
 have E0 := Li (show Blk Z (w.heap.size + 1) 186 zN5 by
  have h1 := Blk.new (w.alloc (Obj.cells (vq n0) 186)) 186 zN5
  rw [show (w.alloc (Obj.cells (vq n0) 186)).heap.size = w.heap.size + 1 by simp] at h1
  rw [hZ]; exact h1)
 have B0 := Li (show Below w.heap.size w Z by rw [hZ]; exact ((jE _ _).alloc (jD _) _).alloc (by simp) _)
 go_enter Tryz.func125, Tryz.ntmps125
 go_upto_region 1 with fail
 rw [← hZ]
 clear hZ
 go_upto_region 2 with (first
  | (refine wpList_loadN rfl (.tmp 1) rfl w.heap.size rfl n0 A0.out HN0.out ?_)
  | (go_at_call 137; (refine (HC1.out _).mono ?_); rintro e w1 ⟨rfl, hb⟩; have A1 := Li (A0.out.below hb A0.out.lt); have E1 := Li (E0.out.below hb E0.out.lt); have B1 := Li (B0.out.trans (hb.mono B0.out.size)); clear hb HC1)
  | (go_at_call 137; (refine (HC2.out _).mono ?_); rintro e w2 ⟨rfl, hb⟩; have A2 := Li (A1.out.below hb A1.out.lt); have E2 := Li (E1.out.below hb E1.out.lt); have B2 := Li (B1.out.trans (hb.mono B1.out.size)); clear hb HC2)
  | (refine wpList_store_rowTo rfl 186 (.tmp 1) (.tmp 9) rfl rfl w.heap.size (vq n) rfl rfl 186 (vq n0) A2.out HSZ.out HQ0.out (vq_one _) ?_))
 have A3 := Li (show Blk (w2.setRow w.heap.size (vq n)) w.heap.size 186 (vq n) from setRow_heap _ _ _ _ _ (0, 0) A2.out)
 have E3 := Li (show Blk (w2.setRow w.heap.size (vq n)) (w.heap.size + 1) 186 zN5 from (setRow_other _ _ _ _ (by omega)).trans E2.out)
 have B3 := Li (show Below w.heap.size w (w2.setRow w.heap.size (vq n)) from below_row B2.out (jD _) _)
 clear A0 A1 A2 E0 E1 E2 B0 B1 B2 HQ0
 generalize w2.setRow w.heap.size (vq n) = W3 at *
 go_upto_region 3 with (first
  | (refine wpList_loadN rfl (.tmp 1) rfl w.heap.size rfl n A3.out HN.out ?_)
  | (refine wpList_store_rowTo rfl 186 (.tmp 3) (.tmp 10) rfl rfl W3.heap.size (vq n) rfl rfl 186 zN5 (by exact Blk.new _ _ _) HSZ.out HQ.out.symm (vq_one _) ?_))
 have hnn := new_num W3 n
 have FS0 := Li (show FnSt w ((W3.alloc (Obj.cells zN5 186)).setRow W3.heap.size (vq n)) w.heap.size W3.heap.size n n from
  ⟨HN.out, HN.out, A3.out.below hnn.2 A3.out.lt, hnn.1, E3.out.below hnn.2 E3.out.lt, B3.out.trans (hnn.2.mono B3.out.size), jD _, E3.out.lt⟩)
 clear hnn A3 E3 B3
 generalize (W3.alloc (Obj.cells zN5 186)).setRow W3.heap.size (vq n) = W4 at *
 generalize W3.heap.size = gm at *
 have c0 := FS0.out.cellM 0 (by decide)
 have e0 := FS0.out.m.free 0
 have h50 := HNL.out 0 (by decide)
 obtain ⟨v0, hv0⟩ : ∃ v0, v0 = m5 n 0 := ⟨_, rfl⟩
 have hi0 : ((n.getD 0 0 : Nat) : Int) + 5 = (v0 : Int) := by rw [hv0]; rfl
 have HI0 := Li hi0
 generalize hx0 : n.getD 0 0 = x0 at *
 have HX0 := Li hx0
 clear hx0 hi0
 go_upto_region 4 with fail
 rw [HI0.out]
 have FS1 := Li (FS0.out.setM 0 v0)
 have HM1 := Li (show ∀ j, j < 5 → (n.set 0 v0).getD j 0 = morL n 0 j from fun j hj => by
  rw [getD_set _ _ _ _ (by rw [HN.out]; decide), hv0]
  unfold morL
  by_cases h : j = 0
  ·subst h; rfl
  ·rw [if_neg h, if_neg (Nat.not_lt_zero j)])
 clear c0 e0 h50 hv0 HI0 FS0 HX0
 generalize W4.setCell ⟨gm, 0, none⟩ (.int .u64 (v0 : Nat)) = W5 at *
 generalize n.set 0 v0 = M0 at *
 go_wp2_with fail
 go_loopw [15] (fun i wr => ∃ (k : Nat) (M : List Nat), k ≤ 4 ∧ i = .int .i64 (k : Int) ∧ FnSt w wr w.heap.size gm n M ∧ ∀ j, j < 5 → M.getD j 0 = morL n k j) (fun i _ => 4 - (intOf i).toNat)
 case atStart => exact ⟨0, M0, by omega, rfl, FS1.out, HM1.out⟩
 case round =>
  rename World => wr
  obtain ⟨k, M, hk, rfl, hst, hM⟩ := hrel
  clear FS1 HM1
  have ST := Li hst
  have HM := Li hM
  clear hst hM
  by_cases hlt : k < 4
  ·have p1 : (k : Int) < 4 := by omega
   have c1 := ST.out.cellM (k + 1) (by omega)
   have c0 := ST.out.cellM k (by omega)
   rw [HM.out (k + 1) (by omega)] at c1
   rw [HM.out k (by omega)] at c0
   have r1 : morL n k (k + 1) = n.getD (k + 1) 0 := by unfold morL; rw [if_neg (by omega), if_neg (by omega)]
   have r0 : morL n k k = m5 n k := by unfold morL; rw [if_neg (by omega), if_pos rfl]
   rw [r1] at c1
   rw [r0] at c0
   have hl0 := HML.out k (by omega)
   have hl1 := HNL.out (k + 1) (by omega)
   have HV := Li (show m5 n (k + 1) = n.getD (k + 1) 0 + m5 n k / 67108864 from rfl)
   obtain ⟨v, hv⟩ : ∃ v, v = m5 n (k + 1) := ⟨_, rfl⟩
   rw [← hv] at HV
   have VV := Li hv
   obtain ⟨u, hu⟩ : ∃ u, u = m5 n k % 67108864 := ⟨_, rfl⟩
   have UU := Li hu
   clear hv hu r0 r1
   have HMK := Li (show M.getD k 0 = m5 n k by rw [HM.out k (by omega)]; unfold morL; rw [if_neg (Nat.lt_irrefl k), if_pos rfl])
   have HMO := Li (show m5 n k = m5 n k from rfl)
   generalize hmk : m5 n k = mk at *
   have HMKE := Li hmk
   clear hmk
   generalize n.getD (k + 1) 0 = xk at *
   have f1 : bits BinOp.and IntKind.u64 (mk : Int) 67108863 = (u : Int) := by rw [and26 _ (by omega), UU.out]
   have hi1 : (xk : Int) + (mk : Int) / 67108864 = (v : Int) := by have := HV.out; omega
   have HI1 := Li hi1
   obtain ⟨k1, hk1⟩ : ∃ k1, k1 = k + 1 := ⟨_, rfl⟩
   have k1i : (k : Int) + 1 = (k1 : Int) := by omega
   have k15 : (k1 : Int) < 5 := by omega
   have k05 : (k : Int) < 5 := by omega
   rw [← hk1] at c1
   have e1 := ST.out.m.free k1
   have c0e := cell_ext c0
   have c1e := cell_ext c1
   have HK1 := Li hk1
   clear hi1 hk1 c0 c1
   go_upto_region 7 with fail
   refine wp_region_loudTail 10 wr [] (fun _ _ _ => True) (by kernel_rfl) (by kernel_rfl) (by kernel_rfl) (by kernel_rfl) (fun _ _ _ _ h hb => True.intro) (jE _ _).drew ?_
   simp only [List.take_succ_cons, List.take_zero, List.drop_succ_cons, List.drop_zero]
   repeat (refine wpLoud_plain rfl rfl rfl ?_; intro K hK; go_big_quiet_op; go_big_quiet_on)
   refine wpLoud_end [] (by rfl) ?_
   intro g z hg
   have ST1 := Li (ST.out.next z.bel)
   have e1' := ST1.out.m.free k1
   have c1' := (z.cell (c1e ⟨wr, jE _ _⟩))
   clear c0e c1e e1 ST
   generalize z.wd = Y at *
   simp only [fill, Act.put, sI, sS, sZ]
   go_upto_region 8 with fail
   rw [HI1.out]
   have st2 := ST1.out.setM k1 v
   have c2 := st2.cellM k (by omega)
   rw [getD_set _ _ _ _ (by rw [ST1.out.lm]; omega), if_neg (by have := HK1.out; omega), HMK.out] at c2
   have e2 := st2.m.free k
   have ST2 := Li st2
   clear st2 ST1 e1' c1'
   generalize Y.setCell ⟨gm, k1, none⟩ (.int .u64 (v : Nat)) = W6 at *
   go_wp2_with fail
   refine ⟨⟨k + 1, (M.set k1 v).set k u, by omega, by first | rfl | (congr 1; omega), ST2.out.setM k u, fun j hj => ?_⟩, by simp only [intOf]; omega⟩
   have hml : k < (M.set k1 v).length := by rw [ST2.out.lm]; omega
   have hml1 : k1 < M.length := by have := ST2.out.lm; rw [List.length_set] at this; omega
   rw [getD_set _ _ _ _ hml, getD_set _ _ _ _ hml1, HM.out j hj]
   have hkk := HK1.out
   unfold morL
   by_cases h1 : j = k
   ·rw [if_pos h1, if_pos (by omega), UU.out, h1, HMKE.out]
   ·rw [if_neg h1]
    by_cases h2 : j = k1
    ·rw [if_pos h2, if_neg (by omega), if_pos (by omega), VV.out]
    ·rw [if_neg h2]
     by_cases h3 : j < k
     ·rw [if_pos h3, if_pos (by omega)]
     ·rw [if_neg h3, if_neg h1, if_neg (by omega), if_neg (by omega)]
  ·obtain rfl : k = 4 := by omega
   have hm4 := HM.out 4 (by decide)
   rw [show morL n 4 4 = m5 n 4 from rfl] at hm4
   have hl4 := HML.out 4 (by decide)
   have c4 := ST.out.cellM 4 (by decide)
   rw [hm4] at c4
   have e4 := ST.out.m.free 4
   obtain ⟨ov, hov⟩ : ∃ ov, ov = m5 n 4 / 67108864 := ⟨_, rfl⟩
   have HO := HOV.out
   rw [← hov] at HO
   have HFA := Li (show ∀ j, j < 5 → (finL n).getD j 0 = if ov = 0 then n.getD j 0 else m5 n j % 67108864 from fun j hj => by
    have : j = 0 ∨ j = 1 ∨ j = 2 ∨ j = 3 ∨ j = 4 := by omega
    unfold finL
    rw [← hov]
    by_cases h0 : ov = 0
    ·rw [if_pos h0, if_pos h0]
    ·rw [if_neg h0, if_neg h0]
     rcases this with rfl | rfl | rfl | rfl | rfl <;> rfl)
   obtain ⟨u4, hu4⟩ : ∃ u4, u4 = m5 n 4 % 67108864 := ⟨_, rfl⟩
   have U4 := Li hu4
   have hmall : ∀ j, j < 5 → (M.set 4 u4).getD j 0 = m5 n j % 67108864 := fun j hj => by
    rw [getD_set _ _ _ _ (by rw [ST.out.lm]; decide), HM.out j hj, hu4]
    unfold morL
    by_cases h : j = 4
    ·rw [if_pos h, h]
    ·rw [if_neg h, if_pos (by omega)]
   have HMA := Li hmall
   have f4 : bits BinOp.and IntKind.u64 ((m5 n 4 : Nat) : Int) 67108863 = (u4 : Int) := by rw [and26 _ (by omega), hu4]
   have o4 : ((m5 n 4 : Nat) : Int) / 67108864 = (ov : Int) := by omega
   clear hu4 hov hmall hm4 HM
   generalize m5 n 4 = m4 at *
   go_upto_region 12 with fail
   have ST1 := Li (ST.out.setM 4 u4)
   clear c4 e4 ST f4 o4
   generalize wr.setCell ⟨gm, 4, none⟩ (.int .u64 (u4 : Nat)) = W7 at *
   generalize M.set 4 u4 = M5 at *
   obtain ⟨ng, hng⟩ : ∃ ng : Nat, ng = if ov = 0 then 0 else 18446744073709551615 := ⟨_, rfl⟩
   have fng : IntKind.u64.wrap (-(ov : Int)) = (ng : Int) := by
    rcases HO with h | h
    ·subst h; rw [hng]; rfl
    ·subst h; rw [hng]; rfl
   have HNG := Li hng
   have HOO := Li HO
   clear hng HO
   go_wp2_with fail
   go_loopw [41] (fun i wr => ∃ (k : Nat) (L : List Nat), k ≤ 5 ∧ i = .int .i64 (k : Int) ∧ FnSt w wr w.heap.size gm L M5 ∧ ∀ j, j < 5 → L.getD j 0 = if j < k then (finL n).getD j 0 else n.getD j 0) (fun i _ => 5 - (intOf i).toNat)
   case atStart => exact ⟨0, n, by omega, rfl, ST1.out, fun j _ => by rw [if_neg (Nat.not_lt_zero j)]⟩
   case round =>
    rename World => wq
    obtain ⟨k, L, hk, rfl, hst, hL⟩ := hrel
    clear ST1
    have ST := Li hst
    have HLL := Li hL
    clear hst hL
    by_cases hlt : k < 5
    ·have p1 : (k : Int) < 5 := by omega
     have c0 := ST.out.cellL k hlt
     have c1 := ST.out.cellM k hlt
     rw [HLL.out k hlt, if_neg (Nat.lt_irrefl k)] at c0
     rw [HMA.out k hlt] at c1
     have ha := HNL.out k hlt
     have hb : m5 n k % 67108864 < 67108864 := Nat.mod_lt _ (by decide)
     have HV := Li (HFA.out k hlt)
     obtain ⟨v, hv⟩ : ∃ v, v = (finL n).getD k 0 := ⟨_, rfl⟩
     rw [← hv] at HV
     have VV := Li hv
     clear hv
     generalize n.getD k 0 = a at *
     generalize m5 n k % 67108864 = b at *
     obtain ⟨d, hd⟩ : ∃ d, d = a ^^^ b := ⟨_, rfl⟩
     have hd64 : d < 18446744073709551616 := by
      rw [hd]; exact Nat.xor_lt_two_pow (n := 64) (by omega) (by omega)
     have f1 : bits BinOp.xor IntKind.u64 (a : Int) (b : Int) = (d : Int) := by rw [xor64 _ _ (by omega) (by omega), hd]
     obtain ⟨r, hr⟩ : ∃ r, r = if ov = 0 then 0 else d := ⟨_, rfl⟩
     have f2 : bits BinOp.and IntKind.u64 (d : Int) (ng : Int) = (r : Int) := by
      rw [HNG.out, hr]
      rcases HOO.out with h | h
      ·subst h; exact and0 d hd64
      ·subst h; exact andF d hd64
     have f3 : bits BinOp.xor IntKind.u64 (a : Int) (r : Int) = (v : Int) := by
      rw [HV.out, hr]
      rcases HOO.out with h | h
      ·subst h; exact xor0 a (by omega)
      ·subst h
       show bits BinOp.xor IntKind.u64 (a : Int) (d : Int) = (b : Int)
       rw [xor64 _ _ (by omega) hd64, hd, ← Nat.xor_assoc, Nat.xor_self, Nat.zero_xor]
     clear hd hr hd64
     have e0 := ST.out.a.free k
     have c0e := cell_ext c0
     have c1e := cell_ext c1
     clear c0 c1
     go_upto_region 15 with fail
     refine wp_region_loudTail 15 wq [] (fun _ _ _ => True) (by kernel_rfl) (by kernel_rfl) (by kernel_rfl) (by kernel_rfl) (fun _ _ _ _ h hb => True.intro) (jE _ _).drew ?_
     simp only [List.take_succ_cons, List.take_zero, List.drop_succ_cons, List.drop_zero]
     repeat (refine wpLoud_plain rfl rfl rfl ?_; intro K hK; go_big_quiet_op; go_big_quiet_on)
     refine wpLoud_end [] (by rfl) ?_
     intro g z hg
     have ST1 := Li (ST.out.next z.bel)
     have e0' := ST1.out.a.free k
     have c0' := (z.cell (c0e ⟨wq, jE _ _⟩))
     clear c0e c1e e0
     generalize z.wd = Y at *
     simp only [fill, Act.put, sI, sS, sZ]
     go_wp2_with fail
     refine ⟨⟨k + 1, L.set k v, by omega, rfl, ST1.out.setL k v, fun j hj => ?_⟩, by simp only [intOf]; omega⟩
     rw [getD_set _ _ _ _ (by rw [ST1.out.ll]; exact hlt), HLL.out j hj, VV.out]
     by_cases hjk : j = k
     ·subst hjk; rw [if_pos rfl, if_pos (Nat.lt_succ_self _)]
     ·rw [if_neg hjk]
      by_cases h3 : j < k
      ·rw [if_pos h3, if_pos (by omega)]
      ·rw [if_neg h3, if_neg (by omega)]
    ·obtain rfl : k = 5 := by omega
     have HLE := Li (show L = finL n by
      rw [five_eq L ST.out.ll, HLL.out 0 (by decide), HLL.out 1 (by decide), HLL.out 2 (by decide), HLL.out 3 (by decide), HLL.out 4 (by decide)]
      exact (five_eq (finL n) (by unfold finL; split; exact HN.out; rfl)).symm)
     clear fng
     have HSZL := Li (numSz ST.out.ll)
     have HQL := Li (show (vq L).size = zN5.size by rw [vq_size, ST.out.ll]; rfl)
     go_wp2_with (first
      | (refine wpList_loadN rfl (.tmp 1) rfl w.heap.size rfl L ST.out.a ST.out.ll ?_)
      | (refine wpList_store_rowTo rfl 186 (.tmp 2) (.tmp 60) rfl rfl (w.heap.size + 1) (vq L) rfl rfl 186 zN5 ST.out.o HSZL.out HQL.out.symm (vq_one _) ?_))
     first
      | rw [Exit.noGoto_ret]
      | skip
     refine bodyPost_ret (results_cell_row rfl _ _ (w.heap.size + 1) 186 (vq L) (0, 0) _ rfl (setRow_heap _ _ zN5 _ 186 (0, 0) ST.out.o) Tryz.underlying186 rfl HSZL.out) rfl ?_
     exact ⟨by rw [HEND.out, HLE.out], below_row ST.out.bel (by omega) _⟩
theorem form_at : ∀ (w n j : Nat), j < w → (form n w).getD j 0 = n / 256 ^ j % 256
 | w + 1, n, 0, _ => by simp [form]
 | w + 1, n, j + 1, h => by
  rw [form, List.getD_cons_succ, form_at w _ j (by omega), Nat.div_div_eq_div_mul, Nat.pow_succ']
theorem form_add : ∀ (a b n : Nat), form n (a + b) = form n a ++ form (n / 256 ^ a) b
 | 0, b, n => by simp [form]
 | a + 1, b, n => by
  rw [show a + 1 + b = (a + b) + 1 by omega, form, form_add a b, form, List.cons_append, Nat.div_div_eq_div_mul, Nat.pow_succ']
theorem form_mod : ∀ (w n : Nat), form (n % 256 ^ w) w = form n w
 | 0, n => rfl
 | w + 1, n => by
  rw [form, form, Nat.pow_succ', Nat.mod_mul_right_mod, ← form_mod w (n / 256), Nat.mod_mul_right_div_self]
theorem list_ext {l m : List Nat} (h : l.length = m.length) (he : ∀ j, j < l.length → l.getD j 0 = m.getD j 0) : l = m := by
 refine List.ext_getElem h fun j h1 h2 => ?_
 have := he j h1
 rw [jA, jB h1, jA, jB h2] at this
 exact this
theorem rep_at (n j : Nat) : (List.replicate n 0).getD j 0 = 0 := by
 rw [jA, List.getElem?_replicate]; split <;> rfl
theorem getD_app_l (l m : List Nat) (j : Nat) (h : j < l.length) : (l ++ m).getD j 0 = l.getD j 0 := by
 rw [jA, List.getElem?_append_left h, jA]
theorem getD_app_r (l m : List Nat) (j : Nat) (h : l.length ≤ j) : (l ++ m).getD j 0 = m.getD (j - l.length) 0 := by
 rw [jA, List.getElem?_append_right h, jA]
def zT : Array Value := vb (List.replicate 16 0)
theorem zero_tag (w : World) : (zeroValue 132).run Tryz.prog w = .ok (.agg zT) w := by kernel_rfl
theorem tagSz {L : List Nat} (h : L.length = 16) : (Tryz.prog.info? 132).map (·.size) = some (vb L).size := by rw [vb_size, h]; kernel_rfl
theorem tagLn {L : List Nat} (h : L.length = 16) : (Tryz.prog.info? 132).map (·.size) = some (byt L).length := by rw [byt_len, h]; kernel_rfl
structure TgSt (w wr : World) (gr go : Nat) (O : List Nat) : Prop where
 len : O.length = 16
 at_ : Blk wr go 132 (vb O)
 out : Blk wr gr 132 zT
 bel : Below w.heap.size w wr
 gg : w.heap.size ≤ go
 ne : gr ≠ go
theorem TgSt.set {w wr : World} {gr go : Nat} {O : List Nat} (h : TgSt w wr gr go O) (k v : Nat) : TgSt w (wr.setCell ⟨go, k, none⟩ (.int .u8 (v : Int))) gr go (O.set k v) :=
 ⟨by rw [List.length_set]; exact h.len, by rw [← vb_set]; exact h.at_.set_ _ _, h.out.far (by show gr ≠ go; exact h.ne) _, h.bel.setCell (by show w.heap.size ≤ go; exact h.gg) _, h.gg, h.ne⟩
theorem TgSt.cell {w wr : World} {gr go : Nat} {O : List Nat} (h : TgSt w wr gr go O) (k : Nat) (hk : k < 16) : wr.cell? ⟨go, k, none⟩ = some (.int .u8 (O.getD k 0 : Nat)) :=
 (h.at_.cell k).trans (vb_at _ k (by rw [h.len]; exact hk))
theorem wpList_loadT {ops : Array Oper} {rest : List Oper} {o : Oper} {a : Act} {w : World} {Q : Exit → Act → World → Prop} (hw : Region.wanted o (yielded ops a.tmps) = true) (x : Operand) (ho : o.op = .load 132 x) (g : Nat) (hx : a.eval x = .pointer (some ⟨g, 0, none⟩)) (L : List Nat)
  (hc : Blk w g 132 (vb L)) (h5 : L.length = 16) (h : wpList Tryz.prog ops Q rest (a.put o.dst (.agg (vb L))) w) : wpList Tryz.prog ops Q (o :: rest) a w :=
 wpList_loadG hw 132 x ho g 0 hx (byt L) _ (by have := rangeAt_blk hc; simpa [vb] using this) Tryz.underlying132 rfl (tagLn h5) h
theorem u8wrap (n : Nat) : IntKind.u8.wrap (n : Int) = ((n % 256 : Nat) : Int) := by simp [IntKind.wrap, IntKind.signed, IntKind.bits]
theorem shr_byte (n k : Nat) : IntKind.u8.wrap ((n : Int) / 2 ^ (8 * k)) = ((n / 256 ^ k % 256 : Nat) : Int) := by
 rw [show ((n : Int) / 2 ^ (8 * k)) = ((n / 2 ^ (8 * k) : Nat) : Int) by simp, u8wrap, show (2 : Nat) ^ (8 * k) = 256 ^ k by rw [Nat.pow_mul]]
def loW (n : List Nat) : Nat := n.getD 0 0 + n.getD 1 0 * 67108864 + n.getD 2 0 % 4096 * 4503599627370496
def hiW (n : List Nat) : Nat := n.getD 2 0 / 4096 + n.getD 3 0 * 16384 + n.getD 4 0 % 16777216 * 1099511627776
theorem words_form (n : List Nat) (h : lbel n 67108864 67108864) : form (loW n) 8 ++ form (hiW n) 8 = form (V5 n) 16 := by
 obtain ⟨h0, h1, h2, h3, h4⟩ := h
 rw [show (16 : Nat) = 8 + 8 from rfl, form_add 8 8, ← form_mod 8 (V5 n), ← form_mod 8 (V5 n / 256 ^ 8)]
 have e1 : V5 n % 256 ^ 8 = loW n := by
  rw [show (256 : Nat) ^ 8 = 18446744073709551616 from rfl]; simp only [V5, loW]; omega
 have e2 : V5 n / 256 ^ 8 % 256 ^ 8 = hiW n := by
  rw [show (256 : Nat) ^ 8 = 18446744073709551616 from rfl]; simp only [V5, hiW]; omega
 rw [e1, e2]
theorem or26 (a b : Nat) (ha : a < 67108864) (hb : b < 67108864) : Go.bits BinOp.or IntKind.u64 (a : Int) ((b : Int) * 67108864) = ((a + b * 67108864 : Nat) : Int) := by
 rw [show (b : Int) * 67108864 = ((b * 2 ^ 26 : Nat) : Int) by omega, or_n a b 26 (by omega) (by decide) (by omega)]
theorem or52 (a b : Nat) (ha : a < 4503599627370496) (hb : b < 4096) : Go.bits BinOp.or IntKind.u64 (a : Int) ((b * 4503599627370496 : Nat) : Int) = ((a + b * 4503599627370496 : Nat) : Int) := by
 rw [show b * 4503599627370496 = b * 2 ^ 52 by omega, or_n a b 52 (by omega) (by decide) (by omega)]
theorem or14 (a b : Nat) (ha : a < 16384) (hb : b < 67108864) : Go.bits BinOp.or IntKind.u64 (a : Int) ((b : Int) * 16384) = ((a + b * 16384 : Nat) : Int) := by
 rw [show (b : Int) * 16384 = ((b * 2 ^ 14 : Nat) : Int) by omega, or_n a b 14 (by omega) (by decide) (by omega)]
theorem or40 (a b : Nat) (ha : a < 1099511627776) (hb : b < 16777216) : Go.bits BinOp.or IntKind.u64 (a : Int) ((b * 1099511627776 : Nat) : Int) = ((a + b * 1099511627776 : Nat) : Int) := by
 rw [show b * 1099511627776 = b * 2 ^ 40 by omega, or_n a b 40 (by omega) (by decide) (by omega)]
theorem bytes_c (n : List Nat) (w : World) (hn : n.length = 5) (hb : lbel n 67108864 67108864) :
  Calls Tryz.prog 126 #[.agg (vq n)] w fun e w' => e = .returned (.agg (vb (form (V5 n) 16))) ∧ Below w.heap.size w w' := by
 have zf := zero_tag
 have zs1 : zT.size = 16 := by rfl
 have zs2 : ¬ zT = #[] := by intro h; have := congrArg Array.size h; rw [zs1] at this; cases this
 have nsz : (vq n).size = 5 := by rw [vq_size, hn]
 have HWF := Li (words_form n hb)
 obtain ⟨h0, h1, h2, h3, h4⟩ := hb
 obtain ⟨lo, hlo⟩ : ∃ lo, lo = loW n := ⟨_, rfl⟩
 obtain ⟨hi, hhi⟩ : ∃ hi, hi = hiW n := ⟨_, rfl⟩
 rw [← hlo, ← hhi] at HWF
 obtain ⟨Z, hZ⟩ : ∃ Z, Z = (w.alloc (Obj.cells (vq n) 186)).alloc (Obj.cells zT 132) := ⟨_, rfl⟩
 have A0 := show Blk Z w.heap.size 186 (vq n) by rw [hZ]; exact (Blk.new w _ _).alloc _
 have E0 := Li (show Blk Z (w.heap.size + 1) 132 zT by
  have h1 := Blk.new (w.alloc (Obj.cells (vq n) 186)) 132 zT
  rw [show (w.alloc (Obj.cells (vq n) 186)).heap.size = w.heap.size + 1 by simp] at h1
  rw [hZ]; exact h1)
 have B0 := Li (show Below w.heap.size w Z by rw [hZ]; exact ((jE _ _).alloc (jD _) _).alloc (by simp) _)
 have c0 := (A0.cell 0).trans (vq_at n 0 (by omega))
 have c1 := (A0.cell 1).trans (vq_at n 1 (by omega))
 have c2 := (A0.cell 2).trans (vq_at n 2 (by omega))
 have c3 := (A0.cell 3).trans (vq_at n 3 (by omega))
 have c4 := (A0.cell 4).trans (vq_at n 4 (by omega))
 clear A0
 unfold loW at hlo
 unfold hiW at hhi
 generalize n.getD 0 0 = n0 at *
 generalize n.getD 1 0 = n1 at *
 generalize n.getD 2 0 = n2 at *
 generalize n.getD 3 0 = n3 at *
 generalize n.getD 4 0 = n4 at *
 obtain ⟨l1, hl1⟩ : ∃ l1, l1 = n0 + n1 * 67108864 := ⟨_, rfl⟩
 obtain ⟨l2, hl2⟩ : ∃ l2, l2 = n2 % 4096 * 4503599627370496 := ⟨_, rfl⟩
 obtain ⟨g1, hg1⟩ : ∃ g1, g1 = n2 / 4096 + n3 * 16384 := ⟨_, rfl⟩
 obtain ⟨g2, hg2⟩ : ∃ g2, g2 = n4 % 16777216 * 1099511627776 := ⟨_, rfl⟩
 have f1 : bits BinOp.or IntKind.u64 (n0 : Int) ((n1 : Int) * 67108864) = (l1 : Int) := by rw [or26 _ _ h0 h1, hl1]
 have f2 : IntKind.u64.wrap ((n2 : Int) * 4503599627370496) = (l2 : Int) := by
  rw [show (n2 : Int) * 4503599627370496 = ((n2 * 4503599627370496 : Nat) : Int) by omega, wrap_nat, hl2]; omega
 have f3 : bits BinOp.or IntKind.u64 (l1 : Int) (l2 : Int) = (lo : Int) := by
  rw [hl2, or52 _ _ (by omega) (by omega), hlo, hl1]
 have f4 : bits BinOp.or IntKind.u64 ((n2 : Int) / 4096) ((n3 : Int) * 16384) = (g1 : Int) := by
  rw [show (4096 : Int) = ((4096 : Nat) : Int) from rfl, ediv_nat, or14 _ _ (by omega) h3, hg1]
 have f5 : IntKind.u64.wrap ((n4 : Int) * 1099511627776) = (g2 : Int) := by
  rw [show (n4 : Int) * 1099511627776 = ((n4 * 1099511627776 : Nat) : Int) by omega, wrap_nat, hg2]; omega
 have f6 : bits BinOp.or IntKind.u64 (g1 : Int) (g2 : Int) = (hi : Int) := by
  rw [hg2, or40 _ _ (by omega) (by omega), hhi, hg1]
 have hlo64 : lo < 18446744073709551616 := by omega
 have hhi64 : hi < 18446744073709551616 := by omega
 clear hl1 hl2 hg1 hg2 hlo hhi
 go_enter Tryz.func126, Tryz.ntmps126
 go_upto_region 1 with fail
 rw [← hZ]
 clear hZ
 go_upto_region 4 with fail
 have hzn := (Blk.new Z 132 zT)
 have ST0 := Li (show TgSt w (Z.alloc (Obj.cells zT 132)) (w.heap.size + 1) Z.heap.size (List.replicate 16 0) from
  ⟨rfl, hzn, E0.out.alloc _, B0.out.alloc B0.out.size _, B0.out.size, Nat.ne_of_lt E0.out.lt⟩)
 clear hzn c0 c1 c2 c3 c4 E0 B0 f1 f2 f3 f4 f5 f6
 generalize Z.alloc (Obj.cells zT 132) = W0 at *
 generalize Z.heap.size = go at *
 go_wp2_with fail
 go_loopw [28] (fun i wr => ∃ (k : Nat) (O : List Nat), k ≤ 8 ∧ i = .int .i64 (k : Int) ∧ TgSt w wr (w.heap.size + 1) go O ∧ (∀ j, j < 8 → O.getD j 0 = if j < k then lo / 256 ^ j % 256 else 0) ∧ ∀ j, j < 8 → O.getD (8 + j) 0 = if j < k then hi / 256 ^ j % 256 else 0) (fun i _ => 8 - (intOf i).toNat)
 case atStart => exact ⟨0, List.replicate 16 0, by omega, rfl, ST0.out, fun j hj => by
   rw [if_neg (Nat.not_lt_zero j)]; exact rep_at _ _, fun j hj => by
   rw [if_neg (Nat.not_lt_zero j)]; exact rep_at _ _⟩
 case round =>
  rename World => wr
  obtain ⟨k, O, hk, rfl, hst, hO1, hO2⟩ := hrel
  have ST := Li hst
  have H1 := Li hO1
  have H2 := Li hO2
  clear hst hO1 hO2 ST0
  by_cases hlt : k < 8
  ·have p1 : (k : Int) < 8 := by omega
   obtain ⟨k8, hk8⟩ : ∃ k8, k8 = 8 + k := ⟨_, rfl⟩
   have q8 : 8 + (k : Int) = (k8 : Int) := by omega
   have q16 : (k8 : Int) < 16 := by omega
   have q17 : (k : Int) < 16 := by omega
   have d0 := ST.out.cell k (by omega)
   have e0 := ST.out.at_.free k
   have st1 := ST.out.set k (lo / 256 ^ k % 256)
   have d1 := st1.cell k8 (by omega)
   have e1 := st1.at_.free k8
   have r1 := shr_byte lo k
   have r2 := shr_byte hi k
   have HK8 := Li hk8
   obtain ⟨b1, hb1⟩ : ∃ b1, b1 = lo / 256 ^ k % 256 := ⟨_, rfl⟩
   obtain ⟨b2, hb2⟩ : ∃ b2, b2 = hi / 256 ^ k % 256 := ⟨_, rfl⟩
   rw [← hb1] at r1 d1 e1 st1
   rw [← hb2] at r2
   have HB1 := Li hb1
   have HB2 := Li hb2
   have ST1 := Li st1
   clear hk8 hb1 hb2 st1
   go_wp2_with fail
   refine ⟨⟨k + 1, (O.set k b1).set k8 b2, by omega, rfl, ST1.out.set k8 b2, fun j hj => ?_, fun j hj => ?_⟩, by simp only [intOf]; omega⟩
   ·have h8 := HK8.out
    rw [getD_set _ _ _ _ (by rw [ST1.out.len]; omega), if_neg (by omega), getD_set _ _ _ _ (by rw [ST.out.len]; omega), H1.out j hj, HB1.out]
    by_cases hjk : j = k
    ·subst hjk; rw [if_pos rfl, if_pos (Nat.lt_succ_self _)]
    ·rw [if_neg hjk]
     by_cases h3 : j < k
     ·rw [if_pos h3, if_pos (by omega)]
     ·rw [if_neg h3, if_neg (by omega)]
   ·have h8 := HK8.out
    rw [getD_set _ _ _ _ (by rw [ST1.out.len]; omega)]
    by_cases hjk : j = k
    ·rw [if_pos (by omega), if_pos (by omega), hjk, HB2.out]
    ·rw [if_neg (by omega), getD_set _ _ _ _ (by rw [ST.out.len]; omega), if_neg (by omega), H2.out j hj]
     by_cases h3 : j < k
     ·rw [if_pos h3, if_pos (by omega)]
     ·rw [if_neg h3, if_neg (by omega)]
  ·obtain rfl : k = 8 := by omega
   have HE := Li (show O = form (V5 n) 16 by
    rw [← HWF.out]
    refine list_ext (by rw [ST.out.len, jC, form_len, form_len]) fun j hj => ?_
    rw [ST.out.len] at hj
    by_cases h8 : j < 8
    ·rw [H1.out j h8, if_pos h8, getD_app_l _ _ _ (by rw [form_len]; exact h8), form_at 8 lo j h8]
    ·have e := H2.out (j - 8) (by omega)
     rw [show 8 + (j - 8) = j by omega] at e
     rw [e, if_pos (by omega), getD_app_r _ _ _ (by rw [form_len]; omega), form_len, form_at 8 hi _ (by omega)])
   clear H1 H2
   have HSZ := Li (tagSz ST.out.len)
   have HQ := Li (show zT.size = (vb O).size by rw [vb_size, ST.out.len]; rfl)
   go_wp2_with (first
    | (refine wpList_loadT rfl (.tmp 5) rfl go rfl O ST.out.at_ ST.out.len ?_)
    | (refine wpList_store_rowTo rfl 132 (.tmp 2) (.tmp 49) rfl rfl (w.heap.size + 1) (vb O) rfl rfl 132 zT ST.out.out HSZ.out HQ.out (vb_one _) ?_))
   first
    | rw [Exit.noGoto_ret]
    | skip
   refine bodyPost_ret (results_cell_row rfl _ _ (w.heap.size + 1) 132 (vb O) (0, 0) _ rfl (setRow_heap _ _ zT _ 132 (0, 0) ST.out.out) Tryz.underlying132 rfl HSZ.out) rfl ?_
   exact ⟨by rw [HE.out], below_row ST.out.bel (by omega) _⟩
theorem plus_c (X Y : Nat) (ad : Addr) (ca : Nat) (w : World) (hr : Rd w w.heap.size (some ad) (byt (form Y 16))) (hca : 16 ≤ ca) :
  Calls Tryz.prog 124 #[.agg (vb (form X 16)), .slice (some ad) 16 ca] w fun e w' => e = .returned (.agg (vb (form (X + Y) 16))) ∧ Below w.heap.size w w' := by
 have zf := zero_tag
 have zs1 : zT.size = 16 := by rfl
 have zs2 : ¬ zT = #[] := by intro h; have := congrArg Array.size h; rw [zs1] at this; cases this
 have nsz : (vb (form X 16)).size = 16 := by rw [vb_size, form_len]
 have HR := Li hr
 clear hr
 obtain ⟨FX, hFX⟩ : ∃ FX, FX = form X 16 := ⟨_, rfl⟩
 have HFX := Li (show ∀ j, j < 16 → FX.getD j 0 = X / 256 ^ j % 256 from fun j hj => by rw [hFX, form_at _ _ _ hj])
 have HFL := Li (show FX.length = 16 by rw [hFX, form_len])
 rw [← hFX] at nsz
 rw [← hFX]
 clear hFX
 obtain ⟨FY, hFY⟩ : ∃ FY, FY = form Y 16 := ⟨_, rfl⟩
 have HFY := Li (show ∀ j, j < 16 → FY.getD j 0 = Y / 256 ^ j % 256 from fun j hj => by rw [hFY, form_at _ _ _ hj])
 have HYL := Li (show FY.length = 16 by rw [hFY, form_len])
 rw [← hFY] at HR
 clear hFY
 obtain ⟨Z, hZ⟩ : ∃ Z, Z = (w.alloc (Obj.cells (vb FX) 132)).alloc (Obj.cells zT 132) := ⟨_, rfl⟩
 have A0 := Li (show Blk Z w.heap.size 132 (vb FX) by rw [hZ]; exact (Blk.new w _ _).alloc _)
 have E0 := Li (show Blk Z (w.heap.size + 1) 132 zT by
  have h1 := Blk.new (w.alloc (Obj.cells (vb FX) 132)) 132 zT
  rw [show (w.alloc (Obj.cells (vb FX) 132)).heap.size = w.heap.size + 1 by simp] at h1
  rw [hZ]; exact h1)
 have B0 := Li (show Below w.heap.size w Z by rw [hZ]; exact ((jE _ _).alloc (jD _) _).alloc (by simp) _)
 have ST0 := Li (show TgSt w Z (w.heap.size + 1) w.heap.size FX from ⟨HFL.out, A0.out, E0.out, B0.out, jD _, by omega⟩)
 go_enter Tryz.func124, Tryz.ntmps124
 go_upto_region 1 with fail
 rw [← hZ]
 clear hZ A0 E0 B0
 go_wp2_with fail
 go_loopw [5, 11] (fun c i wr => ∃ (k : Nat) (O : List Nat), k ≤ 16 ∧ i = .int .i64 (k : Int) ∧ c = .int .u64 (pcy X Y k : Nat) ∧ TgSt w wr (w.heap.size + 1) w.heap.size O ∧ ∀ j, j < 16 → O.getD j 0 = if j < k then (X + Y) / 256 ^ j % 256 else FX.getD j 0) (fun _ i _ => 16 - (intOf i).toNat)
 case atStart => exact ⟨0, FX, by omega, rfl, rfl, ST0.out, fun j _ => by rw [if_neg (Nat.not_lt_zero j)]⟩
 case round =>
  rename World => wr
  obtain ⟨k, O, hk, rfl, rfl, hst, hO⟩ := hrel
  have ST := Li hst
  have HO := Li hO
  clear hst hO ST0
  by_cases hlt : k < 16
  ·have p1 : (k : Int) < 16 := by omega
   have q17 : (k : Int) < 16 := by omega
   have d0 := ST.out.cell k hlt
   rw [HO.out k hlt, if_neg (Nat.lt_irrefl k), HFX.out k hlt] at d0
   have e0 := ST.out.at_.free k
   obtain ⟨ad', e1, _, q0⟩ := (HR.out.below ST.out.bel).byte (k := k) (by rw [HYL.out]; exact hlt)
   cases e1
   rw [HFY.out k hlt] at q0
   have ha : X / 256 ^ k % 256 < 256 := Nat.mod_lt _ (by decide)
   have hy : Y / 256 ^ k % 256 < 256 := Nat.mod_lt _ (by decide)
   have hc := pcy_le X Y k
   have HV := Li (pcy_byte X Y k)
   have HC := Li (show pcy X Y (k + 1) = (pcy X Y k + X / 256 ^ k % 256 + Y / 256 ^ k % 256) / 256 from rfl)
   obtain ⟨v, hv⟩ : ∃ v, v = (X + Y) / 256 ^ k % 256 := ⟨_, rfl⟩
   rw [← hv] at HV
   have VV := Li hv
   clear hv
   generalize X / 256 ^ k % 256 = a at *
   generalize Y / 256 ^ k % 256 = y at *
   generalize pcy X Y k = c at *
   have f1 : IntKind.u8.wrap ((c : Int) + ((a : Int) + (y : Int))) = (v : Int) := by
    rw [show (c : Int) + ((a : Int) + (y : Int)) = ((c + a + y : Nat) : Int) by omega, u8wrap, HV.out]
   go_wp2_with fail
   refine ⟨⟨k + 1, O.set k v, by omega, rfl, by rw [HC.out]; congr 1; omega, ST.out.set k v, fun j hj => ?_⟩, by simp only [intOf]; omega⟩
   rw [getD_set _ _ _ _ (by rw [ST.out.len]; exact hlt), HO.out j hj, VV.out]
   by_cases hjk : j = k
   ·subst hjk; rw [if_pos rfl, if_pos (Nat.lt_succ_self _)]
   ·rw [if_neg hjk]
    by_cases h3 : j < k
    ·rw [if_pos h3, if_pos (by omega)]
    ·rw [if_neg h3, if_neg (by omega)]
  ·obtain rfl : k = 16 := by omega
   have HE := Li (show O = form (X + Y) 16 by
    refine list_ext (by rw [ST.out.len, form_len]) fun j hj => ?_
    rw [ST.out.len] at hj
    rw [HO.out j hj, if_pos hj, form_at 16 _ j hj])
   clear HO
   have HSZ := Li (tagSz ST.out.len)
   have HQ := Li (show zT.size = (vb O).size by rw [vb_size, ST.out.len]; rfl)
   go_wp2_with (first
    | (refine wpList_loadT rfl (.tmp 2) rfl w.heap.size rfl O ST.out.at_ ST.out.len ?_)
    | (refine wpList_store_rowTo rfl 132 (.tmp 4) (.tmp 32) rfl rfl (w.heap.size + 1) (vb O) rfl rfl 132 zT ST.out.out HSZ.out HQ.out (vb_one _) ?_))
   first
    | rw [Exit.noGoto_ret]
    | skip
   refine bodyPost_ret (results_cell_row rfl _ _ (w.heap.size + 1) 132 (vb O) (0, 0) _ rfl (setRow_heap _ _ zT _ 132 (0, 0) ST.out.out) Tryz.underlying132 rfl HSZ.out) rfl ?_
   exact ⟨by rw [HE.out], below_row ST.out.bel (by omega) _⟩
theorem copy_b (w : World) (g : Nat) (T : TypeId) (D : List Nat) (nd cd ca : Nat) (ad : Addr) (k : List Nat) (m : Nat) (hm : m = min k.length nd) (hb : Blk w g T (vb D)) (hr : ∀ j u, (byt k)[j]? = some u → w.cell? (ad.add j) = some u) (hfit : m ≤ D.length) :
  (Builtin.copy_ #[23, 23] 3 #[.slice (some ⟨g, 0, none⟩) nd cd, .slice (some ad) k.length ca]).run Tryz.prog w = .ok (.int .i64 (m : Int)) (w.setRow g (vb (k.take m ++ D.drop m))) := by
 obtain ⟨i0, hi, hz0, hz1, hz2⟩ := info_parts byteInfo
 have hml : (byt (k.take m)).length = m := by rw [byt_len, List.length_take]; omega
 have h1 := run_copy_row (P := Tryz.prog) w 23 23 3 5 g 0 nd cd ad k.length ca (vb D) T (byt (k.take m)) Tryz.underlying23 (by rw [hi]; simp [hz1]) hb (by rw [hml, hm]) (fun j v h => hr j v (by
   rw [byt, List.map_take] at h
   rw [byt]
   rw [List.getElem?_take] at h
   split at h
   ·exact h
   ·cases h)) (by rw [hml, vb_size]; omega) (byt_one _)
 rw [hml] at h1
 refine h1.trans ?_
 simp [vb, byt, List.map_drop]
 try rfl
theorem u8_and252 : ∀ c : Nat, c < 256 → c &&& 252 = c / 4 * 4 := by decide +kernel
theorem and252 (c : Nat) (h : c < 256) : bits BinOp.and .u8 (c : Int) 252 = ((c / 4 * 4 : Nat) : Int) := by
 rw [show (252 : Int) = ((252 : Nat) : Int) from rfl, u8_and_nat _ _ h (by decide), u8_and252 c h]
theorem u8_and15' : ∀ c : Nat, c < 256 → c &&& 15 = c % 16 := by decide +kernel
theorem and15 (c : Nat) (h : c < 256) : bits BinOp.and .u8 (c : Int) 15 = ((c % 16 : Nat) : Int) := by
 rw [show (15 : Int) = ((15 : Nat) : Int) from rfl, u8_and_nat _ _ h (by decide), u8_and15' c h]
def zl17 : List Nat := List.replicate 17 0
theorem zero_b17 (w : World) : (zeroValue 192).run Tryz.prog w = .ok (.agg (vb zl17)) w := by kernel_rfl
structure ClSt (w wr : World) (gr go : Nat) (O : List Nat) : Prop where
 len : O.length = 17
 at_ : Blk wr go 192 (vb O)
 out : Blk wr gr 186 zN5
 bel : Below w.heap.size w wr
 gg : w.heap.size ≤ go
 ne : gr ≠ go
theorem ClSt.set {w wr : World} {gr go : Nat} {O : List Nat} (h : ClSt w wr gr go O) (k v : Nat) : ClSt w (wr.setCell ⟨go, k, none⟩ (.int .u8 (v : Int))) gr go (O.set k v) :=
 ⟨by rw [List.length_set]; exact h.len, by rw [← vb_set]; exact h.at_.set_ _ _, h.out.far (by show gr ≠ go; exact h.ne) _, h.bel.setCell (by show w.heap.size ≤ go; exact h.gg) _, h.gg, h.ne⟩
theorem ClSt.cell {w wr : World} {gr go : Nat} {O : List Nat} (h : ClSt w wr gr go O) (k : Nat) (hk : k < 17) : wr.cell? ⟨go, k, none⟩ = some (.int .u8 (O.getD k 0 : Nat)) :=
 (h.at_.cell k).trans (vb_at _ k (by rw [h.len]; exact hk))
theorem b17Ln {L : List Nat} (h : L.length = 17) : (Tryz.prog.info? 192).map (·.size) = some (byt L).length := by rw [byt_len, h]; kernel_rfl
theorem wpList_load17 {ops : Array Oper} {rest : List Oper} {o : Oper} {a : Act} {w : World} {Q : Exit → Act → World → Prop} (hw : Region.wanted o (yielded ops a.tmps) = true) (x : Operand) (ho : o.op = .load 192 x) (g : Nat) (hx : a.eval x = .pointer (some ⟨g, 0, none⟩)) (L : List Nat)
  (hc : Blk w g 192 (vb L)) (h5 : L.length = 17) (h : wpList Tryz.prog ops Q rest (a.put o.dst (.agg (vb L))) w) : wpList Tryz.prog ops Q (o :: rest) a w :=
 wpList_loadG hw 192 x ho g 0 hx (byt L) _ (by have := rangeAt_blk hc; simpa [vb] using this) Tryz.underlying192 rfl (b17Ln h5) h
def clB (k : List Nat) (i i2 j : Nat) : Nat := if j % 4 = 3 ∧ j < i ∧ j < 16 then k.getD j 0 % 16 else if j % 4 = 0 ∧ 0 < j ∧ j < i2 ∧ j < 16 then k.getD j 0 / 4 * 4 else if j < 16 then k.getD j 0 else 0
theorem clamp_end (k O : List Nat) (h17 : O.length = 17) (h : ∀ j, j < 17 → O.getD j 0 = clB k 19 16 j) : O = clampL k ++ [0] := by
 refine list_ext (by rw [h17]; rfl) fun j hj => ?_
 rw [h17] at hj
 rw [h j hj]
 have : j = 0 ∨ j = 1 ∨ j = 2 ∨ j = 3 ∨ j = 4 ∨ j = 5 ∨ j = 6 ∨ j = 7 ∨ j = 8 ∨ j = 9 ∨ j = 10 ∨ j = 11 ∨ j = 12 ∨ j = 13 ∨ j = 14 ∨ j = 15 ∨ j = 16 := by omega
 rcases this with rfl | rfl | rfl | rfl | rfl | rfl | rfl | rfl | rfl | rfl | rfl | rfl | rfl | rfl | rfl | rfl | rfl <;> rfl
theorem clamped_c (k : List Nat) (w : World) (hk : k.length = 32) (hl : ∀ c ∈ k, c < 256) :
  Calls Tryz.prog 118 #[.agg (vb k)] w fun e w' => e = .returned (.agg (vq (limbL (number (clampL k))))) ∧ Below w.heap.size w w' := by
 have zf := zero_num
 have zs1 : zN5.size = 5 := by rfl
 have zs2 : ¬ zN5 = #[] := by intro h; have := congrArg Array.size h; rw [zs1] at this; cases this
 have zg := zero_b17
 have zg1 : (vb zl17).size = 17 := by rfl
 have ksz : (vb k).size = 32 := by rw [vb_size, hk]
 have HK := Li hk
 have HL := Li (fun j => getD_lt hl j)
 have HLM := Li (show ∀ c ∈ clampL k ++ [0], c < 256 from fun c hc => by
  rcases List.mem_append.1 hc with h | h
  ·obtain ⟨i, _, rfl⟩ := List.mem_map.1 h
   have := getD_lt hl i
   unfold clampB
   split
   ·omega
   ·split <;> omega
  ·rw [List.mem_singleton.1 h]; decide)
 have HNUM := Li (show number (clampL k ++ [0]) = number (clampL k) by rw [number_append]; simp [number])
 obtain ⟨Z, hZ⟩ : ∃ Z, Z = ((w.alloc (Obj.cells (vb k) 45)).alloc (Obj.cells zN5 186)).alloc (Obj.cells (vb zl17) 192) := ⟨_, rfl⟩
 have A0 := Li (show Blk Z w.heap.size 45 (vb k) by rw [hZ]; exact ((Blk.new w _ _).alloc _).alloc _)
 have E0 := Li (show Blk Z (w.heap.size + 1) 186 zN5 by
  have h1 := (Blk.new (w.alloc (Obj.cells (vb k) 45)) 186 zN5).alloc (Obj.cells (vb zl17) 192)
  rw [show (w.alloc (Obj.cells (vb k) 45)).heap.size = w.heap.size + 1 by simp] at h1
  rw [hZ]; exact h1)
 have C0 := Li (show Blk Z (w.heap.size + 1 + 1) 192 (vb zl17) by
  have h1 := Blk.new ((w.alloc (Obj.cells (vb k) 45)).alloc (Obj.cells zN5 186)) 192 (vb zl17)
  rw [show ((w.alloc (Obj.cells (vb k) 45)).alloc (Obj.cells zN5 186)).heap.size = w.heap.size + 1 + 1 by simp] at h1
  rw [hZ]; exact h1)
 have B0 := Li (show Below w.heap.size w Z by rw [hZ]; exact (((jE _ _).alloc (jD _) _).alloc (by simp) _).alloc (by simp; omega) _)
 clear hl
 go_enter Tryz.func118, Tryz.ntmps118
 go_upto_region 2 with fail
 rw [← hZ]
 clear hZ
 refine wp_region_loudTail 2 Z [] (fun _ _ _ => True) (by kernel_rfl) (by kernel_rfl) (by kernel_rfl) (by kernel_rfl) (fun _ _ _ _ h hb => True.intro) (jE _ _).drew ?_
 simp only [List.take_succ_cons, List.take_zero, List.drop_succ_cons, List.drop_zero]
 repeat (refine wpLoud_plain rfl rfl rfl ?_; intro K hK; go_big_quiet_op; go_big_quiet_on)
 refine wpLoud_end [] (by rfl) ?_
 intro g z hg
 have A1 := Li (A0.out.below z.bel A0.out.lt)
 have E1 := Li (E0.out.below z.bel E0.out.lt)
 have C1 := Li (C0.out.below z.bel C0.out.lt)
 have B1 := Li (B0.out.trans (z.bel.mono B0.out.size))
 clear A0 E0 C0 B0
 generalize z.wd = Y at *
 simp only [fill, Act.put, sI, sS, sZ]
 have hcopy := copy_b Y (w.heap.size + 1 + 1) 192 zl17 16 17 32 ⟨w.heap.size, 0, none⟩ k 16 (by rw [HK.out]; rfl) C1.out (fun j u hu => by
  have h1 := A1.out.cell j
  have e : (Addr.add ⟨w.heap.size, 0, none⟩ j) = ⟨w.heap.size, j, none⟩ := by cases j <;> simp [Addr.add]
  rw [e, h1]
  simpa [vb] using hu) (by decide)
 rw [HK.out] at hcopy
 obtain ⟨D0, hD0⟩ : ∃ D0, D0 = k.take 16 ++ zl17.drop 16 := ⟨_, rfl⟩
 rw [← hD0] at hcopy
 have HD0 := Li (show ∀ j, j < 17 → D0.getD j 0 = clB k 3 4 j from fun j hj => by
  rw [hD0]
  unfold clB
  rw [if_neg (by omega), if_neg (by omega)]
  by_cases h : j < 16
  ·rw [if_pos h, getD_app_l _ _ _ (by rw [List.length_take, HK.out]; exact h), jA, List.getElem?_take_of_lt h, jA]
  ·obtain rfl : j = 16 := by omega
   rw [if_neg h, getD_app_r _ _ _ (by rw [List.length_take, HK.out]; decide), List.length_take, HK.out]; rfl)
 have hDl : D0.length = 17 := by rw [hD0, jC, List.length_take, HK.out]; rfl
 have ST0 := Li (show ClSt w (Y.setRow (w.heap.size + 1 + 1) (vb D0)) (w.heap.size + 1) (w.heap.size + 1 + 1) D0 from
  ⟨hDl, setRow_heap _ _ _ _ _ (0, 0) C1.out, (setRow_other _ _ _ _ (by omega)).trans E1.out, below_row B1.out (by omega) _, by omega, by omega⟩)
 clear hD0 hDl A1 E1 C1 B1
 obtain ⟨Y2, hY2⟩ : ∃ Y2, Y2 = Y.setRow (w.heap.size + 1 + 1) (vb D0) := ⟨_, rfl⟩
 rw [← hY2] at hcopy ST0
 clear hY2
 go_wp2_with fail
 clear hcopy
 go_loopw [4] (fun i wr => ∃ (q : Nat) (O : List Nat), q ≤ 4 ∧ i = .int .i64 ((4 * q + 3 : Nat) : Int) ∧ ClSt w wr (w.heap.size + 1) (w.heap.size + 1 + 1) O ∧ ∀ j, j < 17 → O.getD j 0 = clB k (4 * q + 3) 4 j) (fun i _ => 19 - (intOf i).toNat)
 case atStart => exact ⟨0, D0, by omega, rfl, ST0.out, HD0.out⟩
 case round =>
  rename World => wr
  obtain ⟨q, O, hq, rfl, hst, hO⟩ := hrel
  have ST := Li hst
  have HO := Li hO
  clear hst hO ST0 HD0
  by_cases hlt : q < 4
  ·obtain ⟨i, hi⟩ : ∃ i, i = 4 * q + 3 := ⟨_, rfl⟩
   rw [← hi]
   have p1 : (i : Int) < 16 := by omega
   have p2 : (i : Int) < 17 := by omega
   have d0 := ST.out.cell i (by omega)
   have r0 : clB k (4 * q + 3) 4 i = k.getD i 0 := by
    unfold clB
    rw [if_neg (by omega), if_neg (by omega), if_pos (by omega)]
   rw [HO.out i (by omega), r0] at d0
   have e0 := ST.out.at_.free i
   have hc := HL.out i
   have f1 := and15 (k.getD i 0) hc
   obtain ⟨v, hv⟩ : ∃ v, v = k.getD i 0 % 16 := ⟨_, rfl⟩
   rw [← hv] at f1
   have VV := Li hv
   have HI := Li hi
   clear hv r0 hi
   generalize hcc : k.getD i 0 = c at *
   have HCC := Li hcc
   clear hcc
   go_wp2_with fail
   have hI := HI.out
   refine ⟨⟨q + 1, O.set i v, by omega, by congr 1; omega, ST.out.set i v, fun j hj => ?_⟩, by simp only [intOf]; omega⟩
   rw [getD_set _ _ _ _ (by rw [ST.out.len]; omega), HO.out j hj]
   unfold clB
   by_cases hji : j = i
   ·rw [if_pos hji, if_pos (by omega), VV.out, hji, HCC.out]
   ·rw [if_neg hji]
    by_cases h1 : j % 4 = 3 ∧ j < 4 * q + 3 ∧ j < 16
    ·rw [if_pos h1, if_pos (by omega)]
    ·rw [if_neg h1, if_neg (show ¬ (j % 4 = 3 ∧ j < 4 * (q + 1) + 3 ∧ j < 16) by omega)]
  ·obtain rfl : q = 4 := by omega
   clear zf zs1 zs2 zg zg1
   rw [show ((4 * 4 + 3 : Nat) : Int) = 19 from rfl]
   have HO19 := Li (show ∀ j, j < 17 → O.getD j 0 = clB k 19 4 j from HO.out)
   go_wp2_with fail
   go_loopw [5] (fun i wr => ∃ (q : Nat) (O : List Nat), q ≤ 3 ∧ i = .int .i64 ((4 * q + 4 : Nat) : Int) ∧ ClSt w wr (w.heap.size + 1) (w.heap.size + 1 + 1) O ∧ ∀ j, j < 17 → O.getD j 0 = clB k 19 (4 * q + 4) j) (fun i _ => 16 - (intOf i).toNat)
   case atStart => exact ⟨0, O, by omega, rfl, ST.out, HO19.out⟩
   case round =>
    rename World => wq
    obtain ⟨q, O', hq, rfl, hst, hO⟩ := hrel
    clear ST HO HO19
    have ST := Li hst
    have HO := Li hO
    clear hst hO
    by_cases hlt : q < 3
    ·obtain ⟨i, hi⟩ : ∃ i, i = 4 * q + 4 := ⟨_, rfl⟩
     rw [← hi]
     have p1 : (i : Int) < 16 := by omega
     have p2 : (i : Int) < 17 := by omega
     have d0 := ST.out.cell i (by omega)
     have r0 : clB k 19 (4 * q + 4) i = k.getD i 0 := by
      unfold clB
      rw [if_neg (by omega), if_neg (by omega), if_pos (by omega)]
     rw [HO.out i (by omega), r0] at d0
     have e0 := ST.out.at_.free i
     have hc := HL.out i
     have f1 := and252 (k.getD i 0) hc
     obtain ⟨v, hv⟩ : ∃ v, v = k.getD i 0 / 4 * 4 := ⟨_, rfl⟩
     rw [← hv] at f1
     have VV := Li hv
     have HI := Li hi
     clear hv r0 hi
     generalize hcc : k.getD i 0 = c at *
     have HCC := Li hcc
     clear hcc
     go_wp2_with fail
     have hI := HI.out
     refine ⟨⟨q + 1, O'.set i v, by omega, by congr 1; omega, ST.out.set i v, fun j hj => ?_⟩, by simp only [intOf]; omega⟩
     rw [getD_set _ _ _ _ (by rw [ST.out.len]; omega), HO.out j hj]
     unfold clB
     by_cases hji : j = i
     ·rw [if_pos hji, if_neg (by omega), if_pos (by omega), VV.out, hji, HCC.out]
     ·rw [if_neg hji]
      by_cases h0 : j % 4 = 3 ∧ j < 19 ∧ j < 16
      ·rw [if_pos h0, if_pos h0]
      ·rw [if_neg h0, if_neg h0]
       by_cases h1 : j % 4 = 0 ∧ 0 < j ∧ j < 4 * q + 4 ∧ j < 16
       ·rw [if_pos h1, if_pos (by omega)]
       ·rw [if_neg h1, if_neg (show ¬ (j % 4 = 0 ∧ 0 < j ∧ j < 4 * (q + 1) + 4 ∧ j < 16) by omega)]
    ·obtain rfl : q = 3 := by omega
     have HE := Li (clamp_end k O' ST.out.len HO.out)
     clear HO
     rw [show ((4 * 3 + 4 : Nat) : Int) = 16 from rfl]
     have HLC := Li (fun W => limbs_c O' W ST.out.len (by rw [HE.out]; exact HLM.out))
     rw [HE.out, HNUM.out, ← HE.out] at HLC
     have HLE := Li (limbL_len (number (clampL k)))
     obtain ⟨R, hR⟩ : ∃ R, R = limbL (number (clampL k)) := ⟨_, rfl⟩
     rw [← hR] at HLC HLE
     have HRR := Li hR
     clear hR
     have HSZ := Li (numSz HLE.out)
     have HQ := Li (show zN5.size = (vq R).size by rw [vq_size, HLE.out]; rfl)
     go_wp2_with (first
      | (refine wpList_load17 rfl (.tmp 3) rfl (w.heap.size + 1 + 1) rfl O' ST.out.at_ ST.out.len ?_)
      | (go_at_call 122; (refine (HLC.out _).mono ?_); rintro e w1 ⟨rfl, hb⟩; have E2 := Li (ST.out.out.below hb ST.out.out.lt); have B2 := Li (ST.out.bel.trans (hb.mono ST.out.bel.size)); clear hb)
      | (refine wpList_store_rowTo rfl 186 (.tmp 2) (.tmp 28) rfl rfl (w.heap.size + 1) (vq R) rfl rfl 186 zN5 E2.out HSZ.out HQ.out (vq_one _) ?_))
     first
      | rw [Exit.noGoto_ret]
      | skip
     refine bodyPost_ret (results_cell_row rfl _ _ (w.heap.size + 1) 186 (vq R) (0, 0) _ rfl (setRow_heap _ _ zN5 _ 186 (0, 0) E2.out) Tryz.underlying186 rfl HSZ.out) rfl ?_
     exact ⟨by rw [HRR.out], below_row B2.out (by omega) _⟩
attribute [local go_sem] Oper.semAt_some
abbrev Blk16 (L : Nat) := { i : Nat // 16 * i < L }
def chunkV (g L : Nat) (x : Blk16 L) : Value := .slice (some ⟨g, 16 * x.1, none⟩) (min 16 (L - 16 * x.1)) (min 16 (L - 16 * x.1))
def upto16 (L : Nat) : Nat → List (Blk16 L)
 | 0 => []
 | k + 1 => if h : 16 * k < L then upto16 L k ++ [⟨k, h⟩] else upto16 L k
theorem upto16_len (L : Nat) : ∀ k, 16 * k < L + 16 → (upto16 L k).length = k
 | 0, _ => rfl
 | k + 1, h => by
  rw [upto16, dif_pos (show 16 * k < L by omega), jC, upto16_len L k (by omega)]
  rfl
theorem chunk_c (A : Option Addr) (L ca : Nat) (w : World) : Calls Tryz.prog 119 #[.slice A L ca, .int .i64 16] w fun e w' => e = .returned (.func (.func 134) #[] #[.pointer (some ⟨w.heap.size, 0, none⟩), .pointer (some ⟨w.heap.size + 1, 0, none⟩)]) ∧ w' = (w.alloc (.cells #[.slice A L ca] 23)).alloc (.cells #[.int .i64 16] 3) := by
 go_enter Tryz.func119, Tryz.ntmps119
 go_wp2_with fail
 go_ret
 exact ⟨rfl, rfl⟩
theorem grown_drewN {W : World} (q : Nat) : W.grownBy (W.drewN q) none := ⟨rfl, rfl, rfl, jD _, fun _ _ _ => rfl⟩
theorem chunk_in (n l Bs Bn g L ca : Nat) (Kp : World → World → Prop) (hKs : ∀ A B v, Kp A B → A.cell? ⟨Bs, 0, none⟩ = some v → B.cell? ⟨Bs, 0, none⟩ = some v) (hKn : ∀ A B v, Kp A B → A.cell? ⟨Bn, 0, none⟩ = some v → B.cell? ⟨Bn, 0, none⟩ = some v) (hn : 1 ≤ n) (hL : L ≤ 100000) (hcap : L ≤ ca) (hca : ca ≤ 9223372036854775807) (J Jx : List (Blk16 L) → World → Prop)
  (hJ : ∀ s A (q : Nat), J s A → J s (A.drewN q))
  (hY : ∀ pre x W, J pre W → pre.length < L + 1 → YieldAt Fence.wide (n - 1) Tryz.prog l #[chunkV g L x] W fun e W' =>
   (e = .returned (.bool true) ∧ J (pre ++ [x]) W' ∧ Kp W W') ∨ (e = .returned (.bool false) ∧ Jx (pre ++ [x]) W'))
  (W : World) (hs : W.cell? ⟨Bs, 0, none⟩ = some (.slice (some ⟨g, 0, none⟩) L ca)) (hbn : W.cell? ⟨Bn, 0, none⟩ = some (.int .i64 16)) (h0 : J [] W) :
  CallsIn Fence.wide n Tryz.prog 134 #[.func (.yield l) #[] #[], .pointer (some ⟨Bs, 0, none⟩), .pointer (some ⟨Bn, 0, none⟩)] W fun e W' => (∃ v, e = .returned v) ∧
   ((∃ ys, ys = upto16 L ((L + 15) / 16) ∧ J ys W') ∨ (∃ pre, True ∧ Jx pre W')) := by
 refine callsIn_of_wp Tryz.func134 rfl trivial ?_ rfl
 simp only [Tryz.ntmps134, List.size_toArray, List.length_cons, List.length_nil, Nat.reduceAdd, Nat.reduceSub, Array.replicate_succ, Array.replicate_zero, List.push_toArray, List.append_toArray, List.nil_append, List.cons_append]
 have HJ := Li hJ
 have HY := Li hY
 have HS := Li hs
 have HN := Li hbn
 clear hJ hY hs hbn
 gi_wp2
 gi_loopw [4] (fun i wr => ∃ k : Nat, 16 * k < L + 16 ∧ i = .int .i64 ((16 * k : Nat) : Int) ∧ J (upto16 L k) wr ∧ wr.cell? ⟨Bs, 0, none⟩ = some (.slice (some ⟨g, 0, none⟩) L ca) ∧ wr.cell? ⟨Bn, 0, none⟩ = some (.int .i64 16))
  (fun i _ => L + 16 - (intOf i).toNat)
 case atStart => exact ⟨0, by omega, rfl, h0, HS.out, HN.out⟩
 case round =>
  rename World => wr
  obtain ⟨k, hk, rfl, hJs, c1, c2⟩ := hrel
  have HJS := Li hJs
  clear hJs
  by_cases hk2 : 16 * k < L
  ·obtain ⟨m, hm⟩ : ∃ m, m = min 16 (L - 16 * k) := ⟨_, rfl⟩
   have hyx := fun q => HY.out (upto16 L k) ⟨k, hk2⟩ (wr.drewN q) (HJ.out _ _ q HJS.out) (by rw [upto16_len L k hk]; omega)
   have hcv : chunkV g L ⟨k, hk2⟩ = .slice (some ⟨g, 16 * k, none⟩) m m := by rw [hm]; rfl
   rw [hcv] at hyx
   have hup : upto16 L (k + 1) = upto16 L k ++ [⟨k, hk2⟩] := by rw [upto16, dif_pos hk2]
   rw [← hup] at hyx
   have HYX := Li hyx
   have HM := Li hm
   have hm16 : m ≤ 16 := by rw [hm]; exact Nat.min_le_left _ _
   have hmL : m ≤ L - 16 * k := by rw [hm]; exact Nat.min_le_right _ _
   clear hyx hcv hup hm
   obtain ⟨i, hi⟩ : ∃ i, i = 16 * k := ⟨_, rfl⟩
   have p1 : (i : Int) < (L : Int) := by omega
   have p2 : (i : Int) ≤ (L : Int) := by omega
   have p3 : (i : Int) ≤ (ca : Int) := by omega
   have p4 : (i : Int) + (m : Int) ≤ (ca : Int) := by omega
   have hmi : m = min 16 (L - i) := by rw [hi]; exact HM.out
   rw [← hi] at HYX ⊢
   have HI := Li hi
   clear hi hmL hm16 HM
   by_cases h16 : L - i < 16
   ·obtain rfl : m = L - i := by omega
    clear hmi
    have t1 : ((L - i : Nat) : Int) < 16 := by omega
    gi_wp2
    gi_quiet (fail)
    obtain ⟨fn, tmps, assign, body, hy, hR⟩ := HYX.out nq
    clear HYX
    gi_wp2
    refine hR.mono ?_
    rintro e W3 (⟨rfl, hJ3, hk3⟩ | ⟨rfl, hJx3⟩)
    ·have HJ3 := Li hJ3
     clear hJ3
     have c3 := hKs _ _ _ hk3 ((World.cell?_drewN ..).trans c1)
     have c4 := hKn _ _ _ hk3 ((World.cell?_drewN ..).trans c2)
     have C3 := Li c3
     have C4 := Li c4
     clear hk3
     gi_wp2
     go_roundw
     case rel => exact ⟨k + 1, by have := HI.out; omega, by have := HI.out; congr 1; omega, HJ3.out, C3.out, C4.out⟩
     case measure => have := HI.out; simp [intOf]; omega
    ·have HX := Li hJx3
     clear hJx3
     gi_wp2
     refine bodyPost_ret (results_none rfl _ _ _) rfl ?_
     exact ⟨⟨_, rfl⟩, .inr ⟨_, trivial, HX.out⟩⟩
   ·obtain rfl : m = 16 := by omega
    clear hmi
    have t1 : ¬ ((L - i : Nat) : Int) < 16 := by omega
    gi_wp2
    gi_quiet (fail)
    obtain ⟨fn, tmps, assign, body, hy, hR⟩ := HYX.out nq
    clear HYX
    gi_wp2
    refine hR.mono ?_
    rintro e W3 (⟨rfl, hJ3, hk3⟩ | ⟨rfl, hJx3⟩)
    ·have HJ3 := Li hJ3
     clear hJ3
     have c3 := hKs _ _ _ hk3 ((World.cell?_drewN ..).trans c1)
     have c4 := hKn _ _ _ hk3 ((World.cell?_drewN ..).trans c2)
     have C3 := Li c3
     have C4 := Li c4
     clear hk3
     gi_wp2
     go_roundw
     case rel => exact ⟨k + 1, by have := HI.out; omega, by have := HI.out; congr 1; omega, HJ3.out, C3.out, C4.out⟩
     case measure => have := HI.out; simp [intOf]; omega
    ·have HX := Li hJx3
     clear hJx3
     gi_wp2
     refine bodyPost_ret (results_none rfl _ _ _) rfl ?_
     exact ⟨⟨_, rfl⟩, .inr ⟨_, trivial, HX.out⟩⟩
  ·have e : (L + 15) / 16 = k := by omega
   have HE := Li e
   clear e
   have p1 : ¬ ((16 * k : Nat) : Int) < (L : Int) := by omega
   obtain ⟨i, hi⟩ : ∃ i, i = 16 * k := ⟨_, rfl⟩
   rw [← hi] at p1 ⊢
   clear hi
   gi_wp2
   go_end0
   exact ⟨⟨_, rfl⟩, .inl (by rw [HE.out]; exact HJS.out)⟩
theorem chunk0_in (n l Bs Bn : Nat) (A : Option Addr) (ca : Nat) (J : List (Blk16 0) → World → Prop) (W : World) (hs : W.cell? ⟨Bs, 0, none⟩ = some (.slice A 0 ca)) (h0 : J [] W) :
  CallsIn Fence.wide n Tryz.prog 134 #[.func (.yield l) #[] #[], .pointer (some ⟨Bs, 0, none⟩), .pointer (some ⟨Bn, 0, none⟩)] W fun e W' => (∃ v, e = .returned v) ∧ J [] W' := by
 refine callsIn_of_wp Tryz.func134 rfl trivial ?_ rfl
 simp only [Tryz.ntmps134, List.size_toArray, List.length_cons, List.length_nil, Nat.reduceAdd, Nat.reduceSub, Array.replicate_succ, Array.replicate_zero, List.push_toArray, List.append_toArray, List.nil_append, List.cons_append]
 have HJ := Li h0
 clear h0
 gi_wp2
 gi_loopw [4] (fun i wr => i = .int .i64 0 ∧ W = wr) (fun _ _ => 0)
 case atStart => exact ⟨rfl, rfl⟩
 case round =>
  obtain ⟨rfl, rfl⟩ := hrel
  gi_wp2
  go_end0
  exact ⟨⟨_, rfl⟩, HJ.out⟩
theorem chunk_stops (n Bs Bn g : Nat) (A : Option Addr) (L ca : Nat) (Kp : World → World → Prop) (hKs : ∀ A B v, Kp A B → A.cell? ⟨Bs, 0, none⟩ = some v → B.cell? ⟨Bs, 0, none⟩ = some v) (hKn : ∀ A B v, Kp A B → A.cell? ⟨Bn, 0, none⟩ = some v → B.cell? ⟨Bn, 0, none⟩ = some v) (hA : 0 < L → A = some ⟨g, 0, none⟩) (hn : 1 ≤ n) (hL : L ≤ 100000) (hcap : L ≤ ca) (hca : ca ≤ 9223372036854775807) (w : World) (hlt : Bs < w.heap.size) (hlt2 : Bn < w.heap.size)
  (hs : w.cell? ⟨Bs, 0, none⟩ = some (.slice A L ca)) (hbn : w.cell? ⟨Bn, 0, none⟩ = some (.int .i64 16)) :
  SeqStopsK Fence.wide n Tryz.prog 134 #[.pointer (some ⟨Bs, 0, none⟩), .pointer (some ⟨Bn, 0, none⟩)] (fun x : Blk16 L => #[chunkV g L x]) Kp (fun ys => ys = upto16 L ((L + 15) / 16)) (fun _ => True) (L + 1) w := fun l J Jx W hW hJ hJx hY h0 => by
 have hs' := (hW.cell (p := ⟨Bs, 0, none⟩) hlt).trans hs
 have hb' := (hW.cell (p := ⟨Bn, 0, none⟩) hlt2).trans hbn
 rcases Nat.eq_zero_or_pos L with rfl | h
 ·exact (chunk0_in n l Bs Bn A ca J W hs' h0).mono fun e W' ⟨he, hj⟩ => ⟨he, .inl ⟨_, rfl, hj⟩⟩
 ·obtain rfl := hA h
  exact chunk_in n l Bs Bn g L ca Kp hKs hKn hn hL hcap hca J Jx (fun s A q a => hJ s A _ none a (grown_drewN q) (fun r e => by cases e)) hY W hs' hb' h0
section
variable {P : Program} {ops : Array Oper} {md : Region.Mode} {S : World → Prop} {Q : Exit → Act → World → Prop}
theorem plain_value {o : Oper} {b : Act} {w : World} {v : Value} (hp : plainOp o.op = true) (h : o.quietAt P b S w v) : (execOp b.eval o).run P w = .ok (.value v) w := by
 unfold Oper.quietAt at h
 have hne := plain_run (P := P) (ρ := b.eval) hp w
 have hnk : ∀ w', (execOp b.eval o).run P w ≠ .ok .skip w' := by
  obtain ⟨dst, op, type, pos, after, guard⟩ := o
  have key : ∀ {α : Type} (s : Sem α) (g : α → Value) (w' : World), ((do pure (.value (g (← s))) : Sem Next)).run P w ≠ .ok .skip w' := by
   intro α s g w'
   rw [Sem.run_bind]
   cases s.run P w with
   | ok u w1 => simp [Result.andThen]
   | halt x w1 => simp [Result.andThen]
  intro w'
  cases op <;> simp only [plainOp] at hp <;> (try cases hp)
  case move x => simp [execOp]
  case assign x => simp [execOp]
  case pick c x y => exact key (asBool (b.eval c)) (fun t => if t then b.eval x else b.eval y) w'
  all_goals exact key _ (fun t => t) w'
 generalize (execOp b.eval o).run P w = r at *
 cases r with
 | ok n w' =>
  cases n <;> simp only [Oper.quietUpon] at h
  case value u => rw [h.1, h.2]
  case skip => exact absurd rfl (hnk w')
  case enter f args => exact absurd rfl (hne w' f args)
 | halt x w' => simp only [Oper.quietUpon] at h
theorem anyH_quiet (i : Nat) {oi : Oper} {fuel : Nat} {listed : Array Bool} {a : Act} {w : World} (hi : ops[i]? = some oi) (hs : Region.noSelect ops = true) (hf : Region.free md ops listed i = true) (hr : (Region.ready md ops listed).contains i = true)
  (hQ : ∀ v c a w, Q (.panic c) (a.put oi.dst v) w → Q (.panic c) a w) (hw : Region.wanted oi (yielded ops a.tmps) = true) (hp : plainOp oi.op = true) (hS : S w)
  (h : ∀ K : Act → Prop, (∀ a', wpAnyH P md ops Q S fuel (listed.setIfInBounds i true) a' w → K a') → oi.quiet P a S K) : wpAnyH P md ops Q S (fuel + 1) listed a w := by
 obtain ⟨v, h1, h2⟩ := h _ (fun _ h => h)
 exact wpAnyH_take hi hs hf hr (hQ v) (.inl ⟨hw, fun w' hw' => plain_value hp (h1 w' hw')⟩) hS h2
theorem anyH_op (i : Nat) {o : Oper} {fuel : Nat} {listed : Array Bool} {a : Act} {w : World} (hr : Region.ready md ops listed = [i]) (hi : ops[i]? = some o) (hw : Region.wanted o (yielded ops a.tmps) = true)
  (h : o.wp P a w (fun a' w' => S w' ∧ wpAnyH P md ops Q S fuel (listed.setIfInBounds i true) a' w') Q) : wpAnyH P md ops Q S (fuel + 1) listed a w := by
 refine wpAnyH_all hr (by simp) fun j hj => ?_
 obtain rfl := List.mem_singleton.1 hj
 unfold wpOp
 simp only [hi, hw, if_true]
 exact .inl h
theorem anyH_two (i j : Nat) {o p : Oper} {fuel : Nat} {listed : Array Bool} {a : Act} {w : World} (hr : Region.ready md ops listed = [i, j]) (hi : ops[i]? = some o) (hj : ops[j]? = some p) (hw : Region.wanted o (yielded ops a.tmps) = true) (hv : Region.wanted p (yielded ops a.tmps) = true)
  (h : o.wp P a w (fun a' w' => S w' ∧ wpAnyH P md ops Q S fuel (listed.setIfInBounds i true) a' w') Q) (h' : p.wp P a w (fun a' w' => S w' ∧ wpAnyH P md ops Q S fuel (listed.setIfInBounds j true) a' w') Q) : wpAnyH P md ops Q S (fuel + 1) listed a w := by
 refine wpAnyH_all hr (by simp) fun k hk => ?_
 rcases List.mem_cons.1 hk with rfl | hk
 ·unfold wpOp
  simp only [hi, hw, if_true]
  exact .inl h
 ·obtain rfl := List.mem_singleton.1 hk
  unfold wpOp
  simp only [hj, hv, if_true]
  exact .inl h'
theorem op_value {o : Oper} {a : Act} {w w' : World} {v : Value} {K : Act → World → Prop} (hrun : (execOp a.eval o).run P w = .ok (.value v) w') (a' : Act) (ha : a.put o.dst v = a') (h : K a' w') : o.wp P a w K Q := by
 subst ha
 unfold Oper.wp
 rw [hrun]
 exact h
theorem op_call {o : Oper} {a : Act} {w : World} {f : FuncId} {args : Array Value} {K : Act → World → Prop} (hrun : (execOp a.eval o).run P w = .ok (.enter f args) w) (a' : Value → Act) (ha : ∀ v, a.put o.dst v = a' v) (hc : Calls P f args w fun e w' => ∃ v, e = .returned v ∧ K (a' v) w') : o.wp P a w K Q := by
 unfold Oper.wp
 rw [hrun]
 refine Calls.mono hc ?_
 rintro e w' ⟨v, rfl, h⟩
 show K (a.put o.dst v) w'
 rw [ha]
 exact h
end
end Go.Proofs.YtfnhmnbcponkfaaGreatDoor
