/- Poly: the plain arithmetic: limbs, a tag. -/
import Derived.Test.YtfblpkjablgafaaBas
namespace Go.Proofs.Ytfblpkjablgafaa
def P130 : Nat := 1361129467683753853853498429727072845819
def V5 (n : List Nat) : Nat := n.getD 0 0 + 67108864 * n.getD 1 0 + 4503599627370496 * n.getD 2 0 + 302231454903657293676544 * n.getD 3 0 + 20282409603651670423947251286016 * n.getD 4 0
/-- what multiplying writes, in the order of the text -/
def mulStep (x y : List Nat) (i k : Nat) (o : List Nat) : List Nat :=
  if i + k < 5 then o.set (i + k) (o.getD (i + k) 0 + x.getD i 0 * y.getD k 0) else o.set (i + k - 5) (o.getD (i + k - 5) 0 + 5 * x.getD i 0 * y.getD k 0)
def mulRow (x y : List Nat) (i : Nat) (o : List Nat) : Nat → List Nat
  | 0 => o
  | k + 1 => mulStep x y i k (mulRow x y i o k)
def mulAll (x y : List Nat) : Nat → List Nat
  | 0 => [0, 0, 0, 0, 0]
  | i + 1 => mulRow x y i (mulAll x y i) 5
theorem mulAll_eq (x0 x1 x2 x3 x4 y0 y1 y2 y3 y4 : Nat) : mulAll [x0, x1, x2, x3, x4] [y0, y1, y2, y3, y4] 5 =
    [0 + x0*y0 + 5*x1*y4 + 5*x2*y3 + 5*x3*y2 + 5*x4*y1, 0 + x0*y1 + x1*y0 + 5*x2*y4 + 5*x3*y3 + 5*x4*y2, 0 + x0*y2 + x1*y1 + x2*y0 + 5*x3*y4 + 5*x4*y3, 0 + x0*y3+x1*y2+x2*y1+x3*y0+5*x4*y4, 0 + x0*y4+x1*y3+x2*y2+x3*y1+x4*y0] := by
  simp [mulAll, mulRow, mulStep]
theorem mulAll_V (x0 x1 x2 x3 x4 y0 y1 y2 y3 y4 : Nat) : ∃ q, V5 [x0, x1, x2, x3, x4] * V5 [y0, y1, y2, y3, y4] = V5 (mulAll [x0, x1, x2, x3, x4] [y0, y1, y2, y3, y4] 5) + P130 * q := by
  refine ⟨(x1*y4 + x2*y3+x3*y2+x4*y1) + 67108864*(x2*y4+x3*y3+x4*y2) + 4503599627370496*(x3*y4+x4*y3)+302231454903657293676544*(x4*y4), ?_⟩
  rw [mulAll_eq]
  simp only [V5, P130, List.getD_cons_zero, List.getD_cons_succ]
  grind
/-- the carry into limb j -/
def crr (n : List Nat) : Nat → Nat
  | 0 => 0
  | j + 1 => (n.getD j 0 + crr n j) / 67108864
def carL (n : List Nat) : List Nat :=
  [(n.getD 0 0 % 67108864 + 5 * crr n 5) % 67108864, (n.getD 1 0 + crr n 1) % 67108864 + (n.getD 0 0 % 67108864 + 5 * crr n 5) / 67108864, (n.getD 2 0 + crr n 2) % 67108864, (n.getD 3 0 + crr n 3) % 67108864, (n.getD 4 0 + crr n 4) % 67108864]
theorem carL_V (n : List Nat) : V5 n = V5 (carL n) + P130 * crr n 5 := by
  simp only [V5, carL, P130, crr, List.getD_cons_zero, List.getD_cons_succ, Nat.add_zero]
  omega
def lbel (n : List Nat) (a b : Nat) : Prop := n.getD 0 0 < a ∧ n.getD 1 0 < b ∧ n.getD 2 0 < a ∧ n.getD 3 0 < a ∧ n.getD 4 0 < a
theorem carL_below (n : List Nat) (h : lbel n 4611686018427387904 4611686018427387904) : lbel (carL n) 67108864 67125248 := by
  obtain ⟨h0, h1, h2, h3, h4⟩ := h
  simp only [lbel, carL, crr, List.getD_cons_zero, List.getD_cons_succ, Nat.add_zero]
  omega
theorem carL_canon (n : List Nat) (h : lbel n 67108864 67125248) : lbel (carL n) 67108864 67108864 := by
  obtain ⟨h0, h1, h2, h3, h4⟩ := h
  simp only [lbel, carL, crr, List.getD_cons_zero, List.getD_cons_succ, Nat.add_zero]
  omega
/-- limbs of a number -/
def limbL (v : Nat) : List Nat := [v % 67108864, v / 67108864 % 67108864, v / 4503599627370496 % 67108864, v / 302231454903657293676544 % 67108864, v / 20282409603651670423947251286016]
theorem limbL_V (v : Nat) : V5 (limbL v) = v := by
  simp only [V5, limbL, List.getD_cons_zero, List.getD_cons_succ]
  omega
theorem limbL_below (v : Nat) (h : v < 2 * 340282366920938463463374607431768211456) : lbel (limbL v) 67108864 67108864 := by
  simp only [lbel, limbL, List.getD_cons_zero, List.getD_cons_succ]
  omega
/-- five added, carried -/
def m5 (n : List Nat) : Nat → Nat
  | 0 => n.getD 0 0 + 5
  | j + 1 => n.getD (j + 1) 0 + m5 n j / 67108864
def finL (n : List Nat) : List Nat := if m5 n 4 / 67108864 = 0 then n else [m5 n 0 % 67108864, m5 n 1 % 67108864, m5 n 2 % 67108864, m5 n 3 % 67108864, m5 n 4 % 67108864]
theorem m5_over (n : List Nat) (h : lbel n 67108864 67108864) : m5 n 4 / 67108864 = 0 ∨ m5 n 4 / 67108864 = 1 := by
  obtain ⟨h0, h1, h2, h3, h4⟩ := h
  simp only [m5, Nat.reduceAdd]
  omega
theorem finL_V (n : List Nat) (h : lbel n 67108864 67108864) : V5 (finL n) = V5 n % P130 ∧ lbel (finL n) 67108864 67108864 := by
  obtain ⟨h0, h1, h2, h3, h4⟩ := h
  unfold finL
  split
  · rename_i hz
    simp only [m5, Nat.reduceAdd] at hz
    simp only [V5, P130, lbel]
    omega
  · rename_i hz
    have h1 := (m5_over n ⟨h0, h1, h2, h3, h4⟩).resolve_left hz
    simp only [m5, Nat.reduceAdd] at h1
    have hge : P130 ≤ V5 n := by simp only [V5, P130]; omega
    have hlt : V5 n < P130 + P130 := by simp only [V5, P130]; omega
    have hmod : V5 n % P130 = V5 n - P130 := by rw [Nat.mod_eq_sub_mod hge, Nat.mod_eq_of_lt (by omega)]
    rw [hmod]
    clear hmod hlt
    simp only [P130, V5] at hge
    simp only [V5, P130, lbel, m5, Nat.reduceAdd, List.getD_cons_zero, List.getD_cons_succ]
    omega
def pcy (X Y : Nat) : Nat → Nat
  | 0 => 0
  | i + 1 => (pcy X Y i + X / 256 ^ i % 256 + Y / 256 ^ i % 256) / 256
theorem pcy_eq (X Y i : Nat) : pcy X Y i = (X % 256 ^ i + Y % 256 ^ i) / 256 ^ i := by
  induction i with
  | zero => simp [pcy, Nat.mod_one]
  | succ i ih =>
    unfold pcy
    rw [ih]
    have hB : 0 < 256 ^ i := Nat.pow_pos (by decide)
    rw [Nat.pow_succ, Nat.mod_mul (a := 256 ^ i), Nat.mod_mul (a := 256 ^ i), ← Nat.div_div_eq_div_mul]
    generalize 256 ^ i = B at *
    rw [show X % B + B * (X / B % 256) + (Y % B + B * (Y / B % 256)) = (X % B + Y % B) + B * (X / B % 256 + Y / B % 256) by rw [Nat.mul_add]; omega, Nat.add_mul_div_left _ _ hB]
    congr 1
    omega
theorem pcy_byte (X Y i : Nat) : (pcy X Y i + X / 256 ^ i % 256 + Y / 256 ^ i % 256) % 256 = (X + Y) / 256 ^ i % 256 := by
  rw [pcy_eq]
  have hB : 0 < 256 ^ i := Nat.pow_pos (by decide)
  generalize 256 ^ i = B at *
  have e : (X + Y) / B = (X % B + Y % B) / B + (X / B + Y / B) := by
    conv => lhs; rw [← Nat.mod_add_div X B, ← Nat.mod_add_div Y B]
    rw [show X % B + B * (X / B) + (Y % B + B * (Y / B)) = (X % B + Y % B) + B * (X / B + Y / B) by rw [Nat.mul_add]; omega, Nat.add_mul_div_left _ _ hB]
  rw [e]
  omega
theorem pcy_le (X Y i : Nat) : pcy X Y i ≤ 1 := by
  cases i with
  | zero => exact Nat.zero_le _
  | succ i =>
    rw [pcy_eq]
    have hB : 0 < 256 ^ (i+1) := Nat.pow_pos (by decide)
    generalize 256 ^ (i+1) = B at *
    have h1 := Nat.mod_lt X hB
    have h2 := Nat.mod_lt Y hB
    have : (X % B + Y % B) / B < 2 := Nat.div_lt_of_lt_mul (by omega)
    omega
/-- one block's number -/
def blkV (b : List Nat) : Nat := number b + 256 ^ b.length
/-- the sum behind so many blocks -/
def polA (r : Nat) (m : List Nat) : Nat → Nat
  | 0 => 0
  | i + 1 => (polA r m i + blkV ((m.drop (16 * i)).take 16)) * r % P130
/-- a byte of r -/
def clampB (i c : Nat) : Nat := if i % 4 = 3 then c % 16 else if i % 4 = 0 ∧ 0 < i then c / 4 * 4 else c
def clampL (k : List Nat) : List Nat := (List.range 16).map fun i => clampB i (k.getD i 0)
def polV (k m : List Nat) : Nat := polA (number (clampL k)) m ((m.length + 15) / 16)
def polT (k m : List Nat) : List Nat := form ((polV k m + number ((k.drop 16).take 16)) % 340282366920938463463374607431768211456) 16
def addL (n m : List Nat) : List Nat := [n.getD 0 0 + m.getD 0 0, n.getD 1 0 + m.getD 1 0, n.getD 2 0 + m.getD 2 0, n.getD 3 0 + m.getD 3 0, n.getD 4 0 + m.getD 4 0]
theorem addL_V (n m : List Nat) : V5 (addL n m) = V5 n + V5 m := by
  simp only [V5, addL, List.getD_cons_zero, List.getD_cons_succ]
  omega
theorem addL_below (n m : List Nat) (hn : lbel n 67108864 67125248) (hm : lbel m 67108864 67108864) : lbel (addL n m) 268435456 268435456 := by
  obtain ⟨h0, h1, h2, h3, h4⟩ := hn
  obtain ⟨g0, g1, g2, g3, g4⟩ := hm
  simp only [lbel, addL, List.getD_cons_zero, List.getD_cons_succ]
  omega
theorem five_eq (n : List Nat) (h : n.length = 5) : n = [n.getD 0 0, n.getD 1 0, n.getD 2 0, n.getD 3 0, n.getD 4 0] := by
  match n, h with
  | [_, _, _, _, _], _ => rfl
theorem prod_lt {a b : Nat} (ha : a < 268435456) (hb : b < 67108864) : a * b < 18014398509481984 := Nat.mul_lt_mul'' ha hb
theorem mulAll_V' (x y : List Nat) (hx : x.length = 5) (hy : y.length = 5) : ∃ q, V5 x * V5 y = V5 (mulAll x y 5) + P130 * q := by
  rw [five_eq x hx, five_eq y hy]
  exact mulAll_V _ _ _ _ _ _ _ _ _ _
theorem mulAll_below (x y : List Nat) (hx : x.length = 5) (hy : y.length = 5) (bx : lbel x 268435456 268435456) (by_ : lbel y 67108864 67108864) : lbel (mulAll x y 5) 4611686018427387904 4611686018427387904 := by
  obtain ⟨h0, h1, h2, h3, h4⟩ := bx
  obtain ⟨g0, g1, g2, g3, g4⟩ := by_
  rw [five_eq x hx, five_eq y hy, mulAll_eq]
  generalize x.getD 0 0 = x0 at *
  generalize x.getD 1 0 = x1 at *
  generalize x.getD 2 0 = x2 at *
  generalize x.getD 3 0 = x3 at *
  generalize x.getD 4 0 = x4 at *
  generalize y.getD 0 0 = y0 at *
  generalize y.getD 1 0 = y1 at *
  generalize y.getD 2 0 = y2 at *
  generalize y.getD 3 0 = y3 at *
  generalize y.getD 4 0 = y4 at *
  have a00 := prod_lt h0 g0
  have a01 := prod_lt h0 g1
  have a02 := prod_lt h0 g2
  have a03 := prod_lt h0 g3
  have a04 := prod_lt h0 g4
  have a10 := prod_lt h1 g0
  have a11 := prod_lt h1 g1
  have a12 := prod_lt h1 g2
  have a13 := prod_lt h1 g3
  have a14 := prod_lt h1 g4
  have a20 := prod_lt h2 g0
  have a21 := prod_lt h2 g1
  have a22 := prod_lt h2 g2
  have a23 := prod_lt h2 g3
  have a24 := prod_lt h2 g4
  have a30 := prod_lt h3 g0
  have a31 := prod_lt h3 g1
  have a32 := prod_lt h3 g2
  have a33 := prod_lt h3 g3
  have a34 := prod_lt h3 g4
  have a40 := prod_lt h4 g0
  have a41 := prod_lt h4 g1
  have a42 := prod_lt h4 g2
  have a43 := prod_lt h4 g3
  have a44 := prod_lt h4 g4
  simp only [lbel, List.getD_cons_zero, List.getD_cons_succ, Nat.mul_assoc]
  omega
/-- one round of a tag -/
def rndL (h r : List Nat) (v : Nat) : List Nat := carL (mulAll (addL h (limbL v)) r 5)
theorem carL_len (n : List Nat) : (carL n).length = 5 := rfl
theorem addL_len (n m : List Nat) : (addL n m).length = 5 := rfl
theorem limbL_len (n : Nat) : (limbL n).length = 5 := rfl
theorem rndL_ok (h r : List Nat) (v a : Nat) (hr : r.length = 5) (bh : lbel h 67108864 67125248) (br : lbel r 67108864 67108864) (hv : v < 2 * 340282366920938463463374607431768211456) (hh : V5 h % P130 = a) :
    lbel (rndL h r v) 67108864 67125248 ∧ V5 (rndL h r v) % P130 = (a + v) * V5 r % P130 := by
  have b1 := addL_below h (limbL v) bh (limbL_below v hv)
  have b2 := mulAll_below (addL h (limbL v)) r rfl hr b1 br
  refine ⟨carL_below _ b2, ?_⟩
  obtain ⟨q, hq⟩ := mulAll_V' (addL h (limbL v)) r rfl hr
  have e1 := carL_V (mulAll (addL h (limbL v)) r 5)
  rw [addL_V, limbL_V] at hq
  unfold rndL
  rw [e1] at hq
  have e2 : (V5 h + v) * V5 r % P130 = V5 (carL (mulAll (addL h (limbL v)) r 5)) % P130 := by
    rw [hq, Nat.add_assoc, ← Nat.mul_add, Nat.add_mul_mod_self_left]
  rw [← e2, ← hh, Nat.mul_mod, Nat.mul_mod (V5 h % P130 + v), Nat.mod_add_mod]
/-- the tag's number -/
def endL (h : List Nat) : List Nat := finL (carL (carL h))
theorem endL_ok (h : List Nat) (a : Nat) (bh : lbel h 67108864 67125248) (hh : V5 h % P130 = a) : lbel (endL h) 67108864 67108864 ∧ V5 (endL h) = a := by
  have b1 := carL_canon h bh
  have b2 : lbel (carL h) 67108864 67125248 := ⟨b1.1, Nat.lt_trans b1.2.1 (by decide), b1.2.2.1, b1.2.2.2.1, b1.2.2.2.2⟩
  have b3 := carL_canon _ b2
  obtain ⟨e, b⟩ := finL_V _ b3
  refine ⟨b, ?_⟩
  unfold endL
  rw [e, ← hh, carL_V h, carL_V (carL h), Nat.add_assoc, ← Nat.mul_add, Nat.add_mul_mod_self_left]
end Go.Proofs.Ytfblpkjablgafaa
