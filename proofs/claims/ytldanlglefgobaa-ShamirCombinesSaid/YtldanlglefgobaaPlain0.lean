/- Plain facts on the field of 256 elements: no program in sight. -/
import Derived.WalkKit
import Derived.Laws.BitsAllLaws
namespace Go.Proofs.Ytldanlglefgobaa
open Go.RowKit
/-- one step of the product's first loop -/
def m1 (a b : Nat) : Nat → Nat
  | 0 => 0
  | k + 1 => if b / 2 ^ k % 2 = 1 then m1 a b k ^^^ (a * 2 ^ k) else m1 a b k
/-- the reduction's loop -/
def m2 (p : Nat) : Nat → Nat
  | 0 => p
  | j + 1 => if m2 p j / 2 ^ (14 - j) % 2 = 1 then m2 p j ^^^ (283 * 2 ^ (6 - j)) else m2 p j
/-- the reference's product -/
def gm (a b : Nat) : Nat := m2 (m1 a b 8) 7 % 256
theorem m1_lt (a b k : Nat) (h : a < 256) (hk : k ≤ 8) : m1 a b k < 2 ^ 16 := by
  induction k with
  | zero => simp [m1]
  | succ k ih =>
    have := ih (by omega)
    simp only [m1]
    split
    · refine Nat.xor_lt_two_pow this ?_
      have : 2 ^ k ≤ 2 ^ 8 := Nat.pow_le_pow_right (by omega) (by omega)
      calc a * 2 ^ k ≤ 255 * 2 ^ 8 := Nat.mul_le_mul (by omega) this
        _ < 2 ^ 16 := by decide
    · exact this
theorem m2_lt (p j : Nat) (h : p < 2 ^ 16) (hj : j ≤ 7) : m2 p j < 2 ^ 16 := by
  induction j with
  | zero => simpa [m2] using h
  | succ j ih =>
    have := ih (by omega)
    simp only [m2]
    split
    · refine Nat.xor_lt_two_pow this ?_
      have : 2 ^ (6 - j) ≤ 2 ^ 6 := Nat.pow_le_pow_right (by omega) (by omega)
      calc 283 * 2 ^ (6 - j) ≤ 283 * 2 ^ 6 := Nat.mul_le_mul (by omega) this
        _ < 2 ^ 16 := by decide
    · exact this
theorem gm_lt (a b : Nat) : gm a b < 256 := Nat.mod_lt _ (by decide)
def gpow (a : Nat) : Nat → Nat
  | 0 => 1
  | k + 1 => gm (gpow a k) a
theorem gpow_lt (a k : Nat) : gpow a k < 256 := by
  cases k with
  | zero => simp [gpow]
  | succ k => exact gm_lt _ _
theorem i64_xor_nat (a b : Nat) (ha : a < 65536) (hb : b < 65536) : bits .xor .i64 (a : Int) (b : Int) = ((a ^^^ b : Nat) : Int) := by
  have hx : a ^^^ b < 2 ^ 16 := Nat.xor_lt_two_pow (by omega) (by omega)
  show IntKind.i64.wrap ((BitVec.ofInt 64 (a : Int) ^^^ BitVec.ofInt 64 (b : Int)).toNat : Int) = _
  rw [BitVec.toNat_xor, BitVec.ofInt_natCast, BitVec.ofInt_natCast, BitVec.toNat_ofNat, BitVec.toNat_ofNat, Nat.mod_eq_of_lt (by omega), Nat.mod_eq_of_lt (by omega)]
  exact IntWalk.i64_in _ ⟨by omega, by omega⟩
theorem m1y {a b P k : Nat} {c n : Int} (h : a < 256) (H : P = m1 a b k) (hP : P < 65536) (hk : k < 8) (hn : n = ((k + 1 : Nat) : Int)) (hc : c = ((a * 2 ^ k : Nat) : Int)) (t : b / 2 ^ k % 2 = 1) :
    ∃ k' P' : Nat, k' ≤ 8 ∧ P' < 65536 ∧ Value.int .i64 n = .int .i64 k' ∧ Value.int .i64 (bits .xor .i64 P c) = .int .i64 P' ∧ P' = m1 a b k' := by
  have h2 : m1 a b (k + 1) = P ^^^ (a * 2 ^ k) := by simp only [m1]; rw [if_pos t, H]
  have h3 := m1_lt a b (k + 1) h (by omega)
  have h4 : 2 ^ k ≤ 2 ^ 7 := Nat.pow_le_pow_right (by omega) (by omega)
  have h5 : a * 2 ^ k ≤ 255 * 2 ^ 7 := Nat.mul_le_mul (by omega) h4
  exact ⟨k + 1, P ^^^ (a * 2 ^ k), by omega, by rw [← h2]; exact h3, by rw [hn], by rw [hc, i64_xor_nat _ _ hP (by omega)], h2.symm⟩
theorem m1n {a b P k : Nat} {n : Int} (H : P = m1 a b k) (hP : P < 65536) (hk : k < 8) (hn : n = ((k + 1 : Nat) : Int)) (t : ¬ b / 2 ^ k % 2 = 1) :
    ∃ k' P' : Nat, k' ≤ 8 ∧ P' < 65536 ∧ Value.int .i64 n = .int .i64 k' ∧ Value.int .i64 (P : Int) = .int .i64 P' ∧ P' = m1 a b k' :=
  ⟨k + 1, P, by omega, hP, by rw [hn], rfl, by simp only [m1]; rw [if_neg t, H]⟩
theorem m2y {P Q k : Nat} {c n : Int} (h : P < 2 ^ 16) (H : Q = m2 P k) (hQ : Q < 65536) (hk : k < 7) (hn : n = 14 - ((k + 1 : Nat) : Int)) (hc : c = ((283 * 2 ^ (6 - k) : Nat) : Int)) (t : Q / 2 ^ (14 - k) % 2 = 1) :
    ∃ k' Q' : Nat, k' ≤ 7 ∧ Q' < 65536 ∧ Value.int .i64 n = .int .i64 (14 - k') ∧ Value.int .i64 (bits .xor .i64 Q c) = .int .i64 Q' ∧ Q' = m2 P k' := by
  have h2 : m2 P (k + 1) = Q ^^^ (283 * 2 ^ (6 - k)) := by simp only [m2]; rw [← H, if_pos t]
  have h3 := m2_lt P (k + 1) h (by omega)
  have h4 : 2 ^ (6 - k) ≤ 2 ^ 6 := Nat.pow_le_pow_right (by omega) (by omega)
  exact ⟨k + 1, Q ^^^ (283 * 2 ^ (6 - k)), by omega, by rw [← h2]; exact h3, by rw [hn], by rw [hc, i64_xor_nat _ _ hQ (by omega)], h2.symm⟩
theorem m2n {P Q k : Nat} {n : Int} (H : Q = m2 P k) (hQ : Q < 65536) (hk : k < 7) (hn : n = 14 - ((k + 1 : Nat) : Int)) (t : ¬ Q / 2 ^ (14 - k) % 2 = 1) :
    ∃ k' Q' : Nat, k' ≤ 7 ∧ Q' < 65536 ∧ Value.int .i64 n = .int .i64 (14 - k') ∧ Value.int .i64 (Q : Int) = .int .i64 Q' ∧ Q' = m2 P k' :=
  ⟨k + 1, Q, by omega, hQ, by rw [hn], rfl, by simp only [m2]; rw [← H, if_neg t]⟩
theorem ret_u8 {a b : Int} (h : a = b) : Ending.returned (.int .u8 a) = .returned (.int .u8 b) := by rw [h]
theorem gm_of {P Q a b : Nat} (H : P = m1 a b 8) (H2 : Q = m2 P 7) : ((Q : Int) % 256) = (gm a b : Nat) := by subst H; subst H2; unfold gm; omega
/-- an element times x -/
def tw (a : Nat) : Nat := (a * 2 % 256) ^^^ (27 &&& ((256 - a / 128) % 256))
theorem tw_lt (a : Nat) : tw a < 256 := by
  unfold tw
  have : 27 &&& ((256 - a / 128) % 256) < 2 ^ 8 := Nat.and_lt_two_pow _ (by omega)
  exact Nat.xor_lt_two_pow (n := 8) (by omega) this
theorem tw_is : ∀ a : Nat, a < 256 → bits .xor .u8 ((a : Int) * 2 % 256) (bits .and .u8 27 (-((a : Int) / 128) % 256)) = ((tw a : Nat) : Int) := by
  intro a h
  have e1 : ((a : Int) * 2 % 256) = ((a * 2 % 256 : Nat) : Int) := by omega
  have e2 : (-((a : Int) / 128) % 256) = (((256 - a / 128) % 256 : Nat) : Int) := by omega
  have h2 : 27 &&& ((256 - a / 128) % 256) < 2 ^ 8 := Nat.and_lt_two_pow _ (by omega)
  rw [e1, e2, show (27 : Int) = ((27 : Nat) : Int) from rfl, u8_and_nat _ _ (by omega) (by omega), u8_xor_nat _ _ (by omega) (by omega)]
  rfl
def gexp : Nat → Nat
  | 0 => 1
  | k + 1 => gexp k ^^^ tw (gexp k)
theorem gexp_lt (k : Nat) : gexp k < 256 := by
  induction k with
  | zero => simp [gexp]
  | succ k ih => exact Nat.xor_lt_two_pow (n := 8) ih (tw_lt _)
def tbN : Nat → Array Nat
  | 0 => Array.replicate 512 0
  | k + 1 => ((tbN k).setIfInBounds k (gexp k)).setIfInBounds (256 + gexp k) k
theorem tbN_size (k : Nat) : (tbN k).size = 512 := by
  induction k with
  | zero => simp [tbN]
  | succ k ih => simp [tbN, ih]
def vtab (l : Array Nat) : Array Value := l.map fun (n : Nat) => Value.int .u8 (n : Int)
theorem vtab_size (l : Array Nat) : (vtab l).size = l.size := by simp [vtab]
theorem vtab_set (l : Array Nat) (i n : Nat) : (vtab l).setIfInBounds i (.int .u8 (n : Int)) = vtab (l.setIfInBounds i n) := by
  unfold vtab; rw [Array.map_setIfInBounds]
theorem ztab_is : vtab (tbN 0) = Array.replicate 512 (.int .u8 0) := by simp [vtab, tbN]
/-- the tables -/
def ftab : Array Nat := ((tbN 255).setIfInBounds 255 (gexp 255)).setIfInBounds 256 0
theorem ftab_size : ftab.size = 512 := by simp [ftab, tbN_size]
theorem vtab_two (t : Array Nat) (i g j k : Nat) : ((vtab t).setIfInBounds i (.int .u8 (g : Int))).setIfInBounds j (.int .u8 (k : Int)) = vtab ((t.setIfInBounds i g).setIfInBounds j k) := by
  rw [vtab_set, vtab_set]
theorem tw_next {g k : Nat} (h : g = gexp k) : bits .xor .u8 (g : Int) (tw g : Nat) = (gexp (k + 1) : Nat) := by
  subst h
  rw [u8_xor_nat _ _ (gexp_lt _) (tw_lt _)]; rfl
def tg (t : Array Nat) (i : Nat) : Nat := t.getD i 0
def Small (t : Array Nat) : Prop := t.size = 512 ∧ ∀ i, tg t i < 256
/-- products, inverses by tables -/
def tmul (t : Array Nat) (a b : Nat) : Nat := if a = 0 ∨ b = 0 then 0 else tg t ((tg t (256 + a) + tg t (256 + b)) % 255)
def tinv (t : Array Nat) (a : Nat) : Nat := if a = 0 then 0 else tg t (255 - tg t (256 + a))
theorem tmul_lt {t : Array Nat} (h : Small t) (a b : Nat) : tmul t a b < 256 := by
  unfold tmul; split
  · omega
  · exact h.2 _
theorem tinv_lt {t : Array Nat} (h : Small t) (a : Nat) : tinv t a < 256 := by
  unfold tinv; split
  · omega
  · exact h.2 _
/-- a polynomial's value by tables -/
def teval (t : Array Nat) (x : Nat) : List Nat → Nat
  | [] => 0
  | c :: l => tmul t (teval t x l) x ^^^ c
theorem teval_lt {t : Array Nat} (h : Small t) (x : Nat) : ∀ l : List Nat, (∀ c ∈ l, c < 256) → teval t x l < 256
  | [], _ => by simp [teval]
  | c :: l, hl => Nat.xor_lt_two_pow (n := 8) (tmul_lt h _ _) (hl c (by simp))
theorem teval_step {t : Array Nat} {x j : Nat} {l : List Nat} (hj : j < l.length) : teval t x (l.drop j) = tmul t (teval t x (l.drop (j + 1))) x ^^^ l.getD j 0 := by
  rw [List.drop_eq_getElem_cons hj, List.getD_eq_getElem?_getD, List.getElem?_eq_getElem hj]; rfl
/-- the reference's value of a polynomial, of the first k coefficients -/
def reval (x : Nat) (l : List Nat) : Nat → Nat
  | 0 => 0
  | k + 1 => reval x l k ^^^ gm (l.getD k 0) (gpow x k)
theorem reval_lt (x : Nat) (l : List Nat) (k : Nat) : reval x l k < 256 := by
  induction k with
  | zero => simp [reval]
  | succ k ih => exact Nat.xor_lt_two_pow (n := 8) ih (gm_lt _ _)
/-- the reference's inverse: the least from k on -/
def rinvFrom (a : Nat) : Nat → Nat → Nat
  | 0, _ => 0
  | f + 1, i => if gm a i = 1 then i else rinvFrom a f (i + 1)
def rinv (a : Nat) : Nat := rinvFrom a 255 1
end Go.Proofs.Ytldanlglefgobaa
