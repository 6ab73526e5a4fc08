/- Fingerprints: what they are, in plain words. -/
import Derived.Test.YthlmlmkabjppeaaDoorKit
namespace Go.Proofs.YthlmlmkabjppeaaDoor
set_option linter.unusedVariables false
/-- a word turned to the right -/
def rotr (n k : Nat) : Nat := n / 2 ^ k + n % 2 ^ k * 2 ^ (32 - k)
def ad (a b : Nat) : Nat := (a + b) % 4294967296
def s0 (w : Nat) : Nat := rotr w 7 ^^^ rotr w 18 ^^^ w / 8
def s1 (w : Nat) : Nat := rotr w 17 ^^^ rotr w 19 ^^^ w / 1024
def b0 (a : Nat) : Nat := rotr a 2 ^^^ rotr a 13 ^^^ rotr a 22
def b1 (e : Nat) : Nat := rotr e 6 ^^^ rotr e 11 ^^^ rotr e 25
def chf (e f g : Nat) : Nat := (e &&& f) ^^^ ((4294967295 - e) &&& g)
def maj (a b c : Nat) : Nat := (a &&& b) ^^^ (a &&& c) ^^^ (b &&& c)
def be4 (l : List Nat) (i : Nat) : Nat := ((l.getD (4 * i) 0 * 256 + l.getD (4 * i + 1) 0) * 256 + l.getD (4 * i + 2) 0) * 256 + l.getD (4 * i + 3) 0
/-- the next word of a schedule -/
def nxt (l w : List Nat) (n : Nat) : Nat := if n < 16 then be4 l n else ad (ad (ad (w.getD (n - 16) 0) (s0 (w.getD (n - 15) 0))) (w.getD (n - 7) 0)) (s1 (w.getD (n - 2) 0))
def sch (l : List Nat) : Nat → List Nat
  | 0 => []
  | n + 1 => sch l n ++ [nxt l (sch l n) n]
theorem rotr_lt {n k : Nat} (hn : n < 4294967296) (hk : k ≤ 32) : rotr n k < 4294967296 := by
  unfold rotr
  have e : (4294967296 : Nat) = 2 ^ k * 2 ^ (32 - k) := by rw [← Nat.pow_add, show k + (32 - k) = 32 by omega]
  have h1 : n / 2 ^ k < 2 ^ (32 - k) := (Nat.div_lt_iff_lt_mul (Nat.two_pow_pos k)).2 (by rw [Nat.mul_comm]; omega)
  have h2 : n % 2 ^ k + 1 ≤ 2 ^ k := Nat.mod_lt _ (Nat.two_pow_pos k)
  have h3 : (n % 2 ^ k + 1) * 2 ^ (32 - k) ≤ 2 ^ k * 2 ^ (32 - k) := Nat.mul_le_mul_right _ h2
  rw [Nat.add_mul, Nat.one_mul] at h3
  omega
/-- turned once more -/
theorem rotr_succ {n k : Nat} (hn : n < 4294967296) (hk : k < 32) : rotr n (k + 1) = rotr n k / 2 + rotr n k % 2 * 2147483648 := by
  have e1 : 32 - k = 32 - (k + 1) + 1 := by omega
  have e2 : (2 : Nat) ^ (32 - k) = 2 ^ (32 - (k + 1)) * 2 := by rw [e1, Nat.pow_succ]
  have e3 : (2147483648 : Nat) = 2 ^ k * 2 ^ (32 - (k + 1)) := by rw [← Nat.pow_add, show k + (32 - (k + 1)) = 31 by omega]
  unfold rotr
  rw [e2, Nat.pow_succ]
  generalize hP : (2 : Nat) ^ (32 - (k + 1)) = P at *
  generalize hQ : (2 : Nat) ^ k = Q at *
  have d1 : n / (Q * 2) = n / Q / 2 := by rw [Nat.div_div_eq_div_mul]
  have d2 : n % (Q * 2) = n % Q + Q * (n / Q % 2) := Nat.mod_mul
  rw [d1, d2, e3]
  generalize n % Q = r
  generalize n / Q = q
  have h1 : (q + r * (P * 2)) / 2 = q / 2 + r * P := by rw [← Nat.mul_assoc]; omega
  have h2 : (q + r * (P * 2)) % 2 = q % 2 := by rw [← Nat.mul_assoc]; omega
  rw [h1, h2, Nat.add_mul]
  have h3 : Q * (q % 2) * P = q % 2 * (Q * P) := by rw [Nat.mul_comm Q, Nat.mul_assoc]
  omega
theorem rotr_zero (n : Nat) : rotr n 0 = n := by simp [rotr, Nat.mod_one]
theorem ad_lt (a b : Nat) : ad a b < 4294967296 := Nat.mod_lt _ (by decide)
theorem xor_w {a b : Nat} (ha : a < 4294967296) (hb : b < 4294967296) : a ^^^ b < 4294967296 := Nat.xor_lt_two_pow (n := 32) ha hb
theorem and_w {a b : Nat} (ha : a < 4294967296) : a &&& b < 4294967296 := Nat.lt_of_le_of_lt Nat.and_le_left ha
theorem s0_lt {w : Nat} (h : w < 4294967296) : s0 w < 4294967296 := xor_w (xor_w (rotr_lt h (by decide)) (rotr_lt h (by decide))) (by omega)
theorem s1_lt {w : Nat} (h : w < 4294967296) : s1 w < 4294967296 := xor_w (xor_w (rotr_lt h (by decide)) (rotr_lt h (by decide))) (by omega)
theorem b0_lt {w : Nat} (h : w < 4294967296) : b0 w < 4294967296 := xor_w (xor_w (rotr_lt h (by decide)) (rotr_lt h (by decide))) (rotr_lt h (by decide))
theorem b1_lt {w : Nat} (h : w < 4294967296) : b1 w < 4294967296 := xor_w (xor_w (rotr_lt h (by decide)) (rotr_lt h (by decide))) (rotr_lt h (by decide))
theorem chf_lt {e f g : Nat} (h : e < 4294967296) : chf e f g < 4294967296 := xor_w (and_w h) (and_w (by omega))
theorem maj_lt {a b c : Nat} (h : a < 4294967296) (hb : b < 4294967296) : maj a b c < 4294967296 := xor_w (xor_w (and_w h) (and_w h)) (and_w hb)
theorem be4_lt {l : List Nat} (h : ∀ c ∈ l, c < 256) (i : Nat) : be4 l i < 4294967296 := by
  have h1 := getD_lt h (4 * i)
  have h2 := getD_lt h (4 * i + 1)
  have h3 := getD_lt h (4 * i + 2)
  have h4 := getD_lt h (4 * i + 3)
  unfold be4; omega
theorem nxt_lt {l w : List Nat} (h : ∀ c ∈ l, c < 256) (n : Nat) : nxt l w n < 4294967296 := by
  unfold nxt
  split
  · exact be4_lt h n
  · exact ad_lt _ _
theorem sch_len (l : List Nat) (n : Nat) : (sch l n).length = n := by
  induction n with
  | zero => rfl
  | succ n ih => simp [sch, ih]
theorem sch_lt {l : List Nat} (h : ∀ c ∈ l, c < 256) (n : Nat) : ∀ c ∈ sch l n, c < 4294967296 := by
  induction n with
  | zero => intro c hc; cases hc
  | succ n ih =>
    intro c hc
    rcases List.mem_append.1 hc with hc | hc
    · exact ih c hc
    · rw [List.mem_singleton.1 hc]; exact nxt_lt h n
/-- a round -/
def rnd (k w : Nat) (v : List Nat) : List Nat :=
  let t := ad (ad (ad (ad (v.getD 7 0) (b1 (v.getD 4 0))) (chf (v.getD 4 0) (v.getD 5 0) (v.getD 6 0))) k) w
  let u := ad (b0 (v.getD 0 0)) (maj (v.getD 0 0) (v.getD 1 0) (v.getD 2 0))
  [ad t u, v.getD 0 0, v.getD 1 0, v.getD 2 0, ad (v.getD 3 0) t, v.getD 4 0, v.getD 5 0, v.getD 6 0]
/-- the rounds' constants -/
def kc : List Nat := [0x428a2f98, 0x71374491, 0xb5c0fbcf, 0xe9b5dba5, 0x3956c25b, 0x59f111f1, 0x923f82a4, 0xab1c5ed5, 0xd807aa98, 0x12835b01, 0x243185be, 0x550c7dc3, 0x72be5d74, 0x80deb1fe, 0x9bdc06a7, 0xc19bf174, 0xe49b69c1, 0xefbe4786, 0x0fc19dc6, 0x240ca1cc, 0x2de92c6f, 0x4a7484aa, 0x5cb0a9dc, 0x76f988da, 0x983e5152, 0xa831c66d, 0xb00327c8, 0xbf597fc7, 0xc6e00bf3, 0xd5a79147, 0x06ca6351, 0x14292967, 0x27b70a85, 0x2e1b2138, 0x4d2c6dfc, 0x53380d13, 0x650a7354, 0x766a0abb, 0x81c2c92e, 0x92722c85, 0xa2bfe8a1, 0xa81a664b, 0xc24b8b70, 0xc76c51a3, 0xd192e819, 0xd6990624, 0xf40e3585, 0x106aa070, 0x19a4c116, 0x1e376c08, 0x2748774c, 0x34b0bcb5, 0x391c0cb3, 0x4ed8aa4a, 0x5b9cca4f, 0x682e6ff3, 0x748f82ee, 0x78a5636f, 0x84c87814, 0x8cc70208, 0x90befffa, 0xa4506ceb, 0xbef9a3f7, 0xc67178f2]
def rds (l h : List Nat) : Nat → List Nat
  | 0 => h
  | n + 1 => rnd (kc.getD n 0) ((sch l 64).getD n 0) (rds l h n)
def blk (l h : List Nat) : List Nat := (List.range 8).map fun i => ad (h.getD i 0) ((rds l h 64).getD i 0)
def h0 : List Nat := [0x6a09e667, 0xbb67ae85, 0x3c6ef372, 0xa54ff53a, 0x510e527f, 0x9b05688c, 0x1f83d9ab, 0x5be0cd19]
/-- a number in w bytes, the highest first -/
def high (n : Nat) : Nat → List Nat
  | 0 => []
  | w + 1 => high (n / 256) w ++ [n % 256]
def zs (n : Nat) : Nat := (119 - n % 64) % 64
def pad (m : List Nat) : List Nat := m ++ [128] ++ List.replicate (zs m.length) 0 ++ high (8 * m.length) 8
def fld (m : List Nat) : Nat → List Nat
  | 0 => h0
  | n + 1 => blk ((m.drop (64 * n)).take 64) (fld m n)
def sha (m : List Nat) : List Nat := (fld (pad m) ((pad m).length / 64)).flatMap fun w => high w 4
theorem high_len (n w : Nat) : (high n w).length = w := by
  induction w generalizing n with
  | zero => rfl
  | succ w ih => simp [high, ih]
theorem high_lt (n w : Nat) : ∀ c ∈ high n w, c < 256 := by
  induction w generalizing n with
  | zero => intro c hc; cases hc
  | succ w ih =>
    intro c hc
    rcases List.mem_append.1 hc with hc | hc
    · exact ih _ c hc
    · rw [List.mem_singleton.1 hc]; exact Nat.mod_lt _ (by decide)
theorem pad_len (m : List Nat) : (pad m).length = m.length + 9 + zs m.length := by simp [pad, high_len]; omega
theorem pad_64 (m : List Nat) : (pad m).length % 64 = 0 := by rw [pad_len]; unfold zs; omega
theorem rds_len {l h : List Nat} (hh : h.length = 8) (n : Nat) : (rds l h n).length = 8 := by
  cases n with
  | zero => exact hh
  | succ n => rfl
theorem blk_len (l h : List Nat) : (blk l h).length = 8 := by simp [blk]
theorem fld_len (m : List Nat) (n : Nat) : (fld m n).length = 8 := by
  cases n with
  | zero => rfl
  | succ n => exact blk_len _ _
theorem blk_lt (l h : List Nat) : ∀ c ∈ blk l h, c < 4294967296 := by
  intro c hc
  obtain ⟨i, _, rfl⟩ := List.mem_map.1 hc
  exact ad_lt _ _
theorem h0_lt : ∀ c ∈ h0, c < 4294967296 := by decide
theorem fld_lt (m : List Nat) (n : Nat) : ∀ c ∈ fld m n, c < 4294967296 := by
  cases n with
  | zero => exact h0_lt
  | succ n => exact blk_lt _ _
end Go.Proofs.YthlmlmkabjppeaaDoor
