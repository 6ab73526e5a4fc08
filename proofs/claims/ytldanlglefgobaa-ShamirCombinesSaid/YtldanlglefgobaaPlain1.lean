/- The field of 256 elements, plainly: products are linear on both sides, commute, associate; the tables are logarithms. -/
import Derived.Test.YtldanlglefgobaaPlain0
namespace Go.Proofs.Ytldanlglefgobaa
theorem testBit_eq (b k : Nat) : (b / 2 ^ k % 2 = 1) ↔ b.testBit k = true := by
  rw [Nat.testBit_eq_decide_div_mod_eq]; simp
theorem m1_bit (a b k : Nat) : m1 a b (k + 1) = if b.testBit k then m1 a b k ^^^ (a * 2 ^ k) else m1 a b k := by
  simp only [m1]
  by_cases h : b / 2 ^ k % 2 = 1
  · rw [if_pos h, if_pos ((testBit_eq b k).1 h)]
  · rw [if_neg h, if_neg (fun h' => h ((testBit_eq b k).2 h'))]
theorem m2_bit (p k : Nat) : m2 p (k + 1) = if (m2 p k).testBit (14 - k) then m2 p k ^^^ (283 * 2 ^ (6 - k)) else m2 p k := by
  simp only [m2]
  by_cases h : m2 p k / 2 ^ (14 - k) % 2 = 1
  · rw [if_pos h, if_pos ((testBit_eq _ _).1 h)]
  · rw [if_neg h, if_neg (fun h' => h ((testBit_eq _ _).2 h'))]
theorem xor_swap4 (a b c d : Nat) : (a ^^^ b) ^^^ (c ^^^ d) = (a ^^^ c) ^^^ (b ^^^ d) := by
  rw [Nat.xor_assoc, Nat.xor_assoc, ← Nat.xor_assoc b, ← Nat.xor_assoc c, Nat.xor_comm b c]
theorem xor_self_mid (a b c : Nat) : (a ^^^ c) ^^^ (b ^^^ c) = a ^^^ b := by
  rw [xor_swap4, Nat.xor_self, Nat.xor_zero]
theorem m1_right (a b c k : Nat) : m1 a (b ^^^ c) k = m1 a b k ^^^ m1 a c k := by
  induction k with
  | zero => simp [m1]
  | succ k ih =>
    rw [m1_bit, m1_bit, m1_bit, Nat.testBit_xor, ih]
    cases b.testBit k <;> cases c.testBit k <;> simp
    · rw [Nat.xor_assoc]
    · rw [Nat.xor_assoc, Nat.xor_comm (m1 a c k), ← Nat.xor_assoc]
    · rw [xor_self_mid]
theorem mul_two_pow_xor (a b k : Nat) : (a ^^^ b) * 2 ^ k = (a * 2 ^ k) ^^^ (b * 2 ^ k) := by
  rw [← Nat.shiftLeft_eq, ← Nat.shiftLeft_eq, ← Nat.shiftLeft_eq, Nat.shiftLeft_xor_distrib]
theorem m1_left (a b c k : Nat) : m1 (a ^^^ b) c k = m1 a c k ^^^ m1 b c k := by
  induction k with
  | zero => simp [m1]
  | succ k ih =>
    rw [m1_bit, m1_bit, m1_bit, ih]
    cases c.testBit k <;> simp
    rw [mul_two_pow_xor, xor_swap4]
theorem m2_xor (p q k : Nat) : m2 (p ^^^ q) k = m2 p k ^^^ m2 q k := by
  induction k with
  | zero => simp [m2]
  | succ k ih =>
    rw [m2_bit, m2_bit, m2_bit, ih, Nat.testBit_xor]
    cases (m2 p k).testBit (14 - k) <;> cases (m2 q k).testBit (14 - k) <;> simp
    · rw [Nat.xor_assoc]
    · rw [Nat.xor_assoc, Nat.xor_comm (m2 q k), ← Nat.xor_assoc]
    · rw [xor_self_mid]
theorem mod256_xor (p q : Nat) : (p ^^^ q) % 256 = p % 256 ^^^ q % 256 := by
  have := Nat.xor_mod_two_pow (a := p) (b := q) (n := 8)
  simpa using this
theorem gm_right (a b c : Nat) : gm a (b ^^^ c) = gm a b ^^^ gm a c := by
  unfold gm; rw [m1_right, m2_xor, mod256_xor]
theorem gm_left (a b c : Nat) : gm (a ^^^ b) c = gm a c ^^^ gm b c := by
  unfold gm; rw [m1_left, m2_xor, mod256_xor]
/-- what goes through sums, and agrees on the eight bits, agrees -/
def bitOf (x i : Nat) : Nat := if x / 2 ^ i % 2 = 1 then 2 ^ i else 0
theorem bits8 : ∀ x, x < 256 → x = bitOf x 0 ^^^ (bitOf x 1 ^^^ (bitOf x 2 ^^^ (bitOf x 3 ^^^ (bitOf x 4 ^^^ (bitOf x 5 ^^^ (bitOf x 6 ^^^ bitOf x 7)))))) := by decide +kernel
def Lin (f : Nat → Nat) : Prop := ∀ x y, f (x ^^^ y) = f x ^^^ f y
theorem Lin.zero {f : Nat → Nat} (h : Lin f) : f 0 = 0 := by
  have := h 0 0
  simpa using this
theorem lin_ext {f g : Nat → Nat} (hf : Lin f) (hg : Lin g) (h : ∀ i, i < 8 → f (2 ^ i) = g (2 ^ i)) (x : Nat) (hx : x < 256) : f x = g x := by
  have hb : ∀ i, i < 8 → f (bitOf x i) = g (bitOf x i) := by
    intro i hi
    unfold bitOf
    split
    · exact h i hi
    · rw [hf.zero, hg.zero]
  rw [bits8 x hx]
  simp only [hf _ _, hg _ _]
  rw [hb 0 (by omega), hb 1 (by omega), hb 2 (by omega), hb 3 (by omega), hb 4 (by omega), hb 5 (by omega), hb 6 (by omega), hb 7 (by omega)]
theorem gm_linR (a : Nat) : Lin (gm a) := fun x y => gm_right a x y
theorem gm_linL (a : Nat) : Lin (fun x => gm x a) := fun x y => gm_left x y a
theorem gm_comm0 : ∀ i, i < 8 → ∀ j, j < 8 → gm (2 ^ i) (2 ^ j) = gm (2 ^ j) (2 ^ i) := by decide +kernel
theorem gm_comm (a b : Nat) (ha : a < 256) (hb : b < 256) : gm a b = gm b a :=
  lin_ext (gm_linR a) (gm_linL a) (fun i hi => lin_ext (f := fun x => gm x (2 ^ i)) (g := fun x => gm (2 ^ i) x) (gm_linL _) (gm_linR _) (fun j hj => gm_comm0 j hj i hi) a ha) b hb
theorem gm_assoc0 : ∀ i, i < 8 → ∀ j, j < 8 → ∀ k, k < 8 → gm (gm (2 ^ i) (2 ^ j)) (2 ^ k) = gm (2 ^ i) (gm (2 ^ j) (2 ^ k)) := by decide +kernel
theorem gm_assoc (a b c : Nat) (ha : a < 256) (hb : b < 256) (hc : c < 256) : gm (gm a b) c = gm a (gm b c) := by
  refine lin_ext (f := fun x => gm (gm x b) c) (g := fun x => gm x (gm b c)) (fun x y => by simp only [gm_left]) (gm_linL _) (fun i hi => ?_) a ha
  refine lin_ext (f := fun x => gm (gm (2 ^ i) x) c) (g := fun x => gm (2 ^ i) (gm x c)) (fun x y => by simp only [gm_right, gm_left]) (fun x y => by simp only [gm_right, gm_left]) (fun j hj => ?_) b hb
  exact lin_ext (f := fun x => gm (gm (2 ^ i) (2 ^ j)) x) (g := fun x => gm (2 ^ i) (gm (2 ^ j) x)) (gm_linR _) (fun x y => by simp only [gm_right]) (fun k hk => gm_assoc0 i hi j hj k hk) c hc
theorem gm_one0 : ∀ i, i < 8 → gm (2 ^ i) 1 = 2 ^ i := by decide +kernel
theorem gm_one (a : Nat) (ha : a < 256) : gm a 1 = a := lin_ext (gm_linL 1) (g := fun x => x) (fun _ _ => rfl) gm_one0 a ha
theorem gm_zero (a : Nat) : gm a 0 = 0 := (gm_linR a).zero
theorem zero_gm (a : Nat) : gm 0 a = 0 := (gm_linL a).zero
theorem gm_three0 : ∀ x, x < 256 → gm x 3 = x ^^^ tw x := by decide +kernel
theorem gpow3 (k : Nat) : gpow 3 k = gexp k := by
  induction k with
  | zero => rfl
  | succ k ih => rw [gpow, ih, gm_three0 _ (gexp_lt k)]; rfl
theorem gexp_succ (k : Nat) : gexp (k + 1) = gm (gexp k) 3 := by rw [gm_three0 _ (gexp_lt k)]; rfl
theorem gexp_add (i j : Nat) : gm (gexp i) (gexp j) = gexp (i + j) := by
  induction j with
  | zero => exact gm_one _ (gexp_lt i)
  | succ j ih => rw [gexp_succ j, ← gm_assoc _ _ _ (gexp_lt i) (gexp_lt j) (by omega), ih, ← gexp_succ]; rfl
def tbL : Nat → List Nat
  | 0 => List.replicate 512 0
  | k + 1 => ((tbL k).set k (gexp k)).set (256 + gexp k) k
theorem tbL_is (k : Nat) : (tbN k).toList = tbL k := by
  induction k with
  | zero => simp [tbN, tbL]
  | succ k ih => simp [tbN, tbL, ih]
/-- the tables written out -/
def flit : List Nat := [1, 3, 5, 15, 17, 51, 85, 255, 26, 46, 114, 150, 161, 248, 19, 53, 95, 225, 56, 72, 216, 115, 149, 164, 247, 2, 6, 10, 30, 34, 102, 170, 229, 52, 92, 228, 55, 89, 235, 38, 106, 190, 217, 112, 144, 171, 230, 49, 83, 245, 4, 12, 20, 60, 68, 204, 79, 209, 104, 184, 211, 110, 178, 205, 76, 212, 103, 169, 224, 59, 77, 215, 98, 166, 241, 8, 24, 40, 120, 136, 131, 158, 185, 208, 107, 189, 220, 127, 129, 152, 179, 206, 73, 219, 118, 154, 181, 196, 87, 249, 16, 48, 80, 240, 11, 29, 39, 105, 187, 214, 97, 163, 254, 25, 43, 125, 135, 146, 173, 236, 47, 113, 147, 174, 233, 32, 96, 160, 251, 22, 58, 78, 210, 109, 183, 194, 93, 231, 50, 86, 250, 21, 63, 65, 195, 94, 226, 61, 71, 201, 64, 192, 91, 237, 44, 116, 156, 191, 218, 117, 159, 186, 213, 100, 172, 239, 42, 126, 130, 157, 188, 223, 122, 142, 137, 128, 155, 182, 193, 88, 232, 35, 101, 175, 234, 37, 111, 177, 200, 67, 197, 84, 252, 31, 33, 99, 165, 244, 7, 9, 27, 45, 119, 153, 176, 203, 70, 202, 69, 207, 74, 222, 121, 139, 134, 145, 168, 227, 62, 66, 198, 81, 243, 14, 18, 54, 90, 238, 41, 123, 141, 140, 143, 138, 133, 148, 167, 242, 13, 23, 57, 75, 221, 124, 132, 151, 162, 253, 28, 36, 108, 180, 199, 82, 246, 1, 0, 0, 25, 1, 50, 2, 26, 198, 75, 199, 27, 104, 51, 238, 223, 3, 100, 4, 224, 14, 52, 141, 129, 239, 76, 113, 8, 200, 248, 105, 28, 193, 125, 194, 29, 181, 249, 185, 39, 106, 77, 228, 166, 114, 154, 201, 9, 120, 101, 47, 138, 5, 33, 15, 225, 36, 18, 240, 130, 69, 53, 147, 218, 142, 150, 143, 219, 189, 54, 208, 206, 148, 19, 92, 210, 241, 64, 70, 131, 56, 102, 221, 253, 48, 191, 6, 139, 98, 179, 37, 226, 152, 34, 136, 145, 16, 126, 110, 72, 195, 163, 182, 30, 66, 58, 107, 40, 84, 250, 133, 61, 186, 43, 121, 10, 21, 155, 159, 94, 202, 78, 212, 172, 229, 243, 115, 167, 87, 175, 88, 168, 80, 244, 234, 214, 116, 79, 174, 233, 213, 231, 230, 173, 232, 44, 215, 117, 122, 235, 22, 11, 245, 89, 203, 95, 176, 156, 169, 81, 160, 127, 12, 246, 111, 23, 196, 73, 236, 216, 67, 31, 45, 164, 118, 123, 183, 204, 187, 62, 90, 251, 96, 177, 134, 59, 82, 161, 108, 170, 85, 41, 157, 151, 178, 135, 144, 97, 190, 220, 252, 188, 149, 207, 205, 55, 63, 91, 209, 83, 57, 132, 60, 65, 162, 109, 71, 20, 42, 158, 93, 86, 242, 211, 171, 68, 17, 146, 217, 35, 32, 46, 137, 180, 124, 184, 38, 119, 153, 227, 165, 103, 74, 237, 222, 197, 49, 254, 24, 13, 99, 140, 128, 192, 247, 112, 7]
theorem flit_is : ((tbL 255).set 255 (gexp 255)).set 256 0 = flit := by decide +kernel
theorem ftab_lit : ftab.toList = flit := by
  rw [← flit_is, ← tbL_is]; simp [ftab]
theorem tg_toList (t : Array Nat) (i : Nat) : tg t i = t.toList.getD i 0 := by simp [tg]
theorem tg_big (t : Array Nat) (i : Nat) (h : t.size ≤ i) : tg t i = 0 := by simp [tg, Array.getD, show ¬ i < t.size by omega]
theorem tg_is (i : Nat) : tg ftab i = flit.getD i 0 := by rw [tg_toList, ftab_lit]
theorem flit_next : ∀ i, i < 255 → flit.getD (i + 1) 0 = flit.getD i 0 ^^^ tw (flit.getD i 0) := by decide +kernel
theorem flit_low (i : Nat) (h : i < 256) : flit.getD i 0 = gexp i := by
  induction i with
  | zero => rfl
  | succ i ih => rw [flit_next i (by omega), ih (by omega)]; rfl
theorem flit_log0 : ∀ a, a < 256 → (a = 0 ∨ flit.getD (flit.getD (256 + a) 0) 0 = a) ∧ flit.getD (256 + a) 0 < 255 := by decide +kernel
theorem flit_log (a : Nat) (h : a < 256) : (a = 0 ∨ gexp (flit.getD (256 + a) 0) = a) ∧ flit.getD (256 + a) 0 < 255 := by
  have h0 := flit_log0 a h
  rw [← flit_low _ (by omega)]
  exact h0
theorem gexp_255 : gexp 255 = 1 := by rw [← flit_low 255 (by omega)]; rfl
theorem gexp_period (i : Nat) : gexp (i + 255) = gexp i := by rw [← gexp_add, gexp_255, gm_one _ (gexp_lt i)]
theorem gexp_mod (i : Nat) : gexp (i % 255) = gexp i := by
  have h : ∀ q r, gexp (r + 255 * q) = gexp r := by
    intro q
    induction q with
    | zero => intro r; rfl
    | succ q ih => intro r; rw [show r + 255 * (q + 1) = (r + 255 * q) + 255 from by omega, gexp_period, ih]
  have := h (i / 255) (i % 255)
  rw [show i % 255 + 255 * (i / 255) = i from by omega] at this
  exact this.symm
theorem ftab_low (i : Nat) (h : i < 256) : tg ftab i = gexp i := by rw [tg_is]; exact flit_low i h
theorem ftab_log (a : Nat) (h : a < 256) : (a = 0 ∨ gexp (tg ftab (256 + a)) = a) ∧ tg ftab (256 + a) < 255 := by rw [tg_is]; exact flit_log a h
theorem ftab_log0 : tg ftab 256 = 0 := by rw [tg_is]; rfl
theorem ftab_log1 : tg ftab 257 = 0 := by rw [tg_is]; rfl
theorem ftab_small : Small ftab := by
  refine ⟨ftab_size, fun i => ?_⟩
  by_cases h : i < 512
  · by_cases h2 : i < 256
    · rw [ftab_low i h2]; exact gexp_lt i
    · have := (ftab_log (i - 256) (by omega)).2
      rw [show 256 + (i - 256) = i from by omega] at this; omega
  · rw [tg_big ftab i (by rw [ftab_size]; omega)]; omega
theorem tmul_is (a b : Nat) (ha : a < 256) (hb : b < 256) : tmul ftab a b = gm a b := by
  unfold tmul
  by_cases h0 : a = 0
  · subst h0; rw [if_pos (.inl rfl), zero_gm]
  by_cases h1 : b = 0
  · subst h1; rw [if_pos (.inr rfl), gm_zero]
  rw [if_neg (by omega), ftab_low _ (by omega), gexp_mod, ← gexp_add]
  have h2 := (ftab_log a ha).1
  have h3 := (ftab_log b hb).1
  rw [h2.resolve_left h0, h3.resolve_left h1]
theorem gm_tinv (a : Nat) (ha : a < 256) (h0 : a ≠ 0) : gm a (tinv ftab a) = 1 := by
  obtain ⟨h1, h2⟩ := ftab_log a ha
  have h3 := h1.resolve_left h0
  unfold tinv
  rw [if_neg h0, ftab_low _ (by omega)]
  generalize tg ftab (256 + a) = l at *
  rw [← h3, gexp_add, show l + (255 - l) = 255 from by omega, gexp_255]
theorem gm_cancel (a b : Nat) (ha : a < 256) (hb : b < 256) (h0 : b ≠ 0) : gm (gm a b) (tinv ftab b) = a := by
  rw [gm_assoc _ _ _ ha hb (tinv_lt ftab_small b), gm_tinv b hb h0, gm_one a ha]
theorem rinvFrom_spec (a : Nat) : ∀ f i, (∃ j, i ≤ j ∧ j < i + f ∧ gm a j = 1) → gm a (rinvFrom a f i) = 1 ∧ rinvFrom a f i < i + f
  | 0, i, ⟨j, h1, h2, _⟩ => by omega
  | f + 1, i, ⟨j, h1, h2, h3⟩ => by
    unfold rinvFrom
    split
    · rename_i h; exact ⟨h, by omega⟩
    · rename_i h
      have hne : j ≠ i := fun e => h (by rw [← e]; exact h3)
      have := rinvFrom_spec a f (i + 1) ⟨j, by omega, by omega, h3⟩
      exact ⟨this.1, by omega⟩
theorem gm_tinv_ne (a : Nat) (ha : a < 256) (h0 : a ≠ 0) : tinv ftab a ≠ 0 := fun h => by
  have := gm_tinv a ha h0
  rw [h, gm_zero] at this; omega
theorem rinv_is (a : Nat) (ha : a < 256) (h0 : a ≠ 0) : rinv a = tinv ftab a := by
  have hl := tinv_lt ftab_small a
  obtain ⟨h1, h2⟩ := rinvFrom_spec a 255 1 ⟨tinv ftab a, by have := gm_tinv_ne a ha h0; omega, by omega, gm_tinv a ha h0⟩
  have hr : rinv a < 256 := h2
  have e1 : gm (rinv a) (gm a (tinv ftab a)) = rinv a := by rw [gm_tinv a ha h0, gm_one _ hr]
  rw [← gm_assoc _ _ _ hr ha hl, gm_comm _ _ hr ha] at e1
  have h1' : gm a (rinv a) = 1 := h1
  rw [h1', gm_comm 1 _ (by omega) hl, gm_one _ hl] at e1
  exact e1.symm
/-- a polynomial's value by definition, from a power on -/
def pv (x : Nat) : List Nat → Nat → Nat
  | [], _ => 0
  | c :: l, p => gm c p ^^^ pv x l (gm p x)
/-- Horner's -/
def hv (x : Nat) : List Nat → Nat
  | [] => 0
  | c :: l => gm (hv x l) x ^^^ c
theorem hv_lt (x : Nat) : ∀ l : List Nat, (∀ c ∈ l, c < 256) → hv x l < 256
  | [], _ => by simp [hv]
  | c :: l, h => Nat.xor_lt_two_pow (n := 8) (gm_lt _ _) (h c (by simp))
theorem teval_is (x : Nat) (hx : x < 256) : ∀ l : List Nat, (∀ c ∈ l, c < 256) → teval ftab x l = hv x l
  | [], _ => rfl
  | c :: l, h => by
    have hl : ∀ c ∈ l, c < 256 := fun c hc => h c (by simp [hc])
    rw [teval, hv, teval_is x hx l hl, tmul_is _ _ (hv_lt x l hl) hx]
theorem pv_hv (x : Nat) (hx : x < 256) : ∀ (l : List Nat) (p : Nat), (∀ c ∈ l, c < 256) → p < 256 → pv x l p = gm (hv x l) p
  | [], p, _, _ => by rw [pv, hv, zero_gm]
  | c :: l, p, h, hp => by
    have hl : ∀ c ∈ l, c < 256 := fun c hc => h c (by simp [hc])
    rw [pv, hv, pv_hv x hx l (gm p x) hl (gm_lt _ _), gm_left, gm_comm p x hp hx, gm_assoc _ _ _ (hv_lt x l hl) hx hp, Nat.xor_comm]
theorem gpow_succ' (x k : Nat) (hx : x < 256) : gm x (gpow x k) = gpow x (k + 1) := by
  rw [gm_comm _ _ hx (gpow_lt x k)]; rfl
theorem reval_pv (x : Nat) (l : List Nat) : ∀ (n k : Nat), k + n = l.length → reval x l l.length = reval x l k ^^^ pv x (l.drop k) (gpow x k)
  | 0, k, h => by
    have hk : k = l.length := by omega
    rw [hk, List.drop_length, pv, Nat.xor_zero]
  | n + 1, k, h => by
    have hk : k < l.length := by omega
    rw [reval_pv x l n (k + 1) (by omega), List.drop_eq_getElem_cons hk, pv, reval, List.getD_eq_getElem?_getD, List.getElem?_eq_getElem hk, Nat.xor_assoc]
    rfl
theorem reval_is (x : Nat) (hx : x < 256) (l : List Nat) (hl : ∀ c ∈ l, c < 256) : reval x l l.length = hv x l := by
  rw [reval_pv x l l.length 0 (by omega)]
  simp only [reval, List.drop_zero, gpow, Nat.zero_xor]
  rw [pv_hv x hx l 1 hl (by omega), gm_one _ (hv_lt x l hl)]
end Go.Proofs.Ytldanlglefgobaa
