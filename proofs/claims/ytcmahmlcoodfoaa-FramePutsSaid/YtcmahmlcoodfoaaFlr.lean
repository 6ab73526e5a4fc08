/- Contracts: quotients downwards. -/
import Derived.Test.YtcmahmlcoodfoaaTxt2
namespace Go.Proofs.Ytcmahmlcoodfoaa
open Go.RowKit
set_option linter.unusedVariables false
theorem ret_2 {k : IntKind} {a b : Int} {v : Value} (h : a = b) : Ending.returned (.tuple #[.int k a, v]) = .returned (.tuple #[.int k b, v]) := by rw [h]
/-- what a quotient is made of -/
structure Quo (a b q m P : Int) : Prop where
  hq : a.tdiv b = q
  hm : a.tmod b = m
  hP : q * b = P
  sum : P + m = a
  pos : 0 ≤ a → 0 ≤ m
  neg : a ≤ 0 → m ≤ 0
  lt1 : 0 < b → m < b ∧ -b < m
  lt2 : b < 0 → m < -b ∧ b < m
  q1 : -9223372036854775808 ≤ q
  q2 : q ≤ 9223372036854775807
  q3 : m ≠ 0 → -9223372036854775808 < q
  same : (0 ≤ a ∧ 0 < b) ∨ (a ≤ 0 ∧ b < 0) → 0 ≤ q
  other : (0 ≤ a ∧ b < 0) ∨ (a ≤ 0 ∧ 0 < b) → q ≤ 0
theorem quo_ex (a b : Int) (h0 : b ≠ 0) (ha : -9223372036854775808 ≤ a) (ha2 : a ≤ 9223372036854775807) (hx : ¬ (a = -9223372036854775808 ∧ b = -1)) : ∃ q m P, Quo a b q m P := by
  have hB : 0 < b.natAbs := by omega
  have e1 := Int.natAbs_tdiv a b
  have e2 := Int.natAbs_tmod a b
  have h1 : a.natAbs % b.natAbs < b.natAbs := Nat.mod_lt _ hB
  have hpos : 0 ≤ a → 0 ≤ a.tmod b := fun h => Int.tmod_nonneg b h
  have hneg : a ≤ 0 → a.tmod b ≤ 0 := fun h => by
    have := Int.tmod_nonneg (a := -a) b (by omega)
    rw [Int.neg_tmod] at this; omega
  have hle : a.natAbs.div b.natAbs ≤ a.natAbs := Nat.div_le_self _ _
  have hsame : (0 ≤ a ∧ 0 < b) ∨ (a ≤ 0 ∧ b < 0) → 0 ≤ a.tdiv b := fun h => by
    rcases h with ⟨h2, h3⟩ | ⟨h2, h3⟩
    · exact Int.tdiv_nonneg h2 (by omega)
    · exact Int.tdiv_nonneg_of_nonpos_of_nonpos h2 (by omega)
  have hother : (0 ≤ a ∧ b < 0) ∨ (a ≤ 0 ∧ 0 < b) → a.tdiv b ≤ 0 := fun h => by
    rcases h with ⟨h2, h3⟩ | ⟨h2, h3⟩
    · exact Int.tdiv_nonpos_of_nonneg_of_nonpos h2 (by omega)
    · have := Int.tdiv_nonneg (a := -a) (b := b) (by omega) (by omega)
      rw [Int.neg_tdiv] at this; omega
  have hbig : b.natAbs = 1 ∨ (a.tdiv b).natAbs ≤ 4611686018427387904 := by
    rcases Nat.lt_or_ge 1 b.natAbs with h2 | h2
    · right
      rw [e1]
      have h3 : a.natAbs / b.natAbs ≤ a.natAbs / 2 := Nat.div_le_div_left h2 (by decide)
      have h4 : a.natAbs.div b.natAbs = a.natAbs / b.natAbs := rfl
      omega
    · left; omega
  have hone : b = 1 → a.tdiv b = a := fun h => by rw [h, Int.tdiv_one]
  have hmone : b = -1 → a.tdiv b = -a := fun h => by rw [h, Int.tdiv_neg, Int.tdiv_one]
  have hm1 : b.natAbs = 1 → a.tmod b = 0 := fun h => by
    rw [h, Nat.mod_one] at e2; omega
  refine ⟨a.tdiv b, a.tmod b, a.tdiv b * b, rfl, rfl, rfl, Int.tdiv_mul_add_tmod a b, hpos, hneg, ?_, ?_, ?_, ?_, ?_, hsame, hother⟩
  all_goals
    generalize a.tdiv b = q at *
    generalize a.tmod b = m at *
    omega
/-- the quotient downwards: its value, its error -/
def flq (a b q m : Int) : Int := if m ≠ 0 ∧ ¬ (decide (a < 0) = decide (b < 0)) then q - 1 else q
theorem shr63 (a : Int) (ha : -9223372036854775808 ≤ a) (ha2 : a ≤ 9223372036854775807) : a / 9223372036854775808 = if a < 0 then -1 else 0 := by
  split <;> omega
set_option maxRecDepth 100000 in
set_option maxHeartbeats 400000 in
theorem floor_zero (a : Int) (w : World) :
    Calls Try.prog 22 #[.int .i64 a, .int .i64 0] w fun e w' => e = .returned (.tuple #[.int .i64 0, .int .i64 1]) ∧ w = w' := by
  go_enter Try.func22, Try.ntmps22
  go_wp2
  go_ret2
  exact ⟨rfl, rfl⟩
set_option maxRecDepth 100000 in
set_option maxHeartbeats 400000 in
theorem floor_c (a b q m P : Int) (w : World) (h : Quo a b q m P) (h0 : b ≠ 0) (ha : -9223372036854775808 ≤ a) (ha2 : a ≤ 9223372036854775807) (hb : -9223372036854775808 ≤ b) (hb2 : b ≤ 9223372036854775807) (hx : ¬ (a = -9223372036854775808 ∧ b = -1)) :
    Calls Try.prog 22 #[.int .i64 a, .int .i64 b] w fun e w' => e = .returned (.tuple #[.int .i64 (flq a b q m), .int .i64 0]) ∧ w = w' := by
  obtain ⟨hq, hm, hP, hsum, hpos, hneg, hl1, hl2, hq1, hq2, hq3, hs, ho⟩ := h
  have t0 : (b == 0) = false := beq_eq_false_iff_ne.2 h0
  have hn0 : (b = 0) = False := eq_false h0
  have hxx : ((a == -9223372036854775808) = false) ∨ ((a == -9223372036854775808) = true ∧ (b == -1) = false) := by
    by_cases h1 : a = -9223372036854775808
    · exact .inr ⟨by rw [h1]; rfl, beq_eq_false_iff_ne.2 (fun h2 => hx ⟨h1, h2⟩)⟩
    · exact .inl (beq_eq_false_iff_ne.2 h1)
  have hcase : (m != 0) = false ∨ ((m != 0) = true ∧ (a / 9223372036854775808 != b / 9223372036854775808) = false) ∨ ((m != 0) = true ∧ (a / 9223372036854775808 != b / 9223372036854775808) = true ∧ -9223372036854775807 ≤ q) := by
    have hq4 : (m != 0) = true → -9223372036854775807 ≤ q := fun h => by
      have := hq3 (by simpa using h); omega
    cases hm0 : (m != 0)
    · exact .inl rfl
    · cases (a / 9223372036854775808 != b / 9223372036854775808)
      · exact .inr (.inl ⟨rfl, rfl⟩)
      · exact .inr (.inr ⟨rfl, rfl, hq4 hm0⟩)
  have hfl : flq a b q m = if (m != 0) && (a / 9223372036854775808 != b / 9223372036854775808) then q - 1 else q := by
    unfold flq
    rw [shr63 a ha ha2, shr63 b hb hb2]
    by_cases h1 : m = 0 <;> by_cases h2 : a < 0 <;> by_cases h3 : b < 0 <;> simp [h1, h2, h3]
  have HF := Lib.hid hfl
  have HX := Lib.hid hx
  clear hfl hx hs ho hpos hneg hl1 hl2 hP hsum
  rcases hxx with t1 | ⟨t1, t2⟩ <;> rcases hcase with t3 | ⟨t3, t4⟩ | ⟨t3, t4, hq4⟩
  all_goals
    go_enter Try.func22, Try.ntmps22
    go_wp2
    go_ret2
    rw [HF.out]
    exact ⟨by first | rw [t3, t4]; rfl | rw [t3]; rfl, rfl⟩
set_option maxRecDepth 100000 in
set_option maxHeartbeats 400000 in
theorem rfloor_zero (a : Int) (w : World) :
    Calls Try.prog 23 #[.int .i64 a, .int .i64 0] w fun e w' => e = .returned (.tuple #[.int .i64 0, .int .i64 1]) ∧ w = w' := by
  go_enter Try.func23, Try.ntmps23
  go_wp2
  go_ret2
  exact ⟨rfl, rfl⟩
set_option maxRecDepth 100000 in
set_option maxHeartbeats 400000 in
theorem floor_over (w : World) :
    Calls Try.prog 22 #[.int .i64 (-9223372036854775808), .int .i64 (-1)] w fun e w' => e = .returned (.tuple #[.int .i64 0, .int .i64 19]) ∧ w = w' := by
  go_enter Try.func22, Try.ntmps22
  go_wp2
  go_ret2
  exact ⟨rfl, rfl⟩
set_option maxRecDepth 100000 in
set_option maxHeartbeats 400000 in
theorem rfloor_over (w : World) :
    Calls Try.prog 23 #[.int .i64 (-9223372036854775808), .int .i64 (-1)] w fun e w' => e = .returned (.tuple #[.int .i64 0, .int .i64 19]) ∧ w = w' := by
  go_enter Try.func23, Try.ntmps23
  go_wp2
  go_ret2
  exact ⟨rfl, rfl⟩
set_option maxRecDepth 100000 in
set_option maxHeartbeats 400000 in
theorem rfloor_c (a b q m P : Int) (w : World) (h : Quo a b q m P) (h0 : b ≠ 0) (ha : -9223372036854775808 ≤ a) (ha2 : a ≤ 9223372036854775807) (hb : -9223372036854775808 ≤ b) (hb2 : b ≤ 9223372036854775807) (hx : ¬ (a = -9223372036854775808 ∧ b = -1)) :
    Calls Try.prog 23 #[.int .i64 a, .int .i64 b] w fun e w' => e = .returned (.tuple #[.int .i64 (flq a b q m), .int .i64 0]) ∧ w = w' := by
  have hfl : ∀ B1 B2 : Bool, B1 = (m != 0) → B2 = (!(decide (a < 0) == decide (b < 0))) → flq a b q m = if B1 && B2 then q - 1 else q := by
    rintro _ _ rfl rfl
    unfold flq
    by_cases h1 : m = 0 <;> by_cases h2 : a < 0 <;> by_cases h3 : b < 0 <;> simp [h1, h2, h3]
  obtain ⟨hq, hm, hP, hsum, hpos, hneg, hl1, hl2, hq1, hq2, hq3, hs, ho⟩ := h
  have t0 : (b == 0) = false := beq_eq_false_iff_ne.2 h0
  have hn0 : (b = 0) = False := eq_false h0
  by_cases hm1 : b = -1
  · subst hm1
    have ha3 : -9223372036854775807 ≤ a := by
      have : a ≠ -9223372036854775808 := fun h => hx ⟨h, rfl⟩
      omega
    have t1 : (a == -9223372036854775808) = false := beq_eq_false_iff_ne.2 (by omega)
    have hqa : q = 0 - a := by
      rw [← hq, Int.tdiv_neg, Int.tdiv_one]; omega
    have hm0 : m = 0 := by have := hl2 (by omega); omega
    have HF := Lib.hid (show flq a (-1) q m = 0 - a by rw [hfl _ _ rfl rfl, hm0, hqa]; simp)
    clear hfl hx hs ho hpos hneg hl1 hl2 hP hsum hq hm hq3 hqa hm0 hn0
    go_enter Try.func23, Try.ntmps23
    go_wp2
    go_ret2
    rw [HF.out]
    exact ⟨ret_2 (by omega), rfl⟩
  · have t1 : (b == -1) = false := beq_eq_false_iff_ne.2 hm1
    have hP1 : -9223372036854775808 ≤ P ∧ P ≤ 9223372036854775807 := by
      rcases Int.le_total 0 a with h | h
      · have := hpos h
        rcases Int.lt_or_gt_of_ne h0 with h4 | h4
        · have := hl2 h4; omega
        · have := hl1 h4
          have := hs (.inl ⟨h, h4⟩)
          have hmle : m ≤ a := by
            have : 0 ≤ q * b := Int.mul_nonneg this (by omega)
            omega
          omega
      · have := hneg h
        rcases Int.lt_or_gt_of_ne h0 with h4 | h4
        · have := hl2 h4
          have := hs (.inr ⟨h, h4⟩)
          have hmle : a ≤ m := by
            have : q * b ≤ 0 := Int.mul_nonpos_of_nonneg_of_nonpos this (by omega)
            omega
          omega
        · have := ho (.inr ⟨h, h4⟩)
          have hmle : a ≤ m := by
            have : q * b ≤ 0 := Int.mul_nonpos_of_nonpos_of_nonneg this (by omega)
            omega
          omega
    have tP : (P != a) = (m != 0) := by
      rw [Bool.eq_iff_iff, bne_iff_ne, bne_iff_ne]
      constructor <;> intro h1 h2 <;> omega
    obtain ⟨hP2, hP3⟩ := hP1
    have hcase : (P != a) = false ∨ ((P != a) = true ∧ (!(decide (a < 0) == decide (b < 0))) = false) ∨ ((P != a) = true ∧ (!(decide (a < 0) == decide (b < 0))) = true ∧ -9223372036854775807 ≤ q) := by
      have hq4 : (P != a) = true → -9223372036854775807 ≤ q := fun h => by
        rw [tP] at h
        have := hq3 (by simpa using h); omega
      cases hm0 : (P != a)
      · exact .inl rfl
      · cases (!(decide (a < 0) == decide (b < 0)))
        · exact .inr (.inl ⟨rfl, rfl⟩)
        · exact .inr (.inr ⟨rfl, rfl, hq4 hm0⟩)
    have hF := hfl (P != a) (!(decide (a < 0) == decide (b < 0))) tP rfl
    have HF := Lib.hid hF
    have HX := Lib.hid hx
    clear hF hfl hx hs ho hpos hneg hl1 hl2 hsum hq3 tP
    rcases hcase with t3 | ⟨t3, t4⟩ | ⟨t3, t4, hq4⟩
    all_goals
      go_enter Try.func23, Try.ntmps23
      go_wp2
      go_ret2
      rw [HF.out]
      exact ⟨by first | rw [t3, t4]; rfl | rw [t3]; rfl, rfl⟩
end Go.Proofs.Ytcmahmlcoodfoaa
