/- The window of the last numbers, plainly: 64 bits below the top say what the list of all that were taken says. -/
import Derived.WalkKit
namespace Go.Proofs.Ytcmahmlcoodfoaa
structure Wst where
  some_ : Bool
  top : Nat
  bits : Nat
def wgot (s : Wst) (n : Nat) : Bool := !s.some_ || decide (s.top < n) || (decide (s.top - n < 64) && !s.bits.testBit (s.top - n))
def wnext (s : Wst) (n : Nat) : Wst :=
  if s.some_ = false then ⟨true, n, 1⟩
  else if s.top < n then ⟨true, n, (s.bits * 2 ^ min (n - s.top) 64) % 2 ^ 64 ||| 1⟩
  else if wgot s n then ⟨true, s.top, s.bits ||| 2 ^ (s.top - n)⟩ else s
def ltop : List Nat → Nat
  | [] => 0
  | x :: l => max x (ltop l)
def rgot (l : List Nat) (n : Nat) : Bool := !l.contains n && !(decide (0 < l.length) && decide (n < ltop l) && decide (63 < ltop l - n))
def rnext (l : List Nat) (n : Nat) : List Nat := if rgot l n then l ++ [n] else l
theorem ltop_le (l : List Nat) : ∀ x ∈ l, x ≤ ltop l := by
  induction l with
  | nil => intro x h; cases h
  | cons y l ih =>
    intro x h
    simp only [ltop]
    rcases List.mem_cons.1 h with rfl | h
    · omega
    · have := ih x h; omega
theorem ltop_mem (l : List Nat) (h : l ≠ []) : ltop l ∈ l := by
  induction l with
  | nil => exact absurd rfl h
  | cons y l ih =>
    by_cases hl : l = []
    · subst hl; simp [ltop]
    · have := ih hl
      simp only [ltop]
      rcases Nat.le_total y (ltop l) with h1 | h1
      · rw [Nat.max_eq_right h1]; exact List.mem_cons_of_mem _ this
      · rw [Nat.max_eq_left h1]; exact List.mem_cons_self ..
/-- what the bits say -/
structure WInv (s : Wst) (l : List Nat) : Prop where
  some_ : s.some_ = !l.isEmpty
  top : l ≠ [] → s.top = ltop l
  lt : s.bits < 2 ^ 64
  bit : l ≠ [] → ∀ i, i < 64 → (s.bits.testBit i = true ↔ (i ≤ s.top ∧ s.top - i ∈ l))
theorem winv_zero : WInv ⟨false, 0, 0⟩ [] := ⟨rfl, fun h => absurd rfl h, by decide, fun h => absurd rfl h⟩
theorem contains_iff (l : List Nat) (n : Nat) : l.contains n = true ↔ n ∈ l := by simp
theorem wgot_is {s : Wst} {l : List Nat} (h : WInv s l) (n : Nat) : wgot s n = rgot l n := by
  by_cases hl : l = []
  · subst hl
    have : s.some_ = false := h.some_
    simp [wgot, rgot, this]
  · have hs : s.some_ = true := by rw [h.some_]; cases l <;> simp_all
    have ht := h.top hl
    have hb := h.bit hl
    have hpos : 0 < l.length := List.length_pos_iff.2 hl
    have hmem := ltop_mem l hl
    have hle := ltop_le l
    by_cases h1 : s.top < n
    · have hn : n ∉ l := fun hx => by have := hle n hx; omega
      have hc : l.contains n = false := by rw [← Bool.not_eq_true, contains_iff]; exact hn
      simp [wgot, rgot, h1, hn, show ¬ n < ltop l by omega]
    · by_cases h2 : s.top - n < 64
      · have hbit := hb (s.top - n) h2
        have e1 : s.top - (s.top - n) = n := by omega
        rw [e1] at hbit
        have hiff : s.bits.testBit (s.top - n) = l.contains n := by
          rw [Bool.eq_iff_iff, contains_iff, hbit]
          constructor
          · exact fun h => h.2
          · exact fun h => ⟨by omega, h⟩
        unfold wgot rgot
        rw [hs, hiff]
        simp [h1, h2, show ¬ 63 < ltop l - n by omega]
      · unfold wgot rgot
        simp [hs, h1, h2, hpos, show n < ltop l by omega, show 63 < ltop l - n by omega]
theorem ltop_app (l : List Nat) (n : Nat) : ltop (l ++ [n]) = max (ltop l) n := by
  induction l with
  | nil => simp [ltop]
  | cons x l ih => simp only [List.cons_append, ltop, ih]; omega
theorem winv_next {s : Wst} {l : List Nat} (h : WInv s l) (n : Nat) : WInv (wnext s n) (rnext l n) := by
  have hg := wgot_is h n
  unfold rnext
  by_cases hl : l = []
  · subst hl
    have hs : s.some_ = false := h.some_
    have hr : rgot [] n = true := by simp [rgot]
    rw [hr]
    simp only [wnext, hs, if_true, List.nil_append]
    refine ⟨rfl, fun _ => by simp [ltop], by show (1 : Nat) < 2 ^ 64; decide, fun _ i hi => ?_⟩
    simp only [List.mem_singleton]
    rw [show (1 : Nat) = 2 ^ 0 from rfl, Nat.testBit_two_pow]
    simp; omega
  · have hs : s.some_ = true := by rw [h.some_]; cases l <;> simp_all
    have ht := h.top hl
    have hb := h.bit hl
    have hle := ltop_le l
    have hmem := ltop_mem l hl
    by_cases h1 : s.top < n
    · have hw : wgot s n = true := by simp [wgot, h1]
      rw [← hg, hw]
      simp only [wnext, hs, h1, if_true, Bool.true_eq_false, if_false]
      refine ⟨by simp, fun _ => by rw [ltop_app]; show n = max (ltop l) n; omega, ?_, fun _ i hi => ?_⟩
      · exact Nat.or_lt_two_pow (Nat.mod_lt _ (by decide)) (by decide)
      · rw [Nat.testBit_or, Nat.testBit_mod_two_pow, Nat.testBit_mul_two_pow, show (1 : Nat) = 2 ^ 0 from rfl, Nat.testBit_two_pow]
        simp only [List.mem_append, List.mem_singleton, Bool.or_eq_true, Bool.and_eq_true, decide_eq_true_eq]
        constructor
        · rintro (⟨_, h2, h3⟩ | h0)
          · have hd : min (n - s.top) 64 = n - s.top := by omega
            rw [hd] at h2 h3
            have := (hb (i - (n - s.top)) (by omega)).1 h3
            refine ⟨by omega, .inl ?_⟩
            rw [show n - i = s.top - (i - (n - s.top)) by omega]
            exact this.2
          · omega
        · rintro ⟨h2, h3⟩
          rcases h3 with h3 | h3
          · have := hle _ h3
            have hd : min (n - s.top) 64 = n - s.top := by omega
            refine .inl ⟨hi, by omega, ?_⟩
            rw [hd, hb _ (by omega)]
            refine ⟨by omega, ?_⟩
            rw [show s.top - (i - (n - s.top)) = n - i by omega]
            exact h3
          · exact .inr (by omega)
    · by_cases h2 : wgot s n = true
      · rw [← hg, h2]
        simp only [wnext, hs, h1, h2, if_true, Bool.true_eq_false, if_false]
        have h3 : s.top - n < 64 := by
          simp [wgot, hs, h1] at h2; exact h2.1
        refine ⟨by simp, fun _ => by rw [ltop_app]; show s.top = max (ltop l) n; omega, ?_, fun _ i hi => ?_⟩
        · exact Nat.or_lt_two_pow h.lt (Nat.pow_lt_pow_right (by decide) h3)
        · rw [Nat.testBit_or, Nat.testBit_two_pow]
          simp only [List.mem_append, List.mem_singleton, Bool.or_eq_true, decide_eq_true_eq]
          rw [hb i hi]
          constructor
          · rintro (⟨h4, h5⟩ | h4)
            · exact ⟨h4, .inl h5⟩
            · exact ⟨by omega, .inr (by omega)⟩
          · rintro ⟨h4, h5 | h5⟩
            · exact .inl ⟨h4, h5⟩
            · exact .inr (by omega)
      · have h2' : wgot s n = false := by simpa using h2
        rw [← hg, h2']
        simp only [wnext, hs, h1, h2', if_false, Bool.true_eq_false, Bool.false_eq_true]
        exact h
theorem rgot_not_mem {l : List Nat} {n : Nat} (h : rgot l n = true) : n ∉ l := by
  unfold rgot at h
  simp only [Bool.and_eq_true, Bool.not_eq_true'] at h
  intro hm
  rw [(contains_iff l n).2 hm] at h
  exact absurd h.1 (by decide)
end Go.Proofs.Ytcmahmlcoodfoaa
