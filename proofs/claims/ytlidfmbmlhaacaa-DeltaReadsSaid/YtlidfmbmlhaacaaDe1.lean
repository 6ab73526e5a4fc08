/- Pieces, read: plain. -/
import Derived.Test.YtlidfmbmlhaacaaDe0
namespace Go.Proofs.Ytlidfmbmlhaacaa
open Go.RowKit
set_option linter.unusedVariables false
set_option linter.unusedSimpArgs false
/-- a short form, read: the number, how many bytes, the error -/
def gsF (i acc : Nat) : List Nat → Nat × Nat × Nat
  | [] => (0, 0, 2)
  | c :: b => if i = 9 ∧ 1 < c then (0, 0, 4) else if 128 ≤ c then gsF (i + 1) (acc + c % 128 * 128 ^ i) b else if c = 0 ∧ 0 < i then (0, 0, 4) else (acc + c % 128 * 128 ^ i, i + 1, 0)
theorem gsF_used (b : List Nat) : ∀ i acc, (gsF i acc b).2.1 ≤ i + b.length := by
  induction b with
  | nil => intro i acc; simp [gsF]
  | cons c b ih =>
    intro i acc
    rw [gsF]
    split
    · simp
    · split
      · have := ih (i + 1) (acc + c % 128 * 128 ^ i)
        rw [List.length_cons]
        omega
      · split
        · exact Nat.zero_le _
        · rw [List.length_cons]
          show i + 1 ≤ _
          omega
/-- without an error at least one byte is read -/
theorem gsF_pos (b : List Nat) : ∀ i acc, (gsF i acc b).2.2 = 0 → i + 1 ≤ (gsF i acc b).2.1 := by
  induction b with
  | nil => intro i acc h; simp [gsF] at h
  | cons c b ih =>
    intro i acc h
    rw [gsF] at h ⊢
    split
    · rename_i h1; rw [if_pos h1] at h; simp at h
    · rename_i h1; rw [if_neg h1] at h
      split
      · rename_i h2; rw [if_pos h2] at h; have := ih _ _ h; omega
      · rename_i h2; rw [if_neg h2] at h
        split
        · rename_i h3; rw [if_pos h3] at h; simp at h
        · exact Nat.le_refl _
theorem gsF_err (b : List Nat) : ∀ i acc, (gsF i acc b).2.2 ≤ 4 := by
  induction b with
  | nil => intro i acc; simp [gsF]
  | cons c b ih =>
    intro i acc
    rw [gsF]
    split
    · simp
    · split
      · exact ih _ _
      · split <;> simp
theorem gsF_lt (b : List Nat) (hb : ∀ c ∈ b, c < 256) : ∀ i acc, i ≤ 9 → acc < 128 ^ i → (gsF i acc b).1 < 18446744073709551616 := by
  induction b with
  | nil => intro i acc _ _; simp [gsF]
  | cons c b ih =>
    intro i acc hi ha
    have hc := hb c (by simp)
    rw [gsF]
    split
    · simp
    · rename_i h1
      split
      · rename_i h2
        have hi9 : i < 9 := by
          rcases Nat.lt_or_ge i 9 with h | h
          · exact h
          · exact absurd ⟨by omega, by omega⟩ h1
        refine ih (fun c h => hb c (by simp [h])) _ _ (by omega) ?_
        have h3 : c % 128 < 128 := Nat.mod_lt _ (by decide)
        have h4 : (c % 128 + 1) * 128 ^ i ≤ 128 * 128 ^ i := Nat.mul_le_mul_right _ h3
        rw [Nat.add_mul, Nat.one_mul] at h4
        rw [Nat.pow_succ, Nat.mul_comm (128 ^ i)]
        omega
      · rename_i h2
        split
        · simp
        · have h3 : c % 128 = c := by omega
          rw [h3]
          rcases Nat.lt_or_ge i 9 with h | h
          · have h4 : (c + 1) * 128 ^ i ≤ 128 * 128 ^ i := Nat.mul_le_mul_right _ (by omega)
            rw [Nat.add_mul, Nat.one_mul] at h4
            have h5 : 128 * 128 ^ i ≤ 128 * 128 ^ 8 := Nat.mul_le_mul_left _ (Nat.pow_le_pow_right (by decide) (by omega))
            simp only
            omega
          · have : i = 9 := by omega
            subst this
            have hc1 : c ≤ 1 := by
              rcases Nat.lt_or_ge 1 c with h | h
              · exact absurd ⟨rfl, h⟩ h1
              · exact h
            have h4 : c * 128 ^ 9 ≤ 1 * 128 ^ 9 := Nat.mul_le_mul_right _ hc1
            simp only
            omega
theorem gsF_sh (n : Nat) : ∀ i acc rest, n * 128 ^ i < 18446744073709551616 → (n = 0 → i = 0) → gsF i acc (sh n ++ rest) = (acc + n * 128 ^ i, i + (sh n).length, 0) := by
  induction n using Nat.strongRecOn with
  | ind n ih =>
    intro i acc rest h h0
    rw [sh]
    split
    · rename_i hlt
      rw [List.cons_append, List.nil_append, gsF]
      have h9 : ¬ (i = 9 ∧ 1 < n) := by
        rintro ⟨rfl, h1⟩
        have : 2 * 128 ^ 9 ≤ n * 128 ^ 9 := Nat.mul_le_mul_right _ h1
        omega
      rw [if_neg h9, if_neg (by omega), if_neg (by omega), Nat.mod_eq_of_lt hlt]
      rfl
    · rename_i hge
      rw [List.cons_append, gsF]
      have hi : i ≤ 8 := by
        rcases Nat.lt_or_ge 8 i with h1 | h1
        · have h2 : 128 * 128 ^ 9 ≤ n * 128 ^ i := Nat.mul_le_mul (by omega) (Nat.pow_le_pow_right (by decide) h1)
          omega
        · exact h1
      rw [if_neg (by omega), if_pos (by omega)]
      have e1 : n / 128 * 128 ^ (i + 1) + n % 128 * 128 ^ i = n * 128 ^ i := by
        rw [Nat.pow_succ, Nat.mul_comm (128 ^ i) 128, ← Nat.mul_assoc, ← Nat.add_mul]
        congr 1
        omega
      rw [ih (n / 128) (by omega) (i + 1) _ rest (by omega) (by omega), show (n % 128 + 128) % 128 = n % 128 by omega]
      simp only [List.length_cons, Prod.mk.injEq, and_true]
      omega
/-- read a number: the number, what is left, whether all was in form -/
def rdS (b : List Nat) (bad : Bool) : Nat × List Nat × Bool := ((gsF 0 0 b).1, b.drop (gsF 0 0 b).2.1, bad || decide ((gsF 0 0 b).2.2 ≠ 0))
def rdB (n : Nat) (b : List Nat) (bad : Bool) : List Nat × List Nat × Bool := if b.length < n then ([], b, true) else (b.take n, b.drop n, bad)
theorem rdS_sh (n : Nat) (rest : List Nat) (h : n < 18446744073709551616) : rdS (sh n ++ rest) false = (n, rest, false) := by
  unfold rdS
  rw [gsF_sh n 0 0 rest (by simpa using h) (fun _ => rfl)]
  simp
theorem rdB_app (l rest : List Nat) (bad : Bool) : rdB l.length (l ++ rest) bad = (l, rest, bad) := by
  unfold rdB
  rw [if_neg (by simp)]
  simp
def rpL (s : ByteArray) : Nat → List Nat → Bool → Int → Int → Int → List Pc → List Pc × List Nat × Bool
  | 0, b, bad, t, step, v, acc => (acc, b, bad)
  | i + 1, b, bad, t, step, v, acc =>
    if (rdB 2 (rdS (rdS (rdS b bad).2.1 (rdS b bad).2.2).2.1 (rdS (rdS b bad).2.1 (rdS b bad).2.2).2.2).2.1 (rdS (rdS (rdS b bad).2.1 (rdS b bad).2.2).2.1 (rdS (rdS b bad).2.1 (rdS b bad).2.2).2.2).2.2).2.2 then
      (acc, (rdB 2 (rdS (rdS (rdS b bad).2.1 (rdS b bad).2.2).2.1 (rdS (rdS b bad).2.1 (rdS b bad).2.2).2.2).2.1 (rdS (rdS (rdS b bad).2.1 (rdS b bad).2.2).2.1 (rdS (rdS b bad).2.1 (rdS b bad).2.2).2.2).2.2).2.1, true)
    else
      rpL s i (rdB 2 (rdS (rdS (rdS b bad).2.1 (rdS b bad).2.2).2.1 (rdS (rdS b bad).2.1 (rdS b bad).2.2).2.2).2.1 (rdS (rdS (rdS b bad).2.1 (rdS b bad).2.2).2.1 (rdS (rdS b bad).2.1 (rdS b bad).2.2).2.2).2.2).2.1 false
        (w64 (t + w64 (step + zag (rdS b bad).1))) (w64 (step + zag (rdS b bad).1)) (w64 (v + zag (rdS (rdS b bad).2.1 (rdS b bad).2.2).1))
        (acc ++ [⟨s, w64 (t + w64 (step + zag (rdS b bad).1)), w64 (v + zag (rdS (rdS b bad).2.1 (rdS b bad).2.2).1), (rdS (rdS (rdS b bad).2.1 (rdS b bad).2.2).2.1 (rdS (rdS b bad).2.1 (rdS b bad).2.2).2.2).1,
          number (rdB 2 (rdS (rdS (rdS b bad).2.1 (rdS b bad).2.2).2.1 (rdS (rdS b bad).2.1 (rdS b bad).2.2).2.2).2.1 (rdS (rdS (rdS b bad).2.1 (rdS b bad).2.2).2.1 (rdS (rdS b bad).2.1 (rdS b bad).2.2).2.2).2.2).1⟩])
/-- a round, spelt by its steps -/
theorem rpL_step (s : ByteArray) (i : Nat) (b : List Nat) (bad : Bool) (t step v : Int) (acc : List Pc) {n1 n2 n3 : Nat} {b1 b2 b3 b4 l4 : List Nat} {x1 x2 x3 x4 : Bool}
    (h1 : rdS b bad = (n1, b1, x1)) (h2 : rdS b1 x1 = (n2, b2, x2)) (h3 : rdS b2 x2 = (n3, b3, x3)) (h4 : rdB 2 b3 x3 = (l4, b4, x4)) :
    rpL s (i + 1) b bad t step v acc = if x4 then (acc, b4, true) else rpL s i b4 false (w64 (t + w64 (step + zag n1))) (w64 (step + zag n1)) (w64 (v + zag n2)) (acc ++ [⟨s, w64 (t + w64 (step + zag n1)), w64 (v + zag n2), n3, number l4⟩]) := by
  rw [rpL]
  simp only [h1, h2, h3, h4]
def rsL (b : List Nat) (bad : Bool) : List Pc × List Nat × Bool :=
  rpL ⟨((rdB (rdS b bad).1 (rdS b bad).2.1 (rdS b bad).2.2).1.map UInt8.ofNat).toArray⟩ (rdS (rdB (rdS b bad).1 (rdS b bad).2.1 (rdS b bad).2.2).2.1 (rdB (rdS b bad).1 (rdS b bad).2.1 (rdS b bad).2.2).2.2).1
    (rdS (rdB (rdS b bad).1 (rdS b bad).2.1 (rdS b bad).2.2).2.1 (rdB (rdS b bad).1 (rdS b bad).2.1 (rdS b bad).2.2).2.2).2.1 (rdS (rdB (rdS b bad).1 (rdS b bad).2.1 (rdS b bad).2.2).2.1 (rdB (rdS b bad).1 (rdS b bad).2.1 (rdS b bad).2.2).2.2).2.2 0 0 0 []
theorem rsL_eq (b : List Nat) (bad : Bool) {n1 n3 : Nat} {b1 b2 b3 l2 : List Nat} {x1 x2 x3 : Bool} (h1 : rdS b bad = (n1, b1, x1)) (h2 : rdB n1 b1 x1 = (l2, b2, x2)) (h3 : rdS b2 x2 = (n3, b3, x3)) :
    rsL b bad = rpL ⟨(l2.map UInt8.ofNat).toArray⟩ n3 b3 x3 0 0 0 [] := by
  unfold rsL
  simp only [h1, h2, h3]
def rgL : Nat → List Nat → Bool → List Pc → List Pc × Bool
  | 0, b, bad, acc => (acc, bad)
  | i + 1, b, bad, acc => if (rsL b bad).2.2 then (acc ++ (rsL b bad).1, true) else rgL i (rsL b bad).2.1 false (acc ++ (rsL b bad).1)
theorem rpL_rows (s : ByteArray) (g : List Pc) : ∀ (t step v : Int) (acc : List Pc) (rest : List Nat), (∀ p ∈ g, PcOk p ∧ p.s = s) → -9223372036854775808 ≤ t → t ≤ 9223372036854775807 → -9223372036854775808 ≤ v → v ≤ 9223372036854775807 →
    rpL s g.length (rowsL t step v g ++ rest) false t step v acc = (acc ++ g, rest, false) := by
  induction g with
  | nil => intro t step v acc rest _ _ _ _ _; simp [rpL, rowsL]
  | cons p g ih =>
    intro t step v acc rest h t0 t1 v0 v1
    obtain ⟨hp, hs⟩ := h p (by simp)
    have hz1 := zig_lt (w64 (w64 (p.t - t) - step)) (w64_lo _) (w64_hi _)
    have hz2 := zig_lt (w64 (p.v - v)) (w64_lo _) (w64_hi _)
    rw [List.length_cons, rowsL]
    simp only [List.append_assoc]
    have h4 := rdB_app (form p.d 2) (rowsL p.t (w64 (p.t - t)) p.v g ++ rest) false
    rw [form_len] at h4
    rw [rpL_step s g.length _ false t step v acc (rdS_sh _ _ hz1) (rdS_sh _ _ hz2) (rdS_sh _ _ hp.n1) h4]
    simp only [zag_zig, Bool.false_eq_true, if_false]
    rw [number_form p.d 2 hp.d1]
    have e1 : w64 (step + w64 (w64 (p.t - t) - step)) = w64 (p.t - t) := by unfold w64; omega
    have e2 : w64 (t + w64 (p.t - t)) = p.t := by have := hp.t0; have := hp.t1; unfold w64; omega
    have e3 : w64 (v + w64 (p.v - v)) = p.v := by have := hp.v0; have := hp.v1; unfold w64; omega
    rw [e1, e2, e3, ih p.t (w64 (p.t - t)) p.v _ rest (fun q hq => h q (by simp [hq])) hp.t0 hp.t1 hp.v0 hp.v1]
    have e4 : (⟨s, p.t, p.v, p.n, p.d⟩ : Pc) = p := by rw [← hs]
    rw [e4, List.append_assoc]
    rfl
theorem sby_back (s : ByteArray) : (⟨((sby s).map UInt8.ofNat).toArray⟩ : ByteArray) = s := by
  have e : (sby s).map UInt8.ofNat = s.toList := by
    unfold sby
    rw [List.map_map]
    conv => rhs; rw [← List.map_id s.toList]
    apply List.map_congr_left
    intro a _
    simp
  rw [e]
  cases s with
  | mk d => rw [ByteArray.toList_mk]
end Go.Proofs.Ytlidfmbmlhaacaa
