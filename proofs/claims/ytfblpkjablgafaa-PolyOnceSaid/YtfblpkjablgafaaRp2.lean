/- The document's 'even': plain. -/
import Derived.Test.YtfblpkjablgafaaRp1
namespace Go.Proofs.Ytfblpkjablgafaa
open Go.RowKit
set_option linter.unusedVariables false
theorem pow10 (i : Nat) (h : 10 ≤ i) : 8192 ^ i = (P130 + 5) * 8192 ^ (i - 10) := by
  have : 8192 ^ i = 8192 ^ 10 * 8192 ^ (i - 10) := by rw [← Nat.pow_add]; congr 1; omega
  rw [this]
  congr 1
/-- the first digits, even if they are too great -/
structure EvA (D : List Nat) (B i : Nat) (O : List Nat) : Prop where
  len : O.length = 10
  bnd : ∀ j, O.getD j 0 ≤ (if j < i then B else 0) + (if j + 10 < i then 5 * B else 0)
  val : ∃ q, V13 (D.take i) = V13 O + P130 * q
theorem EvA.zero (D : List Nat) (B : Nat) : EvA D B 0 (List.replicate 10 0) :=
  ⟨rfl, fun j => by rw [rep_at]; exact Nat.zero_le _, 0, by rw [List.take_zero, V13_rep]; rfl⟩
theorem EvA.low {D : List Nat} {B i : Nat} {O : List Nat} (h : EvA D B i O) (hi : i < 10) (hD : i < D.length) (hb : D.getD i 0 ≤ B) : EvA D B (i + 1) (O.set i (O.getD i 0 + D.getD i 0)) := by
  have hl : i < O.length := by rw [h.len]; exact hi
  refine ⟨by rw [List.length_set]; exact h.len, fun j => ?_, ?_⟩
  · rw [getD_set _ _ _ _ hl]
    by_cases e : j = i
    · subst e
      rw [if_pos rfl]
      have := h.bnd j
      rw [if_neg (by omega), if_neg (by omega)] at this
      rw [if_pos (by omega), if_neg (by omega)]
      omega
    · rw [if_neg e]
      have := h.bnd j
      by_cases h1 : j < i
      · rw [if_pos h1, if_neg (by omega)] at this
        rw [if_pos (by omega), if_neg (by omega)]; exact this
      · rw [if_neg h1, if_neg (by omega)] at this
        rw [if_neg (by omega), if_neg (by omega)]; exact this
  · obtain ⟨q, hq⟩ := h.val
    refine ⟨q, ?_⟩
    have h1 := V13_set O i (O.getD i 0 + D.getD i 0) hl
    rw [Nat.mul_add] at h1
    rw [V13_take D i hD]
    omega
theorem EvA.high {D : List Nat} {B i : Nat} {O : List Nat} (h : EvA D B i O) (hi : 10 ≤ i) (hi2 : i < 20) (hD : i < D.length) (hb : D.getD i 0 ≤ B) : EvA D B (i + 1) (O.set (i - 10) (O.getD (i - 10) 0 + 5 * D.getD i 0)) := by
  have hl : i - 10 < O.length := by rw [h.len]; omega
  refine ⟨by rw [List.length_set]; exact h.len, fun j => ?_, ?_⟩
  · rw [getD_set _ _ _ _ hl]
    by_cases e : j = i - 10
    · subst e
      rw [if_pos rfl]
      have := h.bnd (i - 10)
      rw [if_pos (by omega), if_neg (by omega)] at this
      rw [if_pos (by omega), if_pos (by omega)]
      omega
    · rw [if_neg e]
      have := h.bnd j
      by_cases h1 : j < i
      · rw [if_pos h1] at this
        rw [if_pos (by omega)]
        by_cases h2 : j + 10 < i
        · rw [if_pos h2] at this
          rw [if_pos (by omega)]; exact this
        · rw [if_neg h2] at this
          rw [if_neg (by omega)]; exact this
      · rw [if_neg h1, if_neg (by omega)] at this
        have : O.getD j 0 = 0 := by omega
        rw [this]; exact Nat.zero_le _
  · obtain ⟨q, hq⟩ := h.val
    refine ⟨q + 8192 ^ (i - 10) * D.getD i 0, ?_⟩
    have h1 := V13_set O (i - 10) (O.getD (i - 10) 0 + 5 * D.getD i 0) hl
    rw [Nat.mul_add] at h1
    rw [V13_take D i hD, pow10 i hi, Nat.mul_add, Nat.mul_assoc, Nat.add_mul]
    have e1 : 8192 ^ (i - 10) * (5 * D.getD i 0) = 5 * (8192 ^ (i - 10) * D.getD i 0) := by rw [Nat.mul_left_comm]
    omega
/-- the carry as far as digit i -/
structure EvC (O0 : List Nat) (i c : Nat) (O : List Nat) : Prop where
  len : O.length = 10
  lo : ∀ j, j < i → O.getD j 0 < 8192
  hi : ∀ j, i ≤ j → O.getD j 0 = O0.getD j 0
  cb : c ≤ 35184372088832
  val : V13 O + 8192 ^ i * c = V13 O0
theorem EvC.zero (O : List Nat) (h : O.length = 10) : EvC O 0 0 O := ⟨h, fun j h => by omega, fun _ _ => rfl, by omega, by omega⟩
theorem EvC.step {O0 O : List Nat} {i c : Nat} (h : EvC O0 i c O) (hi : i < 10) (hb : ∀ j, O0.getD j 0 ≤ 72057594037927936) :
    EvC O0 (i + 1) ((O.getD i 0 + c) / 8192) (O.set i ((O.getD i 0 + c) % 8192)) := by
  have hl : i < O.length := by rw [h.len]; exact hi
  have h0 : O.getD i 0 ≤ 72057594037927936 := by rw [h.hi i (Nat.le_refl _)]; exact hb i
  have hc := h.cb
  refine ⟨by rw [List.length_set]; exact h.len, fun j hj => ?_, fun j hj => ?_, by omega, ?_⟩
  · rw [getD_set _ _ _ _ hl]
    split
    · omega
    · exact h.lo j (by omega)
  · rw [getD_set _ _ _ _ hl, if_neg (by omega)]
    exact h.hi j (by omega)
  · have h1 := V13_set O i ((O.getD i 0 + c) % 8192) hl
    have h2 := h.val
    rw [Nat.pow_succ]
    generalize 8192 ^ i = p at *
    generalize V13 (O.set i ((O.getD i 0 + c) % 8192)) = v at *
    have e : (O.getD i 0 + c) = 8192 * ((O.getD i 0 + c) / 8192) + (O.getD i 0 + c) % 8192 := by omega
    generalize hx : (O.getD i 0 + c) / 8192 = x at *
    generalize hy : (O.getD i 0 + c) % 8192 = y at *
    have e2 : p * (O.getD i 0 + c) = p * (8192 * x + y) := by rw [e]
    rw [Nat.mul_add, Nat.mul_add] at e2
    have e3 : p * 8192 * x = p * (8192 * x) := Nat.mul_assoc _ _ _
    omega
theorem EvC.end_ {O0 O : List Nat} {c : Nat} (h : EvC O0 10 c O) : (O.set 0 (O.getD 0 0 + 5 * c)).length = 10 ∧ (∀ j, (O.set 0 (O.getD 0 0 + 5 * c)).getD j 0 ≤ 72057594037927936) ∧ V13 O0 = V13 (O.set 0 (O.getD 0 0 + 5 * c)) + P130 * c ∧ (c = 0 → ∀ j, (O.set 0 (O.getD 0 0 + 5 * c)).getD j 0 < 8192) := by
  have hl : 0 < O.length := by rw [h.len]; decide
  have hc := h.cb
  have hlo : ∀ j, O.getD j 0 < 8192 := fun j => by
    rcases Nat.lt_or_ge j 10 with h1 | h1
    · exact h.lo j h1
    · rw [List.getD_eq_getElem?_getD, List.getElem?_eq_none (by rw [h.len]; exact h1)]; decide
  refine ⟨by rw [List.length_set]; exact h.len, fun j => ?_, ?_, fun h0 j => ?_⟩
  · rw [getD_set _ _ _ _ hl]
    split
    · have := hlo 0; omega
    · have := hlo j; omega
  · have h1 := V13_set O 0 (O.getD 0 0 + 5 * c) hl
    have h2 := h.val
    have e : (8192 : Nat) ^ 10 = P130 + 5 := by decide
    rw [e, Nat.add_mul] at h2
    rw [Nat.pow_zero, Nat.one_mul, Nat.one_mul] at h1
    omega
  · rw [getD_set _ _ _ _ hl]
    split
    · have := hlo 0; omega
    · exact hlo j
/-- are the first k digits even? -/
def lowB (O : List Nat) (k : Nat) : Bool := (List.range k).all fun j => decide (O.getD j 0 < 8192)
theorem lowB_succ (O : List Nat) (k : Nat) : lowB O (k + 1) = (lowB O k && decide (O.getD k 0 < 8192)) := by
  simp [lowB, List.range_succ]
theorem lowB_all (O : List Nat) (k : Nat) : lowB O k = true ↔ ∀ j, j < k → O.getD j 0 < 8192 := by
  simp [lowB]
/-- the number that a row of words is -/
def valQ (w : World) (g : Nat) : Nat := match w.heap[g]? with
  | some (.cells cs _ _) => V13 (cs.toList.map fun v => (intOf v).toNat)
  | _ => 0
theorem valQ_blk {w : World} {g : Nat} {T : TypeId} {O : List Nat} (h : Blk w g T (vq O)) : valQ w g = V13 O := by
  unfold valQ
  rw [show w.heap[g]? = _ from h]
  congr 1
  simp [vq, q64, Function.comp_def, intOf]
end Go.Proofs.Ytfblpkjablgafaa
