/- Contract: Check. -/
import Derived.Test.YtcmahmlcoodfoaaFra1
namespace Go.Proofs.Ytcmahmlcoodfoaa
open Go.RowKit Go.Great
set_option linter.unusedVariables false
theorem ask_of (x : Fr) (bo : Bool) : Ask (x.k : Nat) (x.f : Nat) (x.t : Nat) (x.b : Nat) (x.o : Nat) x.d.length (x.f != x.t) (decide (x.f < 32)) (decide (x.t < 32)) (decide (x.k = 72)) (decide (x.k = 68)) bo (decide (x.d.length = 0)) (decide (16 ≤ x.d.length)) (decide (x.d.length ≤ 4112)) := by
  have e : ∀ a b : Nat, ((a : Int) == (b : Int)) = (a == b) := fun a b => by
    rw [Bool.eq_iff_iff]; simp only [beq_iff_eq]; omega
  refine ⟨?_, ?_, ?_, ?_, ?_, ?_, ?_, ?_, ?_, ?_, ?_⟩
  · simp only [bne, e]
  · simp only [bne, e, Bool.not_not]
  · rw [decide_eq_decide]; omega
  · rw [← decide_not, decide_eq_decide]; omega
  · rw [decide_eq_decide]; omega
  · rw [← decide_not, decide_eq_decide]; omega
  · rw [Bool.eq_iff_iff]; simp only [beq_iff_eq, decide_eq_true_eq]; omega
  · rw [Bool.eq_iff_iff]; simp only [beq_iff_eq, decide_eq_true_eq]; omega
  · rw [Bool.eq_iff_iff]; simp only [beq_iff_eq, decide_eq_true_eq]; omega
  · rw [decide_eq_decide]; omega
  · rw [decide_eq_decide]; omega
theorem frV_cells {x : Fr} (hx : FrOk x) (v : Value) : ∀ W g, Blk W g 43 (frV x v) → W.cell? ⟨g, 0, none⟩ = some (.int .u8 (x.k : Nat)) ∧ W.cell? ⟨g, 1, none⟩ = some (.int .u16 (x.f : Nat)) ∧ W.cell? ⟨g, 2, none⟩ = some (.int .u16 (x.t : Nat)) ∧ W.cell? ⟨g, 4, none⟩ = some (.int .u64 (x.b : Nat)) ∧ W.cell? ⟨g, 5, none⟩ = some (.int .u64 (x.o : Nat)) ∧ W.cell? ⟨g, 50, none⟩ = some v ∧ W.rangeAt g 6 (byt x.p) ∧ W.rangeAt g 38 (byt x.n) := fun W g h =>
  have h := FrAt.of hx h
  ⟨h.c0, h.c1, h.c2, h.c4, h.c5, h.cd, h.cp, h.cn⟩
theorem check_c (x : Fr) (A : Option Addr) (c : Nat) (w : World) (hx : FrOk x) :
    Calls Try.prog 25 #[.agg (frV x (.slice A x.d.length c))] w fun e w' => e = .returned (.int .i64 (if ckF x then 0 else 1)) ∧ Below w.heap.size w w' := by
  have hor := u64_or_nat x.b x.o hx.b hx.o
  have hU : (((x.b ||| x.o : Nat) : Int) == 0) = (decide (x.b = 0) && decide (x.o = 0)) := by
    rw [Bool.eq_iff_iff]
    simp only [beq_iff_eq, Bool.and_eq_true, decide_eq_true_eq]
    have h1 := Nat.left_le_or (n := x.b) (m := x.o)
    have h2 := Nat.right_le_or (n := x.b) (m := x.o)
    constructor
    · intro h; omega
    · rintro ⟨h3, h4⟩; rw [h3, h4]; rfl
  have ha := ask_of x (decide (x.b = 0) && decide (x.o = 0))
  have qn := eq_n x.n z12 hx.n z12_len hx.ns z12_lt
  have qp := eq_p x.p z32 hx.p z32_len hx.ps z32_lt
  have hR : ckF x = (((x.f != x.t) && decide (x.f < 32) && decide (x.t < 32)) && (if decide (x.k = 72) then (x.n == z12) && decide (x.d.length = 0) else if decide (x.k = 68) then (decide (x.b = 0) && decide (x.o = 0)) && (x.p == z32) && decide (16 ≤ x.d.length) && decide (x.d.length ≤ 4112) else false)) := by
    unfold ckF
    by_cases h1 : x.k = 72
    · simp [h1]
    · by_cases h2 : x.k = 68
      · simp [h2, Bool.and_assoc]
      · simp [h1, h2]
  cases hF : ((x.f != x.t) && decide (x.f < 32) && decide (x.t < 32))
  · exact check_no _ _ _ _ _ _ _ _ _ _ _ w _ _ _ _ _ _ _ _ _ _ _ _ _ (frV_cells hx _) hx.p hx.n qn qp ha hor hU hF hR
  · exact check_go _ _ _ _ _ _ _ _ _ _ _ w _ _ _ _ _ _ _ _ _ _ _ _ _ (frV_cells hx _) hx.p hx.n qn qp ha hor hU hF hR
end Go.Proofs.Ytcmahmlcoodfoaa
