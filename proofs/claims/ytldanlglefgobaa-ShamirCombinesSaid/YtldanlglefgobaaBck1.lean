/- ShamirBack: the walk, first half. -/
import Derived.Test.YtldanlglefgobaaRef2
import Derived.Test.YtldanlglefgobaaBck0
namespace Go.Proofs.Ytldanlglefgobaa
open Go.RowKit
set_option linter.unusedVariables false
theorem pick_c (x : Int) (n : Nat) (w : World) (h1 : 1 ≤ n) (h8 : n ≤ 8) (hx0 : -9223372036854775808 ≤ x) (hx1 : x ≤ 9223372036854775807) :
    Calls Try.prog 31 #[.int .i64 x, .int .i64 n] w fun e w' => (∃ K : Nat, K < n ∧ e = .returned (.int .i64 K)) ∧ w = w' := by
  have t1 : decide ((n : Int) < 1) = false := decide_eq_false (by omega)
  have hn0 : ((n : Int) == 0) = false := beq_eq_false_iff_ne.2 (by omega)
  have hm1 : x.tmod (n : Int) < (n : Int) := Int.tmod_lt_of_pos x (by omega)
  have hm2 : -(n : Int) < x.tmod (n : Int) := by
    have h := Int.natAbs_tmod x (n : Int)
    have h2 : x.natAbs % n < n := Nat.mod_lt _ (by omega)
    have h3 : (n : Int).natAbs = n := rfl
    rw [h3] at h
    omega
  generalize hq : x.tmod (n : Int) = q at *
  have HQ := Lib.hid hq
  by_cases hneg : q < 0
  · have t2 : decide (q < 0) = true := decide_eq_true hneg
    go_enter Try.func31, Try.ntmps31
    go_wp2
    go_ret
    exact ⟨⟨(q + n).toNat, by omega, by rw [show (((q + n).toNat : Nat) : Int) = q + n by omega]; rfl⟩, rfl⟩
  · have t2 : decide (q < 0) = false := decide_eq_false hneg
    go_enter Try.func31, Try.ntmps31
    go_wp2
    go_ret
    exact ⟨⟨q.toNat, by omega, by rw [show ((q.toNat : Nat) : Int) = q by omega]; rfl⟩, rfl⟩
end Go.Proofs.Ytldanlglefgobaa
