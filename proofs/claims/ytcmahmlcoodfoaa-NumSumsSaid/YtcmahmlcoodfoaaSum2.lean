/- Contracts: Compare, Or. -/
import Derived.Test.YtcmahmlcoodfoaaAwk1
namespace Go.Proofs.Ytcmahmlcoodfoaa
open Go.RowKit
set_option linter.unusedVariables false
def cmpv (a b : Int) : Int := if a < b then -1 else if b < a then 1 else 0
set_option maxRecDepth 100000 in
set_option maxHeartbeats 1000000 in
theorem cmp_i (a b : Int) (w : World) : Calls Try.prog 48 #[.int .i64 a, .int .i64 b] w fun e w' => e = .returned (.int .i64 (cmpv a b)) ∧ w = w' := by
  have q1 : (a != a) = false := by simp
  have q2 : (b != b) = false := by simp
  have hc : (decide (a < b) = true ∧ cmpv a b = -1) ∨ (decide (a < b) = false ∧ decide (b < a) = true ∧ cmpv a b = 1) ∨ (decide (a < b) = false ∧ decide (b < a) = false ∧ cmpv a b = 0) := by
    unfold cmpv
    by_cases h1 : a < b <;> by_cases h2 : b < a <;> simp [h1, h2]
  rcases hc with ⟨t1, t2⟩ | ⟨t1, t3, t2⟩ | ⟨t1, t3, t2⟩
  all_goals
    rw [t2]
    go_enter Try.func48, Try.ntmps48
    go_wp2
    go_ret
    exact ⟨rfl, rfl⟩
set_option maxRecDepth 100000 in
set_option maxHeartbeats 1000000 in
theorem cmp_u (a b : Int) (w : World) : Calls Try.prog 49 #[.int .u64 a, .int .u64 b] w fun e w' => e = .returned (.int .i64 (cmpv a b)) ∧ w = w' := by
  have q1 : (a != a) = false := by simp
  have q2 : (b != b) = false := by simp
  have hc : (decide (a < b) = true ∧ cmpv a b = -1) ∨ (decide (a < b) = false ∧ decide (b < a) = true ∧ cmpv a b = 1) ∨ (decide (a < b) = false ∧ decide (b < a) = false ∧ cmpv a b = 0) := by
    unfold cmpv
    by_cases h1 : a < b <;> by_cases h2 : b < a <;> simp [h1, h2]
  rcases hc with ⟨t1, t2⟩ | ⟨t1, t3, t2⟩ | ⟨t1, t3, t2⟩
  all_goals
    rw [t2]
    go_enter Try.func49, Try.ntmps49
    go_wp2
    go_ret
    exact ⟨rfl, rfl⟩
set_option maxRecDepth 100000 in
set_option maxHeartbeats 1000000 in
theorem or_c (g : Nat) (x y : Int) (w : World) (h0 : w.cell? ⟨g, 0, none⟩ = some (.int .i64 x)) (h1 : w.cell? ⟨g, 1, none⟩ = some (.int .i64 y)) :
    Calls Try.prog 47 #[.slice (some ⟨g, 0, none⟩) 2 2] w fun e w' => e = .returned (.int .i64 (if x = 0 then y else x)) ∧ w = w' := by
  obtain ⟨V, hV⟩ : ∃ V, V = if x = 0 then y else x := ⟨_, rfl⟩
  rw [← hV]
  have HV := Lib.hid hV
  clear hV
  go_enter Try.func47, Try.ntmps47
  go_wp2
  go_loopw [8] (fun i wr => ∃ k : Nat, k ≤ 2 ∧ i = .int .i64 k ∧ (1 ≤ k → x = 0) ∧ (2 ≤ k → y = 0) ∧ w = wr) (fun i _ => 2 - (intOf i).toNat)
  case atStart => exact ⟨0, by omega, rfl, by omega, by omega, rfl⟩
  case round =>
    obtain ⟨k, hk, rfl, hx, hy, rfl⟩ := hrel
    have hk3 : k = 0 ∨ k = 1 ∨ k = 2 := by omega
    rcases hk3 with rfl | rfl | rfl
    · clear hx hy
      cases t : (x != 0)
      · have hx0 : x = 0 := by simpa using t
        have HX := Lib.hid hx0
        clear hx0
        go_wp2
        go_roundw
        case rel => exact ⟨1, by omega, rfl, fun _ => HX.out, by omega, by first | rfl | trivial⟩
        case measure => simp [intOf]
      · have hx0 : ¬ x = 0 := by simpa using t
        have HX := Lib.hid hx0
        clear hx0
        go_wp2
        go_ret
        exact ⟨by rw [HV.out, if_neg HX.out]; rfl, rfl⟩
    · have hx0 := hx (by omega)
      have HX := Lib.hid hx0
      clear hx hy hx0
      cases t : (y != 0)
      · have hy0 : y = 0 := by simpa using t
        have HY := Lib.hid hy0
        clear hy0
        go_wp2
        go_roundw
        case rel => exact ⟨2, by omega, rfl, fun _ => HX.out, fun _ => HY.out, by first | rfl | trivial⟩
        case measure => simp [intOf]
      · go_wp2
        go_ret
        exact ⟨by rw [HV.out, if_pos HX.out]; rfl, rfl⟩
    · have hx0 := hx (by omega)
      have hy0 := hy (by omega)
      have HX := Lib.hid hx0
      have HY := Lib.hid hy0
      clear hx hy hx0 hy0
      go_wp2
      go_ret
      exact ⟨by rw [HV.out, if_pos HX.out, HY.out]; rfl, rfl⟩
end Go.Proofs.Ytcmahmlcoodfoaa
