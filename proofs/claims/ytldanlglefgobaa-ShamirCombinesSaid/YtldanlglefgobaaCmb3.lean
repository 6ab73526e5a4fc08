/- ShamirCombines: the walk, without the wanted shares. -/
import Derived.Test.YtldanlglefgobaaCmb2
import Derived.Test.YtldanlglefgobaaBck2
namespace Go.Proofs.Ytldanlglefgobaa
open Go.RowKit
set_option linter.unusedVariables false
set_option maxRecDepth 100000 in
theorem rplaces_nil (A : Option Addr) (cap : Nat) (w : World) : Calls Try.prog 28 #[.slice A 0 cap] w (Quietly (.int .i64 0) w) := by
  go_enter Try.func28, Try.ntmps28
  go_wp2_with fail
  go_loopw [3, 4] (fun e i wr => i = .int .i64 0 ∧ e = .int .i64 0 ∧ wr = w) (fun _ _ _ => 0)
  case atStart => exact ⟨rfl, rfl, rfl⟩
  case round =>
    obtain ⟨rfl, rfl, rfl⟩ := hrel
    go_wp2_with fail
    go_ret
    exact ⟨rfl, 0, rfl⟩
set_option maxRecDepth 100000 in
set_option maxHeartbeats 1000000 in
theorem rsame_nil (A B : Option Addr) (ca cb : Nat) (w : World) : Calls Try.prog 29 #[.slice A 0 ca, .slice B 0 cb] w (Quietly (.bool true) w) := by
  go_enter Try.func29, Try.ntmps29
  go_wp2_with fail
  go_loopw [5] (fun i wr => i = .int .i64 0 ∧ wr = w) (fun _ _ => 0)
  case atStart => exact ⟨rfl, rfl⟩
  case round =>
    obtain ⟨rfl, rfl⟩ := hrel
    go_wp2_with fail
    go_ret
    exact ⟨rfl, 0, rfl⟩
set_option maxRecDepth 100000 in
set_option maxHeartbeats 1000000 in
theorem rsame_c (n ca cb : Nat) (al bl : Addr) (L : List Nat) (w : World) (hn2 : n ≤ 1000) (hca : n ≤ ca) (hcb : n ≤ cb) (hca2 : ca ≤ 9223372036854775807) (hcb2 : cb ≤ 9223372036854775807) (hL : L.length = n * 33) (hl : ∀ c ∈ L, c < 256) (hA : AtA w al (byt L)) (hB : AtA w bl (byt L)) :
    Calls Try.prog 29 #[.slice (some al) n ca, .slice (some bl) n cb] w (Quietly (.bool true) w) := by
  have HA := Lib.hid hA
  have HB := Lib.hid hB
  have HL := Lib.hid hl
  clear hA hB hl
  have tn : ((n : Int) != (n : Int)) = false := by simp
  go_enter Try.func29, Try.ntmps29
  go_wp2_with fail
  go_loopw [5] (fun i wr => ∃ k z : Nat, k ≤ n ∧ i = .int .i64 k ∧ wr = w.drewN z) (fun i _ => n - (intOf i).toNat)
  case atStart => exact ⟨0, 0, by omega, rfl, rfl⟩
  case round =>
    obtain ⟨k, z, hk, rfl, rfl⟩ := hrel
    by_cases hlt : k < n
    · have hrl : (shR L k).length = 33 := shR_len hL hlt
      have R1 := Lib.hid (fun (W : World) (h : ∃ z, W = w.drewN z) => (show AtA W (al.add (k * 33)) (byt (shR L k)) by obtain ⟨z, rfl⟩ := h; exact HA.out.share k))
      have R2 := Lib.hid (fun (W : World) (h : ∃ z, W = w.drewN z) => (show AtA W (bl.add (k * 33)) (byt (shR L k)) by obtain ⟨z, rfl⟩ := h; exact HB.out.share k))
      have HSB := Lib.hid (share_bytes (shR L k) hrl)
      have l3 : ∀ W, (Op.equalIn 10000 48 (.agg (vb (shR L k))) (.agg (vb (shR L k)))).run Try.prog W = .ok true W := fun W => by
        have h := run_equalIn_share (shR L k) (shR L k) hrl hrl (shR_lt HL.out k) (shR_lt HL.out k) W
        rw [beq_self_eq_true] at h
        exact h
      have hkn : (k : Int) < (n : Int) := by omega
      clear hrl
      go_wp2_with fail
      refine wp_region_class (fun z => w.drewN z) (by kernel_rfl) (by kernel_rfl) ⟨z + 1, rfl⟩ ?_
      repeat (first
        | (refine wpQuiet_load_at rfl 48 (.tmp 19) rfl (al.add (k * 33)) rfl (shR L k) _ R1.out Try.underlying48 rfl HSB.out _ (by simp only [Act.put, List.setIfInBounds_toArray, List.set_cons_succ, List.set_cons_zero]; rfl) ?_)
        | (refine wpQuiet_load_at rfl 48 (.tmp 23) rfl (bl.add (k * 33)) rfl (shR L k) _ R2.out Try.underlying48 rfl HSB.out _ (by simp only [Act.put, List.setIfInBounds_toArray, List.set_cons_succ, List.set_cons_zero]; rfl) ?_)
        | go_big_quiet_step (fail))
      refine wpQuiet_nil ?_
      rintro _ ⟨z3, rfl⟩
      go_wp2_with fail
      go_roundw
      case rel =>
        go_light
        exact ⟨k + 1, z3, by omega, by go_num, rfl⟩
      case measure => simp [intOf]; omega
    · have hkn : k = n := by omega
      clear hkn
      go_wp2_with fail
      go_ret
      exact ⟨rfl, z, rfl⟩
end Go.Proofs.Ytldanlglefgobaa
