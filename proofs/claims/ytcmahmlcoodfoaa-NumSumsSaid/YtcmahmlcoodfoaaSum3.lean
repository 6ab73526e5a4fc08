/- Contract: Less. -/
import Derived.Test.YtcmahmlcoodfoaaSum1
import Derived.Test.YtcmahmlcoodfoaaSum2
import Derived.StillTailTactics
namespace Go.Proofs.Ytcmahmlcoodfoaa
open Go.RowKit
set_option linter.unusedVariables false
set_option maxRecDepth 100000 in
set_option maxHeartbeats 1000000 in
theorem less_core (ah bh x y V : Int) (al bl : Nat) (w : World) (R : Bool)
    (k1 : ∀ w, Calls Try.prog 48 #[.int .i64 ah, .int .i64 bh] w fun e w' => e = .returned (.int .i64 x) ∧ w = w')
    (k2 : ∀ w, Calls Try.prog 49 #[.int .u64 (al : Int), .int .u64 (bl : Int)] w fun e w' => e = .returned (.int .i64 y) ∧ w = w')
    (hV : (if x = 0 then y else x) = V) (hR : decide (V < 0) = R) :
    Calls Try.prog 36 #[.agg #[.int .i64 ah, .int .u64 al], .agg #[.int .i64 bh, .int .u64 bl]] w fun e w' => e = .returned (.bool R) ∧ Below w.heap.size w w' := by
  have K1 := Lib.hid k1
  have K2 := Lib.hid k2
  have HV := Lib.hid hV
  clear k1 k2 hV
  go_enter Try.func36, Try.ntmps36
  go_wp2
  obtain ⟨W, hW⟩ : ∃ W, W = (w.alloc (.cells #[.int .i64 ah, .int .u64 al] 67)).alloc (.cells #[.int .i64 bh, .int .u64 bl] 67) := ⟨_, rfl⟩
  have d1 : W.cell? ⟨w.heap.size, 0, none⟩ = some (.int .i64 ah) := by rw [hW]; simp
  have d2 : W.cell? ⟨w.heap.size, 1, none⟩ = some (.int .u64 al) := by rw [hW]; simp
  have d3 : W.cell? ⟨w.heap.size + 1, 0, none⟩ = some (.int .i64 bh) := by rw [hW]; simp
  have d4 : W.cell? ⟨w.heap.size + 1, 1, none⟩ = some (.int .u64 bl) := by rw [hW]; simp
  have hbel : Below w.heap.size w W := by rw [hW]; exact ((Below.refl _ _).alloc (Nat.le_refl _) _).alloc (le_alloc (Nat.le_refl _)) _
  rw [← hW]
  clear hW
  have HBEL := Lib.hid hbel
  clear hbel
  refine wp_region_still_tail 10 (by kernel_rfl) (by kernel_rfl) ?_
  simp only [List.take_succ_cons, List.take_zero, List.drop_succ_cons, List.drop_zero]
  still_step
  still_step
  still_step
  still_step
  still_call ((K1.out _).mono fun _ _ h => ⟨h.1, h.2.symm⟩)
  still_step
  still_step
  still_step
  still_step
  still_call ((K2.out _).mono fun _ _ h => ⟨h.1, h.2.symm⟩)
  try refine wpStill_nil ?_
  change wpList _ _ _ _ _ W.drew
  go_wp2_with fail
  refine (or_c W.heap.size x y _ (by simp) (by simp)).mono ?_
  rintro e w' ⟨rfl, rfl⟩
  rw [HV.out]
  go_wp2
  go_ret
  exact ⟨by rw [← hR]; rfl, (HBEL.out.alloc HBEL.out.size _).drew⟩
theorem less_c (ah bh : Int) (al bl : Nat) (w : World) :
    Calls Try.prog 36 #[.agg #[.int .i64 ah, .int .u64 al], .agg #[.int .i64 bh, .int .u64 bl]] w fun e w' => e = .returned (.bool (decide (ah < bh ∨ (ah = bh ∧ al < bl)))) ∧ Below w.heap.size w w' := by
  refine less_core ah bh (cmpv ah bh) (cmpv (al : Int) (bl : Int)) _ al bl w _ (fun w => cmp_i ah bh w) (fun w => cmp_u _ _ w) rfl ?_
  rw [decide_eq_decide]
  unfold cmpv
  by_cases h1 : ah < bh
  · simp [h1]
  · by_cases h2 : bh < ah
    · simp [h1, h2]; omega
    · have h3 : ah = bh := by omega
      subst h3
      simp
      by_cases h4 : al < bl
      · simp [h4]
      · by_cases h5 : bl < al <;> simp [h4, h5]
end Go.Proofs.Ytcmahmlcoodfoaa
