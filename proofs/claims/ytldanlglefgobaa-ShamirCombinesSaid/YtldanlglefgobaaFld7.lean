import Derived.Test.YtldanlglefgobaaFld6
namespace Go.Proofs.Ytldanlglefgobaa
open Go.RowKit
theorem quietly_below {w w' : World} {v : Value} {e : Ending} (h : Quietly v w e w') : e = .returned v ∧ Below w.heap.size w w' := by
  obtain ⟨h1, n, rfl⟩ := h
  exact ⟨h1, belowDrewN n (Below.refl _ _)⟩
theorem Yes.bel {w0 w1 w2 : World} {n : Nat} (hb : Below w0.heap.size w0 w1) (hbel : Below (w1.drewN n).heap.size (w1.drewN n) w2) : Below w0.heap.size w0 w2 :=
  (belowDrewN n hb).trans (hbel.mono hb.size)
set_option maxRecDepth 100000 in
set_option maxHeartbeats 1000000 in
theorem fieldAsks_w (a b : Nat) (A : Option Addr) (l : List Nat) (cap : Nat) (ha : a < 256) (hb : b < 256) (hl : ∀ c ∈ l, c < 256) (w : World) (hr : Rd w w.heap.size A (byt l)) (hm : l.length ≤ maxLen) :
    Calls Try.prog 6 #[.int .u8 a, .int .u8 b, .slice A l.length cap] w (Yes w) := by
  unfold maxLen at hm
  by_cases hlong : 40 < l.length
  · generalize l.length = n at *
    clear hr hl
    go_enter Try.func6, Try.ntmps6
    go_wp2_with (first
      | (go_at_call 15; ((with_reducible refine (awake07_c _).mono ?_); rintro e w2 ⟨rfl, hbel⟩)))
    go_ret
    exact ⟨rfl, hbel⟩
  · have HR := Lib.hid hr
    have HL := Lib.hid hl
    have hlen : l.length ≤ 1000000 := by omega
    clear hl hr
    have hf := finv_lt a
    have hcase : (((a : Int) == 0) = true ∧ ierr a = 1 ∧ finv a = 0 ∧ gm a b = 0 ∧ gm b 0 = 0) ∨ (((a : Int) == 0) = false ∧ ierr a = 0 ∧ a ≠ 0) := by
      by_cases h0 : a = 0
      · exact .inl ⟨by rw [h0]; rfl, by simp [ierr, h0], by simp [finv, tinv, h0], by rw [h0, zero_gm], gm_zero b⟩
      · exact .inr ⟨beq_eq_false_iff_ne.2 (by omega), by simp [ierr, h0], h0⟩
    rcases hcase with ⟨t1, e7, e8, e9, e10⟩ | ⟨t1, e7, h0⟩
    · go_enter Try.func6, Try.ntmps6
      go_wp2_with fail
      refine (build_c w).mono ?_
      rintro e w1 ⟨rfl, hs, ht, hbw⟩
      have HB := Lib.hid hbw
      have HT := Lib.hid ht
      have HS := Lib.hid hs
      clear hs ht hbw
      go_wp2_with (first
        | (go_at_call 16; ((with_reducible refine (fmul_c w.heap.size _ _ _ (by first | exact HT.out | exact HT.out.drewN _) (by first | assumption | exact gm_lt _ _) (by first | assumption | exact gm_lt _ _)).mono ?_); rintro e w' ⟨rfl, n, rfl⟩))
        | (go_at_call 19; ((with_reducible refine (finv_c w.heap.size _ _ (by first | exact HT.out | exact HT.out.drewN _) (by first | assumption | exact gm_lt _ _)).mono ?_); rintro e w' ⟨rfl, n, rfl⟩))
        | (go_at_call 17; ((with_reducible refine (fdiv_c w.heap.size _ _ _ (by first | exact HT.out | exact HT.out.drewN _) (by first | assumption | exact gm_lt _ _) (by first | assumption | exact gm_lt _ _)).mono ?_); rintro e w' ⟨rfl, n, rfl⟩))
        | (go_at_call 18; ((with_reducible refine (feval_c w.heap.size w.heap.size A cap _ l _ (by first | exact HT.out | exact HT.out.drewN _) (by assumption) HL.out (HR.out.below (by first | exact HB.out | exact belowDrewN _ HB.out)) hlen).mono ?_); rintro e w' ⟨rfl, n, rfl⟩))
        | (go_at_call 20; ((with_reducible refine (rfeval_c w.heap.size A cap _ l _ (by assumption) HL.out (HR.out.below (by first | exact HB.out | exact belowDrewN _ HB.out)) hlen).mono ?_); rintro e w' ⟨rfl, n, rfl⟩))
        | (go_at_call 15; ((with_reducible refine (awake07_c _).mono ?_); rintro e w2 ⟨rfl, hbel⟩)))
      go_ret
      exact ⟨rfl, Yes.bel HB.out hbel⟩
    · have H0 := Lib.hid h0
      clear h0
      go_enter Try.func6, Try.ntmps6
      go_wp2_with fail
      refine (build_c w).mono ?_
      rintro e w1 ⟨rfl, hs, ht, hbw⟩
      have HB := Lib.hid hbw
      have HT := Lib.hid ht
      have HS := Lib.hid hs
      clear hs ht hbw
      go_wp2_with (first
        | (go_at_call 16; ((with_reducible refine (fmul_c w.heap.size _ _ _ (by first | exact HT.out | exact HT.out.drewN _) (by first | assumption | exact gm_lt _ _) (by first | assumption | exact gm_lt _ _)).mono ?_); rintro e w' ⟨rfl, n, rfl⟩))
        | (go_at_call 19; ((with_reducible refine (finv_c w.heap.size _ _ (by first | exact HT.out | exact HT.out.drewN _) (by first | assumption | exact gm_lt _ _)).mono ?_); rintro e w' ⟨rfl, n, rfl⟩))
        | (go_at_call 17; ((with_reducible refine (fdiv_c w.heap.size _ _ _ (by first | exact HT.out | exact HT.out.drewN _) (by first | assumption | exact gm_lt _ _) (by first | assumption | exact gm_lt _ _)).mono ?_); rintro e w' ⟨rfl, n, rfl⟩))
        | (go_at_call 18; ((with_reducible refine (feval_c w.heap.size w.heap.size A cap _ l _ (by first | exact HT.out | exact HT.out.drewN _) (by assumption) HL.out (HR.out.below (by first | exact HB.out | exact belowDrewN _ HB.out)) hlen).mono ?_); rintro e w' ⟨rfl, n, rfl⟩))
        | (go_at_call 20; ((with_reducible refine (rfeval_c w.heap.size A cap _ l _ (by assumption) HL.out (HR.out.below (by first | exact HB.out | exact belowDrewN _ HB.out)) hlen).mono ?_); rintro e w' ⟨rfl, n, rfl⟩))
        | (go_at_call 21; ((with_reducible refine (rmul_c _ _ _ (by assumption) (by assumption)).mono ?_); rintro e w' ⟨rfl, rfl⟩))
        | (go_at_call 22; ((with_reducible refine (rfinv_c _ _ (by assumption) H0.out).mono ?_); rintro e w' ⟨rfl, rfl⟩))
        | (go_at_call 15; ((with_reducible refine (awake07_c _).mono ?_); rintro e w2 ⟨rfl, hbel⟩)))
      go_ret
      exact ⟨rfl, Yes.bel HB.out hbel⟩
end Go.Proofs.Ytldanlglefgobaa
