import Derived.Test.YtldanlglefgobaaFld4
import Derived.Test.YtldanlglefgobaaPlain2
namespace Go.Proofs.Ytldanlglefgobaa
open Go.RowKit
/-- the program's product, inverse, quotient, value, by the tables that Build laid -/
theorem fmul_c (B a b : Nat) (w : World) (ht : TabAt w B ftab) (ha : a < 256) (hb : b < 256) :
    Calls Try.prog 16 #[.pointer (some ⟨B, 0, none⟩), .int .u8 a, .int .u8 b] w (Quietly (.int .u8 (gm a b : Nat)) w) := by
  rw [← tmul_is a b ha hb]; exact mul_c ftab B a b w ftab_small ht ha hb
theorem finv_c (B a : Nat) (w : World) (ht : TabAt w B ftab) (ha : a < 256) :
    Calls Try.prog 19 #[.pointer (some ⟨B, 0, none⟩), .int .u8 a] w (Quietly (.tuple #[.int .u8 (finv a : Nat), .int .i64 (ierr a)]) w) := inv_c ftab B a w ftab_small ht ha
theorem fdiv_c (B a b : Nat) (w : World) (ht : TabAt w B ftab) (ha : a < 256) (hb : b < 256) :
    Calls Try.prog 17 #[.pointer (some ⟨B, 0, none⟩), .int .u8 a, .int .u8 b] w (Quietly (.tuple #[.int .u8 (gm a (finv b) : Nat), .int .i64 (ierr b)]) w) := by
  rw [← tmul_is a (finv b) ha (finv_lt b)]; exact div_c ftab B a b w ftab_small ht ha hb
theorem feval_c (B Bl : Nat) (A : Option Addr) (cap x : Nat) (l : List Nat) (w : World) (ht : TabAt w B ftab) (hx : x < 256) (hl : ∀ c ∈ l, c < 256) (hr : Rd w Bl A (byt l)) (hlen : l.length ≤ 1000000) :
    Calls Try.prog 18 #[.pointer (some ⟨B, 0, none⟩), .slice A l.length cap, .int .u8 x] w (Quietly (.int .u8 (hv x l : Nat)) w) := by
  rw [← teval_is x hx l hl]; exact eval_c ftab B Bl A cap x l w ftab_small ht hx hl hr hlen
theorem rfeval_c (Bl : Nat) (A : Option Addr) (cap x : Nat) (l : List Nat) (w : World) (hx : x < 256) (hl : ∀ c ∈ l, c < 256) (hr : Rd w Bl A (byt l)) (hlen : l.length ≤ 1000000) :
    Calls Try.prog 20 #[.slice A l.length cap, .int .u8 x] w (Quietly (.int .u8 (hv x l : Nat)) w) := by
  rw [← reval_is x hx l hl]; exact reval_c Bl A cap x l w hx hl hr hlen
theorem fmul_one (B a : Nat) (w : World) (ht : TabAt w B ftab) (ha : a < 256) :
    Calls Try.prog 16 #[.pointer (some ⟨B, 0, none⟩), .int .u8 a, .int .u8 1] w (Quietly (.int .u8 (a : Nat)) w) := by
  have h := fmul_c B a 1 w ht ha (by omega)
  rw [gm_one a ha] at h
  exact h
set_option maxRecDepth 100000 in
set_option maxHeartbeats 1000000 in
theorem fieldLaws_w (a b c : Nat) (ha : a < 256) (hb : b < 256) (hc : c < 256) (w : World) : Calls Try.prog 4 #[.int .u8 a, .int .u8 b, .int .u8 c] w (Yes w) := by
  have e1 := gm_comm b a hb ha
  have e2 := gm_assoc a b c ha hb hc
  have e3 := u8_xor_nat b c hb hc
  have e4 := u8_xor_nat (gm a b) (gm a c) (gm_lt _ _) (gm_lt _ _)
  have e5 := gm_right a b c
  have hx : b ^^^ c < 256 := Nat.xor_lt_two_pow (n := 8) hb hc
  have hcase : (((b : Int) == 0) = true ∧ ierr b = 1) ∨ (((b : Int) == 0) = false ∧ ierr b = 0 ∧ gm (gm a b) (finv b) = a) := by
    by_cases h0 : b = 0
    · exact .inl ⟨by rw [h0]; rfl, by simp [ierr, h0]⟩
    · exact .inr ⟨beq_eq_false_iff_ne.2 (by omega), by simp [ierr, h0], gm_cancel a b ha hb h0⟩
  rcases hcase with ⟨t1, e7⟩ | ⟨t1, e7, e8⟩
  all_goals
    go_enter Try.func4, Try.ntmps4
    go_wp2_with fail
    refine (build_c w).mono ?_
    rintro e w1 ⟨rfl, hs, ht, hbw⟩
    have HB := Lib.hid hbw
    have HT := Lib.hid ht
    have HS := Lib.hid hs
    clear hs ht hbw
    go_wp2_with (first
      | (go_at_call 16; ((with_reducible refine (fmul_c w.heap.size _ _ _ (by first | exact HT.out | exact HT.out.drewN _) (by first | assumption | exact gm_lt _ _) (by first | assumption | exact gm_lt _ _)).mono ?_); rintro e w' ⟨rfl, n, rfl⟩))
      | (go_at_call 16; ((with_reducible refine (fmul_one w.heap.size _ _ (by first | exact HT.out | exact HT.out.drewN _) (by first | assumption | exact gm_lt _ _)).mono ?_); rintro e w' ⟨rfl, n, rfl⟩))
      | (go_at_call 17; ((with_reducible refine (fdiv_c w.heap.size _ _ _ (by first | exact HT.out | exact HT.out.drewN _) (by first | assumption | exact gm_lt _ _) (by first | assumption | exact gm_lt _ _)).mono ?_); rintro e w' ⟨rfl, n, rfl⟩))
      | (go_at_call 15; ((with_reducible refine (awake07_c _).mono ?_); rintro e w2 ⟨rfl, hbel⟩)))
    go_ret
    exact ⟨rfl, (belowDrewN _ HB.out).trans (hbel.mono (by have := HS.out; simp; omega))⟩
end Go.Proofs.Ytldanlglefgobaa
