import Derived.Test.YtldanlglefgobaaFld7
namespace Go.Proofs.Ytldanlglefgobaa
open Go.RowKit
theorem awake07_b (n : Nat) (w0 w1 : World) (hb : Below w0.heap.size w0 w1) : Calls Try.prog 15 #[] (w1.drewN n) (Yes w0) :=
  (awake07_c _).mono fun _ _ ⟨he, hbel⟩ => ⟨he, Yes.bel hb hbel⟩
set_option maxRecDepth 100000 in
set_option maxHeartbeats 1000000 in
theorem fieldAny_w (t : Array Nat) (a b : Nat) (A : Option Addr) (l : List Nat) (cap : Nat) (hs : Small t) (ha : a < 256) (hb : b < 256) (hl : ∀ c ∈ l, c < 256) (w : World) (hr : Rd w w.heap.size A (byt l)) (hm : l.length ≤ maxLen) :
    Calls Try.prog 7 #[.agg (vtab t), .int .u8 a, .int .u8 b, .slice A l.length cap] w (Yes w) := by
  unfold maxLen at hm
  have hbw : Below w.heap.size w (w.alloc (.cells (vtab t) 26)) := (Below.refl _ _).alloc (Nat.le_refl _) _
  have ht : TabAt (w.alloc (.cells (vtab t) 26)) w.heap.size t := heapNew _ _
  have HT := Lib.hid ht
  have HB := Lib.hid hbw
  have HS := Lib.hid hs
  clear ht hbw hs
  by_cases hlong : 300 < l.length
  · generalize l.length = n at *
    clear hr hl
    go_enter Try.func7, Try.ntmps7
    go_wp2_with fail
    refine (awake07_b 0 w _ HB.out).mono ?_
    rintro e w2 ⟨rfl, hbel⟩
    go_wp2
    go_ret
    exact ⟨rfl, hbel⟩
  · have HR := Lib.hid hr
    have HL := Lib.hid hl
    have hlen : l.length ≤ 1000000 := by omega
    clear hl hr
    go_enter Try.func7, Try.ntmps7
    go_wp2_with (first
      | (go_at_call 16; ((with_reducible refine (mul_c t w.heap.size _ _ _ HS.out (by first | exact HT.out | exact HT.out.drewN _) (by assumption) (by assumption)).mono ?_); rintro e w' ⟨rfl, n, rfl⟩))
      | (go_at_call 19; ((with_reducible refine (inv_c t w.heap.size _ _ HS.out (by first | exact HT.out | exact HT.out.drewN _) (by assumption)).mono ?_); rintro e w' ⟨rfl, n, rfl⟩))
      | (go_at_call 17; ((with_reducible refine (div_c t w.heap.size _ _ _ HS.out (by first | exact HT.out | exact HT.out.drewN _) (by assumption) (by assumption)).mono ?_); rintro e w' ⟨rfl, n, rfl⟩))
      | (go_at_call 18; ((with_reducible refine (eval_c t w.heap.size w.heap.size A cap _ l _ HS.out (by first | exact HT.out | exact HT.out.drewN _) (by assumption) HL.out (HR.out.below (by first | exact HB.out | exact belowDrewN _ HB.out)) hlen).mono ?_); rintro e w' ⟨rfl, n, rfl⟩))
      | (go_at_call 16; ((with_reducible refine (mul_nil _ _ _).mono ?_); rintro e w' ⟨rfl, n, rfl⟩))
      | (go_at_call 19; ((with_reducible refine (inv_nil _ _).mono ?_); rintro e w' ⟨rfl, n, rfl⟩))
      | (go_at_call 17; ((with_reducible refine (div_nil _ _ _).mono ?_); rintro e w' ⟨rfl, n, rfl⟩))
      | (go_at_call 18; ((with_reducible refine (eval_nil A cap _ l _ hlen).mono ?_); rintro e w' ⟨rfl, n, rfl⟩))
      | (go_at_call 15; ((with_reducible refine (awake07_b _ w _ HB.out).mono ?_); rintro e w2 ⟨rfl, hbel⟩)))
    go_ret
    exact ⟨rfl, hbel⟩
end Go.Proofs.Ytldanlglefgobaa
