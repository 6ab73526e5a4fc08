/- NumOrder: the walk (in work). -/
import Derived.Test.YtcmahmlcoodfoaaSum5
import Derived.Deep.CutRange
import Derived.Deep.DeepCutAuto
import Derived.Deep.RegionWith
namespace Go.Proofs.Ytcmahmlcoodfoaa
open Go.RowKit
set_option linter.unusedVariables false
theorem wide_n (n : Int) (w : World) (h0 : -9223372036854775808 ≤ n) (h1 : n ≤ 9223372036854775807) :
    Calls Try.prog 40 #[.int .i64 n] w fun e w' => e = .returned (.agg #[.int .i64 (n / 9223372036854775808), .int .u64 (loOf n : Nat)]) ∧ Below w.heap.size w w' := wide2_c n w h0 h1
theorem addw_c (a b : Int) (w : World) (ha0 : -9223372036854775808 ≤ a) (ha1 : a ≤ 9223372036854775807) (hb0 : -9223372036854775808 ≤ b) (hb1 : b ≤ 9223372036854775807) :
    Calls Try.prog 34 #[.agg #[.int .i64 (a / 9223372036854775808), .int .u64 (loOf a : Nat)], .agg #[.int .i64 (b / 9223372036854775808), .int .u64 (loOf b : Nat)]] w fun e w' => e = .returned (.tuple #[.agg #[.int .i64 ((a + b) / 18446744073709551616), .int .u64 (loOf (a + b) : Nat)], .int .i64 0]) ∧ Below w.heap.size w w' := by
  have h := add_c (a / 9223372036854775808) (b / 9223372036854775808) (loOf a) (loOf b) w (by omega) (by omega) (by omega) (by omega) (loOf_lt a) (loOf_lt b)
  obtain ⟨e1, e2, e3⟩ := sumHi_small a b ha0 ha1 hb0 hb1
  rw [e3, e1, e2] at h
  exact h
def Stay (w : World) (ch : Int) (cl : Nat) (wi : World) : Prop := Below w.heap.size w wi ∧ wi.cell? ⟨w.heap.size, 0, none⟩ = some (.int .i64 ch) ∧ wi.cell? ⟨w.heap.size, 1, none⟩ = some (.int .u64 cl)
theorem Stay.next {w wi w' : World} {ch : Int} {cl : Nat} (h : Stay w ch cl wi) (hb : Below wi.heap.size wi w') : Stay w ch cl w' :=
  ⟨h.1.trans (hb.mono h.1.size), (hb.cell (cell_lt h.2.1)).trans h.2.1, (hb.cell (cell_lt h.2.2)).trans h.2.2⟩
theorem Stay.alloc {w wi : World} {ch : Int} {cl : Nat} (h : Stay w ch cl wi) (o : Obj) : Stay w ch cl (wi.alloc o) := h.next ((Below.refl _ _).alloc (Nat.le_refl _) o)
def Two (g : Nat) (hi : Int) (lo : Nat) (w : World) : Prop := w.cell? ⟨g, 0, none⟩ = some (.int .i64 hi) ∧ w.cell? ⟨g, 1, none⟩ = some (.int .u64 lo)
theorem Two.next {g : Nat} {hi : Int} {lo : Nat} {w w' : World} (h : Two g hi lo w) (hb : Below w.heap.size w w') : Two g hi lo w' := ⟨(hb.cell (cell_lt h.1)).trans h.1, (hb.cell (cell_lt h.2)).trans h.2⟩
theorem Two.alloc {g : Nat} {hi : Int} {lo : Nat} {w : World} (h : Two g hi lo w) (o : Obj) : Two g hi lo (w.alloc o) := h.next ((Below.refl _ _).alloc (Nat.le_refl _) o)
theorem Two.new (hi : Int) (lo : Nat) (w : World) (T : TypeId) : Two w.heap.size hi lo (w.alloc (.cells #[.int .i64 hi, .int .u64 lo] T)) := ⟨by simp, by simp⟩
theorem Stay.drew {w wi : World} {ch : Int} {cl : Nat} (h : Stay w ch cl wi) : Stay w ch cl wi.drew := ⟨belowDrewN 1 h.1, h.2⟩
theorem Two.set {g : Nat} {x y : Value} {T : TypeId} {w : World} (h : Blk w g T #[x, y]) (hi : Int) (lo : Nat) : Two g hi lo ((w.setCell ⟨g, 0, none⟩ (.int .i64 hi)).setCell ⟨g, 1, none⟩ (.int .u64 lo)) :=
  ⟨((h.set_ 0 (.int .i64 hi)).set_ 1 (.int .u64 lo)).cell 0, ((h.set_ 0 (.int .i64 hi)).set_ 1 (.int .u64 lo)).cell 1⟩
theorem Stay.set {w wi : World} {ch : Int} {cl : Nat} (h : Stay w ch cl wi) {g i : Nat} (hg : w.heap.size < g) (u : Value) : Stay w ch cl (wi.setCell ⟨g, i, none⟩ u) :=
  ⟨h.1.setCell (by show w.heap.size ≤ g; omega) u, (World.cell?_of_block (Below.heap_setCell wi _ u _ (by show w.heap.size ≠ g; omega))).trans h.2.1, (World.cell?_of_block (Below.heap_setCell wi _ u _ (by show w.heap.size ≠ g; omega))).trans h.2.2⟩
theorem Stay.lt {w wi : World} {ch : Int} {cl : Nat} (h : Stay w ch cl wi) : w.heap.size < wi.heap.size := cell_lt h.2.1
theorem less_small (a b : Int) (ha0 : -9223372036854775808 ≤ a) (ha1 : a ≤ 9223372036854775807) (hb0 : -9223372036854775808 ≤ b) (hb1 : b ≤ 9223372036854775807) :
    decide (a / 9223372036854775808 < b / 9223372036854775808 ∨ (a / 9223372036854775808 = b / 9223372036854775808 ∧ loOf a < loOf b)) = decide (a < b) := by
  have e1 := loOf_eq a
  have e2 := loOf_eq b
  rw [decide_eq_decide]
  omega
set_option maxRecDepth 100000 in
set_option maxHeartbeats 2000000 in
theorem numOrder_core (a b ch zh G : Int) (cl zl : Nat) (L1 L2 : Bool) (w : World) (ha0 : -9223372036854775808 ≤ a) (ha1 : a ≤ 9223372036854775807) (hb0 : -9223372036854775808 ≤ b) (hb1 : b ≤ 9223372036854775807)
    (kadd : ∀ W, Calls Try.prog 34 #[.agg #[.int .i64 ch, .int .u64 cl], .agg #[.int .i64 (a / 9223372036854775808), .int .u64 (loOf a : Nat)]] W fun e w' => e = .returned (.tuple #[.agg #[.int .i64 zh, .int .u64 zl], .int .i64 G]) ∧ Below W.heap.size W w')
    (hG : G = 19 ∨ (G = 0 ∧ (∀ W, Calls Try.prog 36 #[.agg #[.int .i64 ch, .int .u64 cl], .agg #[.int .i64 zh, .int .u64 zl]] W fun e w' => e = .returned (.bool (decide (0 < a))) ∧ Below W.heap.size W w') ∧ (∀ W, Calls Try.prog 36 #[.agg #[.int .i64 zh, .int .u64 zl], .agg #[.int .i64 ch, .int .u64 cl]] W fun e w' => e = .returned (.bool (decide (a < 0))) ∧ Below W.heap.size W w'))) :
    Calls Try.prog 10 #[.int .i64 a, .int .i64 b, .agg #[.int .i64 ch, .int .u64 cl]] w (Yes w) := by
  have KADD := Lib.hid kadd
  have HG := Lib.hid hG
  have kw : ∀ W, Calls Try.prog 34 #[.agg #[.int .i64 (b / 9223372036854775808), .int .u64 (loOf b : Nat)], .agg #[.int .i64 (a / 9223372036854775808), .int .u64 (loOf a : Nat)]] W fun e w' => e = .returned (.tuple #[.agg #[.int .i64 ((a + b) / 18446744073709551616), .int .u64 (loOf (a + b) : Nat)], .int .i64 0]) ∧ Below W.heap.size W w' := fun W => by
    have := addw_c b a W hb0 hb1 ha0 ha1
    rw [Int.add_comm b a] at this
    exact this
  have KW := Lib.hid kw
  have kl : ∀ W, Calls Try.prog 36 #[.agg #[.int .i64 (a / 9223372036854775808), .int .u64 (loOf a : Nat)], .agg #[.int .i64 (b / 9223372036854775808), .int .u64 (loOf b : Nat)]] W fun e w' => e = .returned (.bool (decide (a < b))) ∧ Below W.heap.size W w' := fun W => by
    have := less_c (a / 9223372036854775808) (b / 9223372036854775808) (loOf a) (loOf b) W
    rw [less_small a b ha0 ha1 hb0 hb1] at this
    exact this
  have KL := Lib.hid kl
  clear kadd kw hG kl
  go_enter Try.func10, Try.ntmps10
  go_wp2_with fail
  have hs0 : Stay w ch cl (w.alloc (.cells #[.int .i64 ch, .int .u64 cl] 67)) := ⟨(Below.refl _ _).alloc (Nat.le_refl _) _, by simp, by simp⟩
  have HS := Lib.hid hs0
  clear hs0
  refine (wide_n a _ (by omega) (by omega)).mono ?_
  rintro e w1 ⟨rfl, hb1⟩
  have H1 := Lib.hid (HS.out.next hb1)
  clear HS hb1
  go_wp2_with fail
  refine (wide_n b _ (by omega) (by omega)).mono ?_
  rintro e w2 ⟨rfl, hb2⟩
  have H2 := Lib.hid (H1.out.next hb2)
  clear H1 hb2
  go_wp2_with fail
  refine (addw_c a b _ (by omega) (by omega) (by omega) (by omega)).mono ?_
  rintro e w3 ⟨rfl, hb3⟩
  have H3 := Lib.hid (H2.out.next hb3)
  clear H2 hb3
  go_wp2_with fail
  refine (wide_n b _ (by omega) (by omega)).mono ?_
  rintro e w4 ⟨rfl, hb4⟩
  have X4 := Lib.hid ((Two.new _ _ w3 _).next hb4)
  have H4 := Lib.hid ((H3.out.alloc _).next hb4)
  clear H3 hb4
  go_wp2_with fail
  refine (wide_n a _ (by omega) (by omega)).mono ?_
  rintro e w5 ⟨rfl, hb5⟩
  have X5 := Lib.hid (X4.out.next hb5)
  have H5 := Lib.hid (H4.out.next hb5)
  clear H4 X4 hb5
  go_wp2_with fail
  refine (KW.out _).mono ?_
  rintro e w6 ⟨rfl, hb6⟩
  have X6 := Lib.hid (X5.out.next hb6)
  have H6 := Lib.hid (H5.out.next hb6)
  clear H5 X5 hb6
  have x0 : ∀ o, (w6.alloc o).cell? ⟨w3.heap.size, 0, none⟩ = _ := fun o => (X6.out.alloc o).1
  have x1 : ∀ o, (w6.alloc o).cell? ⟨w3.heap.size, 1, none⟩ = _ := fun o => (X6.out.alloc o).2
  have x2 : ∀ o, (w6.alloc o).drew.cell? ⟨w3.heap.size, 0, none⟩ = _ := fun o => (X6.out.alloc o).1
  have x3 : ∀ o, (w6.alloc o).drew.cell? ⟨w3.heap.size, 1, none⟩ = _ := fun o => (X6.out.alloc o).2
  go_upto_region 5 with fail
  obtain ⟨Y, hY⟩ : ∃ Y, Y = w6.alloc (.cells #[.int .i64 ((a + b) / 18446744073709551616), .int .u64 (loOf (a + b) : Nat)] 67) := ⟨_, rfl⟩
  have HY := Lib.hid (show Stay w ch cl Y by rw [hY]; exact H6.out.alloc _)
  rw [← hY]
  clear x0 x1 x2 x3 H6 X6 hY
  go_cut [11, 12] from 40 to 46 (fun s11 s12 wx => ∃ za, s11 = .pointer (some ⟨za, 0, none⟩) ∧ s12 = .int .i64 G ∧ Two za zh zl wx ∧ Stay w ch cl wx)
  case first =>
    have c0 := HY.out.2.1
    have c1 := HY.out.2.2
    have c2 : ∀ o, (Y.alloc o).drew.cell? ⟨w.heap.size, 0, none⟩ = _ := fun o => (HY.out.alloc o).2.1
    have c3 : ∀ o, (Y.alloc o).drew.cell? ⟨w.heap.size, 1, none⟩ = _ := fun o => (HY.out.alloc o).2.2
    have c4 : ∀ o, (Y.alloc o).cell? ⟨w.heap.size, 0, none⟩ = _ := fun o => (HY.out.alloc o).2.1
    have c5 : ∀ o, (Y.alloc o).cell? ⟨w.heap.size, 1, none⟩ = _ := fun o => (HY.out.alloc o).2.2
    go_region_with (first
      | (go_at_call 40; refine (wide_n a _ (by omega) (by omega)).mono ?_; rintro e w7 ⟨rfl, hb7⟩; have s7 : Stay w ch cl w7 := (by first | exact HY.out.drew.next hb7 | exact HY.out.next hb7 | exact (HY.out.drew.alloc _).next hb7 | exact (HY.out.alloc _).drew.next hb7); have c70 := s7.2.1; have c71 := s7.2.2; have c72 : ∀ o, (w7.alloc o).cell? ⟨w.heap.size, 0, none⟩ = _ := fun o => (s7.alloc o).2.1; have c73 : ∀ o, (w7.alloc o).cell? ⟨w.heap.size, 1, none⟩ = _ := fun o => (s7.alloc o).2.2; have S7 := Lib.hid s7; clear s7; (try (have zb : Blk w7 Y.heap.size 67 #[.int .i64 0, .int .u64 0] := (hb7.block _ (by simp)).trans (by first | exact heap_alloc_new Y.drew _ | exact heap_alloc_new Y _); have z70 := zb.cell 0; have z71 := zb.cell 1; have z72 := zb.free 0; have z73 := zb.free 1; have ZB := Lib.hid zb; clear zb)); clear hb7)
      | (go_at_call 34; refine (KADD.out _).mono ?_; rintro e w8 ⟨rfl, hb8⟩; have s8 : Stay w ch cl w8 := (by first | exact S7.out.next hb8 | exact (S7.out.alloc _).next hb8); have c80 := s8.2.1; have c81 := s8.2.2; have S8 := Lib.hid s8; clear s8; (try (first | (have zb : Blk w8 w7.heap.size 67 #[.int .i64 0, .int .u64 0] := (hb8.block _ (by simp)).trans (heap_alloc_new w7 _); have z80 := zb.cell 0; have z81 := zb.cell 1; have z82 := zb.free 0; have z83 := zb.free 1; have ZC := Lib.hid zb; clear zb) | (have zb : Blk w8 Y.heap.size 67 #[.int .i64 0, .int .u64 0] := Blk.below ZB.out hb8 (Blk.lt ZB.out); have z80 := zb.cell 0; have z81 := zb.cell 1; have z82 := zb.free 0; have z83 := zb.free 1; have ZC := Lib.hid zb; clear zb))); clear hb8))
    all_goals (go_wp2_with fail)
    all_goals go_meet
    all_goals (first | exact ⟨_, rfl, rfl, Two.new _ _ _ _, S8.out.alloc _⟩ | exact ⟨_, rfl, rfl, Two.set ZC.out _ _, (S8.out.set HY.out.lt _).set HY.out.lt _⟩ | exact ⟨_, rfl, rfl, Two.set ZC.out _ _, (S8.out.set S7.out.lt _).set S7.out.lt _⟩)
  case rest =>
  obtain ⟨za, rfl, rfl, htwo, hst⟩ := hcut
  clear HY Y KADD KW
  have HT := Lib.hid htwo
  have HC := Lib.hid hst
  clear htwo hst
  rcases HG.out with rfl | ⟨rfl, l1, l2⟩
  · clear HG
    go_wp2_with fail
    refine (wide_n a _ (by omega) (by omega)).mono ?_
    rintro e v1 ⟨rfl, hv1⟩
    have K1 := Lib.hid (HC.out.next hv1)
    clear HC hv1
    go_wp2_with fail
    refine (wide_n b _ (by omega) (by omega)).mono ?_
    rintro e v2 ⟨rfl, hv2⟩
    have K2 := Lib.hid (K1.out.next hv2)
    clear K1 hv2
    go_wp2_with fail
    refine (KL.out _).mono ?_
    rintro e v3 ⟨rfl, hv3⟩
    have K3 := Lib.hid (K2.out.next hv3)
    clear K2 hv3
    by_cases hab : a < b
    all_goals (
      simp only [hab, decide_true, decide_false]
      go_wp2_with fail
      refine (awake01_c _).mono ?_
      rintro e v4 ⟨rfl, hv4⟩
      have K4 := Lib.hid (K3.out.next hv4)
      go_wp2
      go_ret
      exact ⟨rfl, K4.out.1⟩)
  · have L1 := Lib.hid l1
    have L2 := Lib.hid l2
    clear HG l1 l2
    have c0 := HC.out.2.1
    have c1 := HC.out.2.2
    have t0 := HT.out.1
    have t1 := HT.out.2
    go_wp2_with fail
    refine (L1.out _).mono ?_
    rintro e v1 ⟨rfl, hv1⟩
    have K1 := Lib.hid (HC.out.next hv1)
    have T1 := Lib.hid (HT.out.next hv1)
    clear c0 c1 t0 t1 HC HT hv1
    have c0 := K1.out.2.1
    have c1 := K1.out.2.2
    have t0 := T1.out.1
    have t1 := T1.out.2
    by_cases hp : 0 < a
    all_goals simp only [hp, decide_true, decide_false]
    all_goals (go_wp2_with fail)
    all_goals (refine (L2.out _).mono ?_)
    all_goals (
      rintro e v2 ⟨rfl, hv2⟩
      have K2 := Lib.hid (K1.out.next hv2)
      clear c0 c1 t0 t1 K1 T1 hv2)
    all_goals (by_cases hn : a < 0)
    all_goals (simp only [hn, decide_true, decide_false])
    all_goals (try (exfalso; omega))
    all_goals (
      go_wp2_with fail
      refine (wide_n a _ (by omega) (by omega)).mono ?_
      rintro e v3 ⟨rfl, hv3⟩
      have K3 := Lib.hid (K2.out.next hv3)
      clear K2 hv3
      go_wp2_with fail
      refine (wide_n b _ (by omega) (by omega)).mono ?_
      rintro e v4 ⟨rfl, hv4⟩
      have K4 := Lib.hid (K3.out.next hv4)
      clear K3 hv4
      go_wp2_with fail
      refine (KL.out _).mono ?_
      rintro e v5 ⟨rfl, hv5⟩
      have K5 := Lib.hid (K4.out.next hv5)
      clear K4 hv5)
    all_goals (by_cases hab : a < b)
    all_goals (
      simp only [hab, decide_true, decide_false]
      go_wp2_with fail
      refine (awake01_c _).mono ?_
      rintro e v6 ⟨rfl, hv6⟩
      have K6 := Lib.hid (K5.out.next hv6)
      go_wp2
      go_ret
      exact ⟨rfl, K6.out.1⟩)
theorem numOrder_w (a b ch : Int) (cl : Nat) (w : World) (ha0 : -9223372036854775808 ≤ a) (ha1 : a ≤ 9223372036854775807) (hb0 : -9223372036854775808 ≤ b) (hb1 : b ≤ 9223372036854775807) (hc0 : -9223372036854775808 ≤ ch) (hc1 : ch ≤ 9223372036854775807) (hcl : cl < 18446744073709551616) :
    Calls Try.prog 10 #[.int .i64 a, .int .i64 b, .agg #[.int .i64 ch, .int .u64 cl]] w (Yes w) := by
  have kadd := fun W => add_c ch (a / 9223372036854775808) cl (loOf a) W hc0 hc1 (by omega) (by omega) hcl (loOf_lt a)
  rcases hov : sumOver ch (a / 9223372036854775808) cl (loOf a) with _ | _
  · simp only [hov, Bool.false_eq_true, if_false] at kadd
    have hl := less_add ch a cl ha0 ha1 hc0 hc1 hcl hov
    refine numOrder_core a b ch _ _ cl _ true true w ha0 ha1 hb0 hb1 kadd (.inr ⟨rfl, fun W => ?_, fun W => ?_⟩)
    · have := less_c ch (sumHi ch (a / 9223372036854775808) cl (loOf a)) cl (sumLo cl (loOf a)) W
      rw [decide_eq_decide.2 hl.1] at this
      exact this
    · have := less_c (sumHi ch (a / 9223372036854775808) cl (loOf a)) ch (sumLo cl (loOf a)) cl W
      rw [decide_eq_decide.2 hl.2] at this
      exact this
  · simp only [hov, if_true] at kadd
    exact numOrder_core a b ch 0 19 cl 0 true true w ha0 ha1 hb0 hb1 kadd (.inl rfl)
end Go.Proofs.Ytcmahmlcoodfoaa
