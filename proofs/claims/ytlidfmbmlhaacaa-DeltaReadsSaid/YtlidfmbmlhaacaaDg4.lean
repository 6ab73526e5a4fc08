/- Contract: a short form that is read. -/
import Derived.Test.YtlidfmbmlhaacaaDg3
namespace Go.Proofs.Ytlidfmbmlhaacaa
open Go.RowKit
set_option linter.unusedVariables false
set_option linter.unusedSimpArgs false
theorem rd_cell {w : World} {B : Nat} {ad : Addr} {l : List Nat} (h : Rd w B (some ad) (byt l)) (i : Nat) (hi : i < l.length) : w.cell? (ad.add i) = some (.int .u8 (l.getD i 0 : Nat)) := by
  obtain ⟨a1, e1, _, hc⟩ := h.byte hi
  injection e1 with e1
  subst e1
  exact hc
set_option maxRecDepth 100000 in
set_option maxHeartbeats 2000000 in
theorem getShort_c (B : Nat) (A : Option Addr) (ca : Nat) (l : List Nat) (w : World) (hr : Rd w B A (byt l)) (hl : ∀ c ∈ l, c < 256) (h1 : l.length ≤ 10000000) :
    Calls Try.prog 51 #[.slice A l.length ca] w fun e w' => e = .returned (.tuple #[.int .u64 ((gsF 0 0 l).1 : Nat), .int .i64 ((gsF 0 0 l).2.1 : Nat), .int .i64 ((gsF 0 0 l).2.2 : Nat)]) ∧ w = w' := by
  have HR := Lib.hid hr
  have HL := Lib.hid hl
  obtain ⟨R, hR⟩ : ∃ R, R = gsF 0 0 l := ⟨_, rfl⟩
  rw [← hR]
  have HRR := Lib.hid hR
  clear hr hl hR
  go_enter Try.func51, Try.ntmps51
  go_wp2
  go_loop [2, 9] (fun n i => ∃ k acc : Nat, k ≤ l.length ∧ k ≤ 9 ∧ i = .int .i64 k ∧ n = .int .u64 (acc : Nat) ∧ acc < 128 ^ k ∧ R = gsF k acc (l.drop k)) (fun _ i => l.length - (intOf i).toNat)
  case atStart => exact ⟨0, 0, Nat.zero_le _, by omega, rfl, rfl, by decide, HRR.out⟩
  case round =>
    obtain ⟨k, acc, hk, hk9, rfl, rfl, hacc, hg⟩ := hrel
    have HG := Lib.hid hg
    have HA := Lib.hid hacc
    clear hg hacc
    by_cases hlt : k < l.length
    · have p1 : (k : Int) < (l.length : Int) := by omega
      have hrr := HR.out
      obtain ⟨ad, rfl, _, _⟩ := hrr.byte (k := k) hlt
      have e0 := rd_cell HR.out k hlt
      have hc := getD_lt HL.out k
      have HGD := Lib.hid (show R = gsF k acc (l.getD k 0 :: l.drop (k + 1)) by
        rw [HG.out, List.drop_eq_getElem_cons hlt]
        simp [List.getD_eq_getElem?_getD, hlt])
      clear hrr
      generalize l.getD k 0 = c at *
      obtain ⟨x, hx⟩ : ∃ x, x = c % 128 := ⟨_, rfl⟩
      have hx1 : x < 128 := by omega
      obtain ⟨y, hy⟩ : ∃ y, y = x * 128 ^ k := ⟨_, rfl⟩
      by_cases h9 : k = 9 ∧ 1 < c
      · have t9 : ((k : Int) == 9) = true := by rw [beq_iff_eq]; omega
        have tc : decide ((1 : Int) < (c : Int)) = true := decide_eq_true (by omega)
        have HRV := Lib.hid (show R = (0, 0, 4) by rw [HGD.out, gsF, if_pos h9])
        clear h9 hy hx
        go_wp2
        refine bodyPost_ret (results_tmp3 rfl _ _ _) rfl ?_
        exact ⟨by rw [HRV.out]; rfl, rfl⟩
      · have hyb : y < 18446744073709551616 := by
          rcases Nat.lt_or_ge k 9 with h | h
          · have h2 : x * 128 ^ k ≤ 127 * 128 ^ 8 := Nat.mul_le_mul (by omega) (Nat.pow_le_pow_right (by decide) (by omega))
            omega
          · have e : k = 9 := by omega
            have hc1 : x ≤ 1 := by
              rcases Nat.lt_or_ge 1 c with h1 | h1
              · exact absurd ⟨e, h1⟩ h9
              · omega
            have h2 : x * 128 ^ k ≤ 1 * 128 ^ 9 := by rw [e]; exact Nat.mul_le_mul_right _ hc1
            omega
        have hor : acc ||| y = acc + y := by
          have h2 : (128 : Nat) ^ k = 2 ^ (7 * k) := by rw [Nat.pow_mul]
          have h3 := Nat.two_pow_add_eq_or_of_lt (i := 7 * k) (b := acc) (by rw [← h2]; exact HA.out) x
          rw [← h2] at h3
          rw [hy, Nat.or_comm, Nat.mul_comm x, ← h3, Nat.add_comm]
        have hab : acc < 18446744073709551616 := Nat.lt_of_lt_of_le HA.out (Nat.le_trans (Nat.pow_le_pow_right (by decide) hk9) (by decide))
        have f1 : bits BinOp.and IntKind.u8 (c : Int) 127 = (x : Int) := by
          have h2 := u8_and_nat c 127 hc (by decide)
          rw [show ((127 : Nat) : Int) = 127 from rfl] at h2
          rw [h2, hx, show 127 = 2 ^ 7 - 1 from rfl, Nat.and_two_pow_sub_one_eq_mod]
        have f2 : IntKind.u64.wrap (x : Int) = (x : Int) := by rw [IntKind.wrap_u64]; omega
        have f3 : IntKind.u64.wrap ((x : Int) * 2 ^ (7 * k)) = (y : Int) := by
          rw [show (x : Int) * 2 ^ (7 * k) = (y : Int) by rw [hy, Int.natCast_mul, Int.natCast_pow, Int.pow_mul]; rfl, IntKind.wrap_u64]
          omega
        have f4 : bits BinOp.or IntKind.u64 (acc : Int) (y : Int) = ((acc + y : Nat) : Int) := by rw [u64_or_nat _ _ hab hyb, hor]
        have t9 : (((k : Int) == 9) && decide ((1 : Int) < (c : Int))) = false := by
          rw [Bool.and_eq_false_iff, beq_eq_false_iff_ne, decide_eq_false_iff_not]
          by_cases h : k = 9
          · exact .inr (fun h1 => h9 ⟨h, by omega⟩)
          · exact .inl (by omega)
        have HGE := Lib.hid (show R = if 128 ≤ c then gsF (k + 1) (acc + y) (l.drop (k + 1)) else if c = 0 ∧ 0 < k then (0, 0, 4) else (acc + y, k + 1, 0) by rw [HGD.out, gsF, if_neg h9, hy, hx])
        have HAN := Lib.hid (show acc + y < 128 ^ (k + 1) by
          have h2 : (x + 1) * 128 ^ k ≤ 128 * 128 ^ k := Nat.mul_le_mul_right _ hx1
          rw [Nat.add_mul, Nat.one_mul, ← hy] at h2
          rw [Nat.pow_succ, Nat.mul_comm (128 ^ k)]
          have := HA.out
          omega)
        have HX9 := Lib.hid h9
        clear hor hyb hab hy hx HGD h9
        rcases (show k = 9 ∨ k ≠ 9 by omega) with hk9' | hk9'
        · have u9 : ((k : Int) == 9) = true := by rw [beq_iff_eq]; omega
          have hc1 : ¬ 1 < c := fun h => HX9.out ⟨hk9', h⟩
          have uc : decide ((1 : Int) < (c : Int)) = false := decide_eq_false (by omega)
          have u128 : decide ((128 : Int) ≤ (c : Int)) = false := decide_eq_false (by omega)
          have uk : decide (0 < k) = true := decide_eq_true (by omega)
          by_cases hc0 : c = 0
          · have HRV := Lib.hid (show R = (0, 0, 4) by rw [HGE.out, if_neg (by omega), if_pos ⟨hc0, by omega⟩])
            have u0 : ((c : Int) == 0) = true := by rw [beq_iff_eq]; omega
            clear hc0 hc1 hk9' t9
            go_wp2
            refine bodyPost_ret (results_tmp3 rfl _ _ _) rfl ?_
            exact ⟨by rw [HRV.out]; rfl, rfl⟩
          · have HRV := Lib.hid (show R = (acc + y, k + 1, 0) by rw [HGE.out, if_neg (by omega), if_neg (by omega)])
            have u0 : ((c : Int) == 0) = false := by rw [beq_eq_false_iff_ne]; omega
            clear hc0 hc1 hk9' t9
            go_wp2
            refine bodyPost_ret (results_tmp3 rfl _ _ _) rfl ?_
            exact ⟨by rw [HRV.out]; rfl, rfl⟩
        · have u9 : ((k : Int) == 9) = false := by rw [beq_eq_false_iff_ne]; omega
          by_cases h128 : 128 ≤ c
          · have u128 : decide ((128 : Int) ≤ (c : Int)) = true := decide_eq_true (by omega)
            have HRV := Lib.hid (show R = gsF (k + 1) (acc + y) (l.drop (k + 1)) by rw [HGE.out, if_pos h128])
            clear h128 t9
            have hk8 : k + 1 ≤ 9 := by omega
            clear hk9'
            go_wp2
            go_round
            case rel => exact ⟨k + 1, acc + y, by omega, hk8, by go_num, rfl, HAN.out, HRV.out⟩
            case measure => simp [intOf]; omega
          · have u128 : decide ((128 : Int) ≤ (c : Int)) = false := decide_eq_false (by omega)
            by_cases hc0 : c = 0
            · have u0 : ((c : Int) == 0) = true := by rw [beq_iff_eq]; omega
              by_cases hk0 : 0 < k
              · have uk : decide (0 < k) = true := decide_eq_true hk0
                have HRV := Lib.hid (show R = (0, 0, 4) by rw [HGE.out, if_neg h128, if_pos ⟨hc0, hk0⟩])
                clear hc0 hk0 h128 hk9' t9
                go_wp2
                refine bodyPost_ret (results_tmp3 rfl _ _ _) rfl ?_
                exact ⟨by rw [HRV.out]; rfl, rfl⟩
              · have uk : decide (0 < k) = false := decide_eq_false hk0
                have HRV := Lib.hid (show R = (acc + y, k + 1, 0) by rw [HGE.out, if_neg h128, if_neg (fun h => hk0 h.2)])
                clear hc0 hk0 h128 hk9' t9
                go_wp2
                refine bodyPost_ret (results_tmp3 rfl _ _ _) rfl ?_
                exact ⟨by rw [HRV.out]; rfl, rfl⟩
            · have u0 : ((c : Int) == 0) = false := by rw [beq_eq_false_iff_ne]; omega
              have HRV := Lib.hid (show R = (acc + y, k + 1, 0) by rw [HGE.out, if_neg h128, if_neg (fun h => hc0 h.1)])
              clear hc0 h128 hk9' t9
              go_wp2
              refine bodyPost_ret (results_tmp3 rfl _ _ _) rfl ?_
              exact ⟨by rw [HRV.out]; rfl, rfl⟩
    · obtain rfl : k = l.length := by omega
      have HRV := Lib.hid (show R = (0, 0, 2) by rw [HG.out, List.drop_length]; rfl)
      go_wp2
      refine bodyPost_ret (results_tmp3 rfl _ _ _) rfl ?_
      exact ⟨by rw [HRV.out]; rfl, rfl⟩
end Go.Proofs.Ytlidfmbmlhaacaa
