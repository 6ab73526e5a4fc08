/- Contract: whether rows of bytes are the same; PolySame's walk. -/
import Derived.Test.YtfblpkjablgafaaAw05
import Derived.Laws.BitsAllLaws
namespace Go.Proofs.Ytfblpkjablgafaa
open Go.RowKit
set_option linter.unusedVariables false
set_option linter.unusedSimpArgs false
theorem xor_zero (a b : Nat) : a ^^^ b = 0 ↔ a = b := by
  constructor
  · intro h
    have h1 : a = (a ^^^ b) ^^^ b := by rw [Nat.xor_assoc, Nat.xor_self, Nat.xor_zero]
    rw [h, Nat.zero_xor] at h1
    exact h1
  · rintro rfl
    exact Nat.xor_self _
set_option maxRecDepth 100000 in
set_option maxHeartbeats 1000000 in
theorem psame_c (B C : Nat) (A D : Option Addr) (ca cb : Nat) (l m : List Nat) (w : World) (hl : ∀ c ∈ l, c < 256) (hm : ∀ c ∈ m, c < 256) (hr : Rd w B A (byt l)) (hs : Rd w C D (byt m)) (h1 : l.length ≤ 1000000000) (_h2 : m.length ≤ 1000000000) :
    Calls Try.prog 15 #[.slice A l.length ca, .slice D m.length cb] w fun e w' => e = .returned (.bool (l == m)) ∧ w = w' := by
  have HL := Lib.hid hl
  have HM := Lib.hid hm
  have HR := Lib.hid hr
  have HS := Lib.hid hs
  clear hl hm hr hs
  by_cases hlen : l.length = m.length
  · have HN := Lib.hid hlen
    rw [← hlen]
    have h3 : l.length ≤ m.length := by omega
    have t0 : (((l.length : Nat) : Int) != (l.length : Int)) = false := by simp
    clear hlen _h2
    go_enter Try.func15, Try.ntmps15
    go_wp2
    go_loop [5, 15] (fun d i => ∃ k q : Nat, k ≤ l.length ∧ i = .int .i64 k ∧ d = .int .u8 (q : Nat) ∧ q < 256 ∧ (q = 0 ↔ l.take k = m.take k)) (fun _ i => l.length - (intOf i).toNat)
    case atStart => exact ⟨0, 0, Nat.zero_le _, rfl, rfl, by decide, by simp⟩
    case round =>
      obtain ⟨k, q, hk, rfl, rfl, hq, ht⟩ := hrel
      have HT := Lib.hid ht
      clear ht
      by_cases hlt : k < l.length
      · obtain ⟨ad, rfl, hab, hca⟩ := HR.out.byte hlt
        obtain ⟨ad2, rfl, hab2, hcb⟩ := HS.out.byte (show k < m.length by omega)
        have HST := Lib.hid (take_succ_eq hlt (show k < m.length by omega))
        have hx := getD_lt HL.out k
        have hy := getD_lt HM.out k
        generalize l.getD k 0 = x at *
        generalize m.getD k 0 = y at *
        have hi1 : (k : Int) < (l.length : Int) := by omega
        have f1 := u8_xor_nat x y hx hy
        have hz : x ^^^ y < 256 := Nat.xor_lt_two_pow (n := 8) hx hy
        have HZ := Lib.hid (xor_zero x y)
        obtain ⟨z, hz2⟩ : ∃ z, z = x ^^^ y := ⟨_, rfl⟩
        rw [← hz2] at f1 hz HZ
        clear hz2
        have f2 := u8_or_nat q z hq hz
        have hv : q ||| z < 256 := Nat.or_lt_two_pow (n := 8) hq hz
        have HV := Lib.hid (show q ||| z = 0 ↔ q = 0 ∧ z = 0 from Nat.or_eq_zero_iff)
        obtain ⟨v, hv2⟩ : ∃ v, v = q ||| z := ⟨_, rfl⟩
        rw [← hv2] at f2 hv HV
        clear hv2
        go_wp2
        go_round
        case rel => exact ⟨k + 1, v, by omega, by go_num, rfl, hv, by rw [HV.out, HZ.out, HST.out, HT.out]⟩
        case measure => simp [intOf]; omega
      · obtain rfl : k = l.length := by omega
        have HE := Lib.hid (show (q = 0) ↔ l = m by
          have := HT.out
          rw [List.take_length, HN.out, List.take_length] at this
          exact this)
        by_cases h0 : q = 0
        · have e := Lib.hid (show (l == m) = true by simpa using HE.out.1 h0)
          subst h0
          go_wp2
          go_ret
          exact ⟨by rw [e.out]; rfl, rfl⟩
        · have e := Lib.hid (show (l == m) = false by
            have : l ≠ m := fun h => h0 (HE.out.2 h)
            simpa using this)
          have t1 : ((q : Int) == 0) = false := by simpa using h0
          clear h0
          go_wp2
          go_ret
          exact ⟨by rw [e.out]; rfl, rfl⟩
  · have hne : l ≠ m := fun h => hlen (by rw [h])
    have e : (l == m) = false := by simpa using hne
    rw [e]
    have t1 : (((l.length : Nat) : Int) != (m.length : Int)) = true := by rw [bne_iff_ne]; omega
    clear hlen hne e
    go_enter Try.func15, Try.ntmps15
    go_wp2
    go_ret
    exact ⟨rfl, rfl⟩
set_option maxRecDepth 100000 in
set_option maxHeartbeats 1000000 in
theorem polySame_w (A D : Option Addr) (ca cb : Nat) (l m : List Nat) (w : World) (hl : ∀ c ∈ l, c < 256) (hm : ∀ c ∈ m, c < 256) (hr : Rd w w.heap.size A (byt l)) (hs : Rd w w.heap.size D (byt m)) (h1 : l.length ≤ maxLen) (h2 : m.length ≤ maxLen) :
    Calls Try.prog 7 #[.slice A l.length ca, .slice D m.length cb] w (Yes w) := by
  unfold maxLen at h1 h2
  have HAW := Lib.hid (fun W => awake05_c W)
  by_cases g1 : l.length ≤ 300
  · have p1 : ¬ (300 : Int) < (l.length : Int) := by omega
    by_cases g2 : m.length ≤ 300
    · have p2 : ¬ (300 : Int) < (m.length : Int) := by omega
      have HP := Lib.hid (fun b (hb : b = (l == m)) => by have h := psame_c _ _ A D ca cb l m w hl hm hr hs (by omega) (by omega); rw [← hb] at h; exact h)
      have HP2 := Lib.hid (fun q => by have h := psame_c _ _ D D cb cb m m (w.drewN q) hm hm hs hs (by omega) (by omega); rw [beq_self_eq_true] at h; exact h)
      have HR := Lib.hid (fun b (hb : b = (l == m)) => by have h := same_c _ _ A D ca cb l m w hl hm hr hs (by omega) (by omega); rw [← hb] at h; exact h)
      obtain ⟨b, hb⟩ : ∃ b, b = (l == m) := ⟨_, rfl⟩
      have HB := Lib.hid (HP.out b hb)
      have HC := Lib.hid (HR.out b hb)
      have tb : (b == b) = true := beq_self_eq_true b
      clear hl hm hr hs HP HR hb
      go_enter Try.func7, Try.ntmps7
      go_wp2_with (first
        | (go_at_call 15; (first | ((with_reducible refine HB.out.mono ?_); rintro e w' ⟨rfl, rfl⟩) | ((with_reducible refine (HP2.out _).mono ?_); rintro e w' ⟨rfl, rfl⟩)))
        | (go_at_call 14; (refine HC.out.mono ?_); rintro e w1 ⟨rfl, q, rfl⟩)
        | (go_at_call 8; (refine (HAW.out _).mono ?_); rintro e w2 ⟨rfl, hbw⟩))
      go_ret
      exact ⟨rfl, (belowDrewN _ (Below.refl _ _)).trans hbw⟩
    · have p2 : (300 : Int) < (m.length : Int) := by omega
      clear hl hm hr hs
      go_enter Try.func7, Try.ntmps7
      go_wp2_with (go_at_call 8; (refine (HAW.out _).mono ?_); rintro e w2 ⟨rfl, hbw⟩)
      go_ret
      exact ⟨rfl, hbw⟩
  · have p1 : (300 : Int) < (l.length : Int) := by omega
    clear hl hm hr hs
    go_enter Try.func7, Try.ntmps7
    go_wp2_with (go_at_call 8; (refine (HAW.out _).mono ?_); rintro e w2 ⟨rfl, hbw⟩)
    go_ret
    exact ⟨rfl, hbw⟩
end Go.Proofs.Ytfblpkjablgafaa
