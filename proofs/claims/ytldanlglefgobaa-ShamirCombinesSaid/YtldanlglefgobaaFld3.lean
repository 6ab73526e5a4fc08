import Derived.Test.YtldanlglefgobaaFld2
import Derived.Test.YtldanlglefgobaaFld0
namespace Go.Proofs.Ytldanlglefgobaa
open Go.RowKit
set_option maxHeartbeats 400000 in
theorem div_c (t : Array Nat) (B a b : Nat) (w : World) (hs : Small t) (ht : TabAt w B t) (ha : a < 256) (hb : b < 256) :
    Calls Try.prog 17 #[.pointer (some ⟨B, 0, none⟩), .int .u8 a, .int .u8 b] w (Quietly (.tuple #[.int .u8 (tmul t a (tinv t b) : Nat), .int .i64 (ierr b)]) w) := by
  have hi := tinv_lt hs b
  have HS := Lib.hid hs
  have HT := Lib.hid ht
  clear hs ht
  go_enter Try.func17, Try.ntmps17
  go_wp2_with fail
  refine (inv_c t B b _ HS.out (by exact HT.out) hb).mono ?_
  rintro e w' ⟨rfl, n, rfl⟩
  go_wp2_with fail
  refine (mul_c t B a _ _ HS.out (by exact HT.out) ha hi).mono ?_
  rintro e w' ⟨rfl, m, rfl⟩
  go_wp2
  go_ret2
  exact ⟨rfl, _, rfl⟩
theorem div_nil (a b : Nat) (w : World) : Calls Try.prog 17 #[.pointer none, .int .u8 a, .int .u8 b] w (Quietly (.tuple #[.int .u8 0, .int .i64 1]) w) := by
  go_enter Try.func17, Try.ntmps17
  go_wp2_with fail
  refine (inv_nil b _).mono ?_
  rintro e w' ⟨rfl, n, rfl⟩
  go_wp2_with fail
  refine (mul_nil a 0 _).mono ?_
  rintro e w' ⟨rfl, m, rfl⟩
  go_wp2
  go_ret2
  exact ⟨rfl, _, rfl⟩
set_option maxHeartbeats 400000 in
theorem eval_c (t : Array Nat) (B Bl : Nat) (A : Option Addr) (cap x : Nat) (l : List Nat) (w : World) (hs : Small t) (ht : TabAt w B t) (hx : x < 256) (hl : ∀ c ∈ l, c < 256) (hr : Rd w Bl A (byt l)) (hlen : l.length ≤ 1000000) :
    Calls Try.prog 18 #[.pointer (some ⟨B, 0, none⟩), .slice A l.length cap, .int .u8 x] w (Quietly (.int .u8 (teval t x l : Nat)) w) := by
  have HS := Lib.hid hs
  have HT := Lib.hid ht
  have HL := Lib.hid hl
  have HR := Lib.hid hr
  clear hs ht hl hr
  generalize hn : l.length = n at *
  have HN := Lib.hid hn
  clear hn
  go_enter Try.func18, Try.ntmps18
  go_wp2
  go_loopw [7, 8] (fun v i wr => ∃ k m : Nat, k ≤ n ∧ i = .int .i64 ((k : Int) - 1) ∧ v = .int .u8 (teval t x (l.drop k) : Nat) ∧ wr = w.drewN m) (fun _ i _ => (intOf i + 1).toNat)
  case atStart => exact ⟨n, 0, Nat.le_refl _, rfl, by rw [← HN.out, List.drop_length]; rfl, rfl⟩
  case round =>
    obtain ⟨k, m, hk, rfl, rfl, rfl⟩ := hrel
    have he := teval_lt HS.out x (l.drop k) (drop_lt HL.out k)
    cases k with
    | zero =>
      rw [show (((0 : Nat) : Int) - 1) = -1 from rfl]
      go_wp2
      go_ret
      exact ⟨rfl, _, rfl⟩
    | succ j =>
      rw [show (((j + 1 : Nat) : Int) - 1) = (j : Int) from by omega]
      have hj : j < l.length := by have := HN.out; omega
      obtain ⟨ad, rfl, hb, hc⟩ := HR.out.byte hj
      have hlt := getD_lt HL.out j
      have HST := Lib.hid (teval_step (t := t) (x := x) hj)
      have hm := tmul_lt HS.out (teval t x (l.drop (j + 1))) x
      clear hj
      generalize teval t x (l.drop (j + 1)) = v at *
      generalize l.getD j 0 = c at *
      go_wp2_with fail
      refine (mul_c t B v x _ HS.out (by exact HT.out) he hx).mono ?_
      rintro e w' ⟨rfl, q, rfl⟩
      have hxr := u8_xor_nat (tmul t v x) c hm hlt
      have HX := Lib.hid hxr
      clear hxr
      generalize tmul t v x = z at *
      go_wp2
      go_roundw
      case rel =>
        go_light
        exact ⟨j, _, by omega, rfl, by rw [HST.out, HX.out], rfl⟩
      case measure => simp [intOf]
set_option maxHeartbeats 400000 in
theorem eval_nil (A : Option Addr) (cap x : Nat) (l : List Nat) (w : World) (hlen : l.length ≤ 1000000) :
    Calls Try.prog 18 #[.pointer none, .slice A l.length cap, .int .u8 x] w (Quietly (.int .u8 0) w) := by
  generalize hn : l.length = n at *
  clear hn
  go_enter Try.func18, Try.ntmps18
  go_wp2
  go_loopw [7, 8] (fun v i wr => ∃ k m : Nat, k ≤ n ∧ i = .int .i64 ((k : Int) - 1) ∧ v = .int .u8 0 ∧ wr = w.drewN m) (fun _ i _ => (intOf i + 1).toNat)
  case atStart => exact ⟨n, 0, Nat.le_refl _, rfl, rfl, rfl⟩
  case round =>
    obtain ⟨k, m, hk, rfl, rfl, rfl⟩ := hrel
    cases k with
    | zero =>
      rw [show (((0 : Nat) : Int) - 1) = -1 from rfl]
      go_wp2
      go_ret
      exact ⟨rfl, _, rfl⟩
    | succ j =>
      rw [show (((j + 1 : Nat) : Int) - 1) = (j : Int) from by omega]
      go_wp2_with fail
      refine (mul_nil 0 x _).mono ?_
      rintro e w' ⟨rfl, q, rfl⟩
      go_wp2
      go_roundw
      case rel =>
        go_light
        exact ⟨j, _, by omega, rfl, rfl, rfl⟩
      case measure => simp [intOf]
set_option maxHeartbeats 400000 in
theorem pow_c (a n : Nat) (w : World) (ha : a < 256) (hn : n ≤ 1000000) :
    Calls Try.prog 14 #[.int .u8 a, .int .i64 n] w fun e w' => e = .returned (.int .u8 (gpow a n : Nat)) ∧ w = w' := by
  go_enter Try.func14, Try.ntmps14
  go_wp2
  go_loop [5, 6] (fun p i => ∃ k : Nat, k ≤ n ∧ i = .int .i64 k ∧ p = .int .u8 (gpow a k : Nat)) (fun _ i => n - (intOf i).toNat)
  case atStart => exact ⟨0, by omega, rfl, rfl⟩
  case round =>
    obtain ⟨k, hk, rfl, rfl⟩ := hrel
    by_cases hlt : k < n
    · have hp := gpow_lt a k
      have HG := Lib.hid (show gpow a (k + 1) = gm (gpow a k) a from rfl)
      generalize gpow a k = p at *
      go_wp2_with fail
      refine (rmul_c p a _ hp ha).mono ?_
      rintro e w' ⟨rfl, rfl⟩
      go_wp2
      go_round
      case rel => exact ⟨k + 1, by omega, by go_num, by rw [HG.out]⟩
      case measure => simp [intOf]; omega
    · obtain rfl : k = n := by omega
      go_wp2
      go_ret
      exact ⟨rfl, rfl⟩
set_option maxHeartbeats 400000 in
theorem reval_c (Bl : Nat) (A : Option Addr) (cap x : Nat) (l : List Nat) (w : World) (hx : x < 256) (hl : ∀ c ∈ l, c < 256) (hr : Rd w Bl A (byt l)) (hlen : l.length ≤ 1000000) :
    Calls Try.prog 20 #[.slice A l.length cap, .int .u8 x] w (Quietly (.int .u8 (reval x l l.length : Nat)) w) := by
  have HL := Lib.hid hl
  have HR := Lib.hid hr
  clear hl hr
  generalize hn : l.length = n at *
  have HN := Lib.hid hn
  clear hn
  go_enter Try.func20, Try.ntmps20
  go_wp2
  go_loopw [5, 6] (fun v i wr => ∃ k m : Nat, k ≤ n ∧ i = .int .i64 k ∧ v = .int .u8 (reval x l k : Nat) ∧ wr = w.drewN m) (fun _ i _ => n - (intOf i).toNat)
  case atStart => exact ⟨0, 0, Nat.zero_le _, rfl, rfl, rfl⟩
  case round =>
    obtain ⟨k, m, hk, rfl, rfl, rfl⟩ := hrel
    by_cases hlt : k < n
    · have hj : k < l.length := by have := HN.out; omega
      obtain ⟨ad, rfl, hb, hc⟩ := HR.out.byte hj
      have hclt := getD_lt HL.out k
      have hv := reval_lt x l k
      have HST := Lib.hid (show reval x l (k + 1) = reval x l k ^^^ gm (l.getD k 0) (gpow x k) from rfl)
      clear hj
      generalize reval x l k = v at *
      generalize l.getD k 0 = c at *
      have hi1 : (k : Int) < (n : Int) := by omega
      have hp := gpow_lt x k
      have hz := gm_lt c (gpow x k)
      have HX := Lib.hid (u8_xor_nat v (gm c (gpow x k)) hv hz)
      go_wp2
      go_quiet (first
        | (go_at_call 14; exact quiet_left (pow_c x k _ hx (by omega)))
        | (go_at_call 21; exact quiet_left (rmul_c c (gpow x k) _ hclt hp)))
      go_wp2
      go_roundw
      case rel =>
        go_light
        exact ⟨k + 1, _, by omega, by go_num, by rw [HST.out, HX.out], rfl⟩
      case measure => simp [intOf]; omega
    · obtain rfl : k = n := by omega
      go_wp2
      go_ret
      exact ⟨rfl, _, rfl⟩
end Go.Proofs.Ytldanlglefgobaa
