/- Contracts: poly.low, poly.limbs. -/
import Derived.Test.YtfblpkjablgafaaPo1
namespace Go.Proofs.Ytfblpkjablgafaa
open Go.RowKit
set_option linter.unusedVariables false
set_option linter.unusedSimpArgs false
theorem number_snoc : ∀ (l : List Nat) (c : Nat), number (l ++ [c]) = number l + c * 256 ^ l.length
  | [], c => by simp [number]
  | a :: l, c => by
    rw [List.cons_append, number, number_snoc l c, number, List.length_cons, Nat.pow_succ, Nat.add_mul, Nat.mul_assoc]
    omega
theorem number_take (l : List Nat) (k : Nat) (h : k < l.length) : number (l.take (k + 1)) = number (l.take k) + l.getD k 0 * 256 ^ k := by
  rw [List.take_add_one, List.getElem?_eq_getElem h, Option.toList_some, number_snoc, List.length_take, Nat.min_eq_left (by omega), List.getD_eq_getElem?_getD, List.getElem?_eq_getElem h, Option.getD_some]
theorem low_step (N c k : Nat) (hN : N < 256 ^ k) (hc : c < 256) (hk : k < 8) : Go.bits BinOp.or IntKind.u64 (N : Int) (IntKind.u64.wrap ((c : Int) * 2 ^ (8 * k))) = ((N + c * 256 ^ k : Nat) : Int) := by
  have e : (256 : Nat) ^ k = 2 ^ (8 * k) := by rw [show (256 : Nat) = 2 ^ 8 from rfl, ← Nat.pow_mul]
  have hp : (256 : Nat) ^ k ≤ 256 ^ 7 := Nat.pow_le_pow_right (by decide) (by omega)
  have hb : c * 256 ^ k < 18446744073709551616 := by
    have h1 : c * 256 ^ k ≤ 255 * 256 ^ 7 := Nat.mul_le_mul (by omega) hp
    have : (255 : Nat) * 256 ^ 7 < 18446744073709551616 := by decide
    omega
  have e2 : (c : Int) * 2 ^ (8 * k) = ((c * 2 ^ (8 * k) : Nat) : Int) := by simp
  rw [e2, wrap_lt _ (by rw [← e]; exact hb), or_n N c (8 * k) (by rw [← e]; exact hN) (by rw [← e]; exact Nat.le_trans hp (by decide)) (by rw [← e]; exact hb), e]
set_option maxRecDepth 100000 in
set_option maxHeartbeats 4000000 in
theorem low_c (B : Nat) (A : Option Addr) (ca : Nat) (l : List Nat) (w : World) (hr : Rd w B A (byt l)) (hl : ∀ c ∈ l, c < 256) (h8 : 8 ≤ l.length) (h1 : l.length ≤ 1000) (hca : 8 ≤ ca) :
    Calls Try.prog 33 #[.slice A l.length ca] w fun e w' => e = .returned (.int .u64 (number (l.take 8) : Nat)) ∧ w = w' := by
  have HR := Lib.hid hr
  have HL := Lib.hid hl
  clear hr hl
  generalize hn : l.length = n at *
  obtain ⟨ad, rfl, hab, _⟩ := HR.out.byte (k := 0) (by omega)
  go_enter Try.func33, Try.ntmps33
  go_wp2
  go_loop [3, 9] (fun v i => ∃ k : Nat, k ≤ 8 ∧ i = .int .i64 (k : Int) ∧ v = .int .u64 (number (l.take k) : Nat)) (fun _ i => 8 - (intOf i).toNat)
  case atStart => exact ⟨0, by omega, rfl, rfl⟩
  case round =>
    obtain ⟨k, hk, rfl, rfl⟩ := hrel
    by_cases hlt : k < 8
    · obtain ⟨ad', e1, _, q0⟩ := HR.out.byte (k := k) (by omega)
      cases e1
      have hc := getD_lt HL.out k
      have HT := Lib.hid (number_take l k (by omega))
      have hNb : number (l.take k) < 256 ^ k := by
        have := number_lt (l.take k) (fun c hc => HL.out c (List.mem_of_mem_take hc))
        rwa [List.length_take, hn, Nat.min_eq_left (by omega)] at this
      generalize l.getD k 0 = c at *
      generalize number (l.take k) = N at *
      have HS := Lib.hid (low_step N c k hNb hc hlt)
      clear hNb
      go_wp2
      exact ⟨⟨k + 1, by omega, rfl, by rw [HS.out, HT.out]⟩, by simp [intOf]; omega⟩
    · obtain rfl : k = 8 := by omega
      go_wp2
      go_ret
      exact ⟨rfl, rfl⟩
end Go.Proofs.Ytfblpkjablgafaa
