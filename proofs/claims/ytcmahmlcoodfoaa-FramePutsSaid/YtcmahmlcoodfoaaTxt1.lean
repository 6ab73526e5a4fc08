/- Contracts: Div64 by ten, sizes, texts of wide numbers. -/
import Derived.Test.YtcmahmlcoodfoaaByt3
namespace Go.Proofs.Ytcmahmlcoodfoaa
open Go.RowKit
theorem ret_k {k : IntKind} {a b : Int} (h : a = b) : Ending.returned (.int k a) = .returned (.int k b) := by rw [h]
set_option maxRecDepth 100000 in
set_option maxHeartbeats 400000 in
theorem div10_small (lo : Nat) (w : World) (h : lo < 2 ^ 64) :
    Calls Try.prog 51 #[.int .u64 0, .int .u64 lo, .int .u64 10] w (Quietly (.tuple #[.int .u64 (lo / 10 : Nat), .int .u64 (lo % 10 : Nat)]) w) := by
  go_enter Try.func51, Try.ntmps51
  go_wp2
  go_quiet (fail)
  go_wp2
  go_ret2
  exact ⟨rfl, _, rfl⟩
set_option maxRecDepth 100000 in
set_option maxHeartbeats 400000 in
theorem lz10 (w : World) : Calls Try.prog 57 #[.int .u64 10] w fun e w' => e = .returned (.int .i64 60) ∧ w = w' := by
  go_enter Try.func57, Try.ntmps57
  go_wp2
  go_ret
  exact ⟨ret_k (by decide +kernel), rfl⟩
theorem or_hi (hi lo : Nat) (h1 : hi < 10) (h : lo < 2 ^ 64) : bits BinOp.or IntKind.u64 ((hi : Int) * 1152921504606846976) ((lo : Int) / 16) = ((hi * 1152921504606846976 + lo / 16 : Nat) : Int) := by
  have e1 : (hi : Int) * 1152921504606846976 = ((hi * 1152921504606846976 : Nat) : Int) := by omega
  have e2 : (lo : Int) / 16 = ((lo / 16 : Nat) : Int) := by omega
  have h2 : lo / 16 < 2 ^ 60 := by omega
  rw [e1, e2, u64_or_nat _ _ (by omega) (by omega), show hi * 1152921504606846976 = 2 ^ 60 * hi by omega, Nat.two_pow_add_eq_or_of_lt h2]
theorem wrap_lo (lo : Nat) : IntKind.u64.wrap ((lo : Int) * 1152921504606846976) = ((lo % 16 * 1152921504606846976 : Nat) : Int) := by
  rw [IntKind.wrap_u64]; omega
theorem and_low32 (r : Nat) (h : r < 16) : bits BinOp.and IntKind.u64 ((r * 1152921504606846976 : Nat) : Int) 4294967295 = 0 := by
  have : ∀ r, r < 16 → bits BinOp.and IntKind.u64 ((r * 1152921504606846976 : Nat) : Int) 4294967295 = 0 := by decide +kernel
  exact this r h
theorem and_y : bits BinOp.and IntKind.u64 11529215046068469760 4294967295 = 0 := by decide +kernel
/-- two words as one number -/
def dbl (hi lo : Nat) : Nat := hi * 18446744073709551616 + lo
set_option maxRecDepth 100000 in
set_option maxHeartbeats 400000 in
theorem div10_core (hi lo U V Q1 R1 : Nat) (w : World) (h0 : 1 ≤ hi) (h1 : hi < 10) (h : lo < 2 ^ 64) (e2 : bits BinOp.or IntKind.u64 ((hi : Int) * 1152921504606846976) ((lo : Int) / 16) = (U : Int))
    (e3 : IntKind.u64.wrap ((lo : Int) * 1152921504606846976) = (V : Int)) (e4 : bits BinOp.and IntKind.u64 (V : Int) 4294967295 = 0) (e5 : (U : Int) / 2684354560 = (Q1 : Int)) (e6 : (U : Int) - (Q1 : Int) * 2684354560 = (R1 : Int))
    (hU : U < 10 * 2 ^ 60) (hV : V < 2 ^ 64) (hQ1 : Q1 < 2 ^ 32) (hR1 : R1 < 10 * 2 ^ 28) (V2 : Nat) (e7 : (V : Int) / 4294967296 = (V2 : Int)) (hV2 : V2 < 2 ^ 32) (W Q0 R0 : Nat)
    (e8 : IntKind.u64.wrap (IntKind.u64.wrap (IntKind.u64.wrap ((U : Int) * 4294967296) + (V2 : Int)) - IntKind.u64.wrap ((Q1 : Int) * 11529215046068469760)) = (W : Int)) (e9 : (W : Int) / 2684354560 = (Q0 : Int)) (e10 : (W : Int) - (Q0 : Int) * 2684354560 = (R0 : Int))
    (hW : W < 10 * 2 ^ 60) (hQ0 : Q0 < 2 ^ 32) (hR0 : R0 < 10 * 2 ^ 28) (A B : Nat) (f1 : Hid ((Q1 : Int) * 4294967296 + (Q0 : Int) = (A : Int)))
    (f2 : Hid (IntKind.u64.wrap (IntKind.u64.wrap (IntKind.u64.wrap ((W : Int) * 4294967296)) - IntKind.u64.wrap ((Q0 : Int) * 11529215046068469760)) / 1152921504606846976 = (B : Int))) :
    Calls Try.prog 51 #[.int .u64 hi, .int .u64 lo, .int .u64 10] w (Quietly (.tuple #[.int .u64 (A : Nat), .int .u64 (B : Nat)]) w) := by
  have t1 : ((hi : Int) == 0) = false := beq_eq_false_iff_ne.2 (by omega)
  have e1 := and_y
  have hd2 : decide ((4294967296 : Int) ≤ (Q0 : Int)) = false := decide_eq_false (by omega)
  have hd : decide ((4294967296 : Int) ≤ (Q1 : Int)) = false := decide_eq_false (by omega)
  go_enter Try.func51, Try.ntmps51
  go_wp2_with (go_at_call 57; refine (lz10 _).mono ?_; rintro e w' ⟨rfl, rfl⟩)
  refine wp_loop_rounds 1 ?_
  rw [rounds_succ]
  go_wp2
  refine wp_loop_rounds 1 ?_
  rw [rounds_succ]
  go_wp2
  go_ret2
  refine ⟨?_, 0, rfl⟩
  rw [← f1.out, ← f2.out]
  rfl
theorem wrap3 (P K v : Int) (h0 : 0 ≤ K + v) (h1 : K + v < 18446744073709551616) : IntKind.u64.wrap (IntKind.u64.wrap (IntKind.u64.wrap (P + K) + v) - IntKind.u64.wrap P) = K + v := by
  simp only [IntKind.wrap_u64]
  have e : ((P + K) % 18446744073709551616 + v) % 18446744073709551616 = (P + (K + v)) % 18446744073709551616 := by rw [Int.emod_add_emod, Int.add_assoc]
  rw [e, ← Int.sub_emod, show P + (K + v) - P = K + v by omega]
  exact Int.emod_eq_of_lt h0 h1
theorem wrap3' (P K : Int) (h0 : 0 ≤ K) (h1 : K < 18446744073709551616) : IntKind.u64.wrap (IntKind.u64.wrap (IntKind.u64.wrap (P + K)) - IntKind.u64.wrap P) = K := by
  have h := wrap3 P K 0 (by omega) (by omega)
  rw [Int.add_zero, Int.add_zero] at h
  exact h
theorem dbl_split (hi lo q r U Q1 R1 Q0 T : Nat) (h1 : lo = 16 * q + r) (h2 : U = hi * 1152921504606846976 + q) (h3 : U = 2684354560 * Q1 + R1) (h4 : 16 * R1 + r = 10 * Q0 + T) : dbl hi lo = 10 * (Q1 * 4294967296 + Q0) + T := by
  unfold dbl; omega
theorem div10_c (hi lo : Nat) (w : World) (h1 : hi < 10) (h : lo < 2 ^ 64) :
    Calls Try.prog 51 #[.int .u64 hi, .int .u64 lo, .int .u64 10] w (Quietly (.tuple #[.int .u64 (dbl hi lo / 10 : Nat), .int .u64 (dbl hi lo % 10 : Nat)]) w) := by
  by_cases h0 : hi = 0
  · subst h0
    have := div10_small lo w h
    simpa [dbl] using this
  · obtain ⟨r, hr⟩ : ∃ r, r = lo % 16 := ⟨_, rfl⟩
    obtain ⟨q, hq⟩ : ∃ q, q = lo / 16 := ⟨_, rfl⟩
    obtain ⟨U, hU⟩ : ∃ U, U = hi * 1152921504606846976 + q := ⟨_, rfl⟩
    obtain ⟨Q1, hQ1⟩ : ∃ Q1, Q1 = U / 2684354560 := ⟨_, rfl⟩
    obtain ⟨R1, hR1⟩ : ∃ R1, R1 = U % 2684354560 := ⟨_, rfl⟩
    obtain ⟨Q0, hQ0⟩ : ∃ Q0, Q0 = (16 * R1 + r) / 10 := ⟨_, rfl⟩
    obtain ⟨T, hT⟩ : ∃ T, T = (16 * R1 + r) % 10 := ⟨_, rfl⟩
    have hr16 : r < 16 := by omega
    have hqb : q < 2 ^ 60 := by omega
    have hlo : lo = 16 * q + r := by omega
    have e2 := or_hi hi lo h1 h
    rw [← hq, ← hU] at e2
    have e3 := wrap_lo lo
    rw [← hr] at e3
    clear hr hq
    have hU2 : U = 2684354560 * Q1 + R1 := by omega
    have b3 : R1 < 2684354560 := by omega
    have b1 : U < 10 * 2 ^ 60 := by omega
    clear hQ1 hR1
    have b2 : Q1 < 2 ^ 32 := by omega
    have hZ : 16 * R1 + r = 10 * Q0 + T := by omega
    have hT10 : T < 10 := by omega
    clear hQ0 hT
    have hd := dbl_split hi lo q r U Q1 R1 Q0 T hlo hU hU2 hZ
    have b5 : Q0 < 2 ^ 32 := by omega
    have b7 : dbl hi lo / 10 = Q1 * 4294967296 + Q0 := by rw [hd]; omega
    have b8 : dbl hi lo % 10 = T := by rw [hd]; omega
    rw [b7, b8]
    clear hd b7 b8 hlo hU
    refine div10_core hi lo U (r * 1152921504606846976) Q1 R1 w (by omega) h1 h e2 e3 (and_low32 r hr16) (by omega) (by omega) b1 (by omega) b2 b3 (r * 268435456) (by omega) (by omega) (R1 * 4294967296 + r * 268435456) Q0 (268435456 * T) ?_ (by omega) (by omega) (by omega) b5 (by omega) _ _ ?_ ?_
    · have e : (U : Int) * 4294967296 = (Q1 : Int) * 11529215046068469760 + (R1 : Int) * 4294967296 := by omega
      rw [e, wrap3 _ _ _ (by omega) (by omega)]; omega
    · refine Lib.hid ?_; omega
    · refine Lib.hid ?_
      have e : ((R1 * 4294967296 + r * 268435456 : Nat) : Int) * 4294967296 = (Q0 : Int) * 11529215046068469760 + (T : Int) * 1152921504606846976 := by omega
      rw [e, wrap3' _ _ (by omega) (by omega)]; omega
end Go.Proofs.Ytcmahmlcoodfoaa
