/- The reference's Add is the sum. -/
import Derived.Test.YtcmahmlcoodfoaaRs2
namespace Go.Proofs.Ytcmahmlcoodfoaa
open Go.RowKit
set_option linter.unusedVariables false
theorem digs_at (hi : Int) (lo : Nat) (h0 : -9223372036854775808 ≤ hi) (h1 : hi ≤ 9223372036854775807) (h2 : lo < 18446744073709551616) (i : Nat) : (digs hi lo).getD i 0 < 4294967296 := by
  have hu : hiU hi < 18446744073709551616 := by unfold hiU; omega
  match i with
  | 0 => simp [digs]; omega
  | 1 => simp [digs]; omega
  | 2 => simp [digs]; omega
  | 3 => simp [digs]; omega
  | i + 4 => simp [digs]
theorem low_eq (al bl c1 c2 z0 z1 : Nat) (hal : al < 18446744073709551616) (hbl : bl < 18446744073709551616) (h1 : c1 = (al % 4294967296 + bl % 4294967296 + 0) / 4294967296) (h0 : z0 = (al % 4294967296 + bl % 4294967296 + 0) % 4294967296)
    (h2 : c2 = (al / 4294967296 + bl / 4294967296 + c1) / 4294967296) (h3 : z1 = (al / 4294967296 + bl / 4294967296 + c1) % 4294967296) : z1 * 4294967296 + z0 = (al + bl) % 18446744073709551616 ∧ c2 = (al + bl) / 18446744073709551616 := by
  omega
theorem high_eq (U V c2 c3 c z2 z3 : Nat) (hU : U < 18446744073709551616) (hV : V < 18446744073709551616) (hc : c2 ≤ 1) (h1 : c3 = (U % 4294967296 + V % 4294967296 + c2) / 4294967296) (h0 : z2 = (U % 4294967296 + V % 4294967296 + c2) % 4294967296)
    (h2 : c = (U / 4294967296 + V / 4294967296 + c3) / 4294967296) (h3 : z3 = (U / 4294967296 + V / 4294967296 + c3) % 4294967296) : z3 * 4294967296 + z2 = (U + V + c2) % 18446744073709551616 ∧ c = (U + V + c2) / 18446744073709551616 := by
  omega
theorem over_eq (S : Int) (ah bh f : Int) (h : S = ah + bh + f) (ha0 : -9223372036854775808 ≤ ah) (ha1 : ah ≤ 9223372036854775807) (hb0 : -9223372036854775808 ≤ bh) (hb1 : bh ≤ 9223372036854775807) (f0 : 0 ≤ f) (f1 : f ≤ 1) :
    ((ah / 9223372036854775808 == bh / 9223372036854775808) && (wrap64 S / 9223372036854775808 != ah / 9223372036854775808)) = decide (S < -9223372036854775808 ∨ 9223372036854775808 ≤ S) := by
  have sa : (ah < 0 ∧ ah / 9223372036854775808 = -1) ∨ (0 ≤ ah ∧ ah / 9223372036854775808 = 0) := by omega
  have sb : (bh < 0 ∧ bh / 9223372036854775808 = -1) ∨ (0 ≤ bh ∧ bh / 9223372036854775808 = 0) := by omega
  have sw : ((S < -9223372036854775808 ∨ 9223372036854775808 ≤ S) ∧ (S < 0 ∧ wrap64 S / 9223372036854775808 = 0 ∨ 0 ≤ S ∧ wrap64 S / 9223372036854775808 = -1)) ∨ (¬ (S < -9223372036854775808 ∨ 9223372036854775808 ≤ S) ∧ (S < 0 ∧ wrap64 S / 9223372036854775808 = -1 ∨ 0 ≤ S ∧ wrap64 S / 9223372036854775808 = 0)) := by
    unfold wrap64; omega
  rcases sw with ⟨hs, hw⟩ | ⟨hs, hw⟩
  · rw [decide_eq_true hs]
    rcases sa with ⟨a1, a2⟩ | ⟨a1, a2⟩ <;> rcases sb with ⟨b1, b2⟩ | ⟨b1, b2⟩ <;> rcases hw with ⟨w1, w2⟩ | ⟨w1, w2⟩ <;> rw [a2, b2, w2] <;> first | rfl | (exfalso; omega)
  · rw [decide_eq_false hs]
    rcases sa with ⟨a1, a2⟩ | ⟨a1, a2⟩ <;> rcases sb with ⟨b1, b2⟩ | ⟨b1, b2⟩ <;> rcases hw with ⟨w1, w2⟩ | ⟨w1, w2⟩ <;> rw [a2, b2, w2] <;> first | rfl | (exfalso; omega)
theorem radd_c (ah bh : Int) (al bl : Nat) (w : World) (ha0 : -9223372036854775808 ≤ ah) (ha1 : ah ≤ 9223372036854775807) (hb0 : -9223372036854775808 ≤ bh) (hb1 : bh ≤ 9223372036854775807) (hal : al < 18446744073709551616) (hbl : bl < 18446744073709551616) :
    Calls Try.prog 35 #[.agg #[.int .i64 ah, .int .u64 al], .agg #[.int .i64 bh, .int .u64 bl]] w fun e w' => e = .returned (.tuple #[.agg #[.int .i64 (if sumOver ah bh al bl then 0 else sumHi ah bh al bl), .int .u64 (if sumOver ah bh al bl then 0 else (sumLo al bl : Int))], .int .i64 (if sumOver ah bh al bl then 19 else 0)]) ∧ Below w.heap.size w w' := by
  obtain ⟨X, hX⟩ : ∃ X, X = digs ah al := ⟨_, rfl⟩
  obtain ⟨Y, hY⟩ : ∃ Y, Y = digs bh bl := ⟨_, rfl⟩
  have lX : ∀ i, X.getD i 0 < 4294967296 := fun i => by rw [hX]; exact digs_at ah al ha0 ha1 hal i
  have lY : ∀ i, Y.getD i 0 < 4294967296 := fun i => by rw [hY]; exact digs_at bh bl hb0 hb1 hbl i
  have x0 : X.getD 0 0 = al % 4294967296 := by rw [hX]; rfl
  have x1 : X.getD 1 0 = al / 4294967296 := by rw [hX]; rfl
  have x2 : X.getD 2 0 = hiU ah % 4294967296 := by rw [hX]; rfl
  have x3 : X.getD 3 0 = hiU ah / 4294967296 := by rw [hX]; rfl
  have y0 : Y.getD 0 0 = bl % 4294967296 := by rw [hY]; rfl
  have y1 : Y.getD 1 0 = bl / 4294967296 := by rw [hY]; rfl
  have y2 : Y.getD 2 0 = hiU bh % 4294967296 := by rw [hY]; rfl
  have y3 : Y.getD 3 0 = hiU bh / 4294967296 := by rw [hY]; rfl
  have c1 : cr X Y 1 = (al % 4294967296 + bl % 4294967296 + 0) / 4294967296 := by show (X.getD 0 0 + Y.getD 0 0 + 0) / _ = _; rw [x0, y0]
  have c2 : cr X Y 2 = (al / 4294967296 + bl / 4294967296 + cr X Y 1) / 4294967296 := by show (X.getD 1 0 + Y.getD 1 0 + _) / _ = _; rw [x1, y1]
  have c3 : cr X Y 3 = (hiU ah % 4294967296 + hiU bh % 4294967296 + cr X Y 2) / 4294967296 := by show (X.getD 2 0 + Y.getD 2 0 + _) / _ = _; rw [x2, y2]
  have c4 : cr X Y 4 = (hiU ah / 4294967296 + hiU bh / 4294967296 + cr X Y 3) / 4294967296 := by show (X.getD 3 0 + Y.getD 3 0 + _) / _ = _; rw [x3, y3]
  have z0 : zd X Y 0 = (al % 4294967296 + bl % 4294967296 + 0) % 4294967296 := by unfold zd; rw [x0, y0]; rfl
  have z1 : zd X Y 1 = (al / 4294967296 + bl / 4294967296 + cr X Y 1) % 4294967296 := by unfold zd; rw [x1, y1]
  have z2 : zd X Y 2 = (hiU ah % 4294967296 + hiU bh % 4294967296 + cr X Y 2) % 4294967296 := by unfold zd; rw [x2, y2]
  have z3 : zd X Y 3 = (hiU ah / 4294967296 + hiU bh / 4294967296 + cr X Y 3) % 4294967296 := by unfold zd; rw [x3, y3]
  obtain ⟨l1, l2⟩ := low_eq al bl _ _ _ _ hal hbl c1 z0 c2 z1
  have hc2 := cr_le X Y lX lY 2
  have hUa : (hiU ah : Int) = ah + 9223372036854775808 := by unfold hiU; omega
  have hUb : (hiU bh : Int) = bh + 9223372036854775808 := by unfold hiU; omega
  obtain ⟨u1, u2⟩ := high_eq (hiU ah) (hiU bh) _ _ _ _ _ (by omega) (by omega) hc2 c3 z2 c4 z3
  have hz3 : zd X Y 3 < 4294967296 := Nat.mod_lt _ (by decide)
  have hz2 : zd X Y 2 < 4294967296 := Nat.mod_lt _ (by decide)
  have hlo : zd X Y 1 * 4294967296 + zd X Y 0 = sumLo al bl := l1
  have hS : ∃ S : Int, S = ah + bh + ((al + bl) / 18446744073709551616 : Nat) := ⟨_, rfl⟩
  obtain ⟨S, hS⟩ := hS
  rw [← l2] at hS
  have hhi : wrap64 (zd X Y 3 * 4294967296 + zd X Y 2 : Nat) = sumHi ah bh al bl := by
    unfold sumHi
    rw [← l2, ← hS]
    clear c1 c2 c3 c4 z0 z1 z2 z3 x0 x1 x2 x3 y0 y1 y2 y3 l1 l2 lX lY hlo
    unfold wrap64
    omega
  have hov : (decide (cr X Y 4 = 0) && !decide (2147483648 ≤ zd X Y 3) || decide (cr X Y 4 = 1) && decide (2147483648 ≤ zd X Y 3)) = sumOver ah bh al bl := by
    unfold sumOver sumHi
    rw [← l2, ← hS, over_eq S ah bh _ hS ha0 ha1 hb0 hb1 (by omega) (by omega)]
    have hc4 : cr X Y 4 ≤ 1 := cr_le X Y lX lY 4
    clear c1 c2 c3 c4 z0 z1 z2 z3 x0 x1 x2 x3 y0 y1 y2 y3 l1 l2 lX lY hlo hhi
    generalize cr X Y 4 = c at *
    generalize zd X Y 3 = p at *
    generalize zd X Y 2 = q at *
    generalize cr X Y 2 = f at *
    have hT : (18446744073709551616 : Int) * c + p * 4294967296 + q = S + 18446744073709551616 := by omega
    clear u1 u2
    have hc : c = 0 ∨ c = 1 := by omega
    by_cases hp : 2147483648 ≤ p
    · rcases hc with rfl | rfl
      · simp [hp]; omega
      · simp [hp]; omega
    · rcases hc with rfl | rfl
      · simp [hp]; omega
      · simp [hp]; omega
  exact radd_core ah bh al bl X Y w lX lY (by rw [hX]; rfl) (by rw [hY]; rfl) (fun w => by rw [hX]; exact rdigits_c ah al w ha0 ha1 hal) (fun w => by rw [hY]; exact rdigits_c bh bl w hb0 hb1 hbl) _ _ _ _ _ rfl rfl rfl rfl rfl _ _ hhi hlo _ hov
end Go.Proofs.Ytcmahmlcoodfoaa
