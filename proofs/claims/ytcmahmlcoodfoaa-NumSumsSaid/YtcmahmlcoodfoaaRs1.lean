/- Contracts: the reference's Less, digits. -/
import Derived.Test.YtcmahmlcoodfoaaSum5
namespace Go.Proofs.Ytcmahmlcoodfoaa
open Go.RowKit
set_option linter.unusedVariables false
set_option maxRecDepth 100000 in
theorem rless_c (ah bh : Int) (al bl : Nat) (w : World) :
    Calls Try.prog 37 #[.agg #[.int .i64 ah, .int .u64 al], .agg #[.int .i64 bh, .int .u64 bl]] w fun e w' => e = .returned (.bool (decide (ah < bh ∨ (ah = bh ∧ al < bl)))) ∧ Below w.heap.size w w' := by
  by_cases h : ah = bh
  · subst h
    have t : (ah != ah) = false := by simp
    have hr : decide (ah < ah ∨ (ah = ah ∧ al < bl)) = decide (al < bl) := by rw [decide_eq_decide]; omega
    have HR := Lib.hid hr
    clear hr
    rw [HR.out]
    clear HR
    go_enter Try.func37, Try.ntmps37
    go_wp2
    go_ret
    exact ⟨rfl, ((Below.refl _ _).alloc (Nat.le_refl _) _).alloc (by simp) _⟩
  · have t : (ah != bh) = true := by simpa using h
    have hr : decide (ah < bh ∨ (ah = bh ∧ al < bl)) = decide (ah < bh) := by rw [decide_eq_decide]; omega
    have HR := Lib.hid hr
    clear hr h
    rw [HR.out]
    clear HR
    go_enter Try.func37, Try.ntmps37
    go_wp2
    go_ret
    exact ⟨rfl, ((Below.refl _ _).alloc (Nat.le_refl _) _).alloc (by simp) _⟩
def hiU (hi : Int) : Nat := (hi + 9223372036854775808).toNat
def digs (hi : Int) (lo : Nat) : List Nat := [lo % 4294967296, lo / 4294967296, hiU hi % 4294967296, hiU hi / 4294967296]
set_option maxRecDepth 100000 in
theorem rdigits_c (hi : Int) (lo : Nat) (w : World) (h0 : -9223372036854775808 ≤ hi) (h1 : hi ≤ 9223372036854775807) (h2 : lo < 18446744073709551616) :
    Calls Try.prog 46 #[.agg #[.int .i64 hi, .int .u64 lo]] w fun e w' => (∃ g, e = .returned (.slice (some ⟨g, 0, none⟩) 4 4) ∧ w.heap.size ≤ g ∧ Blk w' g 22 (wrd .u64 (digs hi lo)).toArray) ∧ Below w.heap.size w w' := by
  have hu : IntKind.u64.wrap (IntKind.u64.wrap hi + 9223372036854775808) = (hiU hi : Int) := by rw [IntKind.wrap_u64, IntKind.wrap_u64]; unfold hiU; omega
  have hu2 : hiU hi < 18446744073709551616 := by unfold hiU; omega
  have hd : digs hi lo = [lo % 4294967296, lo / 4294967296, hiU hi % 4294967296, hiU hi / 4294967296] := rfl
  have HD := Lib.hid hd
  clear hd
  rw [HD.out]
  clear HD
  generalize hiU hi = U at *
  go_enter Try.func46, Try.ntmps46
  go_wp2
  go_ret
  exact ⟨⟨_, rfl, by simp, by have h := Blk.new (w.alloc (.cells #[.int .i64 hi, .int .u64 lo] 67)) 22 (wrd .u64 [lo % 4294967296, lo / 4294967296, U % 4294967296, U / 4294967296]).toArray; rw [show (w.alloc (.cells #[.int .i64 hi, .int .u64 lo] 67)).heap.size = w.heap.size + 1 by simp] at h; exact h⟩, ((Below.refl _ _).alloc (Nat.le_refl _) _).alloc (by simp) _⟩
end Go.Proofs.Ytcmahmlcoodfoaa
