import Derived.Test.YtcmahmlcoodfoaaChecked
import Derived.Test.YtcmahmlcoodfoaaOnly
import Derived.Test.YtcmahmlcoodfoaaWin0
import Derived.WalkKit
import Derived.Outline
import Derived.Deep.Light
import Derived.BigRegion
import Derived.Laws.BitsAllLaws
import Derived.Lib.Hide
namespace Go.Proofs.Ytcmahmlcoodfoaa
open Go.RowKit
def wcells (s : Wst) : Array Value := #[.bool s.some_, .int .u64 (s.top : Int), .int .u64 (s.bits : Int)]
theorem and_one (b k : Nat) (hb : b < 2 ^ 64) : (Go.bits BinOp.and IntKind.u64 ((b : Int) / 2 ^ k) 1 == 1) = b.testBit k := by
  have e : ((b : Int) / 2 ^ k) = ((b / 2 ^ k : Nat) : Int) := by simp
  have hle : b / 2 ^ k < 18446744073709551616 := Nat.lt_of_le_of_lt (Nat.div_le_self _ _) hb
  rw [e, show (1 : Int) = ((1 : Nat) : Int) from rfl, u64_and_nat _ _ hle (by omega), Nat.and_one_is_mod, Nat.testBit_eq_decide_div_mod_eq]
  by_cases h : b / 2 ^ k % 2 = 1
  · simp [h]
  · have h' : b / 2 ^ k % 2 = 0 := by omega
    simp [h']
theorem u64_nat (q : Nat) (h : q < 2 ^ 64) : IntKind.u64.wrap (q : Int) = (q : Int) := IntWalk.u64_in _ ⟨by omega, by omega⟩
theorem or_new (b k : Nat) (hb : b < 2 ^ 64) (hk : k < 64) : Go.bits BinOp.or IntKind.u64 (b : Int) (IntKind.u64.wrap (2 ^ k)) = ((b ||| 2 ^ k : Nat) : Int) := by
  have e : ((2 : Int) ^ k) = ((2 ^ k : Nat) : Int) := by simp
  have h2 : 2 ^ k < 2 ^ 64 := Nat.pow_lt_pow_right (by decide) hk
  rw [e, u64_nat _ h2, u64_or_nat _ _ hb h2]
theorem shl_new (b n top : Nat) : Go.bits BinOp.or IntKind.u64 (IntKind.u64.wrap ((b : Int) * 2 ^ min (n - top) 64)) 1 = (((b * 2 ^ min (n - top) 64) % 2 ^ 64 ||| 1 : Nat) : Int) := by
  have e : IntKind.u64.wrap ((b : Int) * 2 ^ min (n - top) 64) = (((b * 2 ^ min (n - top) 64) % 2 ^ 64 : Nat) : Int) := by
    rw [IntKind.wrap_u64]; simp
  rw [e, show (1 : Int) = ((1 : Nat) : Int) from rfl, u64_or_nat _ _ (Nat.mod_lt _ (by decide)) (by omega)]
def Took (B : Nat) (s : Wst) (n : Nat) (w : World) (e : Ending) (w' : World) : Prop := e = .returned (.bool (wgot s n)) ∧ Blk w' B 26 (wcells (wnext s n)) ∧ Only (fun k => k = B) w w'
set_option maxRecDepth 100000 in
set_option maxHeartbeats 400000 in
theorem take_nil (n : Nat) (w : World) : Calls Try.prog 11 #[.pointer none, .int .u64 n] w fun e w' => e = .returned (.bool false) ∧ w = w' := by
  go_enter Try.func11, Try.ntmps11
  go_wp2
  go_ret
  exact ⟨rfl, rfl⟩
set_option maxRecDepth 100000 in
set_option maxHeartbeats 400000 in
theorem take_c (B : Nat) (s : Wst) (n : Nat) (w : World) (hb : Blk w B 26 (wcells s)) (hn : n < 2 ^ 64) (ht : s.top < 2 ^ 64) (hbt : s.bits < 2 ^ 64) :
    Calls Try.prog 11 #[.pointer (some ⟨B, 0, none⟩), .int .u64 n] w (Took B s n w) := by
  obtain ⟨so, top, bits⟩ := s
  simp only at ht hbt
  have c0 : w.cell? ⟨B, 0, none⟩ = some (.bool so) := hb.cell 0
  have c1 : w.cell? ⟨B, 1, none⟩ = some (.int .u64 top) := hb.cell 1
  have c2 : w.cell? ⟨B, 2, none⟩ = some (.int .u64 bits) := hb.cell 2
  have f0 : w.frozen? ⟨B, 0, none⟩ = false := hb.free 0
  have f1 : w.frozen? ⟨B, 1, none⟩ = false := hb.free 1
  have f2 : w.frozen? ⟨B, 2, none⟩ = false := hb.free 2
  have HB := Lib.hid hb
  clear hb
  cases so with
  | false =>
    go_enter Try.func11, Try.ntmps11
    go_wp2
    go_ret
    refine ⟨rfl, ((HB.out.set_ 0 _).set_ 1 _).set_ 2 _, ?_⟩
    exact (((Only.refl (fun k => k = B) _).setCell (fun _ => rfl) _).setCell (fun _ => rfl) _).setCell (fun _ => rfl) _
  | true =>
    by_cases h1 : top < n
    · go_enter Try.func11, Try.ntmps11
      go_wp2
      go_region
      all_goals go_wp2
      all_goals go_ret
      all_goals have hg : wgot ⟨true, top, bits⟩ n = true := by simp [wgot, h1]
      all_goals have hw : wnext ⟨true, top, bits⟩ n = ⟨true, n, (bits * 2 ^ min (n - top) 64) % 2 ^ 64 ||| 1⟩ := by simp [wnext, h1]
      all_goals exact ⟨by rw [hg]; rfl, by rw [hw]; unfold wcells; simp only; rw [← shl_new]; exact (HB.out.set_ 2 _).set_ 1 _, (((Only.refl (fun k => k = B) _).setCell (fun _ => rfl) _).setCell (fun _ => rfl) _).drew⟩
    · by_cases h2 : top - n < 64
      · have hb1 := and_one bits (top - n) hbt
        cases hbit : bits.testBit (top - n) with
        | true =>
          rw [hbit] at hb1
          have HT := Lib.hid hbit
          clear hbit
          go_enter Try.func11, Try.ntmps11
          go_wp2
          go_ret
          have hg : wgot ⟨true, top, bits⟩ n = false := by simp [wgot, h1, HT.out]
          have hw : wnext ⟨true, top, bits⟩ n = ⟨true, top, bits⟩ := by simp [wnext, h1, hg]
          exact ⟨by rw [hg]; rfl, by rw [hw]; exact HB.out, Only.refl _ _⟩
        | false =>
          rw [hbit] at hb1
          have HT := Lib.hid hbit
          clear hbit
          have ho := or_new bits (top - n) hbt h2
          go_enter Try.func11, Try.ntmps11
          go_wp2
          go_ret
          have hg : wgot ⟨true, top, bits⟩ n = true := by simp [wgot, h2, HT.out]
          have hw : wnext ⟨true, top, bits⟩ n = ⟨true, top, bits ||| 2 ^ (top - n)⟩ := by simp [wnext, h1, hg]
          exact ⟨by rw [hg]; rfl, by rw [hw]; unfold wcells; simp only; rw [← ho]; exact HB.out.set_ 2 _, (Only.refl (fun k => k = B) _).setCell (fun _ => rfl) _⟩
      · go_enter Try.func11, Try.ntmps11
        go_wp2
        go_ret
        have hg : wgot ⟨true, top, bits⟩ n = false := by simp [wgot, h1, h2]
        have hw : wnext ⟨true, top, bits⟩ n = ⟨true, top, bits⟩ := by simp [wnext, h1, hg]
        exact ⟨by rw [hg]; rfl, by rw [hw]; exact HB.out, Only.refl _ _⟩
end Go.Proofs.Ytcmahmlcoodfoaa
