import Derived.Test.YtldanlglefgobaaChecked
import Derived.Test.YtldanlglefgobaaPlain0
import Derived.Test.YtldanlglefgobaaKit
import Derived.WalkKit
import Derived.Outline
import Derived.Deep.Light
import Derived.BigRegion
import Derived.Lib.Hide
namespace Go.Proofs.Ytldanlglefgobaa
open Go.RowKit
theorem zero_tab (w : World) : (zeroValue 26).run Try.prog w = .ok (.agg (vtab (tbN 0))) w := by
  rw [ztab_is]; kernel_rfl
set_option maxHeartbeats 400000 in
theorem twice_c (a : Nat) (w : World) (h : a < 256) :
    Calls Try.prog 32 #[.int .u8 a] w fun e w' => e = .returned (.int .u8 (tw a : Nat)) ∧ w = w' := by
  go_enter Try.func32, Try.ntmps32
  go_wp2
  go_ret
  exact ⟨ret_u8 (tw_is a h), rfl⟩
/-- block B holds the tables of these numbers -/
def TabAt (w : World) (B : Nat) (t : Array Nat) : Prop := w.heap[B]? = some (.cells (vtab t) 26 (0, 0))
theorem TabAt.cell {w : World} {B : Nat} {t : Array Nat} (h : TabAt w B t) (i : Nat) (hi : i < t.size) : w.cell? ⟨B, i, none⟩ = some (.int .u8 (t[i]'hi : Nat)) :=
  cellOf h (by simp [vtab, hi])
/-- what Build leaves -/
def Built (w : World) (e : Ending) (w' : World) : Prop := e = .returned (.pointer (some ⟨w.heap.size, 0, none⟩)) ∧ w'.heap.size = w.heap.size + 1 ∧ TabAt w' w.heap.size ftab ∧ Below w.heap.size w w'
set_option maxRecDepth 100000 in
set_option maxHeartbeats 400000 in
theorem build_c (w : World) : Calls Try.prog 13 #[] w (Built w) := by
  have zt := zero_tab
  go_enter Try.func13, Try.ntmps13
  go_wp2
  clear zt
  go_loopw [2, 6] (fun a i wr => ∃ k : Nat, k ≤ 255 ∧ a = .int .u8 (gexp k : Nat) ∧ i = .int .i64 k ∧ wr.heap.size = w.heap.size + 1 ∧ TabAt wr w.heap.size (tbN k) ∧ Below w.heap.size w wr) (fun _ i _ => 255 - (intOf i).toNat)
  case atStart => exact ⟨0, by omega, rfl, rfl, by simp, heapNew _ _, (Below.refl _ _).alloc (Nat.le_refl _) _⟩
  case round =>
    rename_i wr
    obtain ⟨k, hk, rfl, rfl, hs, ht, hb⟩ := hrel
    have hg := gexp_lt k
    have hsz := tbN_size k
    have ht1 : TabAt wr.drew w.heap.size (tbN k) := ht
    have HT := Lib.hid ht
    have HS := Lib.hid hs
    have HB := Lib.hid hb
    by_cases hlt : k < 255
    · have c1 := ht1.cell k (by omega)
      have f1 : wr.drew.frozen? ⟨w.heap.size, k, none⟩ = false := freeOf ht1
      obtain ⟨v2, c2⟩ : ∃ v, (wr.setCell ⟨w.heap.size, k, none⟩ (.int .u8 (gexp k : Nat))).drew.cell? ⟨w.heap.size, 256 + gexp k, none⟩ = some v := by
        exact ⟨_, cellOf (heapSet _ ht1) (Array.getElem?_eq_getElem (by simp [vtab, hsz]; omega))⟩
      have f2 : (wr.setCell ⟨w.heap.size, k, none⟩ (.int .u8 (gexp k : Nat))).drew.frozen? ⟨w.heap.size, 256 + gexp k, none⟩ = false := freeOf (heapSet _ ht1)
      clear ht ht1 hs hb
      generalize hgk : gexp k = g at *
      have HG := Lib.hid hgk
      clear hgk
      go_wp2
      go_region
      all_goals
        go_wp2_with (go_at_call 32; refine (twice_c _ _ hg).mono ?_; rintro e w' ⟨rfl, rfl⟩)
        go_roundw
        case rel =>
          go_light
          exact ⟨k + 1, by omega, u8_of_i64 (tw_next HG.out.symm), by go_num, by simpa [heapSize_set, heapDrew] using HS.out,
            (heapSet _ (heapSet _ HT.out)).trans (by rw [vtab_two, ← HG.out]; rfl), ((HB.out.setCell (Nat.le_refl _) _).drew).setCell (Nat.le_refl _) _⟩
        case measure => simp [intOf]; omega
    · obtain rfl : k = 255 := by omega
      have c1 := TabAt.cell ht 255 (by omega)
      have f1 : wr.frozen? ⟨w.heap.size, 255, none⟩ = false := freeOf ht
      obtain ⟨v2, c2⟩ : ∃ v, (wr.setCell ⟨w.heap.size, 255, none⟩ (.int .u8 (gexp 255 : Nat))).cell? ⟨w.heap.size, 256, none⟩ = some v := by
        exact ⟨_, cellOf (heapSet _ ht1) (Array.getElem?_eq_getElem (by simp [vtab, hsz]))⟩
      have f2 : (wr.setCell ⟨w.heap.size, 255, none⟩ (.int .u8 (gexp 255 : Nat))).frozen? ⟨w.heap.size, 256, none⟩ = false := freeOf (heapSet _ ht1)
      clear ht ht1 hs hb
      generalize hgk : gexp 255 = g at *
      have HG := Lib.hid hgk
      clear hgk
      go_wp2
      go_ret
      exact ⟨rfl, by simpa [heapSize_set, heapDrew] using HS.out, (heapSet _ (heapSet _ HT.out)).trans (by rw [show (Value.int .u8 0) = .int .u8 ((0 : Nat) : Int) from rfl, vtab_two, ← HG.out]; rfl), (HB.out.setCell (Nat.le_refl _) _).setCell (Nat.le_refl _) _⟩
theorem TabAt.at_ {w : World} {B : Nat} {t : Array Nat} (h : TabAt w B t) (hs : t.size = 512) (i : Nat) (hi : i < 512) : w.cell? ⟨B, i, none⟩ = some (.int .u8 (tg t i : Nat)) := by
  rw [h.cell i (by omega)]; simp [tg, Array.getD, show i < t.size by omega]
theorem TabAt.drewN {w : World} {B : Nat} {t : Array Nat} (h : TabAt w B t) (n : Nat) : TabAt (w.drewN n) B t := h
end Go.Proofs.Ytldanlglefgobaa
