/- Contract: the document's example of codes. -/
import Derived.Test.YthlmlmkabjppeaaDoorMac3
namespace Go.Proofs.YthlmlmkabjppeaaDoor
open Go.RowKit
set_option linter.unusedVariables false
set_option linter.unusedSimpArgs false
def keyL : List Nat := [107, 101, 121]
def foxL : List Nat := [84, 104, 101, 32, 113, 117, 105, 99, 107, 32, 98, 114, 111, 119, 110, 32, 102, 111, 120, 32, 106, 117, 109, 112, 115, 32, 111, 118, 101, 114, 32, 116, 104, 101, 32, 108, 97, 122, 121, 32, 100, 111, 103]
def foxM : List Nat := [247, 188, 131, 244, 48, 83, 132, 36, 177, 50, 152, 230, 170, 111, 177, 67, 239, 77, 89, 161, 73, 70, 23, 89, 151, 71, 157, 188, 45, 26, 60, 216]
set_option maxRecDepth 100000 in
set_option maxHeartbeats 4000000 in
theorem awake03_c (w : World) (hR : RoundsAt w) :
    Calls Tryd.prog 11 #[] w fun e w' => e = .returned (.bool true) ∧ Below w.heap.size w w' := by
  have kcv := fun (w : World) (C : Array Value) (n c : Nat) => Lib.run_convert_bytes_const (P := Tryd.prog) w 22 5 C n c Tryd.underlying22 Tryd.underlying5
  have kcv2 := fun (C : Array Value) (n c : Nat) => Joins.run_convert_bytes_const_at (P := Tryd.prog) (w.alloc (Obj.cells #[Value.int .u8 107, Value.int .u8 101, Value.int .u8 121] 5 (3, 4))) 22 5 C n c (w.heap.size + 1) (by simp) Tryd.underlying22 Tryd.underlying5
  have HRO := Lib.hid hR
  clear hR
  have zf := zero_sum
  have zs1 : zSum.size = 32 := by rfl
  have zs2 : ¬ zSum = #[] := by intro h; have := congrArg Array.size h; rw [zs1] at this; cases this
  go_enter Tryd.func11, Tryd.ntmps11
  obtain ⟨W1, hW1⟩ : ∃ W1, W1 = w.alloc (Obj.cells (vb keyL) 5 (3, 4)) := ⟨_, rfl⟩
  obtain ⟨W, hW⟩ : ∃ W, W = W1.alloc (Obj.cells (vb foxL) 5 (43, 44)) := ⟨_, rfl⟩
  have hs1 : W1.heap.size = w.heap.size + 1 := by rw [hW1]; simp
  have hbw : Below w.heap.size w W := by rw [hW, hW1]; exact ((Below.refl _ _).alloc (Nat.le_refl _) _).alloc (by simp) _
  have hm := mac_c (w.heap.size + 1) (w.heap.size + 1 + 1) (some ⟨w.heap.size, 0, none⟩) (some ⟨w.heap.size + 1, 0, none⟩) 3 43 keyL foxL W (by
      have h1 := rd_lit w keyL (3, 4)
      rw [hW, ← hs1]
      rw [← hW1] at h1
      rw [hs1]
      exact h1.below ((Below.refl _ _).alloc (by omega) _)) (by
      have h1 := rd_lit W1 foxL (43, 44)
      rw [hs1] at h1
      rw [hW]; exact h1) (by rw [hW]; simp; omega) (by rw [hW]; simp; omega) (by decide) (by decide) (by decide) (by decide) (HRO.out.next hbw)
  have hm2 : Calls Tryd.prog 13 #[.slice (some ⟨w.heap.size, 0, none⟩) 3 3, .slice (some ⟨w.heap.size + 1, 0, none⟩) 43 43] ((w.alloc (Obj.cells (vb keyL) 5 (3, 4))).alloc (Obj.cells (vb foxL) 5 (43, 44))) fun e w' => e = .returned (.agg (vb foxM)) ∧ Below w.heap.size w w' := by
    rw [← hW1, ← hW]
    refine Calls.mono hm ?_
    rintro e w' ⟨rfl, hb⟩
    exact ⟨congrArg (fun l => Ending.returned (.agg (vb l))) mac_fox, hbw.trans (hb.mono hbw.size)⟩
  have HM := Lib.hid hm2
  clear hm hm2 hbw hW hs1 hW1
  have HIS := Lib.hid (show (Tryd.prog.info? 26).map (·.size) = some (vb foxM).size by kernel_rfl)
  go_wp2_with (first
    | (go_at_call 13; (refine HM.out.mono ?_); rintro e w1 ⟨rfl, hb⟩; have HB1 := Lib.hid hb; clear hb)
    | (refine wpList_store_rowTo rfl 26 (.tmp 1) (.tmp 6) rfl rfl w1.heap.size (vb foxM) rfl rfl 26 zSum (by exact Blk.new _ _ _) HIS.out (by rfl) (vb_one _) ?_; obtain ⟨Y, hY⟩ : ∃ Y, Y = (w1.alloc (Obj.cells zSum 26)).setRow w1.heap.size (vb foxM) := ⟨_, rfl⟩; have hby : Blk Y w1.heap.size 26 (vb foxM) := (by rw [hY]; exact setRow_heap _ _ _ _ _ (0, 0) (Blk.new w1 _ _)); have HBY := Lib.hid (show Below w.heap.size w Y from (by rw [hY]; exact (HB1.out.alloc HB1.out.size _).trans ⟨rfl, rfl, rfl, by simp [World.setRow], fun i hi => setRow_other _ _ i _ (by have := HB1.out.size; omega)⟩)); have c0 : Y.cell? ⟨w1.heap.size, 0, none⟩ = some (.int .u8 247) := (hby.cell 0).trans rfl; have c1 : Y.cell? ⟨w1.heap.size, 1, none⟩ = some (.int .u8 188) := (hby.cell 1).trans rfl; have c2 : Y.cell? ⟨w1.heap.size, 2, none⟩ = some (.int .u8 131) := (hby.cell 2).trans rfl; have c3 : Y.cell? ⟨w1.heap.size, 3, none⟩ = some (.int .u8 244) := (hby.cell 3).trans rfl; have c31 : Y.cell? ⟨w1.heap.size, 31, none⟩ = some (.int .u8 216) := (hby.cell 31).trans rfl; rw [← hY]; clear hY hby))
  go_ret
  exact ⟨rfl, HBY.out⟩
end Go.Proofs.YthlmlmkabjppeaaDoor
