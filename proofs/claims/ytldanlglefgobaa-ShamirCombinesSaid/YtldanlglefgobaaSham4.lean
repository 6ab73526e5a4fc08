/- The example of the statements on shares. -/
import Derived.Test.YtldanlglefgobaaQui
namespace Go.Proofs.Ytldanlglefgobaa
open Go.RowKit
set_option linter.unusedVariables false
def z32 : Array Value := vb (List.replicate 32 0)
def s7 : List Nat := [7, 7, 7] ++ List.replicate 29 0
theorem zero_key (w : World) : (zeroValue 43).run Try.prog w = .ok (.agg z32) w := by kernel_rfl
theorem s7_share : shr s7 [] 1 3 = 3 :: s7 := by decide +kernel
theorem s7_shares : shf s7 [] 1 3 = shr s7 [] 1 1 ++ shr s7 [] 1 2 ++ (3 :: s7) := by decide +kernel
theorem s7_len : s7.length = 32 := by decide
theorem s7_lt : ∀ c ∈ s7, c < 256 := by decide
set_option maxRecDepth 100000 in
set_option maxHeartbeats 1000000 in
theorem awake08_c (w : World) : Calls Try.prog 23 #[] w (Yes w) := by
  have zs := zero_key
  have zn : z32.size = 32 := by kernel_rfl
  have ze : ¬ z32 = #[] := fun h => by rw [h] at zn; simp at zn
  have hsz : (Try.prog.info? 43).map (·.size) = some (vb s7).size := by rw [vb_size, s7_len]; kernel_rfl
  have HSZ := Lib.hid hsz
  clear hsz
  have hsp : ∀ W, Calls Try.prog 24 #[.agg (vb s7), .int .i64 3, .int .i64 1, .slice none 0 0] W (GivesS 3 (shr s7 [] 1 1 ++ shr s7 [] 1 2 ++ (3 :: s7)) 0 W) := fun W => by
    rw [← s7_shares]
    exact split_c s7 [] 3 1 0 none W s7_len s7_lt (by simp) (by decide) (by decide) (by decide) (Rd.nil_ _ _ _) (by decide)
  have HSP := Lib.hid hsp
  clear hsp
  go_enter Try.func23, Try.ntmps23
  go_wp2_with (first
    | (refine wpList_store_rowTo rfl 43 (.tmp 1) (.tmp 4) rfl rfl w.heap.size (vb s7) rfl (by kernel_rfl) 43 z32 (by exact heap_alloc_new _ _) HSZ.out (by kernel_rfl) (vb_one _) ?_)
    | (refine wpList_load_row rfl 43 (.tmp 1) rfl w.heap.size rfl 43 (vb s7) (0, 0) _ (Blk.row (old := z32) (heap_alloc_new w _)) Try.underlying43 rfl HSZ.out ?_)
    | (go_at_call 24; ((with_reducible refine (HSP.out _).mono ?_); rintro e w2 ⟨v, rfl, ho, hb⟩; have HO := Lib.hid ho; have HB := Lib.hid hb; clear ho hb)))
  generalize hZ : (w.alloc (.cells z32 43)).setRow w.heap.size (vb s7) = Z at *
  have hbz : Blk Z w.heap.size 43 (vb s7) := by rw [← hZ]; exact Blk.row (old := z32) (heap_alloc_new w _)
  have hwz : Below w.heap.size w Z := by rw [← hZ]; exact Below.setRow ((Below.refl _ _).alloc (Nat.le_refl _) _) (Nat.le_refl _) _
  have HBZ := Lib.hid (hbz.below HB.out hbz.lt)
  have HWZ := Lib.hid (hwz.trans (HB.out.mono hwz.size))
  rcases HO.out.2 with ⟨_, h0⟩ | ⟨g, cap, cur, rfl, hg, hh, hn, hm, hc, ht⟩
  · cases h0
  have hcell : ∀ j u, (byt (shr s7 [] 1 1 ++ shr s7 [] 1 2 ++ (3 :: s7)))[j]? = some u → w2.cell? ⟨g, j, none⟩ = some u := by
    intro j u hu
    refine cellOf hh ?_
    rw [← ht] at hu
    have hj : j < 3 * 33 := by
      rcases Nat.lt_or_ge j (3 * 33) with h1 | h1
      · exact h1
      · rw [List.getElem?_eq_none (by rw [List.length_take]; omega)] at hu; cases hu
    rw [List.getElem?_take_of_lt hj] at hu
    simpa using hu
  have hrange : w2.rangeAt g 67 (byt s7) := fun j u hu => by
    refine hcell (67 + j) u ?_
    rw [← hu]
    have hl : (byt (shr s7 [] 1 1 ++ shr s7 [] 1 2 ++ [3])).length = 67 := by rw [byt_len]; decide +kernel
    have e : byt (shr s7 [] 1 1 ++ shr s7 [] 1 2 ++ (3 :: s7)) = byt (shr s7 [] 1 1 ++ shr s7 [] 1 2 ++ [3]) ++ byt s7 := by rw [byt_app]; simp
    rw [e, List.getElem?_append_right (by omega), hl, Nat.add_sub_cancel_left]
  have h66 : w2.cell? ⟨g, 66, none⟩ = some (.int .u8 3) := hcell 66 _ (by
    have hl : (byt (shr s7 [] 1 1 ++ shr s7 [] 1 2)).length = 66 := by rw [byt_len]; decide +kernel
    have e : byt (shr s7 [] 1 1 ++ shr s7 [] 1 2 ++ (3 :: s7)) = byt (shr s7 [] 1 1 ++ shr s7 [] 1 2) ++ byt (3 :: s7) := by rw [byt_app]
    rw [e, List.getElem?_append_right (by omega), hl]; rfl)
  have hs7 : (Try.prog.info? 43).map (·.size) = some (byt s7).length := by rw [byt_len, s7_len]; kernel_rfl
  have c1 : ∀ x : Ext w2, x.wd.cell? ⟨g, 66, none⟩ = some (.int .u8 3) := fun x => x.cell h66
  have r1 := ext_range hrange
  have r2 := ext_range (rangeAt_blk HBZ.out)
  have R1 := Lib.hid r1
  have R2 := Lib.hid r2
  have HS7 := Lib.hid hs7
  clear r1 r2
  have l3 : ∀ W, (Op.equalIn 10000 43 (.agg (vb s7)) (.agg (vb s7))).run Try.prog W = .ok true W := fun W => by
    have h := run_equalIn_barr (P := Try.prog) Try.underlying43 Try.underlying5 (by kernel_rfl) (by kernel_rfl) s7 s7 s7_len s7_len s7_lt s7_lt W
    rw [beq_self_eq_true] at h
    exact h
  have HOut := Lib.hid (show Yes w (.returned (.bool true)) w2 from ⟨rfl, HWZ.out⟩)
  clear hh ht hc hcell hrange h66 hs7 hbz hwz hZ
  refine wp_region_class (Ext.wd (w0 := w2)) (by kernel_rfl) (by kernel_rfl) (Ext.of (Below.refl _ _).drew) ?_
  repeat (first
    | (refine wpQuiet_load_mid rfl 43 (.tmp 27) rfl g 67 rfl s7 _ R1.out Try.underlying43 rfl HS7.out _ (by simp only [Act.put, List.setIfInBounds_toArray, List.set_cons_succ, List.set_cons_zero]; rfl) ?_)
    | (refine wpQuiet_load_mid rfl 43 (.tmp 1) rfl w.heap.size 0 rfl s7 _ R2.out Try.underlying43 rfl HS7.out _ (by simp only [Act.put, List.setIfInBounds_toArray, List.set_cons_succ, List.set_cons_zero]; rfl) ?_)
    | go_big_quiet_step (fail))
  trace_state
  refine wpQuiet_nil ?_
  rintro _ ⟨x, rfl⟩
  go_wp2
  go_ret
  exact ⟨rfl, HWZ.out.trans (x.bel.mono HWZ.out.size)⟩
end Go.Proofs.Ytldanlglefgobaa
