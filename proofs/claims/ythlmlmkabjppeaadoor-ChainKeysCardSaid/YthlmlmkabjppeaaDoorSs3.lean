/- ShaSums: the walk. -/
import Derived.Test.YthlmlmkabjppeaaDoorSs2
namespace Go.Proofs.YthlmlmkabjppeaaDoor
open Go.RowKit
set_option linter.unusedVariables false
set_option linter.unusedSimpArgs false
theorem rangeAt_blk {w : World} {g : Nat} {T : TypeId} {cs : Array Value} (h : Blk w g T cs) : w.rangeAt g 0 cs.toList := fun i u hu => by
  rw [Nat.zero_add, h.cell i]
  simpa using hu
set_option maxRecDepth 100000 in
set_option maxHeartbeats 8000000 in
theorem shaSums_w (A : Option Addr) (ca : Nat) (l : List Nat) (x y : Int) (w : World) (hl : ∀ c ∈ l, c < 256) (hr : Rd w w.heap.size A (byt l)) (hR : RoundsAt w) (hx0 : -9223372036854775808 ≤ x) (hx1 : x ≤ 9223372036854775807) (hy0 : -9223372036854775808 ≤ y) (hy1 : y ≤ 9223372036854775807) :
    Calls Tryd.prog 4 #[.slice A l.length ca, .int .i64 x, .int .i64 y] w fun e w' => e = .returned (.bool true) ∧ Below w.heap.size w w' := by
  have HR := Lib.hid hr
  have HL := Lib.hid hl
  have HRO := Lib.hid hR
  clear hr hl hR
  by_cases h1 : l.length ≤ 300
  · have HP1 := Lib.hid (show ∀ W, Calls Tryd.prog 19 #[.int .i64 x, .int .i64 ((l.length : Int) + 1)] W fun e w' => (∃ K : Nat, K < l.length + 1 ∧ e = .returned (.int .i64 K)) ∧ W = w' from fun W => pick_c x (l.length + 1) W (by omega) (by omega) hx0 hx1)
    have HP2 := Lib.hid (show ∀ W (K : Nat), K ≤ l.length → Calls Tryd.prog 19 #[.int .i64 y, .int .i64 ((l.length : Int) - (K : Int) + 1)] W fun e w' => (∃ K2 : Nat, K2 < l.length - K + 1 ∧ e = .returned (.int .i64 K2)) ∧ W = w' from fun W K hK => by
      rw [show (l.length : Int) - (K : Int) + 1 = ((l.length - K + 1 : Nat) : Int) by omega]
      exact pick_c y (l.length - K + 1) W (by omega) (by omega) hy0 hy1)
    have HIS := Lib.hid (show (Tryd.prog.info? 26).map (·.size) = some (vb (sha l)).size by rw [vb_size, sha_len]; kernel_rfl)
    have zf := zero_sum
    have zs1 : zSum.size = 32 := by rfl
    have zs2 : ¬ zSum = #[] := by intro h; have := congrArg Array.size h; rw [zs1] at this; cases this
    go_enter Tryd.func4, Tryd.ntmps4
    go_wp2_with (first
      | (go_at_call 12; ((with_reducible refine (lent_c A ca l w HL.out HR.out (by omega)).mono ?_); rintro e w1 ⟨rfl, hg1, hb1⟩; have HG1 := Lib.hid hg1; have HB1 := Lib.hid hb1; clear hg1 hb1))
      | (go_at_call 19; ((with_reducible refine (HP1.out _).mono ?_); rintro e w2 ⟨⟨K, hK, rfl⟩, rfl⟩))
      | (go_at_call 19; ((with_reducible refine (HP2.out _ K (by omega)).mono ?_); rintro e w3 ⟨⟨K2, hK2, rfl⟩, rfl⟩))
      | (go_at_call 20; ((refine (rsum_c w.heap.size A ca l w1 (HR.out.below HB1.out) HB1.out.size HL.out (by omega)).mono ?_); rintro e w4 ⟨rfl, hb⟩; have HG4 := Lib.hid (show LentAt w4 w.heap.size l from HG1.out.below hb HG1.out.lt); have HB4 := Lib.hid (HB1.out.trans (hb.mono HB1.out.size)); clear hb))
      | (refine wpList_store_rowTo rfl 26 (.tmp 10) (.tmp 32) rfl rfl w4.heap.size (vb (sha l)) rfl rfl 26 zSum (by exact Blk.new _ _ _) HIS.out (by rw [vb_size, sha_len]; rfl) (vb_one _) ?_))
    obtain ⟨Y, hY⟩ : ∃ Y, Y = (w4.alloc (Obj.cells zSum 26)).setRow w4.heap.size (vb (sha l)) := ⟨_, rfl⟩
    have h4y : Below w4.heap.size w4 Y := by rw [hY]; exact ((Below.refl _ _).alloc (Nat.le_refl _) _).trans ⟨rfl, rfl, rfl, by simp [World.setRow], fun i hi => setRow_other _ _ i _ (by omega)⟩
    have HS := Lib.hid (show Blk Y w4.heap.size 26 (vb (sha l)) by rw [hY]; exact setRow_heap _ _ _ _ _ (0, 0) (Blk.new w4 _ _))
    have HG := Lib.hid (show LentAt Y w.heap.size l from HG4.out.below h4y HG4.out.lt)
    have HB := Lib.hid (HB4.out.trans (h4y.mono HB4.out.size))
    rw [← hY]
    clear hY h4y zf zs1 zs2 HP1 HP2 HG1 HG4 HB1 HB4
    have hj : (K : Int) + (K2 : Int) = ((K + K2 : Nat) : Int) := by omega
    rw [hj]
    have hjn : K + K2 ≤ l.length := by omega
    have hkj : K ≤ K + K2 := by omega
    generalize K + K2 = j at *
    clear hj hK2
    generalize w4.heap.size = gs at *
    have HRY := Lib.hid (HR.out.below HB.out)
    have HROY := Lib.hid (HRO.out.next HB.out)
    have hS := sha_len l
    have hSl := sha_lt l
    have HEQ := fun w => eq_sum (sha l) (sha l) hS hS hSl hSl w
    rw [beq_self_eq_true] at HEQ
    have HSH := Lib.hid (fun W => short_c (sha l) W hS hSl)
    have HRN := Lib.hid (show ∀ x : Ext Y, Calls Tryd.prog 23 #[.slice (some ⟨gs, 0, none⟩) 8 32] x.wd fun e w' => e = .returned (.int .u64 (number ((sha l).take 8) : Nat)) ∧ x.wd = w' from fun x => by
      have h1 := rnumber_c (gs + 1) (some ⟨gs, 0, none⟩) 32 ((sha l).take 8) x.wd (rd_blk (HS.out.below x.bel HS.out.lt) _ 8 (by show byt _ = ((byt (sha l)).toArray.toList).take 8; rw [List.toList_toArray]; simp [byt, List.map_take])) (fun c hc => hSl c (List.mem_of_mem_take hc)) (by rw [List.length_take]; omega)
      rw [show ((sha l).take 8).length = 8 by rw [List.length_take, hS]; rfl] at h1
      exact h1)
    have HIL := Lib.hid (show (Tryd.prog.info? 26).map (·.size) = some (vb (sha l)).toList.length by rw [Array.length_toList, vb_size, sha_len]; kernel_rfl)
    have HO1 := Lib.hid (show ∀ (u : Value) (x : Ext Y), ArrAt x.wd u Y.heap.size [(some ⟨w.heap.size, 0, none⟩, l.length + 8, l)] → Calls Tryd.prog 21 #[u] x.wd fun e w' => e = .returned (.agg (vb (sha l))) ∧ Below x.wd.heap.size x.wd w' from fun u x h => h.of l (by show l ++ [] = l; rw [List.append_nil]) HL.out (fun p hp => by
      rw [List.mem_singleton.1 hp]
      exact ((show LentAt x.wd w.heap.size l from HG.out.below x.bel HG.out.lt).rd).more (Nat.lt_of_lt_of_le HG.out.lt x.bel.size)) (by omega) (by simp) (HROY.out.next x.bel))
    have HO2 := Lib.hid (show ∀ (u : Value) (x : Ext Y), ArrAt x.wd u Y.heap.size (cuts w.heap.size l K j) → Calls Tryd.prog 21 #[u] x.wd fun e w' => e = .returned (.agg (vb (sha l))) ∧ Below x.wd.heap.size x.wd w' from fun u x h => h.of l (cuts_cat _ _ _ _ hkj hjn) HL.out (fun p hp => by
      have hG : LentAt x.wd w.heap.size l := HG.out.below x.bel HG.out.lt
      have hle := Nat.lt_of_lt_of_le HG.out.lt x.bel.size
      simp only [cuts, List.mem_cons, List.not_mem_nil, or_false] at hp
      rcases hp with rfl | rfl | rfl | rfl
      · have := rd_mid hG 0 K (by omega)
        rw [List.drop_zero] at this
        exact this.more hle
      · exact (rd_mid hG K (j - K) (by omega)).more hle
      · exact Rd.nil_ _ _ _
      · have := rd_mid hG j (l.length - j) (by omega)
        rw [List.take_of_length_le (by rw [List.length_drop]; omega)] at this
        exact this.more hle) (by omega) (by simp [cuts]) (HROY.out.next x.bel))
    have b1 : (0 : Int) ≤ (K : Int) := by omega
    have b2 : (K : Int) ≤ (l.length : Int) + 8 := by omega
    have b3 : (K : Int) ≤ (j : Int) := by omega
    have b4 : (j : Int) ≤ (l.length : Int) + 8 := by omega
    have b5 : (j : Int) ≤ (l.length : Int) := by omega
    clear hx0 hx1 hy0 hy1
    refine wp_region_loud Y [34, 49] (fun k u w' => if k = 34 then ArrAt w' u Y.heap.size [(some ⟨w.heap.size, 0, none⟩, l.length + 8, l)] else ArrAt w' u Y.heap.size (cuts w.heap.size l K j)) (by kernel_rfl) (by kernel_rfl) (by kernel_rfl) (by kernel_rfl) (fun k u w1 w2 h hb => by
      by_cases h34 : k = 34
      · rw [if_pos h34] at h ⊢; exact h.next hb
      · rw [if_neg h34] at h ⊢; exact h.next hb) (Below.refl _ _).drew ?_
    repeat (first
      | (refine wpLoud_loadB rfl rfl 26 (.tmp 10) rfl gs 0 rfl (vb (sha l)) _ (fun z => rangeAt_blk (HS.out.below z.bel HS.out.lt)) Tryd.underlying26 rfl HIL.out _ (by simp only [Act.put, List.setIfInBounds_toArray, List.set_cons_succ, List.set_cons_zero]; rfl) ?_)
      | (refine wpLoud_make rfl (fun _ _ h => by cases h) rfl 34 rfl rfl (fun y => ⟨_, _, run_build1 y.wd (some ⟨w.heap.size, 0, none⟩, l.length + 8, l) (.tmp 33) rfl rfl, (Below.refl _ _).alloc (Nat.le_refl _) _, by rw [if_pos rfl]; exact ⟨_, rfl, y.2.size, Blk.new _ _ _⟩⟩) _ (by simp only [Act.put, List.setIfInBounds_toArray, List.set_cons_succ, List.set_cons_zero]; rfl) ?_)
      | (refine wpLoud_call 35 rfl [34] (.agg (vb (sha l))) 21 (fun g => #[g 34]) rfl (fun _ _ h => by cases h) rfl (fun g w => by kernel_rfl) (fun g z hg => by
          refine (HO1.out (g 34) z (by have := hg 34 (by simp); rw [if_pos rfl] at this; exact this)).mono ?_
          rintro e w' ⟨rfl, hb⟩
          exact ⟨_, rfl, hb, rfl⟩) _ (by simp only [Act.put, List.setIfInBounds_toArray, List.set_cons_succ, List.set_cons_zero]; rfl) ?_)
      | (refine wpLoud_make rfl (fun _ _ h => by cases h) rfl 49 rfl rfl (fun y => ⟨_, _, run_build4 y.wd (some ⟨w.heap.size, 0, none⟩, l.length + 8, l.take K) (some ⟨w.heap.size, K, none⟩, l.length + 8 - K, (l.drop K).take (j - K)) (none, 0, []) (some ⟨w.heap.size, j, none⟩, l.length + 8 - j, l.drop j) (.tmp 41) (.tmp 45) (.const (.slice none 0 0)) (.tmp 48) rfl (by show Value.slice _ _ _ = Value.slice _ _ _; first | rfl | (simp only [List.length_take, List.length_drop]; done) | (simp only [List.length_take, List.length_drop]; congr 1 <;> first | rfl | omega | (congr 2 <;> omega))) (by show Value.slice _ _ _ = Value.slice _ _ _; first | rfl | (simp only [List.length_take, List.length_drop]; done) | (simp only [List.length_take, List.length_drop]; congr 1 <;> first | rfl | omega | (congr 2 <;> omega))) rfl (by show Value.slice _ _ _ = Value.slice _ _ _; first | rfl | (simp only [List.length_take, List.length_drop]; done) | (simp only [List.length_take, List.length_drop]; congr 1 <;> first | rfl | omega | (congr 2 <;> omega))), (Below.refl _ _).alloc (Nat.le_refl _) _, by rw [if_neg (by decide)]; exact ⟨_, rfl, y.2.size, Blk.new _ _ _⟩⟩) _ (by simp only [Act.put, List.setIfInBounds_toArray, List.set_cons_succ, List.set_cons_zero]; rfl) ?_)
      | (refine wpLoud_call 50 rfl [49] (.agg (vb (sha l))) 21 (fun g => #[g 49]) rfl (fun _ _ h => by cases h) rfl (fun g w => by kernel_rfl) (fun g z hg => by
          refine (HO2.out (g 49) z (by have := hg 49 (by simp); rw [if_neg (by decide)] at this; exact this)).mono ?_
          rintro e w' ⟨rfl, hb⟩
          exact ⟨_, rfl, hb, rfl⟩) _ (by simp only [Act.put, List.setIfInBounds_toArray, List.set_cons_succ, List.set_cons_zero]; rfl) ?_)
      | (refine wpLoud_call 57 rfl [] (.bool true) 17 (fun g => #[.slice (some ⟨w.heap.size, 0, none⟩) l.length (l.length + 8), .slice A l.length ca]) rfl (fun _ _ h => by cases h) rfl (fun g w => by kernel_rfl) (fun g z hg => by
          refine (kept_c w.heap.size w.heap.size A ca l z.wd HL.out (HG.out.below z.bel HG.out.lt) (HRY.out.ext z.bel) (by omega)).mono ?_
          rintro e w' ⟨rfl, n, rfl⟩
          exact ⟨_, rfl, belowDrewN n (Below.refl _ _), rfl⟩) _ (by simp only [Act.put, List.setIfInBounds_toArray, List.set_cons_succ, List.set_cons_zero]; rfl) ?_)
      | (refine wpLoud_call 61 rfl [] (.int .u64 (number ((sha l).take 8) : Nat)) 22 (fun g => #[.agg (vb (sha l))]) rfl (fun _ _ h => by cases h) rfl (fun g w => by kernel_rfl) (fun g z hg => by
          refine (HSH.out z.wd).mono ?_
          rintro e w' ⟨rfl, hb⟩
          exact ⟨_, rfl, hb, rfl⟩) _ (by simp only [Act.put, List.setIfInBounds_toArray, List.set_cons_succ, List.set_cons_zero]; rfl) ?_)
      | (refine wpLoud_call 63 rfl [] (.int .u64 (number ((sha l).take 8) : Nat)) 23 (fun g => #[.slice (some ⟨gs, 0, none⟩) 8 32]) rfl (fun _ _ h => by cases h) rfl (fun g w => by kernel_rfl) (fun g z hg => by
          refine (HRN.out z).mono ?_
          rintro e w' ⟨rfl, rfl⟩
          exact ⟨_, rfl, Below.refl _ _, rfl⟩) _ (by simp only [Act.put, List.setIfInBounds_toArray, List.set_cons_succ, List.set_cons_zero]; rfl) ?_)
      | (refine wpLoud_call 67 rfl [] (.bool true) 18 (fun g => #[]) rfl (fun _ _ h => by cases h) rfl (fun g w => by kernel_rfl) (fun g z hg => by
          refine (awake02_r (HROY.out.next z.bel)).mono ?_
          rintro e w' ⟨rfl, hb⟩
          exact ⟨_, rfl, hb, rfl⟩) _ (by simp only [Act.put, List.setIfInBounds_toArray, List.set_cons_succ, List.set_cons_zero]; rfl) ?_)
      | (refine wpLoud_plain rfl rfl rfl ?_; intro K hK; go_big_quiet_op; go_big_quiet_on))
    refine wpLoud_end [] (by rfl) ?_
    intro g z hg
    have HBZ := Lib.hid (HB.out.trans (z.bel.mono HB.out.size))
    generalize z.wd = Y2 at *
    simp only [fill, Act.put, List.setIfInBounds_toArray, List.set_cons_succ, List.set_cons_zero]
    go_wp2_with fail
    go_ret
    exact ⟨rfl, HBZ.out⟩
  · have q1 : (300 : Int) < (l.length : Int) := by omega
    go_enter Tryd.func4, Tryd.ntmps4
    go_wp2_with (go_at_call 18; (refine (awake02_r HRO.out).mono ?_); rintro e w1 ⟨rfl, hb⟩; have HB1 := Lib.hid hb; clear hb)
    go_ret
    exact ⟨rfl, HB1.out⟩
end Go.Proofs.YthlmlmkabjppeaaDoor
