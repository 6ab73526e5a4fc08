/- Contract: a key of a key, by the document. -/
import Derived.Test.YthlmlmkabjppeaaDoorMrk2
import Derived.Test.YthlmlmkabjppeaaDoorDrv
import Derived.Deep.RegionHeld
namespace Go.Proofs.YthlmlmkabjppeaaDoor
open Go.RowKit
set_option linter.unusedVariables false
set_option linter.unusedSimpArgs false
theorem zero_k32 (w : World) : (zeroValue 25).run Tryd.prog w = .ok (.agg zKey) w := by kernel_rfl
structure CpS (w W : World) (g9 g6 : Nat) (L : List Nat) (k : Nat) : Prop where
  bel : Below w.heap.size w W
  h9 : Blk W g9 25 (vb (outZ L k))
  h6 : Blk W g6 25 zKey
set_option maxRecDepth 100000 in
set_option maxHeartbeats 8000000 in
theorem rderive_c (k s : List Nat) (n : Nat) (w : World) (hk : k.length = 32) (hkl : ∀ c ∈ k, c < 256) (hs : ∀ c ∈ s, c < 256) (hsn : s.length ≤ 1000) (hn : n < 2 ^ 64) :
    Calls Tryd.prog 31 #[.agg (vb k), .string (bstr s), .int .u64 n] w fun e w' => e = .returned (.agg (vb (drv k s n))) ∧ Below w.heap.size w w' := by
  obtain ⟨i0, hi, hz0, hz1, hz2⟩ := info_parts byteInfo
  have HK := Lib.hid hk
  have HKL := Lib.hid hkl
  have HS := Lib.hid hs
  have HCV := Lib.hid (fun W => conv_str W s hs (by omega))
  clear hkl hs
  have zf := zero_k32
  have zs1 : zKey.size = 32 := by rfl
  have zs2 : ¬ zKey = #[] := by intro h; have := congrArg Array.size h; rw [zs1] at this; cases this
  have ksz : (vb k).size = 32 := by rw [vb_size, hk]
  generalize bstr s = SV at *
  go_enter Tryd.func31, Tryd.ntmps31
  go_upto_region 1 with fail
  obtain ⟨Z, hZ⟩ : ∃ Z, Z = (w.alloc (Obj.cells (vb k) 25)).alloc (Obj.cells zKey 25) := ⟨_, rfl⟩
  have HZ := Lib.hid (show Below w.heap.size w Z by rw [hZ]; exact ((Below.refl _ _).alloc (Nat.le_refl _) _).alloc (by simp) _)
  have H3 := Lib.hid (show Blk Z w.heap.size 25 (vb k) by rw [hZ]; exact (Blk.new w _ _).alloc _)
  have H6 := Lib.hid (show Blk Z (w.heap.size + 1) 25 zKey by
    have h1 := Blk.new (w.alloc (Obj.cells (vb k) 25)) 25 zKey
    rw [show (w.alloc (Obj.cells (vb k) 25)).heap.size = w.heap.size + 1 by simp] at h1
    rw [hZ]; exact h1)
  rw [← hZ]
  clear hZ ksz
  obtain ⟨cap, W1, hrun, hmk, hb1⟩ := HCV.out Z
  have hz1' : Below Z.heap.size Z (W1.alloc (Obj.cells (byt [0]).toArray 5)) := hb1.alloc hb1.size _
  obtain ⟨v3, W3, hrun3', hm3, hb3', _⟩ := app_marks (W1.alloc (Obj.cells (byt [0]).toArray 5)) Z.heap.size (.slice (some ⟨Z.heap.size, 0, none⟩) s.length cap) s [0] 22 (some ⟨W1.heap.size, 0, none⟩) 1 (W1.heap.size + 1) (.inl ⟨_, _, rfl, Nat.le_refl _, hmk.next ((Below.refl _ _).alloc (Nat.le_refl _) _)⟩) hz1'.size (by omega) (by decide) (by simp) (rd_newB W1 0)
  have hrun3 : (Builtin.append_ #[22, 22] 22 #[.slice (some ⟨Z.heap.size, 0, none⟩) s.length cap, .slice (some ⟨W1.heap.size, 0, none⟩) 1 1]).run Tryd.prog (W1.alloc (Obj.cells #[Value.int .u8 0] 5)) = .ok v3 W3 := hrun3'
  have HM3 := Lib.hid hm3
  have HB3 := Lib.hid (hz1'.trans hb3')
  obtain ⟨A3, c3, rfl, hr3⟩ := hm3.rd
  clear hrun3' hm3 hb3' hz1' hmk hb1 hr3
  have hl1 : (s ++ ([0] : List Nat)).length = s.length + 1 := by simp
  rw [hl1] at hrun3 HM3
  clear hl1
  have HR3 := Lib.hid hrun3
  clear hrun3
  go_upto_region 2 with (at_builtin; refine wpList_valM rfl (.slice A3 (s.length + 1) c3) W3 (op_append rfl rfl rfl HR3.out) ?_)
  clear hrun HR3
  have HWZ := Lib.hid (HZ.out.trans (HB3.out.mono HZ.out.size))
  have H3W := Lib.hid (H3.out.below HB3.out H3.out.lt)
  have HK3 := Lib.hid (show Rd W3 (w.heap.size + 1) (some ⟨w.heap.size, 0, none⟩) (byt k) from rd_blk H3W.out (byt k) 32 (by show byt k = ((byt k).toArray.toList).take 32; rw [List.toList_toArray, List.take_of_length_le (by rw [byt_len, HK.out]; decide)]))
  have HZL := Lib.hid (show Z.heap.size ≤ W3.heap.size from HB3.out.size)
  obtain ⟨F8, hF8⟩ : ∃ F8, F8 = form n 8 := ⟨_, rfl⟩
  have HF := Lib.hid hF8
  have HFL := Lib.hid (show F8.length = 8 by rw [hF8, form_len])
  obtain ⟨I7, hI7⟩ : ∃ I7, I7 = s ++ [0] ++ F8 := ⟨_, rfl⟩
  have HI7 := Lib.hid hI7
  have HIL := Lib.hid (show I7.length ≤ 1009 by rw [hI7, List.length_append, HFL.out, List.length_append, List.length_singleton]; omega)
  have HIB := Lib.hid (show ∀ c ∈ I7, c < 256 from fun c hc => by
    rw [hI7] at hc
    rcases List.mem_append.1 hc with h | h
    · rcases List.mem_append.1 h with h | h
      · exact HS.out c h
      · rw [List.mem_singleton.1 h]; decide
    · rw [hF8] at h; exact form_lt _ _ c h)
  have HDRV := Lib.hid (show drv k s n = expd k I7 32 by rw [hI7, hF8]; rfl)
  clear hF8 hI7
  go_wp2_with (first
    | (at_builtin; refine wpList_app _ rfl (.tmp 15) (.tmp 16) _ rfl W3.heap.size 5 i0 (.int .u8 0) 1 1 Tryd.underlying22 hi hz0 hz1 hz2 rfl (by decide) _ 0 [] rfl (by exact OwnB.new W3 _ [] (Nat.le_refl _) (by simp [maxLen])) (w.heap.size + 1) (some ⟨w.heap.size, 0, none⟩) 32 32 (byt k) rfl (by simp [byt_len, HK.out]) (by exact HK3.out.ext ((Below.refl _ _).alloc (Nat.le_refl _) _)) (byt_one _) (by decide) (by decide) (by simp) ?_; intro v4 w4 hap; have ho4 := (show OwnB w4 W3.heap.size v4 k from (by have := hap.own; unfold OwnB; rw [HK.out]; simpa using this)); have HB4 := Lib.hid (show Below W3.heap.size W3 w4 from ((Below.refl _ _).alloc (Nat.le_refl _) _).trans (hap.below (by exact OwnB.new W3 _ [] (Nat.le_refl _) (by simp [maxLen])) (by simp))); obtain ⟨A4, k4, rfl, _, _, r4⟩ := ho4.rd; have HO4 := Lib.hid ho4; have HM4 := Lib.hid (HM3.out.next HB4.out); clear hap ho4 r4)
    | (go_at_call 53; (refine (rform_c n 8 w4 hn (by decide)).mono ?_); rw [← HF.out]; rintro e w5 ⟨v5, rfl, ho5, hb5⟩; obtain ⟨A5, k5, rfl, _, _, r5⟩ := ho5.rd; have HR5 := Lib.hid r5; have HB5 := Lib.hid hb5; have HO45 := Lib.hid (HO4.out.next hb5); have HM5 := Lib.hid (HM4.out.next hb5); have hzl5 := Nat.le_trans HZL.out (Nat.le_trans HB4.out.size HB5.out.size); obtain ⟨v7, w7, hrun7, hm7, hb7, hon7⟩ := app_marks w5 Z.heap.size (.slice A3 (s.length + 1) c3) (s ++ [0]) F8 22 A5 k5 w5.heap.size HM5.out hzl5 (by simp; omega) (by rw [HFL.out]; decide) (by intro h0; have := HFL.out; rw [h0] at this; cases this) HR5.out; have HR7 := Lib.hid hrun7; rw [← HI7.out] at hm7; obtain ⟨A7, c7, rfl, hr7⟩ := hm7.rd; have HRD7 := Lib.hid hr7; have HB7 := Lib.hid (show Below Z.heap.size w5 w7 from hb7); have HO47 := Lib.hid (show OwnB w7 W3.heap.size (.slice A4 k.length k4) k from own_keep HO45.out hon7 (fun g h1 h2 => (by have := HM3.out.lt g h2; have := own_base HO45.out g h1; omega))); have HB57 := Lib.hid (show Below Z.heap.size Z w7 from ((HB3.out.trans (HB4.out.mono HZL.out)).trans (HB5.out.mono (Nat.le_trans HZL.out HB4.out.size))).trans hb7); clear ho5 hb5 r5 hrun7 hm7 hr7 hb7 hon7)
    | (at_builtin; refine wpList_valM rfl (.slice A7 I7.length c7) w7 (op_append rfl rfl rfl HR7.out) ?_))
  have HZW := Lib.hid (HZ.out.trans (HB57.out.mono HZ.out.size))
  obtain ⟨A4', k4', e4, _, _, hr4⟩ := HO47.out.rd
  injection e4 with e41 e42 e43
  subst e41 e43
  have hexp := rexpand_c w7.heap.size w7.heap.size A4 A7 k4 c7 k I7 32 w7 hr4 HRD7.out (Nat.le_refl _) (Nat.le_refl _) HKL.out HIB.out (by rw [HK.out]; decide) (by have := HIL.out; omega) (by decide)
  rw [HK.out, ← HDRV.out] at hexp
  have HEX := Lib.hid hexp
  obtain ⟨DV, hDV⟩ : ∃ DV, DV = drv k s n := ⟨_, rfl⟩
  rw [← hDV] at HEX
  have HDL := Lib.hid (show DV.length = 32 by rw [hDV, drv_len])
  have HSZ := Lib.hid (show (Tryd.prog.info? 25).map (·.size) = some (vb DV).size by rw [vb_size, HDL.out]; kernel_rfl)
  have HDVV := Lib.hid hDV
  have H67 := Lib.hid (H6.out.below HB57.out H6.out.lt)
  clear hDV hexp hr4 e42 HDRV HO47 HO45 HM5 HM4 HM3 HRD7 HR5 HO4 HB4 HB5 HB7 HB3 HK3 H3W HWZ H3 H6 HCV
  go_wp2_with (go_at_call 25; (refine HEX.out.mono ?_); rintro e w8 ⟨A8, c8, rfl, hr8, hb8⟩; obtain ⟨ad8, rfl, hab8, hc8⟩ := hr8 (by intro h0; have := congrArg List.length h0; rw [byt_len, HDL.out] at this; cases this); have HC8 := Lib.hid hc8; have HBW := Lib.hid (HZW.out.trans (hb8.mono HZW.out.size)); have H68 := Lib.hid (H67.out.below hb8 H67.out.lt); clear hr8 hb8 hc8)
  obtain ⟨Y, hY⟩ : ∃ Y, Y = w8.alloc (Obj.cells zKey 25) := ⟨_, rfl⟩
  have h6ne : w.heap.size + 1 ≠ w8.heap.size := Nat.ne_of_lt H68.out.lt
  have HCP := Lib.hid (show CpS w Y w8.heap.size (w.heap.size + 1) DV 0 by
    rw [hY]
    exact ⟨HBW.out.alloc HBW.out.size _, by rw [outZ_zero HDL.out]; exact Blk.new _ _ _, H68.out.alloc _⟩)
  have HCY := Lib.hid (show ∀ j u, (byt DV)[j]? = some u → Y.cell? (ad8.add j) = some u from fun j u hu => by
    rw [hY]
    exact ((Below.refl w8.heap.size w8).alloc (Nat.le_refl _) _).cell (p := ad8.add j) (by rw [add_block]; exact hab8) |>.trans (HC8.out j u hu))
  have hab9 : ad8.block < w8.heap.size := hab8
  rw [← hY]
  have hwl := HBW.out.size
  clear hY HC8 hab8 HZW HEX H67 H68 HBW
  generalize w8.heap.size = g9 at *
  go_loopw [10] (fun i wr => ∃ j : Nat, j ≤ 32 ∧ i = .int .i64 (j : Int) ∧ CpS w wr g9 (w.heap.size + 1) DV j ∧ ∀ j u, (byt DV)[j]? = some u → wr.cell? (ad8.add j) = some u) (fun i _ => 32 - (intOf i).toNat)
  case atStart => exact ⟨0, by omega, rfl, HCP.out, HCY.out⟩
  case round =>
    rename World => wo
    obtain ⟨j, hj, rfl, hs, hcs⟩ := hrel
    have HCS := Lib.hid hs
    have HCC := Lib.hid hcs
    clear hs hcs HCP HCY
    by_cases hlt : j < 32
    · have q0 := HCC.out j _ (byt_at (by rw [HDL.out]; exact hlt))
      have q1 : (j : Int) < 32 := by omega
      have eo := HCS.out.h9.cell j
      rw [vb_at _ j (by rw [outZ_len _ _ (by rw [HDL.out]; omega), HDL.out]; exact hlt)] at eo
      have ef := HCS.out.h9.free j
      have HSET := Lib.hid (outZ_set DV j (by rw [HDL.out]; exact hlt))
      generalize DV.getD j 0 = d at *
      go_wp2_with fail
      refine ⟨⟨j + 1, by omega, by congr 1, ⟨HCS.out.bel.setCell hwl _, ?_, HCS.out.h6.far h6ne _⟩, fun i u hu => ?_⟩, ?_⟩
      · rw [← HSET.out, ← vb_set]
        exact HCS.out.h9.set_ _ _
      · rw [World.cell?_setCell_far _ _ _ _ (by rw [add_block]; exact (Nat.ne_of_lt hab9).symm)]
        exact HCC.out i u hu
      · simp only [intOf]; omega
    · obtain rfl : j = 32 := by omega
      have h9 := HCS.out.h9
      rw [show (32 : Nat) = DV.length from HDL.out.symm, outZ_end] at h9
      have H9 := Lib.hid h9
      have H6F := Lib.hid HCS.out.h6
      have HBF := Lib.hid HCS.out.bel
      clear h9 HCS HCC
      go_wp2_with (first
        | (refine wpList_load_row rfl 25 (.tmp 9) rfl g9 rfl 25 (vb DV) (0, 0) _ (by exact H9.out) Tryd.underlying25 rfl HSZ.out ?_)
        | (refine wpList_store_rowTo rfl 25 (.tmp 6) (.tmp 33) rfl rfl (w.heap.size + 1) (vb DV) rfl rfl 25 zKey H6F.out HSZ.out (by rw [vb_size, HDL.out]; rfl) (vb_one _) ?_))
      first
        | rw [Exit.noGoto_ret]
        | skip
      refine bodyPost_ret (results_cell_row rfl _ _ (w.heap.size + 1) 25 (vb DV) (0, 0) _ rfl (setRow_heap _ _ zKey _ 25 (0, 0) H6F.out) Tryd.underlying25 rfl HSZ.out) rfl ?_
      exact ⟨by rw [HDVV.out], below_row HBF.out (by omega) _⟩
end Go.Proofs.YthlmlmkabjppeaaDoor
