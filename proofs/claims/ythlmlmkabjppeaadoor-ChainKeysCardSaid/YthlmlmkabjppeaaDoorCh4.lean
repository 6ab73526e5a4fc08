/- ChainGoes: the walk. -/
import Derived.Test.YthlmlmkabjppeaaDoorChM
namespace Go.Proofs.YthlmlmkabjppeaaDoor
open Go.RowKit
set_option linter.unusedVariables false
set_option linter.unusedSimpArgs false
theorem chLInfo (n : Nat) {k : List Nat} (hk : k.length = 32) : (Tryd.prog.info? 52).map (·.size) = some (chL n k).length := by
  rw [show (chL n k).length = (chV n k).size by simp [chV], chV_size n k hk]; kernel_rfl
set_option maxRecDepth 100000 in
set_option maxHeartbeats 8000000 in
theorem chainGoes_w (n : Nat) (k : List Nat) (i : Nat) (w : World) (hk : k.length = 32) (hkl : ∀ c ∈ k, c < 256) (hn : n < 2 ^ 64) (hi : i < 2 ^ 64) (hR : RoundsAt w) :
    Calls Tryd.prog 8 #[.agg (chV n k), .int .u64 (i : Nat)] w fun e w' => e = .returned (.bool true) ∧ Below w.heap.size w w' := by
  have zf := zero_chain
  have zs1 := chV_size 0 zL zL_len
  have zs2 : ¬ chV 0 zL = #[] := by intro h; have := congrArg Array.size h; rw [zs1] at this; cases this
  have csz := chV_size n k hk
  obtain ⟨Z, hZ⟩ : ∃ Z, Z = (w.alloc (Obj.cells (chV n k) 52)) := ⟨_, rfl⟩
  have B0 := Lib.hid (show Below w.heap.size w Z by rw [hZ]; exact (Below.refl _ _).alloc (Nat.le_refl _) _)
  have A0 := Lib.hid (show Blk Z w.heap.size 52 (chV n k) by rw [hZ]; exact Blk.new w _ _)
  have HRO := Lib.hid hR
  have HIM := Lib.hid (chLInfo n hk)
  have HIX := Lib.hid (chLInfo (toN n i) (toK_len hk n i))
  have HIZ := Lib.hid (chLInfo 0 zL_len)
  have HXL := Lib.hid (toK_len hk n i)
  have HT := Lib.hid (fun W (h : RoundsAt W) => to_c n k i W hk hkl hn hi h)
  have HRT := Lib.hid (fun W => rto_c n k i W hk hkl hn hi)
  have HE := fun w => run_equalIn_chain (toN n i) (toN n i) (toK n k i) (toK n k i) (toN_lt n i hi) (toN_lt n i hi) (toK_len hk n i) (toK_len hk n i) (toK_lt hkl n i) (toK_lt hkl n i) w
  simp only [and_self, decide_true] at HE
  have HAW := Lib.hid awake20_c
  have HBZ := Lib.hid built_zero
  have HE0 := fun w => run_equalIn_chain 0 0 zL zL (by decide) (by decide) zL_len zL_len zL_lt zL_lt w
  simp only [and_self, decide_true] at HE0
  generalize toN n i = X at *
  generalize toK n k i = KX at *
  generalize toE n i = E at *
  have HNH := Lib.hid (fun W => nextHi_c n k W hk hn)
  have HNL := Lib.hid (fun W (h : RoundsAt W) (hh : n < 4611686018427387904) => nextLo_c n k W hk hkl hh h)
  have HRN := Lib.hid (fun W (hh : n < 4611686018427387904) => rnext_c n k W hk hkl hh)
  have HKT := Lib.hid hkl
  clear hkl hR
  by_cases hh : 4611686018427387904 ≤ n
  · have d1 : decide ((4611686018427387904 : Int) ≤ (n : Int)) = true := decide_eq_true (by omega)
    have HNX := Lib.hid (fun W => HNH.out W hh)
    go_enter Tryd.func8, Tryd.ntmps8
    go_upto_region 1 with fail
    rw [← hZ]
    clear hZ
    go_upto_region 2 with (first
      | (refine wpList_loadC rfl (.tmp 2) rfl w.heap.size rfl n k A0.out HIM.out ?_)
      | (go_at_call 32; (refine (HNX.out _).mono ?_); rintro e w1 ⟨rfl, hb⟩; have A1p := Lib.hid (A0.out.below hb A0.out.lt); have B1p := Lib.hid (B0.out.trans (hb.mono B0.out.size)); clear hb)
      | (refine wpList_store_rowTo rfl 52 (.tmp 5) (.tmp 14) rfl rfl w1.heap.size (chV 0 zL) rfl rfl 52 (chV 0 zL) (by exact Blk.new _ _ _) (chInfo 0 zL_len) (by first | rfl | (rw [chV_size _ _ (zL_len)]; rfl)) (chV_one _ _) ?_; have hnc := new_chain w1 0 zL; obtain ⟨Y1, hY1⟩ : ∃ Y, Y = (w1.alloc (Obj.cells (chV 0 zL) 52)).setRow w1.heap.size (chV 0 zL) := ⟨_, rfl⟩; rw [← hY1] at hnc; rw [← hY1]; have C1 := Lib.hid hnc.1; have A1 := Lib.hid (A1p.out.below hnc.2 A1p.out.lt); have B1 := Lib.hid (B1p.out.trans (hnc.2.mono B1p.out.size)); clear hnc hY1))
    have HR1 := Lib.hid (HRO.out.next B1.out)
    go_upto_region 3 with (first
      | (refine wpList_loadC rfl (.tmp 2) rfl w.heap.size rfl n k A1.out HIM.out ?_)
      | (go_at_call 33; (refine (HT.out _ HR1.out).mono ?_); rintro e w2 ⟨rfl, hb⟩; have A2p := Lib.hid (A1.out.below hb A1.out.lt); have C2p := Lib.hid (C1.out.below hb C1.out.lt); have B2p := Lib.hid (B1.out.trans (hb.mono B1.out.size)); clear hb)
      | (refine wpList_store_rowTo rfl 52 (.tmp 7) (.tmp 20) rfl rfl w2.heap.size (chV X KX) rfl rfl 52 (chV 0 zL) (by exact Blk.new _ _ _) (chInfo X HXL.out) (by first | rfl | (rw [chV_size _ _ (HXL.out)]; rfl)) (chV_one _ _) ?_; have hnc := new_chain w2 X KX; obtain ⟨Y2, hY2⟩ : ∃ Y, Y = (w2.alloc (Obj.cells (chV 0 zL) 52)).setRow w2.heap.size (chV X KX) := ⟨_, rfl⟩; rw [← hY2] at hnc; rw [← hY2]; have D2 := Lib.hid hnc.1; have A2 := Lib.hid (A2p.out.below hnc.2 A2p.out.lt); have C2 := Lib.hid (C2p.out.below hnc.2 C2p.out.lt); have B2 := Lib.hid (B2p.out.trans (hnc.2.mono B2p.out.size)); clear hnc hY2))
    go_upto_region 4 with (first
      | (refine wpList_loadC rfl (.tmp 2) rfl w.heap.size rfl n k A2.out HIM.out ?_)
      | (go_at_call 34; (refine (HRT.out _).mono ?_); rintro e w3 ⟨rfl, hb⟩; have A3p := Lib.hid (A2.out.below hb A2.out.lt); have C3p := Lib.hid (C2.out.below hb C2.out.lt); have D3p := Lib.hid (D2.out.below hb D2.out.lt); have B3p := Lib.hid (B2.out.trans (hb.mono B2.out.size)); clear hb)
      | (refine wpList_store_rowTo rfl 52 (.tmp 9) (.tmp 26) rfl rfl w3.heap.size (chV X KX) rfl rfl 52 (chV 0 zL) (by exact Blk.new _ _ _) (chInfo X HXL.out) (by first | rfl | (rw [chV_size _ _ (HXL.out)]; rfl)) (chV_one _ _) ?_; have hnc := new_chain w3 X KX; obtain ⟨Y3, hY3⟩ : ∃ Y, Y = (w3.alloc (Obj.cells (chV 0 zL) 52)).setRow w3.heap.size (chV X KX) := ⟨_, rfl⟩; rw [← hY3] at hnc; rw [← hY3]; have E3 := Lib.hid hnc.1; have A3 := Lib.hid (A3p.out.below hnc.2 A3p.out.lt); have C3 := Lib.hid (C3p.out.below hnc.2 C3p.out.lt); have D3 := Lib.hid (D3p.out.below hnc.2 D3p.out.lt); have B3 := Lib.hid (B3p.out.trans (hnc.2.mono B3p.out.size)); clear hnc hY3))
    have c0 := chC0 A3.out
    have HR3 := Lib.hid (HRO.out.next B3.out)
    go_wp2_with (first
      | (refine wpList_loadC rfl (.tmp 7) rfl w2.heap.size rfl X KX D3.out HIX.out ?_)
      | (refine wpList_loadC rfl (.tmp 9) rfl w3.heap.size rfl X KX E3.out HIX.out ?_)
      | (refine wpList_loadC rfl (.tmp 5) rfl w1.heap.size rfl 0 zL C3.out HIZ.out ?_)
      | (refine wpList_valG (by kernel_rfl) (.agg (chV 0 zL)) (run_built _ 52 [] _ HBZ.out #[] rfl rfl) ?_)
      | (go_at_call 35; (refine (HAW.out _ HR3.out).mono ?_); rintro e w4 ⟨rfl, hb⟩; have B4 := Lib.hid (B3.out.trans (hb.mono B3.out.size)); clear hb))
    go_ret
    exact ⟨rfl, B4.out⟩
  · have hlo : n < 4611686018427387904 := by omega
    have d1 : decide ((4611686018427387904 : Int) ≤ (n : Int)) = false := decide_eq_false (by omega)
    have HNX := Lib.hid (fun W (h : RoundsAt W) => HNL.out W h hlo)
    have HRX := Lib.hid (fun W => HRN.out W hlo)
    have HDL := Lib.hid (drv_len k nextT n)
    have HDT := Lib.hid (drv_lt k nextT n)
    have HE2 := fun w => run_equalIn_chain (n + 1) (n + 1) (drv k nextT n) (drv k nextT n) (by omega) (by omega) HDL.out HDL.out HDT.out HDT.out w
    simp only [and_self, decide_true] at HE2
    generalize drv k nextT n = DV at *
    obtain ⟨M, hM⟩ : ∃ M, M = n + 1 := ⟨_, rfl⟩
    rw [← hM] at HNX HRX HE2
    clear hM HNH HNL HRN
    have HR0 := Lib.hid (HRO.out.next B0.out)
    go_enter Tryd.func8, Tryd.ntmps8
    go_upto_region 1 with fail
    rw [← hZ]
    clear hZ
    go_upto_region 2 with (first
      | (refine wpList_loadC rfl (.tmp 2) rfl w.heap.size rfl n k A0.out HIM.out ?_)
      | (go_at_call 32; (refine (HNX.out _ HR0.out).mono ?_); rintro e w1 ⟨rfl, hb⟩; have A1p := Lib.hid (A0.out.below hb A0.out.lt); have B1p := Lib.hid (B0.out.trans (hb.mono B0.out.size)); clear hb)
      | (refine wpList_store_rowTo rfl 52 (.tmp 5) (.tmp 14) rfl rfl w1.heap.size (chV M DV) rfl rfl 52 (chV 0 zL) (by exact Blk.new _ _ _) (chInfo M HDL.out) (by first | rfl | (rw [chV_size _ _ (HDL.out)]; rfl)) (chV_one _ _) ?_; have hnc := new_chain w1 M DV; obtain ⟨Y1, hY1⟩ : ∃ Y, Y = (w1.alloc (Obj.cells (chV 0 zL) 52)).setRow w1.heap.size (chV M DV) := ⟨_, rfl⟩; rw [← hY1] at hnc; rw [← hY1]; have C1 := Lib.hid hnc.1; have A1 := Lib.hid (A1p.out.below hnc.2 A1p.out.lt); have B1 := Lib.hid (B1p.out.trans (hnc.2.mono B1p.out.size)); clear hnc hY1))
    have HR1 := Lib.hid (HRO.out.next B1.out)
    go_upto_region 3 with (first
      | (refine wpList_loadC rfl (.tmp 2) rfl w.heap.size rfl n k A1.out HIM.out ?_)
      | (go_at_call 33; (refine (HT.out _ HR1.out).mono ?_); rintro e w2 ⟨rfl, hb⟩; have A2p := Lib.hid (A1.out.below hb A1.out.lt); have C2p := Lib.hid (C1.out.below hb C1.out.lt); have B2p := Lib.hid (B1.out.trans (hb.mono B1.out.size)); clear hb)
      | (refine wpList_store_rowTo rfl 52 (.tmp 7) (.tmp 20) rfl rfl w2.heap.size (chV X KX) rfl rfl 52 (chV 0 zL) (by exact Blk.new _ _ _) (chInfo X HXL.out) (by first | rfl | (rw [chV_size _ _ (HXL.out)]; rfl)) (chV_one _ _) ?_; have hnc := new_chain w2 X KX; obtain ⟨Y2, hY2⟩ : ∃ Y, Y = (w2.alloc (Obj.cells (chV 0 zL) 52)).setRow w2.heap.size (chV X KX) := ⟨_, rfl⟩; rw [← hY2] at hnc; rw [← hY2]; have D2 := Lib.hid hnc.1; have A2 := Lib.hid (A2p.out.below hnc.2 A2p.out.lt); have C2 := Lib.hid (C2p.out.below hnc.2 C2p.out.lt); have B2 := Lib.hid (B2p.out.trans (hnc.2.mono B2p.out.size)); clear hnc hY2))
    go_upto_region 4 with (first
      | (refine wpList_loadC rfl (.tmp 2) rfl w.heap.size rfl n k A2.out HIM.out ?_)
      | (go_at_call 34; (refine (HRT.out _).mono ?_); rintro e w3 ⟨rfl, hb⟩; have A3p := Lib.hid (A2.out.below hb A2.out.lt); have C3p := Lib.hid (C2.out.below hb C2.out.lt); have D3p := Lib.hid (D2.out.below hb D2.out.lt); have B3p := Lib.hid (B2.out.trans (hb.mono B2.out.size)); clear hb)
      | (refine wpList_store_rowTo rfl 52 (.tmp 9) (.tmp 26) rfl rfl w3.heap.size (chV X KX) rfl rfl 52 (chV 0 zL) (by exact Blk.new _ _ _) (chInfo X HXL.out) (by first | rfl | (rw [chV_size _ _ (HXL.out)]; rfl)) (chV_one _ _) ?_; have hnc := new_chain w3 X KX; obtain ⟨Y3, hY3⟩ : ∃ Y, Y = (w3.alloc (Obj.cells (chV 0 zL) 52)).setRow w3.heap.size (chV X KX) := ⟨_, rfl⟩; rw [← hY3] at hnc; rw [← hY3]; have E3 := Lib.hid hnc.1; have A3 := Lib.hid (A3p.out.below hnc.2 A3p.out.lt); have C3 := Lib.hid (C3p.out.below hnc.2 C3p.out.lt); have D3 := Lib.hid (D3p.out.below hnc.2 D3p.out.lt); have B3 := Lib.hid (B3p.out.trans (hnc.2.mono B3p.out.size)); clear hnc hY3))
    have c0 := chC0 A3.out
    have HR3 := Lib.hid (HRO.out.next B3.out)
    go_upto_region 8 with (first
      | (refine wpList_loadC rfl (.tmp 7) rfl w2.heap.size rfl X KX D3.out HIX.out ?_)
      | (refine wpList_loadC rfl (.tmp 9) rfl w3.heap.size rfl X KX E3.out HIX.out ?_))
    have HS3 : (chV M DV).toList = chL M DV := rfl
    have HIV := Lib.hid (show (Tryd.prog.info? 52).map (·.size) = some (chV M DV).toList.length by rw [HS3]; exact chLInfo M HDL.out)
    have HIW := Lib.hid (show (Tryd.prog.info? 52).map (·.size) = some (chV n k).toList.length by exact HIM.out)
    refine wp_region_loud Y3 [] (fun _ _ _ => True) (by kernel_rfl) (by kernel_rfl) (by kernel_rfl) (by kernel_rfl) (fun _ _ _ _ h hb => True.intro) (Below.refl _ _).drew ?_
    repeat (first
      | (refine wpLoud_loadB rfl rfl 52 (.tmp 5) rfl w1.heap.size 0 rfl (chV M DV) _ (fun z => by exact chR0 (C3.out.below z.bel C3.out.lt)) Tryd.underlying52 rfl HIV.out _ (by simp only [Act.put, List.setIfInBounds_toArray, List.set_cons_succ, List.set_cons_zero]; rfl) ?_)
      | (refine wpLoud_loadB rfl rfl 52 (.tmp 2) rfl w.heap.size 0 rfl (chV n k) _ (fun z => by exact chR0 (A3.out.below z.bel A3.out.lt)) Tryd.underlying52 rfl HIW.out _ (by simp only [Act.put, List.setIfInBounds_toArray, List.set_cons_succ, List.set_cons_zero]; rfl) ?_)
      | (refine wpLoud_call 51 rfl [] (.agg (chV M DV)) 36 (fun g => #[.agg (chV n k)]) rfl (fun _ _ h => by cases h) rfl (fun g w => by kernel_rfl) (fun g z hg => by
          refine (HRX.out z.wd).mono ?_
          rintro e w' ⟨rfl, hb⟩
          exact ⟨_, rfl, hb, rfl⟩) _ (by simp only [Act.put, List.setIfInBounds_toArray, List.set_cons_succ, List.set_cons_zero]; rfl) ?_)
      | (refine wpLoud_call 58 rfl [] (.bool true) 35 (fun g => #[]) rfl (fun _ _ h => by cases h) rfl (fun g w => by kernel_rfl) (fun g z hg => by
          refine (HAW.out z.wd (HR3.out.next z.bel)).mono ?_
          rintro e w' ⟨rfl, hb⟩
          exact ⟨_, rfl, hb, rfl⟩) _ (by simp only [Act.put, List.setIfInBounds_toArray, List.set_cons_succ, List.set_cons_zero]; rfl) ?_)
      | (refine wpLoud_plain rfl rfl rfl ?_; intro K hK; go_big_quiet_op; go_big_quiet_on))
    refine wpLoud_end [] (by rfl) ?_
    intro g z hg
    have HBF := Lib.hid (B3.out.trans (z.bel.mono B3.out.size))
    generalize z.wd = Y9 at *
    simp only [fill, Act.put, List.setIfInBounds_toArray, List.set_cons_succ, List.set_cons_zero]
    go_wp2_with fail
    go_ret
    exact ⟨rfl, HBF.out⟩
end Go.Proofs.YthlmlmkabjppeaaDoor
