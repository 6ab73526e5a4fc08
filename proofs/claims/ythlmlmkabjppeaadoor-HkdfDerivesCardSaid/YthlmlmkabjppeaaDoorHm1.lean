/- HkdfMacs: the walk. -/
import Derived.Test.YthlmlmkabjppeaaDoorAw03
import Derived.Test.YthlmlmkabjppeaaDoorSs3
namespace Go.Proofs.YthlmlmkabjppeaaDoor
open Go.RowKit
set_option linter.unusedVariables false
set_option linter.unusedSimpArgs false
theorem below_row {n g : Nat} {w W : World} (h : Below n w W) (hn : n ≤ g) (cs : Array Value) : Below n w (W.setRow g cs) :=
  h.trans ⟨rfl, rfl, rfl, by simp [World.setRow], fun i hi => setRow_other _ _ i _ (by omega)⟩
set_option maxRecDepth 100000 in
set_option maxHeartbeats 4000000 in
theorem extract_c (B C : Nat) (A D : Option Addr) (ca cb : Nat) (k m : List Nat) (w : World) (hk : Rd w B A (byt k)) (hm : Rd w C D (byt m)) (hB : B ≤ w.heap.size) (hC : C ≤ w.heap.size) (hkl : ∀ c ∈ k, c < 256) (hml : ∀ c ∈ m, c < 256) (hkn : k.length ≤ 8000) (hmn : m.length ≤ 8000) (hR : RoundsAt w) :
    Calls Tryd.prog 14 #[.slice A k.length ca, .slice D m.length cb] w fun e w' => e = .returned (.agg (vb (mac k m))) ∧ Below w.heap.size w w' := by
  have HMC := Lib.hid (mac_c B C A D ca cb k m (w.alloc (Obj.cells zSum 26)) (hk.below ((Below.refl _ _).alloc hB _)) (hm.below ((Below.refl _ _).alloc hC _)) (Nat.le_trans hB (by simp)) (Nat.le_trans hC (by simp)) hkl hml hkn hmn (hR.next ((Below.refl _ _).alloc (Nat.le_refl _) _)))
  have HSM := Lib.hid (show (Tryd.prog.info? 26).map (·.size) = some (vb (mac k m)).size by rw [vb_size, mac_len]; kernel_rfl)
  clear hk hm hkl hml hR
  have zf := zero_sum
  have zs1 : zSum.size = 32 := by rfl
  have zs2 : ¬ zSum = #[] := by intro h; have := congrArg Array.size h; rw [zs1] at this; cases this
  go_enter Tryd.func14, Tryd.ntmps14
  go_wp2_with (first
    | (go_at_call 13; (refine HMC.out.mono ?_); rintro e w1 ⟨rfl, hb⟩; have HB1 := Lib.hid hb; have HZ1 := Lib.hid (show Blk w1 w.heap.size 26 zSum from (Blk.new w _ _).below hb (by simp)); clear hb)
    | (refine wpList_store_rowTo rfl 26 (.tmp 4) (.tmp 7) rfl rfl w.heap.size (vb (mac k m)) rfl rfl 26 zSum HZ1.out HSM.out (by rw [vb_size, mac_len]; rfl) (vb_one _) ?_))
  first
    | rw [Exit.noGoto_ret]
    | skip
  refine bodyPost_ret (results_cell_row rfl _ _ w.heap.size 26 (vb (mac k m)) (0, 0) _ rfl (setRow_heap _ _ zSum _ 26 (0, 0) HZ1.out) Tryd.underlying26 rfl HSM.out) rfl ?_
  exact ⟨rfl, (((Below.refl _ _).alloc (Nat.le_refl _) _).trans (HB1.out.mono (by simp))).trans ⟨rfl, rfl, rfl, by simp [World.setRow], fun i hi => setRow_other _ _ i _ (by omega)⟩⟩
set_option maxRecDepth 100000 in
set_option maxHeartbeats 8000000 in
theorem hkdfMacs_w (A D : Option Addr) (ca cb : Nat) (k m : List Nat) (w : World) (hkl : ∀ c ∈ k, c < 256) (hml : ∀ c ∈ m, c < 256) (hk : Rd w w.heap.size A (byt k)) (hm : Rd w w.heap.size D (byt m)) (hR : RoundsAt w) :
    Calls Tryd.prog 3 #[.slice A k.length ca, .slice D m.length cb] w fun e w' => e = .returned (.bool true) ∧ Below w.heap.size w w' := by
  have HRO := Lib.hid hR
  clear hR
  by_cases h1 : k.length ≤ 200
  · by_cases h2 : m.length ≤ 200
    · have HK := Lib.hid hk
      have HM := Lib.hid hm
      have HKL := Lib.hid hkl
      have HML := Lib.hid hml
      clear hk hm hkl hml
      have q1 : ¬ (200 : Int) < (k.length : Int) := by omega
      have q2 : ¬ (200 : Int) < (m.length : Int) := by omega
      obtain ⟨M, hM⟩ : ∃ M, M = mac k m := ⟨_, rfl⟩
      have HML32 := Lib.hid (show M.length = 32 by rw [hM, mac_len])
      have HMB := Lib.hid (show ∀ c ∈ M, c < 256 by rw [hM]; exact mac_lt _ _)
      have hmacc := fun B C A D ca cb w hk hm hB hC hR => mac_c B C A D ca cb k m w hk hm hB hC HKL.out HML.out (by omega) (by omega) hR
      have hextr := fun B C A D ca cb w hk hm hB hC hR => extract_c B C A D ca cb k m w hk hm hB hC HKL.out HML.out (by omega) (by omega) hR
      have hrmac := fun B C A D ca cb w hk hm hB hC => rmac_c B C A D ca cb k m w hk hm hB hC HKL.out HML.out (by omega) (by omega)
      rw [← hM] at hmacc hextr hrmac
      have HMC := Lib.hid hmacc
      have HEX := Lib.hid hextr
      have HRM := Lib.hid hrmac
      clear hmacc hextr hrmac hM
      have HIS := Lib.hid (show (Tryd.prog.info? 26).map (·.size) = some (vb M).size by rw [vb_size, HML32.out]; kernel_rfl)
      have HIL := Lib.hid (show (Tryd.prog.info? 26).map (·.size) = some (vb M).toList.length by rw [Array.length_toList, vb_size, HML32.out]; kernel_rfl)
      have zf := zero_sum
      have zs1 : zSum.size = 32 := by rfl
      have zs2 : ¬ zSum = #[] := by intro h; have := congrArg Array.size h; rw [zs1] at this; cases this
      go_enter Tryd.func3, Tryd.ntmps3
      go_upto_region 4 with (first
        | (go_at_call 12; ((with_reducible refine (lent_c A ca k w HKL.out HK.out (by omega)).mono ?_); rintro e w1 ⟨rfl, hg1, hb1⟩; have HG1 := Lib.hid hg1; have HB1 := Lib.hid hb1; clear hg1 hb1))
        | (go_at_call 12; ((with_reducible refine (lent_c D cb m w1 HML.out (HM.out.ext HB1.out |>.more HB1.out.size) (by omega)).mono ?_); rintro e w2 ⟨rfl, hg2, hb2⟩; have HG2 := Lib.hid hg2; have HG12 := Lib.hid (show LentAt w2 w.heap.size k from HG1.out.below hb2 HG1.out.lt); have HB2 := Lib.hid (HB1.out.trans (hb2.mono HB1.out.size)); clear hg2 hb2)))
      have hle1 := HB1.out.size
      generalize w1.heap.size = g2 at *
      generalize hg1 : w.heap.size = g1 at *
      have HLT2 := Lib.hid HG2.out.lt
      have HLT1 := Lib.hid HG12.out.lt
      have HRD1 := Lib.hid (show ∀ W, Below w2.heap.size w2 W → LentAt W g1 k ∧ LentAt W g2 m from fun W hW => ⟨HG12.out.below hW HG12.out.lt, HG2.out.below hW HG2.out.lt⟩)
      go_upto_region 5 with (first
        | (go_at_call 13; (refine (HMC.out (g1 + 1) (g2 + 1) (some ⟨g1, 0, none⟩) (some ⟨g2, 0, none⟩) (k.length + 8) (m.length + 8) w2 HG12.out.rd HG2.out.rd HLT1.out HLT2.out (HRO.out.next (by rw [hg1]; exact HB2.out))).mono ?_); rintro e w3 ⟨rfl, hb⟩; have HB3 := Lib.hid hb; clear hb)
        | (go_at_call 14; (refine (HEX.out (g1 + 1) (g2 + 1) (some ⟨g1, 0, none⟩) (some ⟨g2, 0, none⟩) (k.length + 8) (m.length + 8) w3 (HRD1.out w3 HB3.out).1.rd (HRD1.out w3 HB3.out).2.rd (Nat.lt_of_lt_of_le HLT1.out HB3.out.size) (Nat.lt_of_lt_of_le HLT2.out HB3.out.size) (HRO.out.next (by rw [hg1]; exact HB2.out.trans (HB3.out.mono (Nat.le_of_lt HLT1.out))))).mono ?_); rintro e w4 ⟨rfl, hb⟩; have HB4 := Lib.hid (HB3.out.trans (hb.mono HB3.out.size)); clear hb)
        | (refine wpList_store_rowTo rfl 26 (.tmp 7) (.tmp 24) rfl rfl w4.heap.size (vb M) rfl rfl 26 zSum (by exact (Blk.new w4 _ _).alloc _) HIS.out (by rw [vb_size, HML32.out]; rfl) (vb_one _) ?_)
        | (refine wpList_store_rowTo rfl 26 (.tmp 8) (.tmp 27) rfl rfl (w4.heap.size + 1) (vb M) rfl rfl 26 zSum (by
            have h1 := Blk.new (w4.alloc (Obj.cells zSum 26)) 26 zSum
            rw [show (w4.alloc (Obj.cells zSum 26)).heap.size = w4.heap.size + 1 by simp] at h1
            exact (setRow_other _ _ (w4.heap.size + 1) _ (by omega)).trans h1) HIS.out (by rw [vb_size, HML32.out]; rfl) (vb_one _) ?_))
      obtain ⟨Y, hY⟩ : ∃ Y, Y = (((w4.alloc (Obj.cells zSum 26)).alloc (Obj.cells zSum 26)).setRow w4.heap.size (vb M)).setRow (w4.heap.size + 1) (vb M) := ⟨_, rfl⟩
      have h7 : Blk Y w4.heap.size 26 (vb M) := by
        rw [hY]
        exact (setRow_other _ _ w4.heap.size _ (by omega)).trans (setRow_heap _ _ _ _ _ (0, 0) ((Blk.new w4 _ _).alloc _))
      have h8 : Blk Y (w4.heap.size + 1) 26 (vb M) := by
        have h1 := Blk.new (w4.alloc (Obj.cells zSum 26)) 26 zSum
        rw [show (w4.alloc (Obj.cells zSum 26)).heap.size = w4.heap.size + 1 by simp] at h1
        rw [hY]
        exact setRow_heap _ _ _ _ _ (0, 0) ((setRow_other _ _ (w4.heap.size + 1) _ (by omega)).trans h1)
      have hwy : Below w2.heap.size w2 Y := by
        have h0 := HB4.out.size
        rw [hY]
        exact below_row (below_row ((HB4.out.alloc h0 _).alloc (by simp; omega) _) h0 _) (by omega) _
      rw [← hY]
      have hby : Below g1 w Y := HB2.out.trans (hwy.mono (Nat.le_of_lt HLT1.out))
      have HBY := Lib.hid hby
      have H7 := Lib.hid h7
      have H8 := Lib.hid h8
      have HY1 := Lib.hid (HRD1.out Y hwy).1
      have HY2 := Lib.hid (HRD1.out Y hwy).2
      have HRK := Lib.hid (show Rd Y g1 A (byt k) from HK.out.below hby)
      have HRM2 := Lib.hid (show Rd Y g1 D (byt m) from HM.out.below hby)
      have HROY := Lib.hid (show RoundsAt Y from HRO.out.next (by rw [hg1]; exact hby))
      have hle : g1 ≤ Y.heap.size := by rw [← hg1]; exact hby.size
      generalize w4.heap.size = g7 at *
      clear hY h7 h8 hwy hby HB2 HB3 HB4 HG1 HG12 HG2 HB1 HMC HEX zf zs1 zs2 hle1 HRD1 HRO HK HM
      have HEQ := fun w => eq_sum M M HML32.out HML32.out HMB.out HMB.out w
      rw [beq_self_eq_true] at HEQ
      have HSA := Lib.hid (show ∀ (x : Ext Y) (u : Value), OwnB x.wd Y.heap.size u M → Calls Tryd.prog 15 #[.slice (some ⟨g7, 0, none⟩) 32 32, u] x.wd fun e w' => e = .returned (.bool true) ∧ Below x.wd.heap.size x.wd w' from fun x u hu => by
        obtain ⟨A9, c9, rfl, _, _, r9⟩ := hu.rd
        have h1 := same_c (g7 + 1) x.wd.heap.size (some ⟨g7, 0, none⟩) A9 32 c9 M M x.wd HMB.out HMB.out (rd_blk (H7.out.below x.bel H7.out.lt) _ 32 (by show byt _ = ((byt M).toArray.toList).take 32; rw [List.toList_toArray, List.take_of_length_le (by rw [byt_len, HML32.out]; decide)])) r9 (by rw [HML32.out]; decide) (by rw [HML32.out]; decide)
        rw [beq_self_eq_true] at h1
        rw [HML32.out] at h1 ⊢
        refine h1.mono ?_
        rintro e w' ⟨rfl, n, rfl⟩
        exact ⟨rfl, belowDrewN n (Below.refl _ _)⟩)
      refine wp_region_loud Y [31] (fun _ u w' => OwnB w' Y.heap.size u M) (by kernel_rfl) (by kernel_rfl) (by kernel_rfl) (by kernel_rfl) (fun _ _ _ _ h hb => OwnB.next h hb) (Below.refl _ _).drew ?_
      repeat (first
        | (refine wpLoud_loadB rfl rfl 26 (.tmp 7) rfl g7 0 rfl (vb M) _ (fun z => rangeAt_blk (H7.out.below z.bel H7.out.lt)) Tryd.underlying26 rfl HIL.out _ (by simp only [Act.put, List.setIfInBounds_toArray, List.set_cons_succ, List.set_cons_zero]; rfl) ?_)
        | (refine wpLoud_loadB rfl rfl 26 (.tmp 8) rfl (g7 + 1) 0 rfl (vb M) _ (fun z => rangeAt_blk (H8.out.below z.bel H8.out.lt)) Tryd.underlying26 rfl HIL.out _ (by simp only [Act.put, List.setIfInBounds_toArray, List.set_cons_succ, List.set_cons_zero]; rfl) ?_)
        | (refine wpLoud_call 31 rfl [] tok 16 (fun g => #[.slice A k.length ca, .slice D m.length cb]) rfl (fun _ _ h => by cases h) rfl (fun g w => by kernel_rfl) (fun g z hg => by
            refine (HRM.out g1 g1 A D ca cb z.wd (HRK.out.ext z.bel) (HRM2.out.ext z.bel) (Nat.le_trans hle z.bel.size) (Nat.le_trans hle z.bel.size)).mono ?_
            rintro e w' ⟨u, rfl, ho, hb⟩
            exact ⟨u, rfl, hb, own_base_le ho z.bel.size⟩) _ (by simp only [Act.put, List.setIfInBounds_toArray, List.set_cons_succ, List.set_cons_zero]; rfl) ?_)
        | (refine wpLoud_call 32 rfl [31] (.bool true) 15 (fun g => #[.slice (some ⟨g7, 0, none⟩) 32 32, g 31]) rfl (fun _ _ h => by cases h) rfl (fun g w => by kernel_rfl) (fun g z hg => by
            refine (HSA.out z (g 31) (hg 31 (by simp))).mono ?_
            rintro e w' ⟨rfl, hb⟩
            exact ⟨_, rfl, hb, rfl⟩) _ (by simp only [Act.put, List.setIfInBounds_toArray, List.set_cons_succ, List.set_cons_zero]; rfl) ?_)
        | (refine wpLoud_call 41 rfl [] (.bool true) 17 (fun g => #[.slice (some ⟨g1, 0, none⟩) k.length (k.length + 8), .slice A k.length ca]) rfl (fun _ _ h => by cases h) rfl (fun g w => by kernel_rfl) (fun g z hg => by
            refine (kept_c g1 g1 A ca k z.wd HKL.out (HY1.out.below z.bel HY1.out.lt) (HRK.out.ext z.bel) (by omega)).mono ?_
            rintro e w' ⟨rfl, n, rfl⟩
            exact ⟨_, rfl, belowDrewN n (Below.refl _ _), rfl⟩) _ (by simp only [Act.put, List.setIfInBounds_toArray, List.set_cons_succ, List.set_cons_zero]; rfl) ?_)
        | (refine wpLoud_call 46 rfl [] (.bool true) 17 (fun g => #[.slice (some ⟨g2, 0, none⟩) m.length (m.length + 8), .slice D m.length cb]) rfl (fun _ _ h => by cases h) rfl (fun g w => by kernel_rfl) (fun g z hg => by
            refine (kept_c g2 g1 D cb m z.wd HML.out (HY2.out.below z.bel HY2.out.lt) (HRM2.out.ext z.bel) (by omega)).mono ?_
            rintro e w' ⟨rfl, n, rfl⟩
            exact ⟨_, rfl, belowDrewN n (Below.refl _ _), rfl⟩) _ (by simp only [Act.put, List.setIfInBounds_toArray, List.set_cons_succ, List.set_cons_zero]; rfl) ?_)
        | (refine wpLoud_call 49 rfl [] (.bool true) 11 (fun g => #[]) rfl (fun _ _ h => by cases h) rfl (fun g w => by kernel_rfl) (fun g z hg => by
            refine (awake03_c z.wd (HROY.out.next z.bel)).mono ?_
            rintro e w' ⟨rfl, hb⟩
            exact ⟨_, rfl, hb, rfl⟩) _ (by simp only [Act.put, List.setIfInBounds_toArray, List.set_cons_succ, List.set_cons_zero]; rfl) ?_)
        | (refine wpLoud_plain rfl rfl rfl ?_; intro K hK; go_big_quiet_op; go_big_quiet_on))
      refine wpLoud_end [] (by rfl) ?_
      intro g z hg
      have HBZ := Lib.hid (HBY.out.trans (z.bel.mono hle))
      generalize z.wd = Y2 at *
      simp only [fill, Act.put, List.setIfInBounds_toArray, List.set_cons_succ, List.set_cons_zero]
      go_wp2_with fail
      go_ret
      exact ⟨rfl, by rw [hg1]; exact HBZ.out⟩
    · have q1 : ¬ (200 : Int) < (k.length : Int) := by omega
      have q2 : (200 : Int) < (m.length : Int) := by omega
      go_enter Tryd.func3, Tryd.ntmps3
      go_wp2_with (go_at_call 11; (refine (awake03_c w HRO.out).mono ?_); rintro e w1 ⟨rfl, hb⟩; have HB1 := Lib.hid hb; clear hb)
      go_ret
      exact ⟨rfl, HB1.out⟩
  · have q1 : (200 : Int) < (k.length : Int) := by omega
    go_enter Tryd.func3, Tryd.ntmps3
    go_wp2_with (go_at_call 11; (refine (awake03_c w HRO.out).mono ?_); rintro e w1 ⟨rfl, hb⟩; have HB1 := Lib.hid hb; clear hb)
    go_ret
    exact ⟨rfl, HB1.out⟩
end Go.Proofs.YthlmlmkabjppeaaDoor
