/- Codes: the contract of Mac. -/
import Derived.Test.YthlmlmkabjppeaaDoorMac1
namespace Go.Proofs.YthlmlmkabjppeaaDoor
open Go.RowKit
set_option linter.unusedVariables false
set_option linter.unusedSimpArgs false
set_option maxRecDepth 100000 in
set_option maxHeartbeats 8000000 in
theorem macL_c (B C : Nat) (A D : Option Addr) (ca cb : Nat) (k m : List Nat) (w : World) (hk : Rd w B A (byt k)) (hm : Rd w C D (byt m)) (hB : B ≤ w.heap.size) (hC : C ≤ w.heap.size) (hkl : ∀ c ∈ k, c < 256) (hml : ∀ c ∈ m, c < 256) (hkn : k.length ≤ 8000) (hmn : m.length ≤ 8000) (hR : RoundsAt w) (hlong : 64 < k.length) :
    Calls Tryd.prog 13 #[.slice A k.length ca, .slice D m.length cb] w fun e w' => e = .returned (.agg (vb (mac k m))) ∧ Below w.heap.size w w' := by
  have HK := Lib.hid hk
  have HM := Lib.hid hm
  have HKL := Lib.hid hkl
  have HML := Lib.hid hml
  have HRO := Lib.hid hR
  have HMN := Lib.hid hmn
  clear hk hm hkl hml hR hmn
  have zf := zero_sum
  have zs1 : zSum.size = 32 := by rfl
  have zs2 : ¬ zSum = #[] := by intro h; have := congrArg Array.size h; rw [zs1] at this; cases this
  have zf6 := zero_k64
  have zs3 : zk64.size = 64 := by rfl
  have zs4 : ¬ zk64 = #[] := by intro h; have := congrArg Array.size h; rw [zs3] at this; cases this
  obtain ⟨Z, hZ⟩ : ∃ Z, Z = ((w.alloc (Obj.cells zSum 26)).alloc (Obj.cells zk64 67)).alloc (Obj.cells zk64 67) := ⟨_, rfl⟩
  have HZ := Lib.hid (show Below w.heap.size w Z by rw [hZ]; exact (((Below.refl _ _).alloc (Nat.le_refl _) _).alloc (by simp) _).alloc (by simp; omega) _)
  have H4Z := Lib.hid (show Blk Z w.heap.size 26 zSum by rw [hZ]; exact ((Blk.new w _ _).alloc _).alloc _)
  have H5Z := Lib.hid (show Blk Z (w.heap.size + 1) 67 zk64 by
    have h1 := Blk.new (w.alloc (Obj.cells zSum 26)) 67 zk64
    rw [show (w.alloc (Obj.cells zSum 26)).heap.size = w.heap.size + 1 by simp] at h1
    rw [hZ]; exact h1.alloc _)
  have H6Z := Lib.hid (show Blk Z (w.heap.size + 1 + 1) 67 zk64 by
    have h1 := Blk.new ((w.alloc (Obj.cells zSum 26)).alloc (Obj.cells zk64 67)) 67 zk64
    rw [show ((w.alloc (Obj.cells zSum 26)).alloc (Obj.cells zk64 67)).heap.size = w.heap.size + 1 + 1 by simp] at h1
    rw [hZ]; exact h1)
  have HIK := Lib.hid (show (Tryd.prog.info? 26).map (·.size) = some (vb (sha k)).size by rw [vb_size, sha_len]; kernel_rfl)
  have HSZ := Lib.hid (show Z.heap.size = w.heap.size + 1 + 1 + 1 by rw [hZ]; simp)
  have q1 : (64 : Int) < (k.length : Int) := by omega
  go_enter Tryd.func13, Tryd.ntmps13
  go_wp2_with fail
  rw [← hZ]
  have hof := (show ArrAt (Z.alloc (Obj.cells #[Value.slice A k.length ca] 22)) (.slice (some ⟨w.heap.size + 1 + 1 + 1, 0, none⟩) 1 1) 0 [(A, ca, k)] from ⟨_, rfl, Nat.zero_le _, by have := Blk.new Z 22 #[Value.slice A k.length ca]; rw [HSZ.out] at this; exact this⟩).of k (by show k ++ [] = k; rw [List.append_nil]) HKL.out (fun p hp => by
        rw [List.mem_singleton.1 hp]
        exact (HK.out.below ((HZ.out.mono hB).alloc (Nat.le_trans hB HZ.out.size) _)).more (Nat.le_trans hB (Nat.le_trans HZ.out.size (by simp)))) (by omega) (by simp) (HRO.out.next (HZ.out.alloc HZ.out.size _))
  have HOF := Lib.hid hof
  clear hof hZ
  go_upto_region 5 with (first
    | (go_at_call 21; (refine HOF.out.mono ?_); rintro e w1 ⟨rfl, hb⟩; have HB1 := Lib.hid hb; clear hb)
    | (refine wpList_store_rowTo rfl 26 (.tmp 7) (.tmp 15) rfl rfl w1.heap.size (vb (sha k)) rfl rfl 26 zSum (by exact Blk.new _ _ _) HIK.out (by rw [vb_size, sha_len]; rfl) (vb_one _) ?_; obtain ⟨X, hX⟩ : ∃ X, X = (w1.alloc (Obj.cells zSum 26)).setRow w1.heap.size (vb (sha k)) := ⟨_, rfl⟩; have hbx : Blk X w1.heap.size 26 (vb (sha k)) := (by rw [hX]; exact setRow_heap _ _ _ _ _ (0, 0) (Blk.new w1 _ _)); have hzx : Below Z.heap.size Z X := (by rw [hX]; exact ((((Below.refl _ _).alloc (Nat.le_refl _) _).trans (HB1.out.mono (by simp))).alloc (Nat.le_trans (by simp) HB1.out.size) _).trans ⟨rfl, rfl, rfl, by simp [World.setRow], fun i hi => setRow_other _ _ i _ (by have := HB1.out.size; simp at this; omega)⟩); rw [← hX]; clear hX))
  obtain ⟨kb, hkb⟩ : ∃ kb, kb = sha k := ⟨_, rfl⟩
  have hkb2 : keyB k = kb := by unfold keyB; rw [if_pos hlong, hkb]
  have HMAC := Lib.hid (show mac k m = sha (xr 92 (fill64 kb) ++ sha (xr 54 (fill64 kb) ++ m)) by unfold mac; rw [hkb2])
  have HX := Lib.hid (HZ.out.trans (hzx.mono HZ.out.size))
  have H4 := Lib.hid (H4Z.out.below hzx H4Z.out.lt)
  have H5 := Lib.hid (H5Z.out.below hzx H5Z.out.lt)
  have H6 := Lib.hid (H6Z.out.below hzx H6Z.out.lt)
  have hkl32 : kb.length = 32 := by rw [hkb, sha_len]
  obtain ⟨BK, hBK⟩ : ∃ BK, BK = w1.heap.size + 1 := ⟨_, rfl⟩
  have HKR := Lib.hid (show Rd X BK (some ⟨w1.heap.size, 0, none⟩) (byt kb) by rw [hkb, hBK]; exact rd_blk hbx _ 32 (by show byt _ = ((byt (sha k)).toArray.toList).take 32; rw [List.toList_toArray, List.take_of_length_le (by rw [byt_len, sha_len]; decide)]))
  have HK64 := Lib.hid (show kb.length ≤ 64 by omega)
  have HKB := Lib.hid (show ∀ c ∈ kb, c < 256 by rw [hkb]; exact sha_lt k)
  clear zf6 zs3 zs4 H4Z H5Z H6Z HOF HIK HSZ hzx hbx hkb hkb2 HZ HB1 q1
  rw [← hkl32]
  clear hkl32
  generalize w1.heap.size = g7 at *
  have hle : w.heap.size ≤ X.heap.size := HX.out.size
  obtain ⟨g4, hg4⟩ : ∃ g4, g4 = w.heap.size := ⟨_, rfl⟩
  obtain ⟨g5, hg5⟩ : ∃ g5, g5 = w.heap.size + 1 := ⟨_, rfl⟩
  obtain ⟨g6, hg6⟩ : ∃ g6, g6 = w.heap.size + 1 + 1 := ⟨_, rfl⟩
  rw [← hg5] at H5
  rw [← hg6] at H6
  rw [← hg4] at H4
  rw [← hg6, ← hg5]
  have n45 : g4 ≠ g5 := by omega
  have n46 : g4 ≠ g6 := by omega
  have n56 : g5 ≠ g6 := by omega
  have n65 : g6 ≠ g5 := by omega
  have l4 : w.heap.size ≤ g4 := by omega
  have l5 : w.heap.size ≤ g5 := by omega
  have l6 : w.heap.size ≤ g6 := by omega
  obtain ⟨X5, hcopy, h5, hb5, hoth⟩ := copy64 X g5 (some ⟨g7, 0, none⟩) kb.length BK kb H5.out HKR.out HK64.out
  have H45 := Lib.hid (hoth g4 _ _ n45 H4.out)
  have H55 := Lib.hid h5
  have H65 := Lib.hid (hoth g6 _ _ n65 H6.out)
  have HX5 := Lib.hid (HX.out.trans (hb5 _ l5))
  have HIF := Lib.hid (show (Tryd.prog.info? 67).map (·.size) = some (vb (fill64 kb)).size by rw [vb_size, fill64_len _ HK64.out]; exact info_k64)
  have HFL := Lib.hid (fill64_len kb HK64.out)
  have HFB := Lib.hid (fill64_lt HKB.out)
  have HLE := Lib.hid hle
  have HG4 := Lib.hid hg4
  clear h5 hb5 hoth H4 H5 H6 HX HK64 HKB hle hg4 hg5 hg6 HKR
  generalize fill64 kb = F at *
  go_wp2_with (first
    | (refine wpList_load_row rfl 67 (.tmp 5) rfl g5 rfl 67 (vb F) (0, 0) _ (by exact H55.out) Tryd.underlying67 rfl HIF.out ?_)
    | (refine wpList_store_rowTo rfl 67 (.tmp 6) (.tmp 20) rfl rfl g6 (vb F) rfl rfl 67 zk64 H65.out HIF.out (by rw [vb_size, HFL.out]; rfl) (vb_one _) ?_))
  obtain ⟨X6, hX6⟩ : ∃ X6, X6 = X5.setRow g6 (vb F) := ⟨_, rfl⟩
  have hm6 : MacS w X6 g5 g6 F 0 := by
    rw [hX6]
    refine ⟨HX5.out.trans ⟨rfl, rfl, rfl, by simp [World.setRow], fun i hi => setRow_other _ _ i _ (by omega)⟩, ?_, ?_⟩
    · rw [xrTo_zero]; exact (setRow_other _ _ g5 _ n56).trans H55.out
    · rw [xrTo_zero]; exact setRow_heap _ _ _ _ _ (0, 0) H65.out
  have HM6 := Lib.hid hm6
  have H46 := Lib.hid (show Blk X6 g4 26 zSum by rw [hX6]; exact (setRow_other _ _ g4 _ n46).trans H45.out)
  rw [← hX6]
  clear hX6 hm6 H45 H55 H65 HX5 HIF hcopy
  go_loopw [21] (fun i wr => ∃ k : Nat, k ≤ 64 ∧ i = .int .i64 (k : Int) ∧ MacS w wr g5 g6 F k ∧ Blk wr g4 26 zSum) (fun i _ => 64 - (intOf i).toNat)
  case atStart => exact ⟨0, by omega, rfl, HM6.out, H46.out⟩
  case round =>
    rename World => wo
    obtain ⟨i, hi, rfl, hs, h4⟩ := hrel
    have HS := Lib.hid hs
    have H4 := Lib.hid h4
    clear hs h4 HM6 H46
    by_cases hlt : i < 64
    · have hiF : i < F.length := by rw [HFL.out]; exact hlt
      have hf := getD_lt HFB.out i
      have c5 := HS.out.h5.cell i
      rw [vb_at _ i (by rw [xrTo_len _ _ _ (by omega)]; exact hiF), xrTo_at _ _ _ hiF] at c5
      have c6 := HS.out.h6.cell i
      rw [vb_at _ i (by rw [xrTo_len _ _ _ (by omega)]; exact hiF), xrTo_at _ _ _ hiF] at c6
      have s5 := xrTo_set 54 F i hiF
      have s6 := xrTo_set 92 F i hiF
      have x5 : bits BinOp.xor .u8 ((F.getD i 0 : Nat) : Int) 54 = ((F.getD i 0 ^^^ 54 : Nat) : Int) := u8_xor_nat (F.getD i 0) 54 hf (by decide)
      have x6 : bits BinOp.xor .u8 ((F.getD i 0 : Nat) : Int) 92 = ((F.getD i 0 ^^^ 92 : Nat) : Int) := u8_xor_nat (F.getD i 0) 92 hf (by decide)
      have HS5 := Lib.hid s5
      have HS6 := Lib.hid s6
      generalize F.getD i 0 = f at *
      generalize f ^^^ 54 = a at *
      generalize f ^^^ 92 = b at *
      have f5 := HS.out.h5.free i
      have h56 : Blk (wo.setCell ⟨g5, i, none⟩ (.int .u8 (a : Nat))) g6 67 (vb (xrTo 92 F i)) := HS.out.h6.far n65 _
      have c6' : (wo.setCell ⟨g5, i, none⟩ (.int .u8 (a : Nat))).cell? ⟨g6, i, none⟩ = some (.int .u8 (f : Nat)) := by
        rw [← c6, h56.cell, HS.out.h6.cell]
      have f6 := h56.free i
      have f6' := HS.out.h6.free i
      clear s5 s6
      have H56 := Lib.hid h56
      clear h56
      go_wp2_with fail
      refine ⟨⟨i + 1, by omega, by congr 1, ⟨(HS.out.bel.setCell l5 _).setCell l6 _, ?_, ?_⟩, ?_⟩, ?_⟩
      · rw [← HS5.out, ← vb_set]
        exact (HS.out.h5.set_ _ _).far n56 _
      · rw [← HS6.out, ← vb_set]
        exact H56.out.set_ _ _
      · exact (H4.out.far n45 _).far n46 _
      · simp only [intOf]; omega
    · obtain rfl : i = 64 := by omega
      have hI := HS.out.h5
      have hO := HS.out.h6
      rw [xrTo_end _ _ _ HFL.out] at hI hO
      have hIl : (xr 54 F).length = 64 := by rw [xr_len, HFL.out]
      have hOl : (xr 92 F).length = 64 := by rw [xr_len, HFL.out]
      have HIb := Lib.hid (xr_lt (by decide : 54 < 256) HFB.out)
      have HOb := Lib.hid (xr_lt (by decide : 92 < 256) HFB.out)
      have HBW := Lib.hid HS.out.bel
      have HI := Lib.hid hI
      have HO := Lib.hid hO
      have HIL := Lib.hid hIl
      have HOL := Lib.hid hOl
      clear hI hO hIl hOl HS HFB HFL
      generalize xr 54 F = I at *
      generalize xr 92 F = O at *
      have hof1 := (show ArrAt (wo.alloc (Obj.cells #[Value.slice (some ⟨g5, 0, none⟩) 64 64, Value.slice D m.length cb] 22)) (.slice (some ⟨wo.heap.size, 0, none⟩) 2 2) 0 [(some ⟨g5, 0, none⟩, 64, I), (D, cb, m)] from ⟨_, rfl, Nat.zero_le _, by
        have := Blk.new wo 22 #[Value.slice (some ⟨g5, 0, none⟩) 64 64, Value.slice D m.length cb]
        simpa [pv, HIL.out] using this⟩).of (I ++ m) (by show I ++ (m ++ []) = I ++ m; rw [List.append_nil]) (fun c hc => by
          rcases List.mem_append.1 hc with h | h
          · exact HIb.out c h
          · exact HML.out c h) (fun p hp => by
          simp only [List.mem_cons, List.not_mem_nil, or_false] at hp
          have hlw : wo.heap.size ≤ (wo.alloc (Obj.cells #[Value.slice (some ⟨g5, 0, none⟩) 64 64, Value.slice D m.length cb] 22)).heap.size := by simp
          rcases hp with rfl | rfl
          · have hlt := HI.out.lt
            exact ((rd_blk HI.out (byt I) 64 (by show byt I = ((byt I).toArray.toList).take 64; rw [List.toList_toArray, List.take_of_length_le (by rw [byt_len, HIL.out]; decide)])).below ((Below.refl _ _).alloc hlt _)).more (Nat.le_trans hlt hlw)
          · exact (HM.out.below ((HBW.out.mono hC).alloc (Nat.le_trans hC HBW.out.size) _)).more (Nat.le_trans hC (Nat.le_trans HBW.out.size hlw))) (by rw [List.length_append, HIL.out]; have := HMN.out; omega) (by simp) (HRO.out.next (HBW.out.alloc HBW.out.size _))
      have HOF1 := Lib.hid hof1
      have HSI := Lib.hid (show (Tryd.prog.info? 26).map (·.size) = some (vb (sha (I ++ m))).size by rw [vb_size, sha_len]; kernel_rfl)
      clear hof1
      go_upto_region 14 with (first
        | (go_at_call 21; (refine HOF1.out.mono ?_); rintro e w2 ⟨rfl, hb⟩; have HB2 := Lib.hid hb; clear hb)
        | (refine wpList_store_rowTo rfl 26 (.tmp 9) (.tmp 38) rfl rfl w2.heap.size (vb (sha (I ++ m))) rfl rfl 26 zSum (by exact Blk.new _ _ _) HSI.out (by rw [vb_size, sha_len]; rfl) (vb_one _) ?_))
      obtain ⟨Y, hY⟩ : ∃ Y, Y = (w2.alloc (Obj.cells zSum 26)).setRow w2.heap.size (vb (sha (I ++ m))) := ⟨_, rfl⟩
      have hwy : Below wo.heap.size wo Y := by
        have h0 := HB2.out.size
        simp at h0
        rw [hY]; exact ((((Below.refl _ _).alloc (Nat.le_refl _) _).trans (HB2.out.mono (by simp))).alloc (by omega) _).trans ⟨rfl, rfl, rfl, by simp [World.setRow], fun i hi => setRow_other _ _ i _ (by omega)⟩
      have H9 := Lib.hid (show Blk Y w2.heap.size 26 (vb (sha (I ++ m))) by rw [hY]; exact setRow_heap _ _ _ _ _ (0, 0) (Blk.new w2 _ _))
      have H4Y := Lib.hid (H4.out.below hwy H4.out.lt)
      have HOY := Lib.hid (HO.out.below hwy HO.out.lt)
      have HBY := Lib.hid (HBW.out.trans (hwy.mono HBW.out.size))
      have hsl := sha_lt (I ++ m)
      have hsn := sha_len (I ++ m)
      have HSL := Lib.hid hsl
      have HSN := Lib.hid hsn
      rw [← hY]
      clear hY hwy HOF1 HSI HB2 hsl hsn HI H4 HO
      generalize sha (I ++ m) = S1 at *
      generalize w2.heap.size = g9 at *
      refine wp_region_still_tail 2 (by kernel_rfl) (by kernel_rfl) ?_
      simp only [List.take_succ_cons, List.take_zero, List.drop_succ_cons, List.drop_zero]
      repeat still_step
      try refine wpStill_nil ?_
      change wpList _ _ _ _ _ Y.drew
      have hof2 := (show ArrAt (Y.drew.alloc (Obj.cells #[Value.slice (some ⟨g6, 0, none⟩) 64 64, Value.slice (some ⟨g9, 0, none⟩) 32 32] 22)) (.slice (some ⟨Y.heap.size, 0, none⟩) 2 2) 0 [(some ⟨g6, 0, none⟩, 64, O), (some ⟨g9, 0, none⟩, 32, S1)] from ⟨_, rfl, Nat.zero_le _, by
        have := Blk.new Y.drew 22 #[Value.slice (some ⟨g6, 0, none⟩) 64 64, Value.slice (some ⟨g9, 0, none⟩) 32 32]
        simpa [pv, HOL.out, HSN.out] using this⟩).of (O ++ S1) (by show O ++ (S1 ++ []) = O ++ S1; rw [List.append_nil]) (fun c hc => by
          rcases List.mem_append.1 hc with h | h
          · exact HOb.out c h
          · exact HSL.out c h) (fun p hp => by
          simp only [List.mem_cons, List.not_mem_nil, or_false] at hp
          have hlw : Y.heap.size ≤ (Y.drew.alloc (Obj.cells #[Value.slice (some ⟨g6, 0, none⟩) 64 64, Value.slice (some ⟨g9, 0, none⟩) 32 32] 22)).heap.size := by
            show Y.drew.heap.size ≤ _
            simp
          rcases hp with rfl | rfl
          · have hlt := HOY.out.lt
            exact ((rd_blk HOY.out (byt O) 64 (by show byt O = ((byt O).toArray.toList).take 64; rw [List.toList_toArray, List.take_of_length_le (by rw [byt_len, HOL.out]; decide)])).below ((Below.refl _ _).drew.alloc hlt _)).more (Nat.le_trans hlt hlw)
          · have hlt := H9.out.lt
            exact ((rd_blk H9.out (byt S1) 32 (by show byt S1 = ((byt S1).toArray.toList).take 32; rw [List.toList_toArray, List.take_of_length_le (by rw [byt_len, HSN.out]; decide)])).below ((Below.refl _ _).drew.alloc hlt _)).more (Nat.le_trans hlt hlw)) (by rw [List.length_append, HOL.out, HSN.out]; decide) (by simp) (HRO.out.next (HBY.out.drew.alloc HBY.out.size _))
      have HOF2 := Lib.hid hof2
      rw [← HMAC.out] at HOF2
      have HSM := Lib.hid (show (Tryd.prog.info? 26).map (·.size) = some (vb (mac k m)).size by rw [vb_size, mac_len]; kernel_rfl)
      clear hof2
      go_wp2_with (first
        | (go_at_call 21; (refine HOF2.out.mono ?_); rintro e w3 ⟨rfl, hb⟩; have HB3 := Lib.hid hb; clear hb; have H43 := Lib.hid (show Blk w3 w.heap.size 26 zSum from (by rw [← HG4.out]; exact H4Y.out.below ((((Below.refl _ _).drew).alloc (Nat.le_refl _) _).trans (HB3.out.mono (by show Y.drew.heap.size ≤ _; simp))) H4Y.out.lt)))
        | (refine wpList_store_rowTo rfl 26 (.tmp 4) (.tmp 42) rfl rfl w.heap.size (vb (mac k m)) rfl rfl 26 zSum H43.out HSM.out (by rw [vb_size, mac_len]; rfl) (vb_one _) ?_))
      first
        | rw [Exit.noGoto_ret]
        | skip
      refine bodyPost_ret (results_cell_row rfl _ _ w.heap.size 26 (vb (mac k m)) (0, 0) _ rfl (setRow_heap _ _ zSum _ 26 (0, 0) H43.out) Tryd.underlying26 rfl HSM.out) rfl ?_
      exact ⟨rfl, (HBY.out.trans (((((Below.refl _ _).drew).alloc (Nat.le_refl _) _).trans (HB3.out.mono (by show Y.drew.heap.size ≤ _; simp))).mono HBY.out.size)).trans ⟨rfl, rfl, rfl, by simp [World.setRow], fun i hi => setRow_other _ _ i _ (by omega)⟩⟩
set_option maxRecDepth 100000 in
set_option maxHeartbeats 8000000 in
theorem macS_c (B C : Nat) (A D : Option Addr) (ca cb : Nat) (k m : List Nat) (w : World) (hk : Rd w B A (byt k)) (hm : Rd w C D (byt m)) (hB : B ≤ w.heap.size) (hC : C ≤ w.heap.size) (hkl : ∀ c ∈ k, c < 256) (hml : ∀ c ∈ m, c < 256) (hkn : k.length ≤ 8000) (hmn : m.length ≤ 8000) (hR : RoundsAt w) (hlong : ¬ 64 < k.length) :
    Calls Tryd.prog 13 #[.slice A k.length ca, .slice D m.length cb] w fun e w' => e = .returned (.agg (vb (mac k m))) ∧ Below w.heap.size w w' := by
  have HK := Lib.hid hk
  have HM := Lib.hid hm
  have HKL := Lib.hid hkl
  have HML := Lib.hid hml
  have HRO := Lib.hid hR
  have HMN := Lib.hid hmn
  clear hk hm hkl hml hR hmn
  have zf := zero_sum
  have zs1 : zSum.size = 32 := by rfl
  have zs2 : ¬ zSum = #[] := by intro h; have := congrArg Array.size h; rw [zs1] at this; cases this
  have zf6 := zero_k64
  have zs3 : zk64.size = 64 := by rfl
  have zs4 : ¬ zk64 = #[] := by intro h; have := congrArg Array.size h; rw [zs3] at this; cases this
  obtain ⟨Z, hZ⟩ : ∃ Z, Z = ((w.alloc (Obj.cells zSum 26)).alloc (Obj.cells zk64 67)).alloc (Obj.cells zk64 67) := ⟨_, rfl⟩
  have HZ := Lib.hid (show Below w.heap.size w Z by rw [hZ]; exact (((Below.refl _ _).alloc (Nat.le_refl _) _).alloc (by simp) _).alloc (by simp; omega) _)
  have H4Z := Lib.hid (show Blk Z w.heap.size 26 zSum by rw [hZ]; exact ((Blk.new w _ _).alloc _).alloc _)
  have H5Z := Lib.hid (show Blk Z (w.heap.size + 1) 67 zk64 by
    have h1 := Blk.new (w.alloc (Obj.cells zSum 26)) 67 zk64
    rw [show (w.alloc (Obj.cells zSum 26)).heap.size = w.heap.size + 1 by simp] at h1
    rw [hZ]; exact h1.alloc _)
  have H6Z := Lib.hid (show Blk Z (w.heap.size + 1 + 1) 67 zk64 by
    have h1 := Blk.new ((w.alloc (Obj.cells zSum 26)).alloc (Obj.cells zk64 67)) 67 zk64
    rw [show ((w.alloc (Obj.cells zSum 26)).alloc (Obj.cells zk64 67)).heap.size = w.heap.size + 1 + 1 by simp] at h1
    rw [hZ]; exact h1)
  have q1 : ¬ (64 : Int) < (k.length : Int) := by omega
  go_enter Tryd.func13, Tryd.ntmps13
  go_upto_region 5 with fail
  rw [← hZ]
  clear hZ
  obtain ⟨X, hX⟩ : ∃ X, X = Z := ⟨_, rfl⟩
  rw [← hX] at HZ H4Z H5Z H6Z ⊢
  have HX := HZ
  have H4 := H4Z
  have H5 := H5Z
  have H6 := H6Z
  have hkb2 : keyB k = k := by unfold keyB; rw [if_neg hlong]
  have HMAC := Lib.hid (show mac k m = sha (xr 92 (fill64 k) ++ sha (xr 54 (fill64 k) ++ m)) by unfold mac; rw [hkb2])
  have HKR := Lib.hid (HK.out.below (HX.out.mono hB))
  have HK64 := Lib.hid (show k.length ≤ 64 by omega)
  have HKB := HKL
  clear zf6 zs3 zs4 H4Z H5Z H6Z HZ hX hkb2 q1
  have hle : w.heap.size ≤ X.heap.size := HX.out.size
  obtain ⟨g4, hg4⟩ : ∃ g4, g4 = w.heap.size := ⟨_, rfl⟩
  obtain ⟨g5, hg5⟩ : ∃ g5, g5 = w.heap.size + 1 := ⟨_, rfl⟩
  obtain ⟨g6, hg6⟩ : ∃ g6, g6 = w.heap.size + 1 + 1 := ⟨_, rfl⟩
  rw [← hg5] at H5
  rw [← hg6] at H6
  rw [← hg4] at H4
  rw [← hg6, ← hg5]
  have n45 : g4 ≠ g5 := by omega
  have n46 : g4 ≠ g6 := by omega
  have n56 : g5 ≠ g6 := by omega
  have n65 : g6 ≠ g5 := by omega
  have l4 : w.heap.size ≤ g4 := by omega
  have l5 : w.heap.size ≤ g5 := by omega
  have l6 : w.heap.size ≤ g6 := by omega
  obtain ⟨X5, hcopy, h5, hb5, hoth⟩ := copy64 X g5 A ca B k H5.out HKR.out HK64.out
  have H45 := Lib.hid (hoth g4 _ _ n45 H4.out)
  have H55 := Lib.hid h5
  have H65 := Lib.hid (hoth g6 _ _ n65 H6.out)
  have HX5 := Lib.hid (HX.out.trans (hb5 _ l5))
  have HIF := Lib.hid (show (Tryd.prog.info? 67).map (·.size) = some (vb (fill64 k)).size by rw [vb_size, fill64_len _ HK64.out]; exact info_k64)
  have HFL := Lib.hid (fill64_len k HK64.out)
  have HFB := Lib.hid (fill64_lt HKB.out)
  have HLE := Lib.hid hle
  have HG4 := Lib.hid hg4
  clear h5 hb5 hoth H4 H5 H6 HX HK64 HKB hle hg4 hg5 hg6 HKR
  generalize fill64 k = F at *
  go_wp2_with (first
    | (refine wpList_load_row rfl 67 (.tmp 5) rfl g5 rfl 67 (vb F) (0, 0) _ (by exact H55.out) Tryd.underlying67 rfl HIF.out ?_)
    | (refine wpList_store_rowTo rfl 67 (.tmp 6) (.tmp 20) rfl rfl g6 (vb F) rfl rfl 67 zk64 H65.out HIF.out (by rw [vb_size, HFL.out]; rfl) (vb_one _) ?_))
  obtain ⟨X6, hX6⟩ : ∃ X6, X6 = X5.setRow g6 (vb F) := ⟨_, rfl⟩
  have hm6 : MacS w X6 g5 g6 F 0 := by
    rw [hX6]
    refine ⟨HX5.out.trans ⟨rfl, rfl, rfl, by simp [World.setRow], fun i hi => setRow_other _ _ i _ (by omega)⟩, ?_, ?_⟩
    · rw [xrTo_zero]; exact (setRow_other _ _ g5 _ n56).trans H55.out
    · rw [xrTo_zero]; exact setRow_heap _ _ _ _ _ (0, 0) H65.out
  have HM6 := Lib.hid hm6
  have H46 := Lib.hid (show Blk X6 g4 26 zSum by rw [hX6]; exact (setRow_other _ _ g4 _ n46).trans H45.out)
  rw [← hX6]
  clear hX6 hm6 H45 H55 H65 HX5 HIF hcopy
  go_loopw [21] (fun i wr => ∃ k : Nat, k ≤ 64 ∧ i = .int .i64 (k : Int) ∧ MacS w wr g5 g6 F k ∧ Blk wr g4 26 zSum) (fun i _ => 64 - (intOf i).toNat)
  case atStart => exact ⟨0, by omega, rfl, HM6.out, H46.out⟩
  case round =>
    rename World => wo
    obtain ⟨i, hi, rfl, hs, h4⟩ := hrel
    have HS := Lib.hid hs
    have H4 := Lib.hid h4
    clear hs h4 HM6 H46
    by_cases hlt : i < 64
    · have hiF : i < F.length := by rw [HFL.out]; exact hlt
      have hf := getD_lt HFB.out i
      have c5 := HS.out.h5.cell i
      rw [vb_at _ i (by rw [xrTo_len _ _ _ (by omega)]; exact hiF), xrTo_at _ _ _ hiF] at c5
      have c6 := HS.out.h6.cell i
      rw [vb_at _ i (by rw [xrTo_len _ _ _ (by omega)]; exact hiF), xrTo_at _ _ _ hiF] at c6
      have s5 := xrTo_set 54 F i hiF
      have s6 := xrTo_set 92 F i hiF
      have x5 : bits BinOp.xor .u8 ((F.getD i 0 : Nat) : Int) 54 = ((F.getD i 0 ^^^ 54 : Nat) : Int) := u8_xor_nat (F.getD i 0) 54 hf (by decide)
      have x6 : bits BinOp.xor .u8 ((F.getD i 0 : Nat) : Int) 92 = ((F.getD i 0 ^^^ 92 : Nat) : Int) := u8_xor_nat (F.getD i 0) 92 hf (by decide)
      have HS5 := Lib.hid s5
      have HS6 := Lib.hid s6
      generalize F.getD i 0 = f at *
      generalize f ^^^ 54 = a at *
      generalize f ^^^ 92 = b at *
      have f5 := HS.out.h5.free i
      have h56 : Blk (wo.setCell ⟨g5, i, none⟩ (.int .u8 (a : Nat))) g6 67 (vb (xrTo 92 F i)) := HS.out.h6.far n65 _
      have c6' : (wo.setCell ⟨g5, i, none⟩ (.int .u8 (a : Nat))).cell? ⟨g6, i, none⟩ = some (.int .u8 (f : Nat)) := by
        rw [← c6, h56.cell, HS.out.h6.cell]
      have f6 := h56.free i
      have f6' := HS.out.h6.free i
      clear s5 s6
      have H56 := Lib.hid h56
      clear h56
      go_wp2_with fail
      refine ⟨⟨i + 1, by omega, by congr 1, ⟨(HS.out.bel.setCell l5 _).setCell l6 _, ?_, ?_⟩, ?_⟩, ?_⟩
      · rw [← HS5.out, ← vb_set]
        exact (HS.out.h5.set_ _ _).far n56 _
      · rw [← HS6.out, ← vb_set]
        exact H56.out.set_ _ _
      · exact (H4.out.far n45 _).far n46 _
      · simp only [intOf]; omega
    · obtain rfl : i = 64 := by omega
      have hI := HS.out.h5
      have hO := HS.out.h6
      rw [xrTo_end _ _ _ HFL.out] at hI hO
      have hIl : (xr 54 F).length = 64 := by rw [xr_len, HFL.out]
      have hOl : (xr 92 F).length = 64 := by rw [xr_len, HFL.out]
      have HIb := Lib.hid (xr_lt (by decide : 54 < 256) HFB.out)
      have HOb := Lib.hid (xr_lt (by decide : 92 < 256) HFB.out)
      have HBW := Lib.hid HS.out.bel
      have HI := Lib.hid hI
      have HO := Lib.hid hO
      have HIL := Lib.hid hIl
      have HOL := Lib.hid hOl
      clear hI hO hIl hOl HS HFB HFL
      generalize xr 54 F = I at *
      generalize xr 92 F = O at *
      have hof1 := (show ArrAt (wo.alloc (Obj.cells #[Value.slice (some ⟨g5, 0, none⟩) 64 64, Value.slice D m.length cb] 22)) (.slice (some ⟨wo.heap.size, 0, none⟩) 2 2) 0 [(some ⟨g5, 0, none⟩, 64, I), (D, cb, m)] from ⟨_, rfl, Nat.zero_le _, by
        have := Blk.new wo 22 #[Value.slice (some ⟨g5, 0, none⟩) 64 64, Value.slice D m.length cb]
        simpa [pv, HIL.out] using this⟩).of (I ++ m) (by show I ++ (m ++ []) = I ++ m; rw [List.append_nil]) (fun c hc => by
          rcases List.mem_append.1 hc with h | h
          · exact HIb.out c h
          · exact HML.out c h) (fun p hp => by
          simp only [List.mem_cons, List.not_mem_nil, or_false] at hp
          have hlw : wo.heap.size ≤ (wo.alloc (Obj.cells #[Value.slice (some ⟨g5, 0, none⟩) 64 64, Value.slice D m.length cb] 22)).heap.size := by simp
          rcases hp with rfl | rfl
          · have hlt := HI.out.lt
            exact ((rd_blk HI.out (byt I) 64 (by show byt I = ((byt I).toArray.toList).take 64; rw [List.toList_toArray, List.take_of_length_le (by rw [byt_len, HIL.out]; decide)])).below ((Below.refl _ _).alloc hlt _)).more (Nat.le_trans hlt hlw)
          · exact (HM.out.below ((HBW.out.mono hC).alloc (Nat.le_trans hC HBW.out.size) _)).more (Nat.le_trans hC (Nat.le_trans HBW.out.size hlw))) (by rw [List.length_append, HIL.out]; have := HMN.out; omega) (by simp) (HRO.out.next (HBW.out.alloc HBW.out.size _))
      have HOF1 := Lib.hid hof1
      have HSI := Lib.hid (show (Tryd.prog.info? 26).map (·.size) = some (vb (sha (I ++ m))).size by rw [vb_size, sha_len]; kernel_rfl)
      clear hof1
      go_upto_region 14 with (first
        | (go_at_call 21; (refine HOF1.out.mono ?_); rintro e w2 ⟨rfl, hb⟩; have HB2 := Lib.hid hb; clear hb)
        | (refine wpList_store_rowTo rfl 26 (.tmp 9) (.tmp 38) rfl rfl w2.heap.size (vb (sha (I ++ m))) rfl rfl 26 zSum (by exact Blk.new _ _ _) HSI.out (by rw [vb_size, sha_len]; rfl) (vb_one _) ?_))
      obtain ⟨Y, hY⟩ : ∃ Y, Y = (w2.alloc (Obj.cells zSum 26)).setRow w2.heap.size (vb (sha (I ++ m))) := ⟨_, rfl⟩
      have hwy : Below wo.heap.size wo Y := by
        have h0 := HB2.out.size
        simp at h0
        rw [hY]; exact ((((Below.refl _ _).alloc (Nat.le_refl _) _).trans (HB2.out.mono (by simp))).alloc (by omega) _).trans ⟨rfl, rfl, rfl, by simp [World.setRow], fun i hi => setRow_other _ _ i _ (by omega)⟩
      have H9 := Lib.hid (show Blk Y w2.heap.size 26 (vb (sha (I ++ m))) by rw [hY]; exact setRow_heap _ _ _ _ _ (0, 0) (Blk.new w2 _ _))
      have H4Y := Lib.hid (H4.out.below hwy H4.out.lt)
      have HOY := Lib.hid (HO.out.below hwy HO.out.lt)
      have HBY := Lib.hid (HBW.out.trans (hwy.mono HBW.out.size))
      have hsl := sha_lt (I ++ m)
      have hsn := sha_len (I ++ m)
      have HSL := Lib.hid hsl
      have HSN := Lib.hid hsn
      rw [← hY]
      clear hY hwy HOF1 HSI HB2 hsl hsn HI H4 HO
      generalize sha (I ++ m) = S1 at *
      generalize w2.heap.size = g9 at *
      refine wp_region_still_tail 2 (by kernel_rfl) (by kernel_rfl) ?_
      simp only [List.take_succ_cons, List.take_zero, List.drop_succ_cons, List.drop_zero]
      repeat still_step
      try refine wpStill_nil ?_
      change wpList _ _ _ _ _ Y.drew
      have hof2 := (show ArrAt (Y.drew.alloc (Obj.cells #[Value.slice (some ⟨g6, 0, none⟩) 64 64, Value.slice (some ⟨g9, 0, none⟩) 32 32] 22)) (.slice (some ⟨Y.heap.size, 0, none⟩) 2 2) 0 [(some ⟨g6, 0, none⟩, 64, O), (some ⟨g9, 0, none⟩, 32, S1)] from ⟨_, rfl, Nat.zero_le _, by
        have := Blk.new Y.drew 22 #[Value.slice (some ⟨g6, 0, none⟩) 64 64, Value.slice (some ⟨g9, 0, none⟩) 32 32]
        simpa [pv, HOL.out, HSN.out] using this⟩).of (O ++ S1) (by show O ++ (S1 ++ []) = O ++ S1; rw [List.append_nil]) (fun c hc => by
          rcases List.mem_append.1 hc with h | h
          · exact HOb.out c h
          · exact HSL.out c h) (fun p hp => by
          simp only [List.mem_cons, List.not_mem_nil, or_false] at hp
          have hlw : Y.heap.size ≤ (Y.drew.alloc (Obj.cells #[Value.slice (some ⟨g6, 0, none⟩) 64 64, Value.slice (some ⟨g9, 0, none⟩) 32 32] 22)).heap.size := by
            show Y.drew.heap.size ≤ _
            simp
          rcases hp with rfl | rfl
          · have hlt := HOY.out.lt
            exact ((rd_blk HOY.out (byt O) 64 (by show byt O = ((byt O).toArray.toList).take 64; rw [List.toList_toArray, List.take_of_length_le (by rw [byt_len, HOL.out]; decide)])).below ((Below.refl _ _).drew.alloc hlt _)).more (Nat.le_trans hlt hlw)
          · have hlt := H9.out.lt
            exact ((rd_blk H9.out (byt S1) 32 (by show byt S1 = ((byt S1).toArray.toList).take 32; rw [List.toList_toArray, List.take_of_length_le (by rw [byt_len, HSN.out]; decide)])).below ((Below.refl _ _).drew.alloc hlt _)).more (Nat.le_trans hlt hlw)) (by rw [List.length_append, HOL.out, HSN.out]; decide) (by simp) (HRO.out.next (HBY.out.drew.alloc HBY.out.size _))
      have HOF2 := Lib.hid hof2
      rw [← HMAC.out] at HOF2
      have HSM := Lib.hid (show (Tryd.prog.info? 26).map (·.size) = some (vb (mac k m)).size by rw [vb_size, mac_len]; kernel_rfl)
      clear hof2
      go_wp2_with (first
        | (go_at_call 21; (refine HOF2.out.mono ?_); rintro e w3 ⟨rfl, hb⟩; have HB3 := Lib.hid hb; clear hb; have H43 := Lib.hid (show Blk w3 w.heap.size 26 zSum from (by rw [← HG4.out]; exact H4Y.out.below ((((Below.refl _ _).drew).alloc (Nat.le_refl _) _).trans (HB3.out.mono (by show Y.drew.heap.size ≤ _; simp))) H4Y.out.lt)))
        | (refine wpList_store_rowTo rfl 26 (.tmp 4) (.tmp 42) rfl rfl w.heap.size (vb (mac k m)) rfl rfl 26 zSum H43.out HSM.out (by rw [vb_size, mac_len]; rfl) (vb_one _) ?_))
      first
        | rw [Exit.noGoto_ret]
        | skip
      refine bodyPost_ret (results_cell_row rfl _ _ w.heap.size 26 (vb (mac k m)) (0, 0) _ rfl (setRow_heap _ _ zSum _ 26 (0, 0) H43.out) Tryd.underlying26 rfl HSM.out) rfl ?_
      exact ⟨rfl, (HBY.out.trans (((((Below.refl _ _).drew).alloc (Nat.le_refl _) _).trans (HB3.out.mono (by show Y.drew.heap.size ≤ _; simp))).mono HBY.out.size)).trans ⟨rfl, rfl, rfl, by simp [World.setRow], fun i hi => setRow_other _ _ i _ (by omega)⟩⟩
theorem mac_c (B C : Nat) (A D : Option Addr) (ca cb : Nat) (k m : List Nat) (w : World) (hk : Rd w B A (byt k)) (hm : Rd w C D (byt m)) (hB : B ≤ w.heap.size) (hC : C ≤ w.heap.size) (hkl : ∀ c ∈ k, c < 256) (hml : ∀ c ∈ m, c < 256) (hkn : k.length ≤ 8000) (hmn : m.length ≤ 8000) (hR : RoundsAt w) :
    Calls Tryd.prog 13 #[.slice A k.length ca, .slice D m.length cb] w fun e w' => e = .returned (.agg (vb (mac k m))) ∧ Below w.heap.size w w' := by
  by_cases h : 64 < k.length
  · exact macL_c B C A D ca cb k m w hk hm hB hC hkl hml hkn hmn hR h
  · exact macS_c B C A D ca cb k m w hk hm hB hC hkl hml hkn hmn hR h
end Go.Proofs.YthlmlmkabjppeaaDoor
