/- Contract: a hello's proof, by the document. -/
import Derived.Test.YthlmlmkabjppeaaDoorCh7
namespace Go.Proofs.YthlmlmkabjppeaaDoor
open Go.RowKit
set_option linter.unusedVariables false
set_option linter.unusedSimpArgs false
set_option maxRecDepth 100000 in
set_option maxHeartbeats 8000000 in
theorem rproof_c (n : Nat) (k : List Nat) (f t a b : Nat) (w : World) (hk : k.length = 32) (hkl : ∀ c ∈ k, c < 256) (hn : n < 2 ^ 64) (hf : f < 65536) (ht : t < 65536) (ha : a < 2 ^ 64) (hb : b < 2 ^ 64) :
    Calls Tryd.prog 40 #[.agg (chV n k), .int .u16 (f : Nat), .int .u16 (t : Nat), .int .u64 (a : Nat), .int .u64 (b : Nat)] w (Gives (prf n k f t a b) w) := by
  obtain ⟨i0, hi, hz0, hz1, hz2⟩ := info_parts byteInfo
  have zf := zero_k32
  have zs1 : zKey.size = 32 := by rfl
  have zs2 : ¬ zKey = #[] := by intro h; have := congrArg Array.size h; rw [zs1] at this; cases this
  have csz := chV_size n k hk
  have wf0 : IntKind.u64.wrap (f : Int) = (f : Int) := by simp [IntKind.wrap, IntKind.signed, IntKind.bits]; omega
  have wt0 : IntKind.u64.wrap (t : Int) = (t : Int) := by simp [IntKind.wrap, IntKind.signed, IntKind.bits]; omega
  obtain ⟨F1, hF1⟩ : ∃ F1, F1 = form f 2 := ⟨_, rfl⟩
  obtain ⟨F2, hF2⟩ : ∃ F2, F2 = form t 2 := ⟨_, rfl⟩
  obtain ⟨F3, hF3⟩ : ∃ F3, F3 = form a 8 := ⟨_, rfl⟩
  obtain ⟨F4, hF4⟩ : ∃ F4, F4 = form b 8 := ⟨_, rfl⟩
  have f1 : F1.length = 2 := by rw [hF1]; exact form_len _ _
  have f2 : F2.length = 2 := by rw [hF2]; exact form_len _ _
  have f3 : F3.length = 8 := by rw [hF3]; exact form_len _ _
  have f4 : F4.length = 8 := by rw [hF4]; exact form_len _ _
  obtain ⟨L2, hL2⟩ : ∃ L2, L2 = F1 ++ F2 := ⟨_, rfl⟩
  obtain ⟨L3, hL3⟩ : ∃ L3, L3 = L2 ++ F3 := ⟨_, rfl⟩
  obtain ⟨L4, hL4⟩ : ∃ L4, L4 = L3 ++ F4 := ⟨_, rfl⟩
  obtain ⟨D, hD⟩ : ∃ D, D = drv k helT n := ⟨_, rfl⟩
  obtain ⟨M, hM⟩ : ∃ M, M = mac D L4 := ⟨_, rfl⟩
  have hPM : L4 = prfM f t a b := by rw [hL4, hL3, hL2, hF1, hF2, hF3, hF4]; rfl
  have HF := Lib.hid (show prf n k f t a b = M by rw [hM, hD, hPM]; rfl)
  have n2 : L2.length = 4 := by rw [hL2, List.length_append, f1, f2]
  have n3 : L3.length = 12 := by rw [hL3, List.length_append, n2, f3]
  have n4 : L4.length = 20 := by rw [hL4, List.length_append, n3, f4]
  have N1 := Lib.hid f1
  have N2 := Lib.hid n2
  have N3 := Lib.hid n3
  have G2 := Lib.hid f2
  have G3 := Lib.hid f3
  have G4 := Lib.hid f4
  have Q2 := Lib.hid hL2
  have Q3 := Lib.hid hL3
  have Q4 := Lib.hid hL4
  have HT4 := Lib.hid (show ∀ c ∈ L4, c < 256 by rw [hPM]; exact prfM_lt f t a b)
  have l1 : D.length = 32 := by rw [hD, drv_len]
  have t1 : ∀ c ∈ D, c < 256 := by rw [hD]; exact drv_lt _ _ _
  have HC1 := Lib.hid (fun W => rderive_c k helT n W hk hkl helT_lt (by decide) hn)
  rw [← hD] at HC1
  have HR1 := Lib.hid (fun W => rform_c f 2 W (by omega) (by decide))
  have HR2 := Lib.hid (fun W => rform_c t 2 W (by omega) (by decide))
  have HR3 := Lib.hid (fun W => rform_c a 8 W ha (by decide))
  have HR4 := Lib.hid (fun W => rform_c b 8 W hb (by decide))
  rw [← hF1] at HR1
  rw [← hF2] at HR2
  rw [← hF3] at HR3
  rw [← hF4] at HR4
  have HMC := Lib.hid (fun W B C A E ca cb (h : Rd W B A (byt D)) (h2 : Rd W C E (byt L4)) (hB : B ≤ W.heap.size) (hC : C ≤ W.heap.size) => rmac_c B C A E ca cb D L4 W h h2 hB hC t1 HT4.out (by omega) (by omega))
  rw [← hM] at HMC
  have HL1 := Lib.hid l1
  have HIL := Lib.hid (show (Tryd.prog.info? 47).map (·.size) = some (byt k).length by rw [byt_len, hk]; kernel_rfl)
  have HS1 := Lib.hid (show (Tryd.prog.info? 25).map (·.size) = some (vb D).size by rw [vb_size, l1]; kernel_rfl)
  clear hkl hD l1 t1 hM hL2 hL3 hL4 hPM n2 n3 n4 f1 f2 f3 f4 hF1 hF2 hF3 hF4
  obtain ⟨Z, hZ⟩ : ∃ Z, Z = (w.alloc (Obj.cells (chV n k) 52)) := ⟨_, rfl⟩
  have B0 := Lib.hid (show Below w.heap.size w Z by rw [hZ]; exact ((Below.refl _ _).alloc (Nat.le_refl _) _))
  have A0 := Lib.hid (show Blk Z w.heap.size 52 (chV n k) by rw [hZ]; exact (Blk.new w _ _))
  have c0 := chC0 A0.out
  go_enter Tryd.func40, Tryd.ntmps40
  go_upto_region 1 with fail
  rw [← hZ]
  clear hZ
  go_upto_region 2 with (first
    | (refine wpList_loadG rfl 47 (.tmp 13) rfl w.heap.size 1 rfl (byt k) _ (by exact chR1 A0.out) Tryd.underlying47 rfl HIL.out ?_)
    | (go_at_call 31; (refine (HC1.out _).mono ?_); rintro e w1 ⟨rfl, hb⟩; have B1p := Lib.hid (B0.out.trans (hb.mono B0.out.size)); clear hb)
    | (refine wpList_store_rowTo rfl 25 (.tmp 11) (.tmp 17) rfl rfl w1.heap.size (vb D) rfl rfl 25 zKey (by exact Blk.new _ _ _) HS1.out (by rw [vb_size, HL1.out]; rfl) (vb_one _) ?_; have hnc := new_row 25 w1 D; obtain ⟨Y1, hY1⟩ : ∃ Y, Y = (w1.alloc (Obj.cells zKey 25)).setRow w1.heap.size (vb D) := ⟨_, rfl⟩; rw [← hY1] at hnc; rw [← hY1]; have P1 := Lib.hid hnc.1; have B1 := Lib.hid (B1p.out.trans (hnc.2.mono B1p.out.size)); clear hnc hY1))
  clear c0
  go_upto_region 3 with (first
    | (go_at_call 53; (refine (HR1.out _).mono ?_); rintro e w2 ⟨v2, rfl, ho, hb⟩; obtain ⟨A2, c2, rfl, _, _, r2⟩ := ho.rd; have O2 := Lib.hid (show OwnB w2 Y1.heap.size (.slice A2 F1.length c2) F1 from ho); have P2 := Lib.hid (P1.out.below hb P1.out.lt); have BY2 := Lib.hid hb; clear hb ho r2 HR1)
    | (go_at_call 53; (refine (HR2.out _).mono ?_); rintro e w3 ⟨v3, rfl, ho, hb⟩; obtain ⟨A3, c3, rfl, _, _, r3⟩ := ho.rd; have R3 := Lib.hid r3; have O3 := Lib.hid (O2.out.next hb); have P3 := Lib.hid (P2.out.below hb P2.out.lt); have BY3 := Lib.hid (BY2.out.trans (hb.mono BY2.out.size)); clear hb ho r3 HR2)
    | (at_builtin; refine wpList_app _ rfl (.tmp 20) (.tmp 23) _ rfl Y1.heap.size 5 i0 (.int .u8 0) 1 1 Tryd.underlying22 hi hz0 hz1 hz2 rfl (by decide) _ F1.length (byt F1) rfl (by exact O3.out) w3.heap.size A3 F2.length c3 (byt F2) rfl (by simp [byt_len]) R3.out (byt_one _) (by rw [N1.out, G2.out]; decide) (by rw [N1.out, G2.out]; decide) BY3.out.size ?_; intro v4 w4 hap; have ho4 := (show OwnB w4 Y1.heap.size v4 L2 from by rw [Q2.out]; exact OwnB.app hap); have hb4 := (show Below Y1.heap.size w3 w4 from hap.below O3.out BY3.out.size); have BY4 := Lib.hid (BY3.out.trans hb4); have P4 := Lib.hid (P1.out.below BY4.out P1.out.lt); obtain ⟨A4, c4, rfl, _, _, _⟩ := ho4.rd; have O4 := Lib.hid ho4; clear hap ho4 hb4 O3 O2 R3))
  go_upto_region 4 with (first
    | (go_at_call 53; (refine (HR3.out _).mono ?_); rintro e w5 ⟨v5, rfl, ho, hb⟩; obtain ⟨A5, c5, rfl, _, _, r5⟩ := ho.rd; have R5 := Lib.hid r5; have O5 := Lib.hid (O4.out.next hb); have BY5 := Lib.hid (BY4.out.trans (hb.mono BY4.out.size)); clear hb ho r5 HR3)
    | (at_builtin; refine wpList_app _ rfl (.tmp 25) (.tmp 27) _ rfl Y1.heap.size 5 i0 (.int .u8 0) 1 1 Tryd.underlying22 hi hz0 hz1 hz2 rfl (by decide) _ L2.length (byt L2) rfl (by exact O5.out) w5.heap.size A5 F3.length c5 (byt F3) rfl (by simp [byt_len]) R5.out (byt_one _) (by rw [N2.out, G3.out]; decide) (by rw [N2.out, G3.out]; decide) BY5.out.size ?_; intro v6 w6 hap; have ho6 := (show OwnB w6 Y1.heap.size v6 L3 from by rw [Q3.out]; exact OwnB.app hap); have hb6 := (show Below Y1.heap.size w5 w6 from hap.below O5.out BY5.out.size); have BY6 := Lib.hid (BY5.out.trans hb6); have P6 := Lib.hid (P1.out.below BY6.out P1.out.lt); obtain ⟨A6, c6, rfl, _, _, _⟩ := ho6.rd; have O6 := Lib.hid ho6; clear hap ho6 hb6 O5 O4 R5))
  have RD6 := Lib.hid (show Rd w6 (w1.heap.size + 1) (some ⟨w1.heap.size, 0, none⟩) (byt D) from rd_blk P6.out (byt D) 32 (by show byt D = ((byt D).toArray.toList).take 32; rw [List.toList_toArray, List.take_of_length_le (by rw [byt_len, HL1.out]; decide)]))
  have OLT := Lib.hid (fun g h => own_lt O6.out g h)
  go_wp2_with (first
    | (at_builtin; refine wpList_app _ rfl (.tmp 29) (.tmp 30) _ rfl w6.heap.size 5 i0 (.int .u8 0) 1 1 Tryd.underlying22 hi hz0 hz1 hz2 rfl (by decide) _ 0 [] rfl (by exact OwnB.new w6 _ [] (Nat.le_refl _) (by simp [maxLen])) (w1.heap.size + 1) (some ⟨w1.heap.size, 0, none⟩) 32 32 (byt D) rfl (by simp [byt_len, HL1.out]) (by exact RD6.out.ext ((Below.refl _ _).alloc (Nat.le_refl _) _)) (byt_one _) (by decide) (by decide) (by simp) ?_; intro v7 w7 hap; have ho7 := (show OwnB w7 w6.heap.size v7 D from (by have := hap.own; unfold OwnB; rw [HL1.out]; simpa using this)); have HB7 := Lib.hid (show Below w6.heap.size w6 w7 from ((Below.refl _ _).alloc (Nat.le_refl _) _).trans (hap.below (by exact OwnB.new w6 _ [] (Nat.le_refl _) (by simp [maxLen])) (by simp))); obtain ⟨A7, c7, rfl, _, _, _⟩ := ho7.rd; have O7 := Lib.hid ho7; have O67 := Lib.hid (O6.out.next HB7.out); have BY7 := Lib.hid (BY6.out.trans (HB7.out.mono BY6.out.size)); clear hap ho7)
    | (go_at_call 53; (refine (HR4.out _).mono ?_); rintro e w8 ⟨v8, rfl, ho, hb⟩; obtain ⟨A8, c8, rfl, _, _, r8⟩ := ho.rd; have R8 := Lib.hid r8; have O8 := Lib.hid (O67.out.next hb); have O78 := Lib.hid (O7.out.next hb); have BY8 := Lib.hid (BY7.out.trans (hb.mono BY7.out.size)); clear hb ho r8 HR4)
    | (at_builtin; refine wpList_app _ rfl (.tmp 32) (.tmp 34) _ rfl Y1.heap.size 5 i0 (.int .u8 0) 1 1 Tryd.underlying22 hi hz0 hz1 hz2 rfl (by decide) _ L3.length (byt L3) rfl (by exact O8.out) w8.heap.size A8 F4.length c8 (byt F4) rfl (by simp [byt_len]) R8.out (byt_one _) (by rw [N3.out, G4.out]; decide) (by rw [N3.out, G4.out]; decide) BY8.out.size ?_; intro v9 w9 hap; have ho9 := (show OwnB w9 Y1.heap.size v9 L4 from by rw [Q4.out]; exact OwnB.app hap); have BY9 := Lib.hid (BY8.out.trans (hap.below O8.out BY8.out.size)); have O79 := Lib.hid (show OwnB w9 w6.heap.size (.slice A7 D.length c7) D from own_keep O78.out (hap.only (S := fun g => (Value.slice A6 L3.length c6).ownBlock = some g) (fun g h => h)) (fun g h1 h2 => (by have := OLT.out g h2; have := own_base O78.out g h1; omega))); obtain ⟨A9, c9, rfl, _, _, r9⟩ := ho9.rd; have R9 := Lib.hid r9; clear hap ho9 r9)
    | (go_at_call 16; obtain ⟨A7', c7', e7, _, _, r7⟩ := O79.out.rd; (injection e7 with e71 e72 e73); subst e71 e73; (refine (HMC.out _ _ _ _ _ _ _ r7 R9.out (Nat.le_refl _) (Nat.le_refl _)).mono ?_); rintro e w10 ⟨v10, rfl, ho, hb⟩; have O10 := Lib.hid ho; have B10 := Lib.hid hb; clear ho hb))
  go_ret
  rw [HF.out]
  have hle : w.heap.size ≤ Y1.heap.size := B1.out.size
  have hle9 := BY9.out.size
  exact ⟨_, rfl, own_base_le O10.out (Nat.le_trans hle hle9), (B1.out.trans (BY9.out.mono hle)).trans (B10.out.mono (Nat.le_trans hle hle9))⟩
end Go.Proofs.YthlmlmkabjppeaaDoor
