/- ChainKeys: the walk. -/
import Derived.Test.YthlmlmkabjppeaaDoorCh8
namespace Go.Proofs.YthlmlmkabjppeaaDoor
open Go.RowKit
set_option linter.unusedVariables false
set_option linter.unusedSimpArgs false
theorem eq_keyC (l m : List Nat) (hl : l.length = 32) (hm : m.length = 32) (hs : ∀ c ∈ l, c < 256) (hs2 : ∀ c ∈ m, c < 256) (w : World) :
    (Op.equalIn 10000 47 (.agg (vb l)) (.agg (vb m))).run Tryd.prog w = .ok (l == m) w :=
  run_equalIn_barr Tryd.underlying47 Tryd.underlying5 (by kernel_rfl) (by kernel_rfl) l m hl hm hs hs2 w
theorem ses_len (k : List Nat) (f t a b : Nat) : (ses k f t a b).length = 32 := drv_len _ _ _
theorem ses_lt (k : List Nat) (f t a b : Nat) : ∀ c ∈ ses k f t a b, c < 256 := drv_lt _ _ _
theorem prf_len (n : Nat) (k : List Nat) (f t a b : Nat) : (prf n k f t a b).length = 32 := mac_len _ _
theorem prf_lt (n : Nat) (k : List Nat) (f t a b : Nat) : ∀ c ∈ prf n k f t a b, c < 256 := mac_lt _ _
set_option maxRecDepth 100000 in
set_option maxHeartbeats 8000000 in
theorem chainKeys_w (n : Nat) (k : List Nat) (f t a b : Nat) (w : World) (hk : k.length = 32) (hkl : ∀ c ∈ k, c < 256) (hn : n < 2 ^ 64) (hf : f < 65536) (ht : t < 65536) (ha : a < 2 ^ 64) (hb : b < 2 ^ 64) (hR : RoundsAt w) :
    Calls Tryd.prog 10 #[.agg (chV n k), .int .u16 (f : Nat), .int .u16 (t : Nat), .int .u64 (a : Nat), .int .u64 (b : Nat)] w fun e w' => e = .returned (.bool true) ∧ Below w.heap.size w w' := by
  have zf := zero_sumK
  have zs1 : zKey.size = 32 := by rfl
  have zs2 : ¬ zKey = #[] := by intro h; have := congrArg Array.size h; rw [zs1] at this; cases this
  have csz := chV_size n k hk
  obtain ⟨Z, hZ⟩ : ∃ Z, Z = (w.alloc (Obj.cells (chV n k) 52)) := ⟨_, rfl⟩
  have B0 := Lib.hid (show Below w.heap.size w Z by rw [hZ]; exact ((Below.refl _ _).alloc (Nat.le_refl _) _))
  have A0 := Lib.hid (show Blk Z w.heap.size 52 (chV n k) by rw [hZ]; exact (Blk.new w _ _))
  have HRO := Lib.hid hR
  have HR0 := Lib.hid (HRO.out.next B0.out)
  have HIM := Lib.hid (chLInfo n hk)
  have HIW := Lib.hid (show (Tryd.prog.info? 52).map (·.size) = some (chV n k).toList.length by exact HIM.out)
  have HP := Lib.hid (fun W (h : RoundsAt W) => proof_c n k f t a b W hk hkl hn hf ht ha hb h)
  have HRP := Lib.hid (fun W => rproof_c n k f t a b W hk hkl hn hf ht ha hb)
  have HSS := Lib.hid (fun W (h : RoundsAt W) => session_c n k f t a b W hk hkl hf ht ha hb h)
  have HRS := Lib.hid (fun W => rsession_c n k f t a b W hk hkl hf ht ha hb)
  have HPL := Lib.hid (prf_len n k f t a b)
  have HPT := Lib.hid (prf_lt n k f t a b)
  have sl := ses_len k f t a b
  have st := ses_lt k f t a b
  generalize ses k f t a b = SK at *
  generalize prf n k f t a b = M at *
  have HEQ := fun w => eq_keyC SK SK sl sl st st w
  rw [beq_self_eq_true] at HEQ
  have HSM := Lib.hid (show (Tryd.prog.info? 26).map (·.size) = some (vb M).size by rw [vb_size, HPL.out]; kernel_rfl)
  clear sl st hkl hR
  go_enter Tryd.func10, Tryd.ntmps10
  go_upto_region 1 with fail
  rw [← hZ]
  clear hZ
  go_upto_region 2 with (first
    | (refine wpList_loadC rfl (.tmp 5) rfl w.heap.size rfl n k A0.out HIM.out ?_)
    | (go_at_call 37; (refine (HP.out _ HR0.out).mono ?_); rintro e w1 ⟨rfl, hb⟩; have A1p := Lib.hid (A0.out.below hb A0.out.lt); have B1p := Lib.hid (B0.out.trans (hb.mono B0.out.size)); clear hb)
    | (refine wpList_store_rowTo rfl 26 (.tmp 11) (.tmp 17) rfl rfl w1.heap.size (vb M) rfl rfl 26 zKey (by exact Blk.new _ _ _) HSM.out (by rw [vb_size, HPL.out]; rfl) (vb_one _) ?_; have hnc := new_row 26 w1 M; obtain ⟨Y1, hY1⟩ : ∃ Y, Y = (w1.alloc (Obj.cells zKey 26)).setRow w1.heap.size (vb M) := ⟨_, rfl⟩; rw [← hY1] at hnc; rw [← hY1]; have P1 := Lib.hid hnc.1; have A1 := Lib.hid (A1p.out.below hnc.2 A1p.out.lt); have B1 := Lib.hid (B1p.out.trans (hnc.2.mono B1p.out.size)); clear hnc hY1))
  have HR1 := Lib.hid (HRO.out.next B1.out)
  have HSA := Lib.hid (show ∀ (x : Ext Y1) (u : Value), OwnB x.wd Y1.heap.size u M → Calls Tryd.prog 15 #[.slice (some ⟨w1.heap.size, 0, none⟩) 32 32, u] x.wd fun e w' => e = .returned (.bool true) ∧ Below x.wd.heap.size x.wd w' from fun x u hu => by
    obtain ⟨A9, c9, rfl, _, _, r9⟩ := hu.rd
    have h1 := same_c (w1.heap.size + 1) x.wd.heap.size (some ⟨w1.heap.size, 0, none⟩) A9 32 c9 M M x.wd HPT.out HPT.out (rd_blk (P1.out.below x.bel P1.out.lt) _ 32 (by show byt _ = ((byt M).toArray.toList).take 32; rw [List.toList_toArray, List.take_of_length_le (by rw [byt_len, HPL.out]; decide)])) r9 (by rw [HPL.out]; decide) (by rw [HPL.out]; decide)
    rw [beq_self_eq_true] at h1
    rw [HPL.out] at h1 ⊢
    refine h1.mono ?_
    rintro e w' ⟨rfl, n, rfl⟩
    exact ⟨rfl, belowDrewN n (Below.refl _ _)⟩)
  refine wp_region_loud Y1 [38] (fun _ u w' => OwnB w' Y1.heap.size u M) (by kernel_rfl) (by kernel_rfl) (by kernel_rfl) (by kernel_rfl) (fun _ _ _ _ h hb => OwnB.next h hb) (Below.refl _ _).drew ?_
  repeat (first
    | (refine wpLoud_loadB rfl rfl 52 (.tmp 5) rfl w.heap.size 0 rfl (chV n k) _ (fun z => by exact chR0 (A1.out.below z.bel A1.out.lt)) Tryd.underlying52 rfl HIW.out _ (by simp only [Act.put, List.setIfInBounds_toArray, List.set_cons_succ, List.set_cons_zero]; rfl) ?_)
    | (refine wpLoud_call 23 rfl [] (.agg (vb SK)) 38 (fun g => #[.agg (chV n k), .int .u16 (f : Nat), .int .u16 (t : Nat), .int .u64 (a : Nat), .int .u64 (b : Nat)]) rfl (fun _ _ h => by cases h) rfl (fun g w => by kernel_rfl) (fun g z hg => by
        refine (HSS.out z.wd (HR1.out.next z.bel)).mono ?_
        rintro e w' ⟨rfl, hb⟩
        exact ⟨_, rfl, hb, rfl⟩) _ (by simp only [Act.put, List.setIfInBounds_toArray, List.set_cons_succ, List.set_cons_zero]; rfl) ?_)
    | (refine wpLoud_call 29 rfl [] (.agg (vb SK)) 39 (fun g => #[.agg (chV n k), .int .u16 (f : Nat), .int .u16 (t : Nat), .int .u64 (a : Nat), .int .u64 (b : Nat)]) rfl (fun _ _ h => by cases h) rfl (fun g w => by kernel_rfl) (fun g z hg => by
        refine (HRS.out z.wd).mono ?_
        rintro e w' ⟨rfl, hb⟩
        exact ⟨_, rfl, hb, rfl⟩) _ (by simp only [Act.put, List.setIfInBounds_toArray, List.set_cons_succ, List.set_cons_zero]; rfl) ?_)
    | (refine wpLoud_call 38 rfl [] tok 40 (fun g => #[.agg (chV n k), .int .u16 (f : Nat), .int .u16 (t : Nat), .int .u64 (a : Nat), .int .u64 (b : Nat)]) rfl (fun _ _ h => by cases h) rfl (fun g w => by kernel_rfl) (fun g z hg => by
        refine (HRP.out z.wd).mono ?_
        rintro e w' ⟨u, rfl, ho, hb⟩
        exact ⟨u, rfl, hb, own_base_le ho z.bel.size⟩) _ (by simp only [Act.put, List.setIfInBounds_toArray, List.set_cons_succ, List.set_cons_zero]; rfl) ?_)
    | (refine wpLoud_call 39 rfl [38] (.bool true) 15 (fun g => #[.slice (some ⟨w1.heap.size, 0, none⟩) 32 32, g 38]) rfl (fun _ _ h => by cases h) rfl (fun g w => by kernel_rfl) (fun g z hg => by
        refine (HSA.out z (g 38) (hg 38 (by simp))).mono ?_
        rintro e w' ⟨rfl, hb⟩
        exact ⟨_, rfl, hb, rfl⟩) _ (by simp only [Act.put, List.setIfInBounds_toArray, List.set_cons_succ, List.set_cons_zero]; rfl) ?_)
    | (refine wpLoud_call 42 rfl [] (.bool true) 35 (fun g => #[]) rfl (fun _ _ h => by cases h) rfl (fun g w => by kernel_rfl) (fun g z hg => by
        refine (awake20_c z.wd (HR1.out.next z.bel)).mono ?_
        rintro e w' ⟨rfl, hb⟩
        exact ⟨_, rfl, hb, rfl⟩) _ (by simp only [Act.put, List.setIfInBounds_toArray, List.set_cons_succ, List.set_cons_zero]; rfl) ?_)
    | (refine wpLoud_plain rfl rfl rfl ?_; intro K hK; go_big_quiet_op; go_big_quiet_on))
  refine wpLoud_end [] (by rfl) ?_
  intro g z hg
  have HBZ := Lib.hid (B1.out.trans (z.bel.mono B1.out.size))
  generalize z.wd = Y2 at *
  simp only [fill, Act.put, List.setIfInBounds_toArray, List.set_cons_succ, List.set_cons_zero]
  go_wp2_with fail
  go_ret
  exact ⟨rfl, HBZ.out⟩
end Go.Proofs.YthlmlmkabjppeaaDoor
