/- HkdfDerives: the walk. -/
import Derived.Test.YthlmlmkabjppeaaDoorRdrv
namespace Go.Proofs.YthlmlmkabjppeaaDoor
open Go.RowKit
set_option linter.unusedVariables false
set_option linter.unusedSimpArgs false
theorem eq_key (l m : List Nat) (hl : l.length = 32) (hm : m.length = 32) (hs : ∀ c ∈ l, c < 256) (hs2 : ∀ c ∈ m, c < 256) (w : World) :
    (Op.equalIn 10000 47 (.agg (vb l)) (.agg (vb m))).run Tryd.prog w = .ok (l == m) w :=
  run_equalIn_barr Tryd.underlying47 Tryd.underlying5 (by kernel_rfl) (by kernel_rfl) l m hl hm hs hs2 w
set_option maxRecDepth 100000 in
set_option maxHeartbeats 8000000 in
theorem hkdfDerives_w (k s : List Nat) (n : Nat) (w : World) (hk : k.length = 32) (hkl : ∀ c ∈ k, c < 256) (hs : ∀ c ∈ s, c < 256) (hn : n < 2 ^ 64) (hR : RoundsAt w) :
    Calls Tryd.prog 7 #[.agg (vb k), .string (bstr s), .int .u64 n] w fun e w' => e = .returned (.bool true) ∧ Below w.heap.size w w' := by
  have ksz : (vb k).size = 32 := by rw [vb_size, hk]
  have hsz := bstr_size s
  have HRO := Lib.hid hR
  obtain ⟨Z, hZ⟩ : ∃ Z, Z = w.alloc (Obj.cells (vb k) 47) := ⟨_, rfl⟩
  have HZ := Lib.hid (show Below w.heap.size w Z by rw [hZ]; exact (Below.refl _ _).alloc (Nat.le_refl _) _)
  have H3 := Lib.hid (show Blk Z w.heap.size 47 (vb k) by rw [hZ]; exact Blk.new w _ _)
  have HROZ := Lib.hid (show RoundsAt Z from hR.next HZ.out)
  clear hR
  by_cases h1 : s.length ≤ 100
  · have q1 : ¬ (100 : Int) < (s.length : Int) := by omega
    have HDC := Lib.hid (fun W (h : RoundsAt W) => derive_c k s n W hk hkl hs (by omega) hn h)
    have HRC := Lib.hid (fun W => rderive_c k s n W hk hkl hs (by omega) hn)
    have HDL := drv_len k s n
    have HDT := drv_lt k s n
    generalize drv k s n = DV at *
    have HEQ := fun w => eq_key DV DV HDL HDL HDT HDT w
    rw [beq_self_eq_true] at HEQ
    have HIL := Lib.hid (show (Tryd.prog.info? 47).map (·.size) = some (vb k).toList.length by rw [Array.length_toList, ksz]; kernel_rfl)
    generalize bstr s = SV at *
    clear HDL HDT
    go_enter Tryd.func7, Tryd.ntmps7
    go_upto_region 3 with fail
    rw [← hZ]
    clear hZ
    refine wp_region_loud Z [] (fun _ _ _ => True) (by kernel_rfl) (by kernel_rfl) (by kernel_rfl) (by kernel_rfl) (fun _ _ _ _ h hb => True.intro) (Below.refl _ _).drew ?_
    repeat (first
      | (refine wpLoud_loadB rfl rfl 47 (.tmp 3) rfl w.heap.size 0 rfl (vb k) _ (fun z => rangeAt_blk (H3.out.below z.bel H3.out.lt)) Tryd.underlying47 rfl HIL.out _ (by simp only [Act.put, List.setIfInBounds_toArray, List.set_cons_succ, List.set_cons_zero]; rfl) ?_)
      | (refine wpLoud_call 14 rfl [] (.agg (vb DV)) 30 (fun g => #[.agg (vb k), .string SV, .int .u64 (n : Nat)]) rfl (fun _ _ h => by cases h) rfl (fun g w => by kernel_rfl) (fun g z hg => by
          refine (HDC.out z.wd (HROZ.out.next z.bel)).mono ?_
          rintro e w' ⟨rfl, hb⟩
          exact ⟨_, rfl, hb, rfl⟩) _ (by simp only [Act.put, List.setIfInBounds_toArray, List.set_cons_succ, List.set_cons_zero]; rfl) ?_)
      | (refine wpLoud_call 18 rfl [] (.agg (vb DV)) 31 (fun g => #[.agg (vb k), .string SV, .int .u64 (n : Nat)]) rfl (fun _ _ h => by cases h) rfl (fun g w => by kernel_rfl) (fun g z hg => by
          refine (HRC.out z.wd).mono ?_
          rintro e w' ⟨rfl, hb⟩
          exact ⟨_, rfl, hb, rfl⟩) _ (by simp only [Act.put, List.setIfInBounds_toArray, List.set_cons_succ, List.set_cons_zero]; rfl) ?_)
      | (refine wpLoud_call 21 rfl [] (.bool true) 11 (fun g => #[]) rfl (fun _ _ h => by cases h) rfl (fun g w => by kernel_rfl) (fun g z hg => by
          refine (awake03_c z.wd (HROZ.out.next z.bel)).mono ?_
          rintro e w' ⟨rfl, hb⟩
          exact ⟨_, rfl, hb, rfl⟩) _ (by simp only [Act.put, List.setIfInBounds_toArray, List.set_cons_succ, List.set_cons_zero]; rfl) ?_)
      | (refine wpLoud_plain rfl rfl rfl ?_; intro K hK; go_big_quiet_op; go_big_quiet_on))
    refine wpLoud_end [] (by rfl) ?_
    intro g z hg
    have HBZ := Lib.hid (HZ.out.trans (z.bel.mono HZ.out.size))
    generalize z.wd = Y2 at *
    simp only [fill, Act.put, List.setIfInBounds_toArray, List.set_cons_succ, List.set_cons_zero]
    go_wp2_with fail
    go_ret
    exact ⟨rfl, HBZ.out⟩
  · have q1 : (100 : Int) < (s.length : Int) := by omega
    generalize bstr s = SV at *
    go_enter Tryd.func7, Tryd.ntmps7
    go_upto_region 2 with fail
    rw [← hZ]
    have HAW := Lib.hid (awake03_c Z HROZ.out)
    clear hZ
    go_wp2_with (go_at_call 11; (refine HAW.out.mono ?_); rintro e w1 ⟨rfl, hb⟩; have HB1 := Lib.hid (HZ.out.trans (hb.mono HZ.out.size)); clear hb)
    go_ret
    exact ⟨rfl, HB1.out⟩
end Go.Proofs.YthlmlmkabjppeaaDoor
