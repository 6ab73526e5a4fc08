/- Merged: Ca7 Ca8. -/
import Derived.Test.YtfblpkjablgafaaDoorCaM
import Derived.Laws.Rows
import Derived.Laws.ResultCell
import Derived.Laws.Bits128
namespace Go.Proofs.YtfblpkjablgafaaDoor
open Go.RowKit
set_option linter.unusedVariables false
set_option linter.unusedSimpArgs false
set_option maxRecDepth 100000 in
set_option maxHeartbeats 8000000 in
theorem block_c (k : List Nat) (n : Nat) (nonce : List Nat) (w : World) (hk : k.length = 32) (hkl : ∀ c ∈ k, c < 256) (hn : n < 4294967296) (hc : nonce.length = 12) (hcl : ∀ c ∈ nonce, c < 256) (hq : QuartersAt w) :
    Calls Tryd.prog 27 #[.agg (vb k), .int .u32 n, .agg (vb nonce)] w fun e w' => e = .returned (.agg (vb (blkL k n nonce))) ∧ Below w.heap.size w w' := by
  have zf := zero_16
  have zs1 : z16w.size = 16 := by rfl
  have zs2 : ¬ z16w = #[] := by intro h; have := congrArg Array.size h; rw [zs1] at this; cases this
  have zg := zero_64b
  have zt1 : (vb z64).size = 64 := by rfl
  have zt2 : ¬ vb z64 = #[] := by intro h; have := congrArg Array.size h; rw [zt1] at this; cases this
  have HQ := Lib.hid hq
  have HST := Lib.hid (fun W => start_c k n nonce W hk hkl hn hc hcl)
  have H16 := Lib.hid (startL_16 hkl hn hcl)
  have HBK := Lib.hid (show blkL k n nonce = (List.range 64).map (outB (rnds (startL k n nonce) 10) (startL k n nonce)) from rfl)
  have HIK := Lib.hid (show (Tryd.prog.info? 23).map (·.size) = some (vb k).size by rw [show (vb k).size = k.length by simp [vb, byt], hk]; kernel_rfl)
  have HIN := Lib.hid (show (Tryd.prog.info? 25).map (·.size) = some (vb nonce).size by rw [show (vb nonce).size = nonce.length by simp [vb, byt], hc]; kernel_rfl)
  have HIH := Lib.hid (show ∀ us : List Nat, us.length = 16 → (Tryd.prog.info? 70).map (·.size) = some (vw us).size from fun us h => by rw [vw_size, h]; kernel_rfl)
  have HZH := Lib.hid (show ∀ us : List Nat, us.length = 16 → z16w.size = (vw us).size from fun us h => by rw [vw_size, h]; rfl)
  clear hkl hcl hq
  generalize startL k n nonce = fr at *
  go_enter Tryd.func27, Tryd.ntmps27
  go_upto_region 1 with (first
    | (refine Go.Great.wpList_boxTo rfl 23 (.tmp 0) rfl (some 3) rfl w.heap.size rfl (vb k) rfl ?_)
    | (refine Go.Great.wpList_boxTo rfl 25 (.tmp 2) rfl (some 5) rfl (w.heap.size + 1) (by simp) (vb nonce) rfl ?_))
  obtain ⟨Z, hZ⟩ : ∃ Z, Z = ((w.alloc (Obj.cells (vb k) 23)).alloc (Obj.cells (vb nonce) 25)).alloc (Obj.cells (vb z64) 58) := ⟨_, rfl⟩
  have BK := Lib.hid (show Blk Z w.heap.size 23 (vb k) by rw [hZ]; exact ((Blk.new w _ _).alloc _).alloc _)
  have BN := Lib.hid (show Blk Z (w.heap.size + 1) 25 (vb nonce) by rw [hZ]; exact (show Blk _ (w.heap.size + 1) _ _ from heap2 w _ _).alloc _)
  have BR := Lib.hid (show Blk Z (w.heap.size + 1 + 1) 58 (vb z64) by rw [hZ]; exact heap3 w _ _ _)
  have BZ := Lib.hid (show Below w.heap.size w Z by rw [hZ]; exact (((Below.refl _ _).alloc (Nat.le_refl _) _).alloc (by simp) _).alloc (by simp; omega) _)
  rw [← hZ]
  clear hZ
  go_upto_region 2 with (first
    | (refine wpList_load_row rfl 23 (.tmp 3) rfl w.heap.size rfl 23 (vb k) (0, 0) _ BK.out Tryd.underlying23 rfl HIK.out ?_)
    | (refine wpList_load_row rfl 25 (.tmp 5) rfl (w.heap.size + 1) rfl 25 (vb nonce) (0, 0) _ BN.out Tryd.underlying25 rfl HIN.out ?_)
    | (go_at_call 36; (refine (HST.out _).mono ?_); rintro e W1 ⟨rfl, hb⟩; have HB1 := Lib.hid hb; clear hb)
    | (refine wpList_store_rowTo rfl 70 (.tmp 7) (.tmp 16) rfl rfl W1.heap.size (vw fr) rfl rfl 70 z16w (by exact Blk.new W1 _ _) (HIH.out fr H16.out.len) (HZH.out fr H16.out.len) (vw_one _) ?_))
  obtain ⟨X, hX⟩ : ∃ X, X = (W1.alloc (Obj.cells z16w 70)).setRow W1.heap.size (vw fr) := ⟨_, rfl⟩
  have hnr := new_row W1 70 z16w (vw fr)
  rw [← hX] at hnr ⊢
  have BF := Lib.hid hnr.1
  have BX := Lib.hid (BZ.out.trans ((HB1.out.trans (hnr.2.mono HB1.out.size)).mono BZ.out.size))
  have BR2 := Lib.hid ((BR.out.below HB1.out BR.out.lt).below hnr.2 (BR.out.below HB1.out BR.out.lt).lt)
  have hg : w.heap.size + 1 + 1 < W1.heap.size := Nat.lt_of_lt_of_le BR.out.lt HB1.out.size
  clear hX hnr BK BN BR BZ HB1
  obtain ⟨gR, hgR⟩ : ∃ g, g = w.heap.size + 1 + 1 := ⟨_, rfl⟩
  have hr0 : w.heap.size ≤ gR := by omega
  rw [← hgR] at hg BR2 ⊢
  generalize W1.heap.size = gF at *
  go_upto_region 3 with (first
    | (refine wpList_load_row rfl 70 (.tmp 7) rfl gF rfl 70 (vw fr) (0, 0) _ BF.out Tryd.underlying70 rfl (HIH.out fr H16.out.len) ?_)
    | (refine wpList_store_rowTo rfl 70 (.tmp 8) (.tmp 17) rfl rfl X.heap.size (vw fr) rfl rfl 70 z16w (by exact Blk.new X _ _) (HIH.out fr H16.out.len) (HZH.out fr H16.out.len) (vw_one _) ?_))
  obtain ⟨Y, hY⟩ : ∃ Y, Y = (X.alloc (Obj.cells z16w 70)).setRow X.heap.size (vw fr) := ⟨_, rfl⟩
  have hnr := new_row X 70 z16w (vw fr)
  rw [← hY] at hnr ⊢
  have HS := Lib.hid (show Bst w Y gR gF X.heap.size fr (rnds fr 0) from ⟨BX.out.trans (hnr.2.mono BX.out.size), BR2.out.below hnr.2 BR2.out.lt, BF.out.below hnr.2 BF.out.lt, hnr.1, by have := BR2.out.lt; omega, by have := BF.out.lt; omega, BX.out.size⟩)
  have hgFR : gR ≠ gF := by omega
  clear hY hnr BX BR2 BF hg
  generalize X.heap.size = gW at *
  clear X
  go_wp2_with fail
  have zh := zero_4
  have zu1 : z4.size = 4 := by rfl
  have zu2 : ¬ z4 = #[] := by intro h; have := congrArg Array.size h; rw [zu1] at this; cases this
  go_loopw [18] (fun i wr => ∃ m : Nat, m ≤ 10 ∧ i = .int .i64 m ∧ Bst w wr gR gF gW fr (rnds fr m)) (fun i _ => 10 - (intOf i).toNat)
  case atStart => exact ⟨0, by omega, rfl, HS.out⟩
  case round =>
    rename World => wr
    obtain ⟨m, hm, rfl, hs⟩ := hrel
    have HT := Lib.hid hs
    clear hs HS
    by_cases hlt : m < 10
    · have p1 : (m : Int) < 10 := by omega
      have HQR := Lib.hid (HT.out.quarters HQ.out).1
      have HNX := Lib.hid (show rnds fr (m + 1) = qrt (rnds fr m) 8 from rfl)
      have HW := Lib.hid (H16.out.rnds m)
      generalize rnds fr m = us at *
      go_wp2_with (refine wpList_loadG (by kernel_rfl) 73 (.global 0) rfl 0 0 rfl qcells.toList _ HQR.out Tryd.underlying73 rfl qcells_info ?_; rw [qcells_arr])
      go_loopw [21] (fun i wr => ∃ j : Nat, j ≤ 8 ∧ i = .int .i64 j ∧ Bst w wr gR gF gW fr (qrt us j)) (fun i _ => 8 - (intOf i).toNat)
      case atStart => exact ⟨0, by omega, rfl, HT.out⟩
      case round =>
        rename World => wr
        obtain ⟨j, hj, rfl, hs⟩ := hrel
        have HT := Lib.hid hs
        clear hs
        by_cases hlt : j < 8
        · have p2 : (j : Int) < 8 := by omega
          have hidx := run_index_q j hlt
          have HQL := Lib.hid (qs_len j hlt)
          have HNQ := Lib.hid (show qrt us (j + 1) = qtrL (qrt us j) (qs.getD j []) from rfl)
          have HQC := Lib.hid (fun W (hB : Blk W gW 70 (vw (qrt us j))) => quarter_c gW (qs.getD j []) (qrt us j) W (qs_len j hlt) (qs_lt j hlt) (HW.out.qrt j (by omega)) hB)
          generalize qs.getD j [] = q at *
          generalize qrt us j = vs at *
          have hnr := new_row wr 72 z4 (pV q)
          have HS2 := Lib.hid (HT.out.next hnr.2)
          have HQB := Lib.hid hnr.1
          clear hnr
          go_upto_region 8 with (first
            | (refine wpList_store_rowTo rfl 72 (.tmp 10) (.tmp 23) rfl rfl wr.heap.size (pV q) rfl rfl 72 z4 (by exact Blk.new wr _ _) (pV_info q HQL.out) (pV_z4 q HQL.out) (pV_one _) ?_))
          obtain ⟨X, hX⟩ : ∃ X, X = (wr.alloc (Obj.cells z4 72)).setRow wr.heap.size (pV q) := ⟨_, rfl⟩
          rw [← hX] at HS2 HQB ⊢
          clear hX
          generalize wr.heap.size = gQ at *
          go_wp2_with (first
            | (refine wpList_load_row rfl 72 (.tmp 10) rfl gQ rfl 72 (pV q) (0, 0) _ HQB.out Tryd.underlying72 rfl (pV_info q HQL.out) ?_)
            | (go_at_call 37; (refine (HQC.out _ HS2.out.wA).mono ?_); rintro e W2 ⟨rfl, hv, hgr⟩; have HS3 := Lib.hid (HS2.out.grown hgr hv); clear hv hgr))
          exact ⟨⟨j + 1, by omega, by go_num, by rw [HNQ.out]; exact HS3.out⟩, by simp only [intOf]; omega⟩
        · obtain rfl : j = 8 := by omega
          go_wp2_with fail
          exact ⟨⟨m + 1, by omega, by go_num, by rw [HNX.out]; exact HT.out⟩, by simp only [intOf]; omega⟩
    · obtain rfl : m = 10 := by omega
      rw [show ((10 : Nat) : Int) = 10 from rfl]
      have HW := Lib.hid (H16.out.rnds 10)
      generalize rnds fr 10 = us at *
      clear zh zu1 zu2 HQ
      go_upto_region 12 with fail
      have HO := Lib.hid HT.out.out
      clear HT
      generalize wr.alloc (Obj.cells (vb z64) 58) = Y at *
      generalize wr.heap.size = gO at *
      clear zg zt1 zt2 zf zs1 zs2
      go_wp2_with fail
      go_loopw [12, 28] (fun u i wr => ∃ m : Nat, m ≤ 64 ∧ i = .int .i64 m ∧ Bo w wr gR gF gW gO fr us (mapZ (outB us fr) 64 m)) (fun _ i _ => 64 - (intOf i).toNat)
      case atStart => exact ⟨0, by omega, rfl, HO.out⟩
      case round =>
        rename World => wr
        obtain ⟨m, hm, rfl, hs⟩ := hrel
        have HT := Lib.hid hs
        clear hs HO
        by_cases hlt : m < 64
        · have p1 : (m : Int) < 64 := by omega
          obtain ⟨q, hq⟩ : ∃ q, q = m / 4 := ⟨_, rfl⟩
          have e4 : (m : Int) / 4 = (q : Int) := by omega
          have p2 : (q : Int) < 16 := by omega
          have d0 := (HT.out.st.wA.cell q).trans (vw_at us q (by rw [HW.out.len]; omega))
          have d1 := (HT.out.st.fA.cell q).trans (vw_at fr q (by rw [H16.out.len]; omega))
          have d2 := (HT.out.oA.cell m).trans (vb_at _ m (by rw [mapZ_len _ _ _ hm]; exact hlt))
          have e2 := HT.out.oA.free m
          have x0 := HW.out.lt q
          have x1 := H16.out.lt q
          have HST := Lib.hid (mapZ_set (outB us fr) 64 m hlt)
          have HSS := Lib.hid (fun c : Nat => HT.out.set m c)
          have hob : outB us fr m = (us.getD q 0 + fr.getD q 0) % 4294967296 / 256 ^ (m % 4) % 256 := by rw [hq]; rfl
          obtain ⟨s, hs⟩ : ∃ s, s = (us.getD q 0 + fr.getD q 0) % 4294967296 := ⟨_, rfl⟩
          have f0 : IntKind.u32.wrap (((us.getD q 0 : Nat) : Int) + ((fr.getD q 0 : Nat) : Int)) = (s : Int) := by rw [wrap32]; omega
          rw [← hs] at hob
          have cu : IntKind.u64.wrap (m : Int) = (m : Int) := by simp [IntKind.wrap, IntKind.signed, IntKind.bits]; omega
          clear hs
          generalize us.getD q 0 = a at *
          generalize fr.getD q 0 = b at *
          have h4 : m % 4 = 0 ∨ m % 4 = 1 ∨ m % 4 = 2 ∨ m % 4 = 3 := by omega
          rcases h4 with h4 | h4 | h4 | h4
          · have ba : bits BinOp.and .u64 (m : Int) 3 = 0 := by
              rw [show (3 : Int) = ((3 : Nat) : Int) from rfl, u64_and_nat _ _ (by omega) (by omega), show m &&& 3 = m % 4 from Nat.and_two_pow_sub_one_eq_mod m 2, h4]; try rfl
            obtain ⟨c, hc⟩ : ∃ c, c = s / 1 % 256 := ⟨_, rfl⟩
            obtain ⟨x, hx⟩ : ∃ x, x = s / 1 := ⟨_, rfl⟩
            have f1 : (s : Int) / 1 = (x : Int) := by omega
            have f2 : IntKind.u8.wrap (x : Int) = (c : Int) := by rw [show IntKind.u8.wrap (x : Int) = (x : Int) % 256 by simp [IntKind.wrap, IntKind.signed, IntKind.bits]]; omega
            have f3 : (x : Int) % 256 = (c : Int) := by omega
            have f4 : IntKind.u8.wrap (s : Int) = (c : Int) := by rw [show IntKind.u8.wrap (s : Int) = (s : Int) % 256 by simp [IntKind.wrap, IntKind.signed, IntKind.bits]]; omega
            have f5 : (s : Int) % 256 = (c : Int) := by omega
            have HOB := Lib.hid (show outB us fr m = c by rw [hob, h4, hc])
            clear hc hx hq h4 hob
            go_wp2_with fail
            go_still_tail 17, (by kernel_rfl)
            go_wp2_with fail
            have HS3 := Lib.hid (HSS.out c)
            go_roundw
            case rel => exact ⟨m + 1, by omega, by go_num, by rw [← HST.out, HOB.out]; exact HS3.out⟩
            case measure => simp only [intOf]; omega
          · have ba : bits BinOp.and .u64 (m : Int) 3 = 1 := by
              rw [show (3 : Int) = ((3 : Nat) : Int) from rfl, u64_and_nat _ _ (by omega) (by omega), show m &&& 3 = m % 4 from Nat.and_two_pow_sub_one_eq_mod m 2, h4]; try rfl
            obtain ⟨c, hc⟩ : ∃ c, c = s / 256 % 256 := ⟨_, rfl⟩
            obtain ⟨x, hx⟩ : ∃ x, x = s / 256 := ⟨_, rfl⟩
            have f1 : (s : Int) / 256 = (x : Int) := by omega
            have f2 : IntKind.u8.wrap (x : Int) = (c : Int) := by rw [show IntKind.u8.wrap (x : Int) = (x : Int) % 256 by simp [IntKind.wrap, IntKind.signed, IntKind.bits]]; omega
            have f3 : (x : Int) % 256 = (c : Int) := by omega
            skip
            skip
            have HOB := Lib.hid (show outB us fr m = c by rw [hob, h4, hc])
            clear hc hx hq h4 hob
            go_wp2_with fail
            go_still_tail 17, (by kernel_rfl)
            go_wp2_with fail
            have HS3 := Lib.hid (HSS.out c)
            go_roundw
            case rel => exact ⟨m + 1, by omega, by go_num, by rw [← HST.out, HOB.out]; exact HS3.out⟩
            case measure => simp only [intOf]; omega
          · have ba : bits BinOp.and .u64 (m : Int) 3 = 2 := by
              rw [show (3 : Int) = ((3 : Nat) : Int) from rfl, u64_and_nat _ _ (by omega) (by omega), show m &&& 3 = m % 4 from Nat.and_two_pow_sub_one_eq_mod m 2, h4]; try rfl
            obtain ⟨c, hc⟩ : ∃ c, c = s / 65536 % 256 := ⟨_, rfl⟩
            obtain ⟨x, hx⟩ : ∃ x, x = s / 65536 := ⟨_, rfl⟩
            have f1 : (s : Int) / 65536 = (x : Int) := by omega
            have f2 : IntKind.u8.wrap (x : Int) = (c : Int) := by rw [show IntKind.u8.wrap (x : Int) = (x : Int) % 256 by simp [IntKind.wrap, IntKind.signed, IntKind.bits]]; omega
            have f3 : (x : Int) % 256 = (c : Int) := by omega
            skip
            skip
            have HOB := Lib.hid (show outB us fr m = c by rw [hob, h4, hc])
            clear hc hx hq h4 hob
            go_wp2_with fail
            go_still_tail 17, (by kernel_rfl)
            go_wp2_with fail
            have HS3 := Lib.hid (HSS.out c)
            go_roundw
            case rel => exact ⟨m + 1, by omega, by go_num, by rw [← HST.out, HOB.out]; exact HS3.out⟩
            case measure => simp only [intOf]; omega
          · have ba : bits BinOp.and .u64 (m : Int) 3 = 3 := by
              rw [show (3 : Int) = ((3 : Nat) : Int) from rfl, u64_and_nat _ _ (by omega) (by omega), show m &&& 3 = m % 4 from Nat.and_two_pow_sub_one_eq_mod m 2, h4]; try rfl
            obtain ⟨c, hc⟩ : ∃ c, c = s / 16777216 % 256 := ⟨_, rfl⟩
            obtain ⟨x, hx⟩ : ∃ x, x = s / 16777216 := ⟨_, rfl⟩
            have f1 : (s : Int) / 16777216 = (x : Int) := by omega
            have f2 : IntKind.u8.wrap (x : Int) = (c : Int) := by rw [show IntKind.u8.wrap (x : Int) = (x : Int) % 256 by simp [IntKind.wrap, IntKind.signed, IntKind.bits]]; omega
            have f3 : (x : Int) % 256 = (c : Int) := by omega
            skip
            skip
            have HOB := Lib.hid (show outB us fr m = c by rw [hob, h4, hc])
            clear hc hx hq h4 hob
            go_wp2_with fail
            go_still_tail 17, (by kernel_rfl)
            go_wp2_with fail
            have HS3 := Lib.hid (HSS.out c)
            go_roundw
            case rel => exact ⟨m + 1, by omega, by go_num, by rw [← HST.out, HOB.out]; exact HS3.out⟩
            case measure => simp only [intOf]; omega
        · obtain rfl : m = 64 := by omega
          rw [mapZ_end, ← HBK.out] at HT
          have HBL := Lib.hid (blkL_len k n nonce)
          have HIB := Lib.hid (show (Tryd.prog.info? 58).map (·.size) = some (vb (blkL k n nonce)).size by rw [show (vb (blkL k n nonce)).size = (blkL k n nonce).length by simp [vb, byt], blkL_len]; kernel_rfl)
          have HZB := Lib.hid (show (vb z64).size = (vb (blkL k n nonce)).size by rw [show (vb (blkL k n nonce)).size = (blkL k n nonce).length by simp [vb, byt], blkL_len]; rfl)
          have HE := Lib.hid HT.out
          clear HT
          obtain ⟨bl, hbl⟩ : ∃ bl, bl = blkL k n nonce := ⟨_, rfl⟩
          have HBB := Lib.hid hbl
          rw [← hbl] at HIB HZB HE
          clear hbl
          subst hgR
          go_wp2_with (first
            | (refine wpList_load_row rfl 58 (.tmp 11) rfl gO rfl 58 (vb bl) (0, 0) _ HE.out.oA Tryd.underlying58 rfl HIB.out ?_)
            | (refine wpList_store_rowTo rfl 58 (.tmp 6) (.tmp 49) rfl rfl (w.heap.size + 1 + 1) (vb bl) rfl rfl 58 (vb z64) HE.out.st.rA HIB.out HZB.out (vb_one _) ?_))
          (try simp only [Exit.inBlock, Exit.then])
          refine bodyPost_ret (results_cell_row rfl _ _ (w.heap.size + 1 + 1) 58 (vb bl) (0, 0) _ rfl (setRow_heap wr (w.heap.size + 1 + 1) (vb z64) _ 58 (0, 0) HE.out.st.rA) Tryd.underlying58 rfl HIB.out) rfl ?_
          exact ⟨by rw [HBB.out], HE.out.st.bel.trans (below_setRow _ _ _ hr0)⟩
end Go.Proofs.YtfblpkjablgafaaDoor
namespace Go.Proofs.YtfblpkjablgafaaDoor
open Go.RowKit
set_option linter.unusedVariables false
set_option linter.unusedSimpArgs false
theorem i64_and63 (n : Int) : bits .and .i64 n 63 = n % 64 := by
  have h63 : (BitVec.ofInt 64 63).toNat = 2 ^ 6 - 1 := by decide
  have key : (BitVec.ofInt 64 n &&& BitVec.ofInt 64 63).toNat = (n % ((2 ^ 64 : Nat) : Int)).toNat % 2 ^ 6 := by
    rw [BitVec.toNat_and, BitVec.toNat_ofInt, h63, Nat.and_two_pow_sub_one_eq_mod]
  show IntKind.i64.wrap ((BitVec.ofInt 64 n &&& BitVec.ofInt 64 63).toNat : Nat) = n % 64
  rw [key, IntKind.wrap_i64]
  omega
def xorB (k nonce : List Nat) (n : Nat) (b : List Nat) (i : Nat) : Nat := b.getD i 0 ^^^ (blkL k ((n + i / 64) % 4294967296) nonce).getD (i % 64) 0
/-- the stream laid over a row -/
def xorL (k nonce : List Nat) (n : Nat) (b : List Nat) : List Nat := (List.range b.length).map (xorB k nonce n b)
theorem xorL_len (k nonce : List Nat) (n : Nat) (b : List Nat) : (xorL k nonce n b).length = b.length := by simp [xorL]
theorem xorL_lt (k nonce : List Nat) (n : Nat) {b : List Nat} (hb : ∀ c ∈ b, c < 256) : ∀ c ∈ xorL k nonce n b, c < 256 := fun c hc => by
  obtain ⟨i, _, rfl⟩ := List.mem_map.1 hc
  exact Nat.xor_lt_two_pow (n := 8) (getD_lt hb i) (getD_lt (blkL_lt _ _ _) _)
theorem OwnB.off {w w' : World} {base : Nat} {v : Value} {l : List Nat} {S : Nat → Prop} (h : OwnB w base v l) (ho : Only S w w') (hS : ∀ k, S k → k < base) : OwnB w' base v l :=
  own_keep h ho (fun g hg hs => by
    rcases h.2 with ⟨h1, h2⟩ | ⟨g', cap, cur, h1, hb, _⟩
    · rw [h1] at hg; cases hg
    · rw [h1] at hg
      have e : g' = g := by simpa [Value.ownBlock] using hg
      have := hS g hs
      omega)
theorem only_setRow (w : World) (g : Nat) (cs : Array Value) : Only (fun k => k = g) w (w.setRow g cs) := ⟨rfl, rfl, rfl, by simp [World.setRow], fun i hi hn => setRow_other _ _ i _ hn⟩
/-- the blocks of memory while a row is laid over -/
structure Xst (w W : World) (k nonce bs : List Nat) : Prop where
  bel : Below w.heap.size w W
  kA : Blk W w.heap.size 23 (vb k)
  nA : Blk W (w.heap.size + 1) 25 (vb nonce)
  bA : Blk W (w.heap.size + 1 + 1) 58 (vb bs)
  sz : w.heap.size + 1 + 1 + 1 ≤ W.heap.size
theorem Xst.next {w W W' : World} {k nonce bs : List Nat} (s : Xst w W k nonce bs) (hb : Below (w.heap.size + 1 + 1 + 1) W W') : Xst w W' k nonce bs :=
  ⟨s.bel.trans (hb.mono (by omega)), s.kA.below hb (by omega), s.nA.below hb (by omega), s.bA.below hb (by omega), Nat.le_trans s.sz hb.size⟩
theorem Xst.row {w W : World} {k nonce bs : List Nat} (s : Xst w W k nonce bs) (cs : List Nat) : Xst w (W.setRow (w.heap.size + 1 + 1) (vb cs)) k nonce cs :=
  ⟨s.bel.trans (below_setRow _ _ _ (by omega)), (setRow_other _ _ _ _ (by omega)).trans s.kA, (setRow_other _ _ _ _ (by omega)).trans s.nA, setRow_heap _ _ _ _ _ (0, 0) s.bA, by have := s.sz; simp [World.setRow]; omega⟩
theorem Xst.begin (w : World) (k nonce : List Nat) : Xst w (((w.alloc (Obj.cells (vb k) 23)).alloc (Obj.cells (vb nonce) 25)).alloc (Obj.cells (vb z64) 58)) k nonce z64 :=
  ⟨(((Below.refl _ _).alloc (Nat.le_refl _) _).alloc (by simp) _).alloc (by simp; omega) _, ((Blk.new w _ _).alloc _).alloc _, (show Blk _ (w.heap.size + 1) _ _ from heap2 w _ _).alloc _, heap3 w _ _ _, by simp⟩
set_option maxRecDepth 100000 in
set_option maxHeartbeats 8000000 in
theorem xor_c (B : Nat) (A : Option Addr) (ca : Nat) (k nonce : List Nat) (n : Nat) (b : List Nat) (w : World) (hk : k.length = 32) (hkl : ∀ c ∈ k, c < 256) (hn : n < 4294967296) (hc : nonce.length = 12) (hcl : ∀ c ∈ nonce, c < 256)
    (hr : Rd w B A (byt b)) (hB : B ≤ w.heap.size) (hbl : ∀ c ∈ b, c < 256) (hlen : b.length ≤ 10000000) (hq : QuartersAt w) :
    Calls Tryd.prog 18 #[.agg (vb k), .agg (vb nonce), .int .u32 n, .slice A b.length ca] w (Gives (xorL k nonce n b) w) := by
  obtain ⟨i0, hi, hz0, hz1, hz2⟩ := info_parts byteInfo
  have zg := zero_64b
  have zt1 : (vb z64).size = 64 := by rfl
  have zt2 : ¬ vb z64 = #[] := by intro h; have := congrArg Array.size h; rw [zt1] at this; cases this
  have HQ := Lib.hid hq
  have HR := Lib.hid hr
  have HBL := Lib.hid hbl
  have HST := Lib.hid (fun m (hm : m < 4294967296) W (h : QuartersAt W) => block_c k m nonce W hk hkl hm hc hcl h)
  have HIK := Lib.hid (show (Tryd.prog.info? 23).map (·.size) = some (vb k).size by rw [show (vb k).size = k.length by simp [vb, byt], hk]; kernel_rfl)
  have HIN := Lib.hid (show (Tryd.prog.info? 25).map (·.size) = some (vb nonce).size by rw [show (vb nonce).size = nonce.length by simp [vb, byt], hc]; kernel_rfl)
  have HIB := Lib.hid (show ∀ us : List Nat, us.length = 64 → (Tryd.prog.info? 58).map (·.size) = some (vb us).size from fun us h => by rw [show (vb us).size = us.length by simp [vb, byt], h]; kernel_rfl)
  have HZB := Lib.hid (show ∀ us vs : List Nat, us.length = 64 → vs.length = 64 → (vb us).size = (vb vs).size from fun us vs h1 h2 => by simp [vb, byt, h1, h2])
  clear hkl hcl hq hr hbl hk hc
  go_enter Tryd.func18, Tryd.ntmps18
  go_upto_region 3 with (first
    | (refine Go.Great.wpList_boxTo rfl 23 (.tmp 0) rfl (some 4) rfl w.heap.size rfl (vb k) rfl ?_)
    | (refine Go.Great.wpList_boxTo rfl 25 (.tmp 1) rfl (some 5) rfl (w.heap.size + 1) (by simp) (vb nonce) rfl ?_))
  have hs0 := Xst.begin w k nonce
  generalize ((w.alloc (Obj.cells (vb k) 23)).alloc (Obj.cells (vb nonce) 25)).alloc (Obj.cells (vb z64) 58) = Z at *
  have HS := Lib.hid hs0
  clear hs0 zg zt1 zt2
  go_wp2_with fail
  go_loopw [2, 9, 15] (fun nv v i wr => ∃ (m : Nat) (bs : List Nat), m ≤ b.length ∧ i = .int .i64 m ∧ nv = .int .u32 (((n + (m + 63) / 64) % 4294967296 : Nat) : Int) ∧ Xst w wr k nonce bs ∧ bs.length = 64 ∧ (∀ c ∈ bs, c < 256) ∧ (m % 64 ≠ 0 → bs = blkL k ((n + m / 64) % 4294967296) nonce) ∧ OwnB wr (w.heap.size + 1 + 1 + 1) v ((List.range m).map (xorB k nonce n b))) (fun _ _ i _ => b.length - (intOf i).toNat)
  case atStart => exact ⟨0, z64, by omega, rfl, by rw [show (n + (0 + 63) / 64) % 4294967296 = n by omega], HS.out, rfl, by decide, fun h => absurd rfl h, OwnB.nil_ _ _⟩
  case round =>
    rename World => wr
    obtain ⟨m, bs, hm, rfl, rfl, hs, hb64, hbs, hbm, how⟩ := hrel
    have HT := Lib.hid hs
    have HOW := Lib.hid how
    have HBS := Lib.hid hbs
    have HL64 := Lib.hid hb64
    clear hs how hbs HS hb64
    by_cases hlt : m < b.length
    · have p1 : (m : Int) < (b.length : Int) := by omega
      obtain ⟨ad, rfl, _, d0⟩ := (HR.out.below (HT.out.bel.mono hB)).byte (k := m) hlt
      have HLT := Lib.hid (show ((List.range m).map (xorB k nonce n b)).length = m by simp)
      have HSN := Lib.hid (show (List.range (m + 1)).map (xorB k nonce n b) = (List.range m).map (xorB k nonce n b) ++ [xorB k nonce n b m] by rw [List.range_succ, List.map_append]; rfl)
      have hxb : xorB k nonce n b m = b.getD m 0 ^^^ (blkL k ((n + m / 64) % 4294967296) nonce).getD (m % 64) 0 := rfl
      have hbc := getD_lt HBL.out m
      have ba : bits BinOp.and .i64 (m : Int) 63 = ((m % 64 : Nat) : Int) := by rw [i64_and63]; omega
      obtain ⟨N, hN⟩ : ∃ N, N = (n + (m + 63) / 64) % 4294967296 := ⟨_, rfl⟩
      rw [← hN]
      have hN2 : N < 4294967296 := by omega
      generalize b.getD m 0 = c at *
      by_cases h0 : m % 64 = 0
      · have hN3 : (n + m / 64) % 4294967296 = N := by omega
        have bz : bits BinOp.and .i64 (m : Int) 63 = 0 := by rw [ba, h0]; rfl
        obtain ⟨N', hN'⟩ : ∃ N', N' = (n + (m + 1 + 63) / 64) % 4294967296 := ⟨_, rfl⟩
        have HNN := Lib.hid hN'
        have f0 : IntKind.u32.wrap ((N : Int) + 1) = (N' : Int) := by rw [wrap32]; omega
        rw [hN3, h0] at hxb
        have HCA := Lib.hid (HST.out N hN2)
        have hb64 := blkL_len k N nonce
        have HB2 := Lib.hid (blkL_lt k N nonce)
        have HBN := Lib.hid (show (m + 1) % 64 ≠ 0 → blkL k N nonce = blkL k ((n + (m + 1) / 64) % 4294967296) nonce from fun _ => by rw [show (n + (m + 1) / 64) % 4294967296 = N by omega])
        have HQW := Lib.hid (HQ.out.next HT.out.bel)
        clear hN hN3 hN' ba hbm
        generalize blkL k N nonce = bl at *
        have HB64 := Lib.hid hb64
        have x0 := getD_lt HB2.out 0
        have f1 : bits BinOp.xor .u8 (c : Int) ((bl.getD 0 0 : Nat) : Int) = ((c ^^^ bl.getD 0 0 : Nat) : Int) := u8_xor_nat _ _ hbc x0
        have HXB := Lib.hid hxb
        clear hxb hb64
        generalize xorB k nonce n b m = y at *
        rw [← HXB.out] at f1
        have HD0 := Lib.hid (fun W (h : Xst w W k nonce bl) => (h.bA.cell 0).trans (vb_at bl 0 (by rw [HB64.out]; decide)))
        generalize bl.getD 0 0 = x at *
        generalize (List.range m).map (xorB k nonce n b) = L at *
        go_upto_region 8 with (first
          | (refine wpList_load_row rfl 23 (.tmp 4) rfl w.heap.size rfl 23 (vb k) (0, 0) _ HT.out.kA Tryd.underlying23 rfl HIK.out ?_)
          | (refine wpList_load_row rfl 25 (.tmp 5) rfl (w.heap.size + 1) rfl 25 (vb nonce) (0, 0) _ HT.out.nA Tryd.underlying25 rfl HIN.out ?_)
          | (go_at_call 27; (refine (HCA.out _ HQW.out).mono ?_); rintro e W1 ⟨rfl, hb⟩; have HT1 := Lib.hid (HT.out.next (hb.mono HT.out.sz)); have HO1 := Lib.hid (HOW.out.next hb); clear hb)
          | (refine wpList_store_rowTo rfl 58 (.tmp 10) (.tmp 26) rfl rfl (w.heap.size + 1 + 1) (vb bl) rfl rfl 58 (vb bs) HT1.out.bA (HIB.out bl HB64.out) (HZB.out bs bl HL64.out HB64.out) (vb_one _) ?_))
        have HT2 := Lib.hid (HT1.out.row bl)
        have HO2 := Lib.hid (HO1.out.off (only_setRow W1 (w.heap.size + 1 + 1) (vb bl)) (fun k hk => by omega))
        generalize W1.setRow (w.heap.size + 1 + 1) (vb bl) = X at *
        have d1 := HD0.out X HT2.out
        clear HT1 HO1
        go_wp2_with (first
          | (refine wpList_valM rfl _ _ (run_one X y (.tmp 35) rfl rfl) ?_)
          | (at_builtin; refine wpList_app _ rfl (.tmp 29) (.tmp 36) _ rfl (w.heap.size + 1 + 1 + 1) 5 i0 (.int .u8 0) 1 1 Tryd.underlying26 hi hz0 hz1 hz2 rfl (by decide) _ L.length (byt L) rfl (HO2.out.alloc _) _ _ 1 1 [.int .u8 (y : Nat)] rfl rfl (by exact rd_one _ _ _) (byt_one [y]) (by rw [HLT.out]; omega) (by rw [HLT.out]; omega) (by have := HT2.out.sz; simp; omega) ?_; intro v5 w5 hap; have HO5 := Lib.hid (OwnB.snoc hap); have HT5 := Lib.hid (HT2.out.next (((Below.refl (w.heap.size + 1 + 1 + 1) X).alloc HT2.out.sz _).trans (hap.below (HO2.out.alloc _) (by have := HT2.out.sz; simp; omega)))); clear hap))
        go_roundw
        case rel => exact ⟨m + 1, bl, by omega, by go_num, by rw [← HNN.out], HT5.out, HB64.out, HB2.out, HBN.out, by rw [HSN.out]; exact HO5.out⟩
        case measure => simp only [intOf]; omega
      · have hbb := hbm h0
        have h0' : ¬ ((m % 64 : Nat) : Int) = 0 := by omega
        obtain ⟨r, hr⟩ : ∃ r, r = m % 64 := ⟨_, rfl⟩
        have hN3 : N = (n + (m + 1 + 63) / 64) % 4294967296 := by omega
        have HNN := Lib.hid hN3
        have HBN := Lib.hid (show (m + 1) % 64 ≠ 0 → bs = blkL k ((n + (m + 1) / 64) % 4294967296) nonce from fun _ => by rw [hbb, show (n + (m + 1) / 64) = n + m / 64 by omega])
        rw [← hbb, ← hr] at hxb
        rw [← hr] at ba h0'
        have hr2 : r < 64 := by omega
        have q1 : (r : Int) < 64 := by omega
        clear hN hN3 hbm hbb h0 hr
        have x0 := getD_lt HBS.out r
        have f1 : bits BinOp.xor .u8 (c : Int) ((bs.getD r 0 : Nat) : Int) = ((c ^^^ bs.getD r 0 : Nat) : Int) := u8_xor_nat _ _ hbc x0
        have HXB := Lib.hid hxb
        clear hxb
        generalize xorB k nonce n b m = y at *
        rw [← HXB.out] at f1
        have d1 := (HT.out.bA.cell r).trans (vb_at bs r (by rw [HL64.out]; exact hr2))
        generalize bs.getD r 0 = x at *
        generalize (List.range m).map (xorB k nonce n b) = L at *
        go_wp2_with (first
          | (refine wpList_valM rfl _ _ (run_one wr y (.tmp 35) rfl rfl) ?_)
          | (at_builtin; refine wpList_app _ rfl (.tmp 29) (.tmp 36) _ rfl (w.heap.size + 1 + 1 + 1) 5 i0 (.int .u8 0) 1 1 Tryd.underlying26 hi hz0 hz1 hz2 rfl (by decide) _ L.length (byt L) rfl (HOW.out.alloc _) _ _ 1 1 [.int .u8 (y : Nat)] rfl rfl (by exact rd_one _ _ _) (byt_one [y]) (by rw [HLT.out]; omega) (by rw [HLT.out]; omega) (by have := HT.out.sz; simp; omega) ?_; intro v5 w5 hap; have HO5 := Lib.hid (OwnB.snoc hap); have HT5 := Lib.hid (HT.out.next (((Below.refl (w.heap.size + 1 + 1 + 1) wr).alloc HT.out.sz _).trans (hap.below (HOW.out.alloc _) (by have := HT.out.sz; simp; omega)))); clear hap))
        go_roundw
        case rel => exact ⟨m + 1, bs, by omega, by go_num, by rw [← HNN.out], HT5.out, HL64.out, HBS.out, HBN.out, by rw [HSN.out]; exact HO5.out⟩
        case measure => simp only [intOf]; omega
    · obtain rfl : m = b.length := by omega
      go_wp2_with fail
      refine bodyPost_ret (results_tmp rfl _ _ _) rfl ?_
      exact ⟨_, rfl, own_base_le HOW.out (by omega), HT.out.bel⟩
end Go.Proofs.YtfblpkjablgafaaDoor
