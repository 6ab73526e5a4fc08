/- Parts, one behind the other: CaN Cb4 Cc0 Cc1 Cd0 CdM. -/
import Derived.Test.YtfnhmnbcponkfaaGreatDoorZ06
import Derived.Laws.Rows
import Derived.Laws.ResultCell
import Derived.Laws.Bits128
import Derived.BigQuiet
set_option maxRecDepth 100000
set_option linter.unusedVariables false
set_option linter.unusedSimpArgs false
set_option maxHeartbeats 8000000
namespace Go.Proofs.YtfnhmnbcponkfaaGreatDoor
open Go.RowKit
theorem block_c (k : List Nat) (n : Nat) (nonce : List Nat) (w : World) (hk : k.length = 32) (hkl : ∀ c ∈ k, c < 256) (hn : n < 4294967296) (hc : nonce.length = 12) (hcl : ∀ c ∈ nonce, c < 256) (hq : QuartersAt w) :
  Calls Tryz.prog 96 #[.agg (vb k), .int .u32 n, .agg (vb nonce)] w fun e w' => e = .returned (.agg (vb (blkL k n nonce))) ∧ Below w.heap.size w w' := by
 have zf := zero_16
 have zs1 : z16w.size = 16 := by rfl
 have zs2 : ¬ z16w = #[] := by intro h; have := congrArg Array.size h; rw [zs1] at this; cases this
 have zg := zero_64b
 have zt1 : (vb z64).size = 64 := by rfl
 have zt2 : ¬ vb z64 = #[] := by intro h; have := congrArg Array.size h; rw [zt1] at this; cases this
 have HQ := Li hq
 have HST := Li (fun W => start_c k n nonce W hk hkl hn hc hcl)
 have H16 := Li (startL_16 hkl hn hcl)
 have HBK := Li (show blkL k n nonce = (List.range 64).map (outB (rnds (startL k n nonce) 10) (startL k n nonce)) from rfl)
 have HIK := Li (show (Tryz.prog.info? 45).map (·.size) = some (vb k).size by rw [show (vb k).size = k.length by simp [vb, byt], hk]; kernel_rfl)
 have HIN := Li (show (Tryz.prog.info? 57).map (·.size) = some (vb nonce).size by rw [show (vb nonce).size = nonce.length by simp [vb, byt], hc]; kernel_rfl)
 have HIH := Li (show ∀ us : List Nat, us.length = 16 → (Tryz.prog.info? 179).map (·.size) = some (vw us).size from fun us h => by rw [vw_size, h]; kernel_rfl)
 have HZH := Li (show ∀ us : List Nat, us.length = 16 → z16w.size = (vw us).size from fun us h => by rw [vw_size, h]; rfl)
 clear hkl hcl hq
 generalize startL k n nonce = fr at *
 go_enter Tryz.func96, Tryz.ntmps96
 go_upto_region 1 with (first
  | (refine Go.Great.wpList_boxTo rfl 45 (.tmp 0) rfl (some 3) rfl w.heap.size rfl (vb k) rfl ?_)
  | (refine Go.Great.wpList_boxTo rfl 57 (.tmp 2) rfl (some 5) rfl (w.heap.size + 1) (by simp) (vb nonce) rfl ?_))
 obtain ⟨Z, hZ⟩ : ∃ Z, Z = ((w.alloc (Obj.cells (vb k) 45)).alloc (Obj.cells (vb nonce) 57)).alloc (Obj.cells (vb z64) 159) := ⟨_, rfl⟩
 have BK := Li (show Blk Z w.heap.size 45 (vb k) by rw [hZ]; exact ((Blk.new w _ _).alloc _).alloc _)
 have BN := Li (show Blk Z (w.heap.size + 1) 57 (vb nonce) by rw [hZ]; exact (show Blk _ (w.heap.size + 1) _ _ from heap2 w _ _).alloc _)
 have BR := Li (show Blk Z (w.heap.size + 1 + 1) 159 (vb z64) by rw [hZ]; exact heap3 w _ _ _)
 have BZ := Li (show Below w.heap.size w Z by rw [hZ]; exact (((jE _ _).alloc (jD _) _).alloc (by simp) _).alloc (by simp; omega) _)
 rw [← hZ]
 clear hZ
 go_upto_region 2 with (first
  | (refine wpList_load_row rfl 45 (.tmp 3) rfl w.heap.size rfl 45 (vb k) (0, 0) _ BK.out Tryz.underlying45 rfl HIK.out ?_)
  | (refine wpList_load_row rfl 57 (.tmp 5) rfl (w.heap.size + 1) rfl 57 (vb nonce) (0, 0) _ BN.out Tryz.underlying57 rfl HIN.out ?_)
  | (go_at_call 116; (refine (HST.out _).mono ?_); rintro e W1 ⟨rfl, hb⟩; have HB1 := Li hb; clear hb)
  | (refine wpList_store_rowTo rfl 179 (.tmp 7) (.tmp 16) rfl rfl W1.heap.size (vw fr) rfl rfl 179 z16w (by exact Blk.new W1 _ _) (HIH.out fr H16.out.len) (HZH.out fr H16.out.len) (vw_one _) ?_))
 obtain ⟨X, hX⟩ : ∃ X, X = (W1.alloc (Obj.cells z16w 179)).setRow W1.heap.size (vw fr) := ⟨_, rfl⟩
 have hnr := new_row W1 179 z16w (vw fr)
 rw [← hX] at hnr ⊢
 have BF := Li hnr.1
 have BX := Li (BZ.out.trans ((HB1.out.trans (hnr.2.mono HB1.out.size)).mono BZ.out.size))
 have BR2 := Li ((BR.out.below HB1.out BR.out.lt).below hnr.2 (BR.out.below HB1.out BR.out.lt).lt)
 have hg : w.heap.size + 1 + 1 < W1.heap.size := jH BR.out.lt HB1.out.size
 clear hX hnr BK BN BR BZ HB1
 obtain ⟨gR, hgR⟩ : ∃ g, g = w.heap.size + 1 + 1 := ⟨_, rfl⟩
 have hr0 : w.heap.size ≤ gR := by omega
 rw [← hgR] at hg BR2 ⊢
 generalize W1.heap.size = gF at *
 go_upto_region 3 with (first
  | (refine wpList_load_row rfl 179 (.tmp 7) rfl gF rfl 179 (vw fr) (0, 0) _ BF.out Tryz.underlying179 rfl (HIH.out fr H16.out.len) ?_)
  | (refine wpList_store_rowTo rfl 179 (.tmp 8) (.tmp 17) rfl rfl X.heap.size (vw fr) rfl rfl 179 z16w (by exact Blk.new X _ _) (HIH.out fr H16.out.len) (HZH.out fr H16.out.len) (vw_one _) ?_))
 obtain ⟨Y, hY⟩ : ∃ Y, Y = (X.alloc (Obj.cells z16w 179)).setRow X.heap.size (vw fr) := ⟨_, rfl⟩
 have hnr := new_row X 179 z16w (vw fr)
 rw [← hY] at hnr ⊢
 have HS := Li (show Bst w Y gR gF X.heap.size fr (rnds fr 0) from ⟨BX.out.trans (hnr.2.mono BX.out.size), BR2.out.below hnr.2 BR2.out.lt, BF.out.below hnr.2 BF.out.lt, hnr.1, by have := BR2.out.lt; omega, by have := BF.out.lt; omega, BX.out.size⟩)
 have hgFR : gR ≠ gF := by omega
 clear hY hnr BX BR2 BF hg
 generalize X.heap.size = gW at *
 clear X
 go_wp2_with fail
 have zh := zero_4
 have zu1 : z4.size = 4 := by rfl
 have zu2 : ¬ z4 = #[] := by intro h; have := congrArg Array.size h; rw [zu1] at this; cases this
 go_loopw [18] (fun i wr => ∃ m : Nat, m ≤ 10 ∧ i = .int .i64 m ∧ Bst w wr gR gF gW fr (rnds fr m)) (fun i _ => 10 - (intOf i).toNat)
 case atStart => exact ⟨0, by omega, rfl, HS.out⟩
 case round =>
  rename World => wr
  obtain ⟨m, hm, rfl, hs⟩ := hrel
  have HT := Li hs
  clear hs HS
  by_cases hlt : m < 10
  ·have p1 : (m : Int) < 10 := by omega
   have HQR := Li (HT.out.quarters HQ.out).1
   have HNX := Li (show rnds fr (m + 1) = qrt (rnds fr m) 8 from rfl)
   have HW := Li (H16.out.rnds m)
   generalize rnds fr m = us at *
   go_wp2_with (refine wpList_loadG (by kernel_rfl) 182 (.global 0) rfl 0 0 rfl qcells.toList _ HQR.out Tryz.underlying182 rfl qcells_info ?_; rw [qcells_arr])
   go_loopw [21] (fun i wr => ∃ j : Nat, j ≤ 8 ∧ i = .int .i64 j ∧ Bst w wr gR gF gW fr (qrt us j)) (fun i _ => 8 - (intOf i).toNat)
   case atStart => exact ⟨0, by omega, rfl, HT.out⟩
   case round =>
    rename World => wr
    obtain ⟨j, hj, rfl, hs⟩ := hrel
    have HT := Li hs
    clear hs
    by_cases hlt : j < 8
    ·have p2 : (j : Int) < 8 := by omega
     have hidx := run_index_q j hlt
     have HQL := Li (qs_len j hlt)
     have HNQ := Li (show qrt us (j + 1) = qtrL (qrt us j) (qs.getD j []) from rfl)
     have HQC := Li (fun W (hB : Blk W gW 179 (vw (qrt us j))) => quarter_c gW (qs.getD j []) (qrt us j) W (qs_len j hlt) (qs_lt j hlt) (HW.out.qrt j (by omega)) hB)
     generalize qs.getD j [] = q at *
     generalize qrt us j = vs at *
     have hnr := new_row wr 181 z4 (pV q)
     have HS2 := Li (HT.out.next hnr.2)
     have HQB := Li hnr.1
     clear hnr
     go_upto_region 8 with (first
      | (refine wpList_store_rowTo rfl 181 (.tmp 10) (.tmp 23) rfl rfl wr.heap.size (pV q) rfl rfl 181 z4 (by exact Blk.new wr _ _) (pV_info q HQL.out) (pV_z4 q HQL.out) (pV_one _) ?_))
     obtain ⟨X, hX⟩ : ∃ X, X = (wr.alloc (Obj.cells z4 181)).setRow wr.heap.size (pV q) := ⟨_, rfl⟩
     rw [← hX] at HS2 HQB ⊢
     clear hX
     generalize wr.heap.size = gQ at *
     go_wp2_with (first
      | (refine wpList_load_row rfl 181 (.tmp 10) rfl gQ rfl 181 (pV q) (0, 0) _ HQB.out Tryz.underlying181 rfl (pV_info q HQL.out) ?_)
      | (go_at_call 117; (refine (HQC.out _ HS2.out.wA).mono ?_); rintro e W2 ⟨rfl, hv, hgr⟩; have HS3 := Li (HS2.out.grown hgr hv); clear hv hgr))
     exact ⟨⟨j + 1, by omega, by go_num, by rw [HNQ.out]; exact HS3.out⟩, by simp only [intOf]; omega⟩
    ·obtain rfl : j = 8 := by omega
     go_wp2_with fail
     exact ⟨⟨m + 1, by omega, by go_num, by rw [HNX.out]; exact HT.out⟩, by simp only [intOf]; omega⟩
  ·obtain rfl : m = 10 := by omega
   rw [show ((10 : Nat) : Int) = 10 from rfl]
   have HW := Li (H16.out.rnds 10)
   generalize rnds fr 10 = us at *
   clear zh zu1 zu2 HQ
   go_upto_region 12 with fail
   have HO := Li HT.out.out
   clear HT
   generalize wr.alloc (Obj.cells (vb z64) 159) = Y at *
   generalize wr.heap.size = gO at *
   clear zg zt1 zt2 zf zs1 zs2
   go_wp2_with fail
   go_loopw [12, 28] (fun u i wr => ∃ m : Nat, m ≤ 64 ∧ i = .int .i64 m ∧ Bo w wr gR gF gW gO fr us (mapZ (outB us fr) 64 m)) (fun _ i _ => 64 - (intOf i).toNat)
   case atStart => exact ⟨0, by omega, rfl, HO.out⟩
   case round =>
    rename World => wr
    obtain ⟨m, hm, rfl, hs⟩ := hrel
    have HT := Li hs
    clear hs HO
    by_cases hlt : m < 64
    ·have p1 : (m : Int) < 64 := by omega
     obtain ⟨q, hq⟩ : ∃ q, q = m / 4 := ⟨_, rfl⟩
     have e4 : (m : Int) / 4 = (q : Int) := by omega
     have p2 : (q : Int) < 16 := by omega
     have d0 := (HT.out.st.wA.cell q).trans (vw_at us q (by rw [HW.out.len]; omega))
     have d1 := (HT.out.st.fA.cell q).trans (vw_at fr q (by rw [H16.out.len]; omega))
     have d2 := (HT.out.oA.cell m).trans (vb_at _ m (by rw [mapZ_len _ _ _ hm]; exact hlt))
     have e2 := HT.out.oA.free m
     have x0 := HW.out.lt q
     have x1 := H16.out.lt q
     have HST := Li (mapZ_set (outB us fr) 64 m hlt)
     have HSS := Li (fun c : Nat => HT.out.set m c)
     have hob : outB us fr m = (us.getD q 0 + fr.getD q 0) % 4294967296 / 256 ^ (m % 4) % 256 := by rw [hq]; rfl
     obtain ⟨s, hs⟩ : ∃ s, s = (us.getD q 0 + fr.getD q 0) % 4294967296 := ⟨_, rfl⟩
     have f0 : IntKind.u32.wrap (((us.getD q 0 : Nat) : Int) + ((fr.getD q 0 : Nat) : Int)) = (s : Int) := by rw [wrap32]; omega
     rw [← hs] at hob
     have cu : IntKind.u64.wrap (m : Int) = (m : Int) := by simp [IntKind.wrap, IntKind.signed, IntKind.bits]; omega
     clear hs
     generalize us.getD q 0 = a at *
     generalize fr.getD q 0 = b at *
     have h4 : m % 4 = 0 ∨ m % 4 = 1 ∨ m % 4 = 2 ∨ m % 4 = 3 := by omega
     rcases h4 with h4 | h4 | h4 | h4
     ·have ba : bits BinOp.and .u64 (m : Int) 3 = 0 := by
       rw [show (3 : Int) = ((3 : Nat) : Int) from rfl, u64_and_nat _ _ (by omega) (by omega), show m &&& 3 = m % 4 from Nat.and_two_pow_sub_one_eq_mod m 2, h4]; try rfl
      obtain ⟨c, hc⟩ : ∃ c, c = s / 1 % 256 := ⟨_, rfl⟩
      obtain ⟨x, hx⟩ : ∃ x, x = s / 1 := ⟨_, rfl⟩
      have f1 : (s : Int) / 1 = (x : Int) := by omega
      have f2 : IntKind.u8.wrap (x : Int) = (c : Int) := by rw [show IntKind.u8.wrap (x : Int) = (x : Int) % 256 by simp [IntKind.wrap, IntKind.signed, IntKind.bits]]; omega
      have f3 : (x : Int) % 256 = (c : Int) := by omega
      have f4 : IntKind.u8.wrap (s : Int) = (c : Int) := by rw [show IntKind.u8.wrap (s : Int) = (s : Int) % 256 by simp [IntKind.wrap, IntKind.signed, IntKind.bits]]; omega
      have f5 : (s : Int) % 256 = (c : Int) := by omega
      have HOB := Li (show outB us fr m = c by rw [hob, h4, hc])
      clear hc hx hq h4 hob
      go_wp2_with fail
      go_still_tail 17, (by kernel_rfl)
      go_wp2_with fail
      have HS3 := Li (HSS.out c)
      go_roundw
      case rel => exact ⟨m + 1, by omega, by go_num, by rw [← HST.out, HOB.out]; exact HS3.out⟩
      case measure => simp only [intOf]; omega
     ·have ba : bits BinOp.and .u64 (m : Int) 3 = 1 := by
       rw [show (3 : Int) = ((3 : Nat) : Int) from rfl, u64_and_nat _ _ (by omega) (by omega), show m &&& 3 = m % 4 from Nat.and_two_pow_sub_one_eq_mod m 2, h4]; try rfl
      obtain ⟨c, hc⟩ : ∃ c, c = s / 256 % 256 := ⟨_, rfl⟩
      obtain ⟨x, hx⟩ : ∃ x, x = s / 256 := ⟨_, rfl⟩
      have f1 : (s : Int) / 256 = (x : Int) := by omega
      have f2 : IntKind.u8.wrap (x : Int) = (c : Int) := by rw [show IntKind.u8.wrap (x : Int) = (x : Int) % 256 by simp [IntKind.wrap, IntKind.signed, IntKind.bits]]; omega
      have f3 : (x : Int) % 256 = (c : Int) := by omega
      skip
      skip
      have HOB := Li (show outB us fr m = c by rw [hob, h4, hc])
      clear hc hx hq h4 hob
      go_wp2_with fail
      go_still_tail 17, (by kernel_rfl)
      go_wp2_with fail
      have HS3 := Li (HSS.out c)
      go_roundw
      case rel => exact ⟨m + 1, by omega, by go_num, by rw [← HST.out, HOB.out]; exact HS3.out⟩
      case measure => simp only [intOf]; omega
     ·have ba : bits BinOp.and .u64 (m : Int) 3 = 2 := by
       rw [show (3 : Int) = ((3 : Nat) : Int) from rfl, u64_and_nat _ _ (by omega) (by omega), show m &&& 3 = m % 4 from Nat.and_two_pow_sub_one_eq_mod m 2, h4]; try rfl
      obtain ⟨c, hc⟩ : ∃ c, c = s / 65536 % 256 := ⟨_, rfl⟩
      obtain ⟨x, hx⟩ : ∃ x, x = s / 65536 := ⟨_, rfl⟩
      have f1 : (s : Int) / 65536 = (x : Int) := by omega
      have f2 : IntKind.u8.wrap (x : Int) = (c : Int) := by rw [show IntKind.u8.wrap (x : Int) = (x : Int) % 256 by simp [IntKind.wrap, IntKind.signed, IntKind.bits]]; omega
      have f3 : (x : Int) % 256 = (c : Int) := by omega
      skip
      skip
      have HOB := Li (show outB us fr m = c by rw [hob, h4, hc])
      clear hc hx hq h4 hob
      go_wp2_with fail
      go_still_tail 17, (by kernel_rfl)
      go_wp2_with fail
      have HS3 := Li (HSS.out c)
      go_roundw
      case rel => exact ⟨m + 1, by omega, by go_num, by rw [← HST.out, HOB.out]; exact HS3.out⟩
      case measure => simp only [intOf]; omega
     ·have ba : bits BinOp.and .u64 (m : Int) 3 = 3 := by
       rw [show (3 : Int) = ((3 : Nat) : Int) from rfl, u64_and_nat _ _ (by omega) (by omega), show m &&& 3 = m % 4 from Nat.and_two_pow_sub_one_eq_mod m 2, h4]; try rfl
      obtain ⟨c, hc⟩ : ∃ c, c = s / 16777216 % 256 := ⟨_, rfl⟩
      obtain ⟨x, hx⟩ : ∃ x, x = s / 16777216 := ⟨_, rfl⟩
      have f1 : (s : Int) / 16777216 = (x : Int) := by omega
      have f2 : IntKind.u8.wrap (x : Int) = (c : Int) := by rw [show IntKind.u8.wrap (x : Int) = (x : Int) % 256 by simp [IntKind.wrap, IntKind.signed, IntKind.bits]]; omega
      have f3 : (x : Int) % 256 = (c : Int) := by omega
      skip
      skip
      have HOB := Li (show outB us fr m = c by rw [hob, h4, hc])
      clear hc hx hq h4 hob
      go_wp2_with fail
      go_still_tail 17, (by kernel_rfl)
      go_wp2_with fail
      have HS3 := Li (HSS.out c)
      go_roundw
      case rel => exact ⟨m + 1, by omega, by go_num, by rw [← HST.out, HOB.out]; exact HS3.out⟩
      case measure => simp only [intOf]; omega
    ·obtain rfl : m = 64 := by omega
     rw [mapZ_end, ← HBK.out] at HT
     have HBL := Li (blkL_len k n nonce)
     have HIB := Li (show (Tryz.prog.info? 159).map (·.size) = some (vb (blkL k n nonce)).size by rw [show (vb (blkL k n nonce)).size = (blkL k n nonce).length by simp [vb, byt], blkL_len]; kernel_rfl)
     have HZB := Li (show (vb z64).size = (vb (blkL k n nonce)).size by rw [show (vb (blkL k n nonce)).size = (blkL k n nonce).length by simp [vb, byt], blkL_len]; rfl)
     have HE := Li HT.out
     clear HT
     obtain ⟨bl, hbl⟩ : ∃ bl, bl = blkL k n nonce := ⟨_, rfl⟩
     have HBB := Li hbl
     rw [← hbl] at HIB HZB HE
     clear hbl
     subst hgR
     go_wp2_with (first
      | (refine wpList_load_row rfl 159 (.tmp 11) rfl gO rfl 159 (vb bl) (0, 0) _ HE.out.oA Tryz.underlying159 rfl HIB.out ?_)
      | (refine wpList_store_rowTo rfl 159 (.tmp 6) (.tmp 49) rfl rfl (w.heap.size + 1 + 1) (vb bl) rfl rfl 159 (vb z64) HE.out.st.rA HIB.out HZB.out (vb_one _) ?_))
     (try simp only [Exit.inBlock, Exit.then])
     refine bodyPost_ret (results_cell_row rfl _ _ (w.heap.size + 1 + 1) 159 (vb bl) (0, 0) _ rfl (setRow_heap wr (w.heap.size + 1 + 1) (vb z64) _ 159 (0, 0) HE.out.st.rA) Tryz.underlying159 rfl HIB.out) rfl ?_
     exact ⟨by rw [HBB.out], HE.out.st.bel.trans (below_setRow _ _ _ hr0)⟩
theorem i64_and63 (n : Int) : bits .and .i64 n 63 = n % 64 := by
 have h63 : (BitVec.ofInt 64 63).toNat = 2 ^ 6 - 1 := by decide
 have key : (BitVec.ofInt 64 n &&& BitVec.ofInt 64 63).toNat = (n % ((2 ^ 64 : Nat) : Int)).toNat % 2 ^ 6 := by
  rw [BitVec.toNat_and, BitVec.toNat_ofInt, h63, Nat.and_two_pow_sub_one_eq_mod]
 show IntKind.i64.wrap ((BitVec.ofInt 64 n &&& BitVec.ofInt 64 63).toNat : Nat) = n % 64
 rw [key, IntKind.wrap_i64]
 omega
def xorB (k nonce : List Nat) (n : Nat) (b : List Nat) (i : Nat) : Nat := b.getD i 0 ^^^ (blkL k ((n + i / 64) % 4294967296) nonce).getD (i % 64) 0
def xorL (k nonce : List Nat) (n : Nat) (b : List Nat) : List Nat := (List.range b.length).map (xorB k nonce n b)
theorem xorL_len (k nonce : List Nat) (n : Nat) (b : List Nat) : (xorL k nonce n b).length = b.length := by simp [xorL]
theorem xorL_lt (k nonce : List Nat) (n : Nat) {b : List Nat} (hb : ∀ c ∈ b, c < 256) : ∀ c ∈ xorL k nonce n b, c < 256 := fun c hc => by
 obtain ⟨i, _, rfl⟩ := List.mem_map.1 hc
 exact Nat.xor_lt_two_pow (n := 8) (getD_lt hb i) (getD_lt (blkL_lt _ _ _) _)
theorem OwnB.off {w w' : World} {base : Nat} {v : Value} {l : List Nat} {S : Nat → Prop} (h : OwnB w base v l) (ho : Only S w w') (hS : ∀ k, S k → k < base) : OwnB w' base v l :=
 own_keep h ho (fun g hg hs => by
  rcases h.2 with ⟨h1, h2⟩ | ⟨g', cap, cur, h1, hb, _⟩
  ·rw [h1] at hg; cases hg
  ·rw [h1] at hg
   have e : g' = g := by simpa [Value.ownBlock] using hg
   have := hS g hs
   omega)
theorem only_setRow (w : World) (g : Nat) (cs : Array Value) : Only (fun k => k = g) w (w.setRow g cs) := ⟨rfl, rfl, rfl, by simp [World.setRow], fun i hi hn => setRow_other _ _ i _ hn⟩
structure Xst (w W : World) (k nonce bs : List Nat) : Prop where
 bel : Below w.heap.size w W
 kA : Blk W w.heap.size 45 (vb k)
 nA : Blk W (w.heap.size + 1) 57 (vb nonce)
 bA : Blk W (w.heap.size + 1 + 1) 159 (vb bs)
 sz : w.heap.size + 1 + 1 + 1 ≤ W.heap.size
theorem Xst.next {w W W' : World} {k nonce bs : List Nat} (s : Xst w W k nonce bs) (hb : Below (w.heap.size + 1 + 1 + 1) W W') : Xst w W' k nonce bs :=
 ⟨s.bel.trans (hb.mono (by omega)), s.kA.below hb (by omega), s.nA.below hb (by omega), s.bA.below hb (by omega), Nat.le_trans s.sz hb.size⟩
theorem Xst.row {w W : World} {k nonce bs : List Nat} (s : Xst w W k nonce bs) (cs : List Nat) : Xst w (W.setRow (w.heap.size + 1 + 1) (vb cs)) k nonce cs :=
 ⟨s.bel.trans (below_setRow _ _ _ (by omega)), (setRow_other _ _ _ _ (by omega)).trans s.kA, (setRow_other _ _ _ _ (by omega)).trans s.nA, setRow_heap _ _ _ _ _ (0, 0) s.bA, by have := s.sz; simp [World.setRow]; omega⟩
theorem Xst.begin (w : World) (k nonce : List Nat) : Xst w (((w.alloc (Obj.cells (vb k) 45)).alloc (Obj.cells (vb nonce) 57)).alloc (Obj.cells (vb z64) 159)) k nonce z64 :=
 ⟨(((jE _ _).alloc (jD _) _).alloc (by simp) _).alloc (by simp; omega) _, ((Blk.new w _ _).alloc _).alloc _, (show Blk _ (w.heap.size + 1) _ _ from heap2 w _ _).alloc _, heap3 w _ _ _, by simp⟩
theorem xor_c (B : Nat) (A : Option Addr) (ca : Nat) (k nonce : List Nat) (n : Nat) (b : List Nat) (w : World) (hk : k.length = 32) (hkl : ∀ c ∈ k, c < 256) (hn : n < 4294967296) (hc : nonce.length = 12) (hcl : ∀ c ∈ nonce, c < 256)
  (hr : Rd w B A (byt b)) (hB : B ≤ w.heap.size) (hbl : ∀ c ∈ b, c < 256) (hlen : b.length ≤ 10000000) (hq : QuartersAt w) :
  Calls Tryz.prog 72 #[.agg (vb k), .agg (vb nonce), .int .u32 n, .slice A b.length ca] w (Gives (xorL k nonce n b) w) := by
 obtain ⟨i0, hi, hz0, hz1, hz2⟩ := info_parts byteInfo
 have zg := zero_64b
 have zt1 : (vb z64).size = 64 := by rfl
 have zt2 : ¬ vb z64 = #[] := by intro h; have := congrArg Array.size h; rw [zt1] at this; cases this
 have HQ := Li hq
 have HR := Li hr
 have HBL := Li hbl
 have HST := Li (fun m (hm : m < 4294967296) W (h : QuartersAt W) => block_c k m nonce W hk hkl hm hc hcl h)
 have HIK := Li (show (Tryz.prog.info? 45).map (·.size) = some (vb k).size by rw [show (vb k).size = k.length by simp [vb, byt], hk]; kernel_rfl)
 have HIN := Li (show (Tryz.prog.info? 57).map (·.size) = some (vb nonce).size by rw [show (vb nonce).size = nonce.length by simp [vb, byt], hc]; kernel_rfl)
 have HIB := Li (show ∀ us : List Nat, us.length = 64 → (Tryz.prog.info? 159).map (·.size) = some (vb us).size from fun us h => by rw [show (vb us).size = us.length by simp [vb, byt], h]; kernel_rfl)
 have HZB := Li (show ∀ us vs : List Nat, us.length = 64 → vs.length = 64 → (vb us).size = (vb vs).size from fun us vs h1 h2 => by simp [vb, byt, h1, h2])
 clear hkl hcl hq hr hbl hk hc
 go_enter Tryz.func72, Tryz.ntmps72
 go_upto_region 3 with (first
  | (refine Go.Great.wpList_boxTo rfl 45 (.tmp 0) rfl (some 4) rfl w.heap.size rfl (vb k) rfl ?_)
  | (refine Go.Great.wpList_boxTo rfl 57 (.tmp 1) rfl (some 5) rfl (w.heap.size + 1) (by simp) (vb nonce) rfl ?_))
 have hs0 := Xst.begin w k nonce
 generalize ((w.alloc (Obj.cells (vb k) 45)).alloc (Obj.cells (vb nonce) 57)).alloc (Obj.cells (vb z64) 159) = Z at *
 have HS := Li hs0
 clear hs0 zg zt1 zt2
 go_wp2_with fail
 go_loopw [2, 9, 15] (fun nv v i wr => ∃ (m : Nat) (bs : List Nat), m ≤ b.length ∧ i = .int .i64 m ∧ nv = .int .u32 (((n + (m + 63) / 64) % 4294967296 : Nat) : Int) ∧ Xst w wr k nonce bs ∧ bs.length = 64 ∧ (∀ c ∈ bs, c < 256) ∧ (m % 64 ≠ 0 → bs = blkL k ((n + m / 64) % 4294967296) nonce) ∧ OwnB wr (w.heap.size + 1 + 1 + 1) v ((List.range m).map (xorB k nonce n b))) (fun _ _ i _ => b.length - (intOf i).toNat)
 case atStart => exact ⟨0, z64, by omega, rfl, by rw [show (n + (0 + 63) / 64) % 4294967296 = n by omega], HS.out, rfl, by decide, fun h => absurd rfl h, OwnB.nil_ _ _⟩
 case round =>
  rename World => wr
  obtain ⟨m, bs, hm, rfl, rfl, hs, hb64, hbs, hbm, how⟩ := hrel
  have HT := Li hs
  have HOW := Li how
  have HBS := Li hbs
  have HL64 := Li hb64
  clear hs how hbs HS hb64
  by_cases hlt : m < b.length
  ·have p1 : (m : Int) < (b.length : Int) := by omega
   obtain ⟨ad, rfl, _, d0⟩ := (HR.out.below (HT.out.bel.mono hB)).byte (k := m) hlt
   have HLT := Li (show ((List.range m).map (xorB k nonce n b)).length = m by simp)
   have HSN := Li (show (List.range (m + 1)).map (xorB k nonce n b) = (List.range m).map (xorB k nonce n b) ++ [xorB k nonce n b m] by rw [List.range_succ, List.map_append]; rfl)
   have hxb : xorB k nonce n b m = b.getD m 0 ^^^ (blkL k ((n + m / 64) % 4294967296) nonce).getD (m % 64) 0 := rfl
   have hbc := getD_lt HBL.out m
   have ba : bits BinOp.and .i64 (m : Int) 63 = ((m % 64 : Nat) : Int) := by rw [i64_and63]; omega
   obtain ⟨N, hN⟩ : ∃ N, N = (n + (m + 63) / 64) % 4294967296 := ⟨_, rfl⟩
   rw [← hN]
   have hN2 : N < 4294967296 := by omega
   generalize b.getD m 0 = c at *
   by_cases h0 : m % 64 = 0
   ·have hN3 : (n + m / 64) % 4294967296 = N := by omega
    have bz : bits BinOp.and .i64 (m : Int) 63 = 0 := by rw [ba, h0]; rfl
    obtain ⟨N', hN'⟩ : ∃ N', N' = (n + (m + 1 + 63) / 64) % 4294967296 := ⟨_, rfl⟩
    have HNN := Li hN'
    have f0 : IntKind.u32.wrap ((N : Int) + 1) = (N' : Int) := by rw [wrap32]; omega
    rw [hN3, h0] at hxb
    have HCA := Li (HST.out N hN2)
    have hb64 := blkL_len k N nonce
    have HB2 := Li (blkL_lt k N nonce)
    have HBN := Li (show (m + 1) % 64 ≠ 0 → blkL k N nonce = blkL k ((n + (m + 1) / 64) % 4294967296) nonce from fun _ => by rw [show (n + (m + 1) / 64) % 4294967296 = N by omega])
    have HQW := Li (HQ.out.next HT.out.bel)
    clear hN hN3 hN' ba hbm
    generalize blkL k N nonce = bl at *
    have HB64 := Li hb64
    have x0 := getD_lt HB2.out 0
    have f1 : bits BinOp.xor .u8 (c : Int) ((bl.getD 0 0 : Nat) : Int) = ((c ^^^ bl.getD 0 0 : Nat) : Int) := u8_xor_nat _ _ hbc x0
    have HXB := Li hxb
    clear hxb hb64
    generalize xorB k nonce n b m = y at *
    rw [← HXB.out] at f1
    have HD0 := Li (fun W (h : Xst w W k nonce bl) => (h.bA.cell 0).trans (vb_at bl 0 (by rw [HB64.out]; decide)))
    generalize bl.getD 0 0 = x at *
    generalize (List.range m).map (xorB k nonce n b) = L at *
    go_upto_region 8 with (first
     | (refine wpList_load_row rfl 45 (.tmp 4) rfl w.heap.size rfl 45 (vb k) (0, 0) _ HT.out.kA Tryz.underlying45 rfl HIK.out ?_)
     | (refine wpList_load_row rfl 57 (.tmp 5) rfl (w.heap.size + 1) rfl 57 (vb nonce) (0, 0) _ HT.out.nA Tryz.underlying57 rfl HIN.out ?_)
     | (go_at_call 96; (refine (HCA.out _ HQW.out).mono ?_); rintro e W1 ⟨rfl, hb⟩; have HT1 := Li (HT.out.next (hb.mono HT.out.sz)); have HO1 := Li (HOW.out.next hb); clear hb)
     | (refine wpList_store_rowTo rfl 159 (.tmp 10) (.tmp 26) rfl rfl (w.heap.size + 1 + 1) (vb bl) rfl rfl 159 (vb bs) HT1.out.bA (HIB.out bl HB64.out) (HZB.out bs bl HL64.out HB64.out) (vb_one _) ?_))
    have HT2 := Li (HT1.out.row bl)
    have HO2 := Li (HO1.out.off (only_setRow W1 (w.heap.size + 1 + 1) (vb bl)) (fun k hk => by omega))
    generalize W1.setRow (w.heap.size + 1 + 1) (vb bl) = X at *
    have d1 := HD0.out X HT2.out
    clear HT1 HO1
    go_wp2_with (first
     | (refine wpList_valM rfl _ _ (run_one X y (.tmp 35) rfl rfl) ?_)
     | (at_builtin; refine wpList_app _ rfl (.tmp 29) (.tmp 36) _ rfl (w.heap.size + 1 + 1 + 1) 5 i0 (.int .u8 0) 1 1 Tryz.underlying23 hi hz0 hz1 hz2 rfl (by decide) _ L.length (byt L) rfl (HO2.out.alloc _) _ _ 1 1 [.int .u8 (y : Nat)] rfl rfl (by exact rd_one _ _ _) (byt_one [y]) (by rw [HLT.out]; omega) (by rw [HLT.out]; omega) (by have := HT2.out.sz; simp; omega) ?_; intro v5 w5 hap; have HO5 := Li (OwnB.snoc hap); have HT5 := Li (HT2.out.next (((jE (w.heap.size + 1 + 1 + 1) X).alloc HT2.out.sz _).trans (hap.below (HO2.out.alloc _) (by have := HT2.out.sz; simp; omega)))); clear hap))
    go_roundw
    case rel => exact ⟨m + 1, bl, by omega, by go_num, by rw [← HNN.out], HT5.out, HB64.out, HB2.out, HBN.out, by rw [HSN.out]; exact HO5.out⟩
    case measure => simp only [intOf]; omega
   ·have hbb := hbm h0
    have h0' : ¬ ((m % 64 : Nat) : Int) = 0 := by omega
    obtain ⟨r, hr⟩ : ∃ r, r = m % 64 := ⟨_, rfl⟩
    have hN3 : N = (n + (m + 1 + 63) / 64) % 4294967296 := by omega
    have HNN := Li hN3
    have HBN := Li (show (m + 1) % 64 ≠ 0 → bs = blkL k ((n + (m + 1) / 64) % 4294967296) nonce from fun _ => by rw [hbb, show (n + (m + 1) / 64) = n + m / 64 by omega])
    rw [← hbb, ← hr] at hxb
    rw [← hr] at ba h0'
    have hr2 : r < 64 := by omega
    have q1 : (r : Int) < 64 := by omega
    clear hN hN3 hbm hbb h0 hr
    have x0 := getD_lt HBS.out r
    have f1 : bits BinOp.xor .u8 (c : Int) ((bs.getD r 0 : Nat) : Int) = ((c ^^^ bs.getD r 0 : Nat) : Int) := u8_xor_nat _ _ hbc x0
    have HXB := Li hxb
    clear hxb
    generalize xorB k nonce n b m = y at *
    rw [← HXB.out] at f1
    have d1 := (HT.out.bA.cell r).trans (vb_at bs r (by rw [HL64.out]; exact hr2))
    generalize bs.getD r 0 = x at *
    generalize (List.range m).map (xorB k nonce n b) = L at *
    go_wp2_with (first
     | (refine wpList_valM rfl _ _ (run_one wr y (.tmp 35) rfl rfl) ?_)
     | (at_builtin; refine wpList_app _ rfl (.tmp 29) (.tmp 36) _ rfl (w.heap.size + 1 + 1 + 1) 5 i0 (.int .u8 0) 1 1 Tryz.underlying23 hi hz0 hz1 hz2 rfl (by decide) _ L.length (byt L) rfl (HOW.out.alloc _) _ _ 1 1 [.int .u8 (y : Nat)] rfl rfl (by exact rd_one _ _ _) (byt_one [y]) (by rw [HLT.out]; omega) (by rw [HLT.out]; omega) (by have := HT.out.sz; simp; omega) ?_; intro v5 w5 hap; have HO5 := Li (OwnB.snoc hap); have HT5 := Li (HT.out.next (((jE (w.heap.size + 1 + 1 + 1) wr).alloc HT.out.sz _).trans (hap.below (HOW.out.alloc _) (by have := HT.out.sz; simp; omega)))); clear hap))
    go_roundw
    case rel => exact ⟨m + 1, bs, by omega, by go_num, by rw [← HNN.out], HT5.out, HL64.out, HBS.out, HBN.out, by rw [HSN.out]; exact HO5.out⟩
    case measure => simp only [intOf]; omega
  ·obtain rfl : m = b.length := by omega
   go_wp2_with fail
   refine bodyPost_ret (results_tmp rfl _ _ _) rfl ?_
   exact ⟨_, rfl, own_base_le HOW.out (by omega), HT.out.bel⟩
theorem rd_cell {w : World} {B : Nat} {ad : Addr} {l : List Nat} (h : Rd w B (some ad) (byt l)) (i : Nat) (hi : i < l.length) : w.cell? (ad.add i) = some (.int .u8 (l.getD i 0 : Nat)) := by
 obtain ⟨a1, e1, _, hc⟩ := h.byte hi
 injection e1 with e1
 subst e1
 exact hc
structure TwoB (w : World) (base : Nat) (vx vy : Value) (xs ys : List Nat) : Prop where
 ox : OwnB w base vx xs
 oy : OwnB w base vy ys
 ne : ∀ g, vx.ownBlock = some g → vy.ownBlock ≠ some g
theorem TwoB.next {w w' : World} {base : Nat} {vx vy : Value} {xs ys : List Nat} (h : TwoB w base vx vy xs ys) (hb : Below w.heap.size w w') : TwoB w' base vx vy xs ys := ⟨h.ox.next hb, h.oy.next hb, h.ne⟩
theorem TwoB.nil_ (w : World) (base : Nat) : TwoB w base (.slice none 0 0) (.slice none 0 0) [] [] := ⟨OwnB.nil_ _ _, OwnB.nil_ _ _, fun g h => by cases h⟩
theorem TwoB.app {w w' : World} {base : Nat} {vx vy v' : Value} {xs ys : List Nat} {c : Nat} (h : TwoB w base vx vy xs ys) (hap : Apped w base 5 1 vx w' v' (xs.length + 1) (byt xs ++ [.int .u8 (c : Int)])) : TwoB w' base v' vy (xs ++ [c]) ys :=
 ⟨OwnB.snoc hap, own_keep h.oy (hap.only (S := fun k => vx.ownBlock = some k) (fun g hg => hg)) (fun g hg hs => h.ne g hs hg), fun g h1 h2 => by
  rcases hap.lies with e | e
  ·rw [e] at h1; exact h.ne g h1 h2
  ·rw [e] at h1
   injection h1 with h1
   have := own_lt h.oy g h2
   omega⟩
theorem TwoB.fresh {w w' : World} {base : Nat} {vx vy v' : Value} {xs ys zs : List Nat} (h : TwoB w base vx vy xs ys) (hB : base ≤ w.heap.size) (ho : OwnB w' w.heap.size v' zs) (hb : Below w.heap.size w w') : TwoB w' base vx v' xs zs :=
 ⟨h.ox.next hb, own_base_le ho hB, fun g h1 h2 => by
  have a := own_lt h.ox g h1
  have b := own_base ho g h2
  omega⟩
theorem Rbx.begin2 (w : World) (k nonce : List Nat) : Rbx w ((w.alloc (Obj.cells (vb k) 44)).alloc (Obj.cells (vb nonce) 56)) k nonce :=
 ⟨((jE _ _).alloc (jD _) _).alloc (by simp) _, (Blk.new w _ _).alloc _, heap2 w _ _, by simp⟩
theorem rxor_c (B : Nat) (A : Option Addr) (ca : Nat) (k nonce : List Nat) (n : Nat) (b : List Nat) (w : World) (hk : k.length = 32) (hkl : ∀ c ∈ k, c < 256) (hn : n < 4294967296) (hc : nonce.length = 12) (hcl : ∀ c ∈ nonce, c < 256)
  (hr : Rd w B A (byt b)) (hB : B ≤ w.heap.size) (hbl : ∀ c ∈ b, c < 256) (hlen : b.length ≤ 10000000) :
  Calls Tryz.prog 52 #[.agg (vb k), .agg (vb nonce), .int .u32 n, .slice A b.length ca] w (Gives (xorL k nonce n b) w) := by
 obtain ⟨i0, hib, hz0, hz1, hz2⟩ := info_parts byteInfo
 have HR := Li hr
 have HBL := Li hbl
 have HST := Li (fun m (hm : m < 4294967296) W => rblock_c k m nonce W hk hkl hm hc hcl)
 have HIK := Li (show (Tryz.prog.info? 44).map (·.size) = some (vb k).size by rw [show (vb k).size = k.length by simp [vb, byt], hk]; kernel_rfl)
 have HIN := Li (show (Tryz.prog.info? 56).map (·.size) = some (vb nonce).size by rw [show (vb nonce).size = nonce.length by simp [vb, byt], hc]; kernel_rfl)
 clear hkl hcl hr hbl hk hc
 go_enter Tryz.func52, Tryz.ntmps52
 go_upto_region 2 with (first
  | (refine Go.Great.wpList_boxTo rfl 44 (.tmp 0) rfl (some 4) rfl w.heap.size rfl (vb k) rfl ?_)
  | (refine Go.Great.wpList_boxTo rfl 56 (.tmp 1) rfl (some 5) rfl (w.heap.size + 1) (by simp) (vb nonce) rfl ?_))
 have hs0 := Rbx.begin2 w k nonce
 generalize (w.alloc (Obj.cells (vb k) 44)).alloc (Obj.cells (vb nonce) 56) = Z at *
 have HS := Li hs0
 clear hs0
 go_wp2_with fail
 go_loopw [2, 9, 10, 11, 38] (fun nv v9 v10 i v38 wr => ∃ (m : Nat) (bs : List Nat), m ≤ b.length ∧ i = .int .i64 m ∧ nv = .int .u32 (((n + (m + 63) / 64) % 4294967296 : Nat) : Int) ∧ Rbx w wr k nonce ∧ (m % 64 ≠ 0 → bs = blkL k ((n + m / 64) % 4294967296) nonce) ∧ TwoB wr (w.heap.size + 1 + 1) v9 v10 ((List.range m).map (xorB k nonce n b)) bs ∧ isTok v38 = false) (fun _ _ _ i _ _ => b.length - (intOf i).toNat)
 case atStart => exact ⟨0, [], by omega, rfl, by rw [show (n + (0 + 63) / 64) % 4294967296 = n by omega], HS.out, fun h => absurd rfl h, TwoB.nil_ _ _, by rfl⟩
 case round =>
  rename World => wr
  obtain ⟨m, bs, hm, rfl, rfl, hs, hbm, htw, htk⟩ := hrel
  have HT := Li hs
  have HTW := Li htw
  have HTK := Li htk
  clear hs htw htk HS
  by_cases hlt : m < b.length
  ·have p1 : (m : Int) < (b.length : Int) := by omega
   have HLT := Li (show ((List.range m).map (xorB k nonce n b)).length = m by simp)
   have HSN := Li (show (List.range (m + 1)).map (xorB k nonce n b) = (List.range m).map (xorB k nonce n b) ++ [xorB k nonce n b m] by rw [List.range_succ, List.map_append]; rfl)
   have hxb : xorB k nonce n b m = b.getD m 0 ^^^ (blkL k ((n + m / 64) % 4294967296) nonce).getD (m % 64) 0 := rfl
   have hbc := getD_lt HBL.out m
   have HRB := Li (HR.out.below (HT.out.bel.mono hB))
   obtain ⟨ad, rfl, _, _⟩ := HRB.out.byte (k := m) hlt
   obtain ⟨N, hN⟩ : ∃ N, N = (n + (m + 63) / 64) % 4294967296 := ⟨_, rfl⟩
   rw [← hN]
   have hN2 : N < 4294967296 := by omega
   obtain ⟨bl, hbl⟩ : ∃ bl, bl = blkL k ((n + m / 64) % 4294967296) nonce := ⟨_, rfl⟩
   have HB64 := Li (show bl.length = 64 by rw [hbl]; exact blkL_len _ _ _)
   have HB2 := Li (show ∀ c ∈ bl, c < 256 by rw [hbl]; exact blkL_lt _ _ _)
   have HBN := Li (show (m + 1) % 64 ≠ 0 → bl = blkL k ((n + (m + 1) / 64) % 4294967296) nonce from fun h => by rw [hbl, show (n + (m + 1) / 64) = n + m / 64 by omega])
   obtain ⟨r, hr⟩ : ∃ r, r = m % 64 := ⟨_, rfl⟩
   have hr2 : r < 64 := by omega
   have q1 : (r : Int) < 64 := by omega
   have t1 : (m : Int) % 64 = (r : Int) := by omega
   have t2 : (m : Int).tmod 64 = (r : Int) := by rw [Int.tmod_eq_emod_of_nonneg (by omega)]; omega
   rw [← hbl, ← hr] at hxb
   have x0 := getD_lt HB2.out r
   have f1 : bits BinOp.xor .u8 ((b.getD m 0 : Nat) : Int) ((bl.getD r 0 : Nat) : Int) = ((b.getD m 0 ^^^ bl.getD r 0 : Nat) : Int) := u8_xor_nat _ _ hbc x0
   have HXB := Li hxb
   have HCB := Li (fun W (h : Rd W B (some ad) (byt b)) => rd_cell h m hlt)
   have HCK := Li (fun W Bk a (h : Rd W Bk (some a) (byt bl)) => rd_cell h r (by rw [HB64.out]; exact hr2))
   clear hxb
   generalize b.getD m 0 = c at *
   generalize bl.getD r 0 = x at *
   generalize xorB k nonce n b m = y at *
   rw [← HXB.out] at f1
   generalize (List.range m).map (xorB k nonce n b) = L at *
   by_cases h0 : r = 0
   ·subst h0
    have hN3 : (n + m / 64) % 4294967296 = N := by omega
    obtain ⟨N', hN'⟩ : ∃ N', N' = (n + (m + 1 + 63) / 64) % 4294967296 := ⟨_, rfl⟩
    have HNN := Li hN'
    have f0 : IntKind.u32.wrap ((N : Int) + 1) = (N' : Int) := by rw [wrap32]; omega
    have HCA := Li (HST.out N hN2)
    rw [← hN3, ← hbl, hN3] at HCA
    have t3 : (m : Int) % 64 = 0 := by omega
    have t4 : (m : Int).tmod 64 = 0 := by rw [t2]; rfl
    clear hN hN3 hN' hbm hr hbl t1 t2
    go_upto_region 8 with (first
     | (refine wpList_load_row rfl 44 (.tmp 4) rfl w.heap.size rfl 44 (vb k) (0, 0) _ HT.out.kA Tryz.underlying44 rfl HIK.out ?_)
     | (refine wpList_load_row rfl 56 (.tmp 5) rfl (w.heap.size + 1) rfl 56 (vb nonce) (0, 0) _ HT.out.nA Tryz.underlying56 rfl HIN.out ?_)
     | (go_at_call 53; (refine (HCA.out _).mono ?_); rintro e ws ⟨v10, rfl, ho, hb⟩; have HTW8 := Li (HTW.out.fresh HT.out.sz ho hb); have HT8 := Li (HT.out.next (hb.mono HT.out.sz)); have HRW := Li (HRB.out.below (hb.mono (by have := HT.out.bel.size; omega))); obtain ⟨A10, c10, rfl, _, _, r10⟩ := ho.rd; obtain ⟨ad10, rfl, _, _⟩ := r10.byte (k := 0) (by rw [HB64.out]; decide); rw [HB64.out] at HTW8 ⊢; have HK10 := Li r10; clear hb ho r10))
    clear HTW HT HRB
    have cb := cell_ext (HCB.out ws HRW.out)
    have ck := cell_ext (show ws.cell? ad10 = some (.int .u8 (x : Nat)) from by have h := HCK.out ws ws.heap.size ad10 HK10.out; rwa [show ad10.add 0 = ad10 from by simp [Addr.add]] at h)
    refine wp_region_loudTail 12 ws [38] (fun _ u W => OwnB W ws.heap.size u [y]) (by kernel_rfl) (by kernel_rfl) (by kernel_rfl) (by have h := HTK.out; exact congrArg (fun b => !b && true) h) (fun _ _ _ _ h hb => OwnB.next h hb) (jE _ _).drew ?_
    simp only [List.take_succ_cons, List.take_zero, List.drop_succ_cons, List.drop_zero]
    repeat (first
     | (refine wpLoud_plain rfl rfl rfl ?_; intro K hK; go_big_quiet_op; go_big_quiet_on)
     | (refine wpLoud_make rfl (fun _ _ h => by cases h) rfl 38 rfl rfl (fun z => ⟨_, _, run_one z.wd y (.tmp 37) rfl rfl, (jE _ _).alloc (jD _) _, OwnB.new z.wd _ [y] z.2.size (by simp [maxLen])⟩) _ (by simp only [Act.put, sI, sS, sZ]; rfl) ?_))
    refine wpLoud_end [38] (by rfl) ?_
    intro g z hg
    have h9 : OwnB z.wd ws.heap.size (g 38) [y] := hg 38 (by simp)
    obtain ⟨A9, k9, e9, _, _, r9⟩ := h9.rd
    have HR9 := Li r9
    have HT9 := Li (HT8.out.next (z.bel.mono HT8.out.sz))
    have HW9 := Li (HTW8.out.next z.bel)
    generalize z.wd = Y2 at *
    simp only [fill, Act.put, sI, sS, sZ]
    rw [e9]
    clear hg h9 r9 e9 cb ck
    go_wp2_with (at_builtin; refine wpList_app _ rfl (.tmp 27) (.tmp 38) _ rfl (w.heap.size + 1 + 1) 5 i0 (.int .u8 0) 1 1 Tryz.underlying23 hib hz0 hz1 hz2 rfl (by decide) _ L.length (byt L) rfl HW9.out.ox _ A9 1 k9 (byt [y]) rfl rfl HR9.out (byt_one _) (by rw [HLT.out]; omega) (by rw [HLT.out]; omega) (by have := HT9.out.sz; omega) ?_; intro v5 w5 hap; have HTW5 := Li (TwoB.app HW9.out hap); have HT5 := Li (HT9.out.next (hap.below HW9.out.ox (by have := HT9.out.sz; omega))); clear hap)
    go_roundw
    case rel => exact ⟨m + 1, bl, by omega, by go_num, by rw [← HNN.out], HT5.out, HBN.out, by rw [HSN.out]; exact HTW5.out, by rfl⟩
    case measure => simp only [intOf]; omega
   ·have hbb := hbm (by omega)
    rw [← hbl] at hbb
    rw [hbb] at HTW
    clear hbb
    have t5 : ¬ (r : Int) = 0 := by omega
    have hN3 : N = (n + (m + 1 + 63) / 64) % 4294967296 := by omega
    have HNN := Li hN3
    have hrdy := HTW.out.oy.rd
    obtain ⟨A10, c10, rfl, _, _, r10⟩ := hrdy
    obtain ⟨ad10, rfl, _, _⟩ := r10.byte (k := 0) (by rw [HB64.out]; decide)
    rw [HB64.out] at HTW ⊢
    have HK10 := Li r10
    clear hN hN3 hbm hr hbl r10
    go_upto_region 8 with fail
    have HTW8 := Li HTW.out
    have HT8 := Li HT.out
    have HRW := Li HRB.out
    clear HTW HT HRB
    generalize wr = ws at *
    have cb := cell_ext (HCB.out ws HRW.out)
    have ck := cell_ext (HCK.out ws ws.heap.size ad10 HK10.out)
    refine wp_region_loudTail 12 ws [38] (fun _ u W => OwnB W ws.heap.size u [y]) (by kernel_rfl) (by kernel_rfl) (by kernel_rfl) (by have h := HTK.out; exact congrArg (fun b => !b && true) h) (fun _ _ _ _ h hb => OwnB.next h hb) (jE _ _).drew ?_
    simp only [List.take_succ_cons, List.take_zero, List.drop_succ_cons, List.drop_zero]
    repeat (first
     | (refine wpLoud_plain rfl rfl rfl ?_; intro K hK; go_big_quiet_op; go_big_quiet_on)
     | (refine wpLoud_make rfl (fun _ _ h => by cases h) rfl 38 rfl rfl (fun z => ⟨_, _, run_one z.wd y (.tmp 37) rfl rfl, (jE _ _).alloc (jD _) _, OwnB.new z.wd _ [y] z.2.size (by simp [maxLen])⟩) _ (by simp only [Act.put, sI, sS, sZ]; rfl) ?_))
    refine wpLoud_end [38] (by rfl) ?_
    intro g z hg
    have h9 : OwnB z.wd ws.heap.size (g 38) [y] := hg 38 (by simp)
    obtain ⟨A9, k9, e9, _, _, r9⟩ := h9.rd
    have HR9 := Li r9
    have HT9 := Li (HT8.out.next (z.bel.mono HT8.out.sz))
    have HW9 := Li (HTW8.out.next z.bel)
    generalize z.wd = Y2 at *
    simp only [fill, Act.put, sI, sS, sZ]
    rw [e9]
    clear hg h9 r9 e9 cb ck
    go_wp2_with (at_builtin; refine wpList_app _ rfl (.tmp 27) (.tmp 38) _ rfl (w.heap.size + 1 + 1) 5 i0 (.int .u8 0) 1 1 Tryz.underlying23 hib hz0 hz1 hz2 rfl (by decide) _ L.length (byt L) rfl HW9.out.ox _ A9 1 k9 (byt [y]) rfl rfl HR9.out (byt_one _) (by rw [HLT.out]; omega) (by rw [HLT.out]; omega) (by have := HT9.out.sz; omega) ?_; intro v5 w5 hap; have HTW5 := Li (TwoB.app HW9.out hap); have HT5 := Li (HT9.out.next (hap.below HW9.out.ox (by have := HT9.out.sz; omega))); clear hap)
    go_roundw
    case rel => exact ⟨m + 1, bl, by omega, by go_num, by rw [← HNN.out], HT5.out, HBN.out, by rw [HSN.out]; exact HTW5.out, by rfl⟩
    case measure => simp only [intOf]; omega
  ·obtain rfl : m = b.length := by omega
   go_wp2_with fail
   refine bodyPost_ret (results_tmp rfl _ _ _) rfl ?_
   exact ⟨_, rfl, own_base_le HTW.out.ox (by omega), HT.out.bel⟩
section
variable {P : Program} {ops : Array Oper} {Z : World} {ls : List Tmp} {V : Tmp → Value → World → Prop} {Q : Act → Prop} {rest : List Oper} {o : Oper} {b : Act}
theorem wpLoud_makeG (d : Tmp) (hd : o.dst = some d) (hl : ls.contains d = true) (need : List Tmp) (hw : Region.wanted o (yielded ops b.tmps) = true) (hsel : ∀ cs t, o.op ≠ .select cs t)
  (hn : (need.all fun k => ls.contains k && ((o.looksAt ops).contains k && isTok (b.eval (.tmp k)))) = true)
  (hc : ∀ (g : Tmp → Value) (x : Ext Z), (∀ k ∈ need, V k (g k) x.wd) → ∃ u w'', (execOp (over ls b g) o).run P x.wd = .ok (.value u) w'' ∧ Below x.wd.heap.size x.wd w'' ∧ V d u w'')
  (b' : Act) (hb : b.put o.dst tok = b') (h : wpLoud P ops Z ls V Q rest b') : wpLoud P ops Z ls V Q (o :: rest) b := by
 subst hb
 unfold wpLoud
 rw [if_pos hw]
 refine ⟨tok, fun a w hC hs => ?_, h⟩
 have he : ∀ x ∈ o.op.operands, a.eval x = over ls b (fun k => a.eval (.tmp k)) x := fun x hx => by
  cases x with
  | tmp k =>
   have hk : k ∈ o.looksAt ops := List.mem_append_left _ (List.mem_filterMap.2 ⟨.tmp k, by simpa using hx, rfl⟩)
   show _ = if ls.contains k then _ else _
   cases hcn : ls.contains k
   ·exact (hs k hk).2 hcn
   ·rfl
  | const v => rfl
  | global v => rfl
  | func v => rfl
 rw [execOp_congr o hsel he]
 obtain ⟨u, w'', h1, h2, h3⟩ := hc (fun k => a.eval (.tmp k)) ⟨w, hC⟩ (fun k hk => by
  have h1 := List.all_eq_true.1 hn k hk
  simp only [Bool.and_eq_true] at h1
  exact (hs k (by simpa using h1.2.1)).1 h1.1 (isTok_eq h1.2.2))
 have h1' : (execOp (over ls b fun k => a.eval (.tmp k)) o).run P w = .ok (.value u) w'' := h1
 rw [h1']
 exact .inr ⟨h2, fun d' hd' => by rw [hd] at hd'; injection hd' with hd'; subst hd'; exact ⟨hl, h3⟩⟩
end
theorem i64_and15 (n : Int) : bits .and .i64 n 15 = n % 16 := by
 have h63 : (BitVec.ofInt 64 15).toNat = 2 ^ 4 - 1 := by decide
 have key : (BitVec.ofInt 64 n &&& BitVec.ofInt 64 15).toNat = (n % ((2 ^ 64 : Nat) : Int)).toNat % 2 ^ 4 := by
  rw [BitVec.toNat_and, BitVec.toNat_ofInt, h63, Nat.and_two_pow_sub_one_eq_mod]
 show IntKind.i64.wrap ((BitVec.ofInt 64 n &&& BitVec.ofInt 64 15).toNat : Nat) = n % 16
 rw [key, IntKind.wrap_i64]
 omega
def padN (n : Nat) : Nat := (16 - n % 16) % 16
theorem padN_lt (n : Nat) : padN n < 16 := Nat.mod_lt _ (by decide)
def zs (n : Nat) : List Nat := List.replicate n 0
theorem zs_lt (n : Nat) : ∀ c ∈ zs n, c < 256 := fun c h => by rw [(List.mem_replicate.1 h).2]; decide
theorem pad_c (n : Nat) (w : World) (hn : n ≤ 1000000000) : Calls Tryz.prog 98 #[.int .i64 n] w (Gives (zs (padN n)) w) := by
 have hp := padN_lt n
 have f0 : IntKind.i64.wrap (-(n : Int)) = -(n : Int) := by simp [IntKind.wrap, IntKind.signed, IntKind.bits]; omega
 have f1 : bits BinOp.and .i64 (-(n : Int)) 15 = ((padN n : Nat) : Int) := by rw [i64_and15]; unfold padN; omega
 have HO := Li (OwnB.new w w.heap.size (zs (padN n)) (jD _) (by simp [zs, maxLen]; omega))
 have hzl : (zs (padN n)).length = padN n := by simp [zs]
 rw [hzl] at HO
 clear hzl
 have HB := Li (show Below w.heap.size w (w.alloc (.cells (byt (zs (padN n))).toArray 5)) from (jE _ _).alloc (jD _) _)
 have hmk : (Instr.makeSlice 23 (.int .i64 (padN n : Int)) (.int .i64 (padN n : Int))).run Tryz.prog w = .ok (.slice (some ⟨w.heap.size, 0, none⟩) (padN n) (padN n)) (w.alloc (.cells (byt (zs (padN n))).toArray 5)) := run_make_bytes (padN n) (by omega) w
 generalize padN n = p at *
 generalize w.alloc (.cells (byt (zs p)).toArray 5) = W1 at *
 go_enter Tryz.func98, Tryz.ntmps98
 go_wp2
 refine bodyPost_ret (results_tmp rfl _ _ _) rfl ?_
 exact ⟨_, rfl, HO.out, HB.out⟩
def sizesL (beside under : List Nat) : List Nat := form beside.length 8 ++ form under.length 8
def taggedL (beside under : List Nat) : List Nat := beside ++ (zs (padN beside.length) ++ (under ++ (zs (padN under.length) ++ sizesL beside under)))
def tagL (k nonce beside under : List Nat) : List Nat := polT ((blkL k 0 nonce).take 32) (taggedL beside under)
theorem sizesL_len (beside under : List Nat) : (sizesL beside under).length = 16 := by simp [sizesL, form_len]
theorem sizesL_lt (beside under : List Nat) : ∀ c ∈ sizesL beside under, c < 256 := fun c h => by
 rcases List.mem_append.1 h with h | h <;> exact form_lt _ _ c h
theorem taggedL_lt {beside under : List Nat} (hb : ∀ c ∈ beside, c < 256) (hu : ∀ c ∈ under, c < 256) : ∀ c ∈ taggedL beside under, c < 256 := fun c h => by
 rcases List.mem_append.1 h with h | h
 ·exact hb c h
 ·rcases List.mem_append.1 h with h | h
  ·exact zs_lt _ c h
  ·rcases List.mem_append.1 h with h | h
   ·exact hu c h
   ·rcases List.mem_append.1 h with h | h
    ·exact zs_lt _ c h
    ·exact sizesL_lt _ _ c h
theorem taggedL_len (beside under : List Nat) : (taggedL beside under).length ≤ beside.length + under.length + 48 := by
 have h1 := padN_lt beside.length
 have h2 := padN_lt under.length
 simp only [taggedL, jC, sizesL_len, zs, List.length_replicate]
 omega
theorem tailOf8 (n : Nat) : tailOf n 8 = form n 8 := rfl
theorem rd_nil (w : World) (B : Nat) (A : Option Addr) : Rd w B A (byt []) := fun h => absurd rfl h
theorem polT_len (k m : List Nat) : (polT k m).length = 16 := by simp [polT, form_len]
theorem run_partsR (w : World) (ps : List Part) {o : Oper} {ρ : Operand → Value} (xs : Array (Nat × Operand)) (ho : o.op = .buildSlice 184 ps.length xs)
  (hx : (xs.map fun (p : Nat × Operand) => (p.1, ρ p.2)).toList = (((ps.map pv).zipIdx 0).map fun x => (x.2, x.1))) (hlen : ps.length ≤ 1000) (hpos : 0 < ps.length) :
  (execOp ρ o).run Tryz.prog w = .ok (.value (.slice (some ⟨w.heap.size, 0, none⟩) ps.length ps.length)) (w.alloc (.cells (ps.map pv).toArray 23)) := by
 obtain ⟨i0, hi, hz0, hz1, hz2⟩ := info_parts sliceInfo
 have h1 := run_buildSlice (P := Tryz.prog) w 184 23 ps.length (xs.map fun (p : Nat × Operand) => (p.1, ρ p.2)) (ps.map pv).toArray i0 _ Tryz.underlying184 hi hz0 (by rw [hz1]; omega) (by rw [hz1]; omega) (by
  rw [hz1]
  refine (congrArg _ hx).trans ?_
  exact (Great.fill_flat (ps.map pv) _ (fun v hv => by
   obtain ⟨p, _, rfl⟩ := List.mem_map.1 hv
   rfl) (by simp)))
 unfold execOp
 simp only [ho, Sem.run_bind, h1, Result.andThen_ok]
 rfl
theorem range_take {w : World} {g : Nat} {T : TypeId} {l : List Nat} (h : Blk w g T (vb l)) (n : Nat) : w.rangeAt g 0 (byt (l.take n)) := fun j v hv => by
 rw [Nat.zero_add, h.cell j]
 have e2 : byt (l.take n) = (byt l).take n := by simp [byt, List.map_take]
 rw [e2, List.getElem?_take] at hv
 split at hv
 ·rw [← hv]; simp [vb]
 ·cases hv
section
variable {P : Program} {ops : Array Oper} {Z : World} {ls : List Tmp} {V : Tmp → Value → World → Prop} {Q : Act → Prop} {rest : List Oper} {o : Oper} {b : Act}
theorem wpLoud_valD (d : Tmp) (hd : o.dst = some d) (hw : Region.wanted o (yielded ops b.tmps) = true) (hq : quietB ops ls o = true) (hsel : ∀ cs t, o.op ≠ .select cs t) (v : Value) (hr : ∀ x : Ext Z, (execOp b.eval o).run P x.wd = .ok (.value v) x.wd)
  (b' : Act) (hb : b.put o.dst v = b') (h : wpLoud P ops Z ls V Q rest b') : wpLoud P ops Z ls V Q (o :: rest) b := wpLoud_val hw hq hsel v hr b' hb h
end
def Arr5 (W : World) (base : Nat) (m : List Nat) (u : Value) : Prop := ∃ ps : List Part, ps.length = 5 ∧ ArrAt W u base ps ∧ (∀ p ∈ ps, Rd W W.heap.size p.1 (byt p.2.2)) ∧ cat ps 5 = m
theorem Arr5.next {W W' : World} {base : Nat} {m : List Nat} {u : Value} (h : Arr5 W base m u) (hb : Below W.heap.size W W') : Arr5 W' base m u := by
 obtain ⟨ps, h1, h2, h3, h4⟩ := h
 exact ⟨ps, h1, h2.next hb, fun p hp => ((h3 p hp).below hb).more hb.size, h4⟩
def tagV (base : Nat) (z1 z2 m : List Nat) (k : Tmp) (u : Value) (W : World) : Prop := if k = 28 then OwnB W base u z1 else if k = 32 then OwnB W base u z2 else Arr5 W base m u
theorem tagV.next {base : Nat} {z1 z2 m : List Nat} {k : Tmp} {u : Value} {W W' : World} (h : tagV base z1 z2 m k u W) (hb : Below W.heap.size W W') : tagV base z1 z2 m k u W' := by
 unfold tagV at *
 split
 ·rename_i h1; rw [if_pos h1] at h; exact OwnB.next h hb
 ·rename_i h1
  rw [if_neg h1] at h
  split
  ·rename_i h2; rw [if_pos h2] at h; exact OwnB.next h hb
  ·rename_i h2; rw [if_neg h2] at h; exact h.next hb
theorem atag_c (A1 A2 : Option Addr) (c1 c2 : Nat) (k nonce beside under : List Nat) (w : World) (hk : k.length = 32) (hkl : ∀ c ∈ k, c < 256) (hc : nonce.length = 12) (hcl : ∀ c ∈ nonce, c < 256)
  (hr1 : Rd w w.heap.size A1 (byt beside)) (hr2 : Rd w w.heap.size A2 (byt under)) (hb1 : ∀ c ∈ beside, c < 256) (hb2 : ∀ c ∈ under, c < 256) (hl1 : beside.length ≤ 4200) (hl2 : under.length ≤ 4200) (hq : QuartersAt w) :
  Calls Tryz.prog 73 #[.agg (vb k), .agg (vb nonce), .slice A1 beside.length c1, .slice A2 under.length c2] w fun e w' => e = .returned (.agg (vb (tagL k nonce beside under))) ∧ Below w.heap.size w w' := by
 have zf := zero_64b
 have zs1 : (vb z64).size = 64 := by rfl
 have zs2 : ¬ vb z64 = #[] := by intro h; have := congrArg Array.size h; rw [zs1] at this; cases this
 have zt := zero_tag
 have zt1 : zT.size = 16 := by rfl
 have zt2 : ¬ zT = #[] := by intro h; have := congrArg Array.size h; rw [zt1] at this; cases this
 have HQ := Li hq
 have HR1 := Li hr1
 have HR2 := Li hr2
 have HB := Li (fun W (h : QuartersAt W) => block_c k 0 nonce W hk hkl (by decide) hc hcl h)
 have HBL := Li (blkL_len k 0 nonce)
 have HBT := Li (blkL_lt k 0 nonce)
 have HTG := Li (show tagL k nonce beside under = polT ((blkL k 0 nonce).take 32) (taggedL beside under) from rfl)
 have HTL := Li (taggedL_lt hb1 hb2)
 have HTN := Li (taggedL_len beside under)
 have HIK := Li (keySz hk)
 have HIN := Li (show (Tryz.prog.info? 57).map (·.size) = some (vb nonce).size by rw [vb_size, hc]; kernel_rfl)
 have HIB := Li (show (Tryz.prog.info? 159).map (·.size) = some (vb (blkL k 0 nonce)).size by rw [vb_size, blkL_len]; kernel_rfl)
 have HZB := Li (show (vb z64).size = (vb (blkL k 0 nonce)).size by rw [vb_size, vb_size, blkL_len]; rfl)
 have f1 : IntKind.u64.wrap (beside.length : Int) = (beside.length : Int) := by simp [IntKind.wrap, IntKind.signed, IntKind.bits]; omega
 have f2 : IntKind.u64.wrap (under.length : Int) = (under.length : Int) := by simp [IntKind.wrap, IntKind.signed, IntKind.bits]; omega
 clear hq hr1 hr2 hkl hcl hb1 hb2 hk hc
 generalize blkL k 0 nonce = bl at *
 go_enter Tryz.func73, Tryz.ntmps73
 go_upto_region 1 with (first
  | (refine Go.Great.wpList_boxTo rfl 45 (.tmp 0) rfl (some 4) rfl w.heap.size rfl (vb k) rfl ?_)
  | (refine Go.Great.wpList_boxTo rfl 57 (.tmp 1) rfl (some 5) rfl (w.heap.size + 1) (by simp) (vb nonce) rfl ?_))
 obtain ⟨Z, hZ⟩ : ∃ Z, Z = ((w.alloc (Obj.cells (vb k) 45)).alloc (Obj.cells (vb nonce) 57)).alloc (Obj.cells zT 132) := ⟨_, rfl⟩
 have BK := Li (show Blk Z w.heap.size 45 (vb k) by rw [hZ]; exact ((Blk.new w _ _).alloc _).alloc _)
 have BN := Li (show Blk Z (w.heap.size + 1) 57 (vb nonce) by rw [hZ]; exact (show Blk _ (w.heap.size + 1) _ _ from heap2 w _ _).alloc _)
 have BG := Li (show Blk Z (w.heap.size + 1 + 1) 132 zT by rw [hZ]; exact heap3 w _ _ _)
 have BZ := Li (show Below w.heap.size w Z by rw [hZ]; exact (((jE _ _).alloc (jD _) _).alloc (by simp) _).alloc (by simp; omega) _)
 rw [← hZ]
 clear hZ
 have HQZ := Li (HQ.out.next BZ.out)
 go_upto_region 2 with (first
  | (refine wpList_load_row rfl 45 (.tmp 4) rfl w.heap.size rfl 45 (vb k) (0, 0) _ BK.out Tryz.underlying45 rfl HIK.out ?_)
  | (refine wpList_load_row rfl 57 (.tmp 5) rfl (w.heap.size + 1) rfl 57 (vb nonce) (0, 0) _ BN.out Tryz.underlying57 rfl HIN.out ?_)
  | (go_at_call 96; (refine (HB.out _ HQZ.out).mono ?_); rintro e W1 ⟨rfl, hb⟩; have HB1 := Li hb; clear hb)
  | (refine wpList_store_rowTo rfl 159 (.tmp 9) (.tmp 13) rfl rfl W1.heap.size (vb bl) rfl rfl 159 (vb z64) (by exact Blk.new W1 _ _) HIB.out HZB.out (vb_one _) ?_))
 obtain ⟨X, hX⟩ : ∃ X, X = (W1.alloc (Obj.cells (vb z64) 159)).setRow W1.heap.size (vb bl) := ⟨_, rfl⟩
 have hnr := new_row W1 159 (vb z64) (vb bl)
 rw [← hX] at hnr ⊢
 have BB := Li hnr.1
 have BZX := HB1.out.trans (hnr.2.mono HB1.out.size)
 have BX := Li (BZ.out.trans (BZX.mono BZ.out.size))
 have BG2 := Li (BG.out.below BZX BG.out.lt)
 clear hX hnr BZX HB1 BK BN BG BZ zf zs1 zs2
 generalize W1.heap.size = gB at *
 have HP1 := Li (fun W => put_c 0 none 0 [] beside.length 8 W (rd_nil W 0 none) (by omega) (by decide) (by decide) (by decide))
 have HP2 := Li (fun W A c (h : Rd W W.heap.size A (byt (form beside.length 8))) => put_c W.heap.size A c (form beside.length 8) under.length 8 W h (by omega) (by decide) (by decide) (by rw [form_len]; decide))
 have HP3 := Li (show ∀ W A c, Rd W W.heap.size A (byt (form beside.length 8)) → Calls Tryz.prog 70 #[.slice A 8 c, .int .u64 (under.length : Nat), .int .i64 8] W (Gives (form beside.length 8 ++ tailOf under.length 8) W) from fun W A c h => by have h2 := HP2.out W A c h; rw [form_len] at h2; exact h2)
 have HP1 := Li (show ∀ W, Calls Tryz.prog 70 #[.slice none 0 0, .int .u64 (beside.length : Nat), .int .i64 8] W (Gives ([] ++ tailOf beside.length 8) W) from HP1.out)
 clear HP2
 go_upto_region 3 with (first
  | (go_at_call 70; (with_reducible refine (HP1.out X).mono ?_); rintro e W2 ⟨v2, rfl, ho, hb⟩; rw [tailOf8, List.nil_append] at ho; obtain ⟨A4, c4, rfl, _, _, r4⟩ := ho.rd; rw [form_len]; have HR4 := Li r4; have HB2 := Li hb; clear ho hb r4)
  | (go_at_call 70; (with_reducible refine (HP3.out W2 A4 c4 HR4.out).mono ?_); rintro e W3 ⟨v3, rfl, ho, hb⟩; rw [tailOf8] at ho; obtain ⟨A5, c5, rfl, _, _, r5⟩ := ho.rd; rw [show (form beside.length 8 ++ form under.length 8).length = 16 by simp [form_len]]; have HR5 := Li (show Rd W3 W3.heap.size A5 (byt (sizesL beside under)) from r5); have HB3 := Li (HB2.out.trans (hb.mono HB2.out.size)); clear ho hb r5))
 have BWS := HB3.out
 have BB3 := Li (BB.out.below BWS BB.out.lt)
 have BG3 := Li (BG2.out.below BWS BG2.out.lt)
 have BW3 := Li (BX.out.trans (BWS.mono BX.out.size))
 have HS1 := Li (HR1.out.ext BW3.out)
 have HS2 := Li (HR2.out.ext BW3.out)
 have hlw : w.heap.size ≤ W3.heap.size := BW3.out.size
 have HPA := Li (fun W => pad_c beside.length W (by omega))
 have HPB := Li (fun W => pad_c under.length W (by omega))
 have HTP := Li (fun W u (h : Arr5 W W3.heap.size (taggedL beside under) u) => show Calls Tryz.prog 97 #[.agg (vb (bl.take 32)), u] W fun e w' => e = .returned (.agg (vb (polT (bl.take 32) (taggedL beside under)))) ∧ Below W.heap.size W w' from by
  obtain ⟨ps, h1, h2, h3, h4⟩ := h
  exact tag_parts (bl.take 32) (taggedL beside under) ps u W3.heap.size W (by rw [List.length_take, HBL.out]; rfl) (fun c hc => HBT.out c (List.mem_of_mem_take hc)) HTL.out (by have := HTN.out; omega) (by rw [h1]; exact h4) (by omega) h2 h3)
 have HKL := Li (keyLn (L := bl.take 32) (by rw [List.length_take, HBL.out]; rfl))
 have HTT := Li (tagSz (polT_len (bl.take 32) (taggedL beside under)))
 have HTZ := Li (show zT.size = (vb (polT (bl.take 32) (taggedL beside under))).size by rw [vb_size, polT_len]; rfl)
 have HZ1 := Li (show (zs (padN beside.length)).length = padN beside.length by simp [zs])
 have HZ2 := Li (show (zs (padN under.length)).length = padN under.length by simp [zs])
 clear HP1 HP3 HB2 HB3 BB BG2 BX HR1 HR2 HQ HQZ HB HR4 f1 f2
 refine wp_region_loudTail 14 W3 [28, 32, 34] (tagV W3.heap.size (zs (padN beside.length)) (zs (padN under.length)) (taggedL beside under)) (by kernel_rfl) (by kernel_rfl) (by kernel_rfl) (by kernel_rfl) (fun _ _ _ _ h hb => tagV.next h hb) (jE _ _).drew ?_
 simp only [List.take_succ_cons, List.take_zero, List.drop_succ_cons, List.drop_zero]
 repeat (first
  | (refine wpLoud_plain (by kernel_rfl) rfl rfl ?_; intro K hK; go_big_quiet_op; go_big_quiet_on)
  | (refine wpLoud_val (by kernel_rfl) (by kernel_rfl) (fun _ _ h => by cases h) (.pointer (some ⟨gB, 0, none⟩)) (fun x => by rfl) _ (by simp only [Act.put, sI, sS, sZ]; rfl) ?_)
  | (refine wpLoud_valD 27 rfl (by kernel_rfl) (by kernel_rfl) (fun _ _ h => by cases h) (.int .i64 (beside.length : Nat)) (fun x => by kernel_rfl) _ (by simp only [Act.put, sI, sS, sZ]; rfl) ?_)
  | (refine wpLoud_valD 31 rfl (by kernel_rfl) (by kernel_rfl) (fun _ _ h => by cases h) (.int .i64 (under.length : Nat)) (fun x => by kernel_rfl) _ (by simp only [Act.put, sI, sS, sZ]; rfl) ?_)
  | (refine wpLoud_load (by kernel_rfl) (by kernel_rfl) 45 (.tmp 23) rfl gB 0 rfl (byt (bl.take 32)) _ (fun y => range_take (BB3.out.below y.bel BB3.out.lt) 32) Tryz.underlying45 rfl HKL.out _ (by simp only [Act.put, sI, sS, sZ]; rfl) ?_)
  | (refine wpLoud_call 28 rfl [] tok 98 (fun g => #[.int .i64 (beside.length : Nat)]) (by kernel_rfl) (fun _ _ h => by cases h) (by kernel_rfl) (fun g w => by kernel_rfl) (fun g y hg => by
    refine (HPA.out _).mono ?_
    rintro e w' ⟨u, rfl, ho, hb⟩
    exact ⟨u, rfl, hb, own_base_le ho y.2.size⟩) _ (by simp only [Act.put, sI, sS, sZ]; rfl) ?_)
  | (refine wpLoud_call 32 rfl [] tok 98 (fun g => #[.int .i64 (under.length : Nat)]) (by kernel_rfl) (fun _ _ h => by cases h) (by kernel_rfl) (fun g w => by kernel_rfl) (fun g y hg => by
    refine (HPB.out _).mono ?_
    rintro e w' ⟨u, rfl, ho, hb⟩
    exact ⟨u, rfl, hb, own_base_le ho y.2.size⟩) _ (by simp only [Act.put, sI, sS, sZ]; rfl) ?_))
 refine wpLoud_makeG 34 rfl rfl [28, 32] (by kernel_rfl) (fun _ _ h => by cases h) (by kernel_rfl) (fun g x hg => by
   have h1 : OwnB x.wd W3.heap.size (g 28) (zs (padN beside.length)) := hg 28 (by simp)
   have h2 : OwnB x.wd W3.heap.size (g 32) (zs (padN under.length)) := hg 32 (by simp)
   obtain ⟨A6, c6, e6, _, _, r6⟩ := h1.rd
   obtain ⟨A7, c7, e7, _, _, r7⟩ := h2.rd
   refine ⟨_, _, run_partsR x.wd [(A1, c1, beside), (A6, c6, zs (padN beside.length)), (A2, c2, under), (A7, c7, zs (padN under.length)), (A5, c5, sizesL beside under)] #[(0, .tmp 25), (1, .tmp 28), (2, .tmp 29), (3, .tmp 32), (4, .tmp 33)] rfl (by
    refine Eq.trans (b := [((0 : Nat), Value.slice A1 beside.length c1), (1, g 28), (2, Value.slice A2 under.length c2), (3, g 32), (4, Value.slice A5 16 c5)]) (by kernel_rfl) ?_
    rw [e6, e7]
    simp [pv, sizesL_len]) (by simp) (by simp), (jE _ _).alloc (jD _) _, ?_⟩
   refine (show Arr5 _ _ _ _ from ⟨_, rfl, ⟨x.wd.heap.size, rfl, x.2.size, Blk.new _ _ _⟩, fun p hp => ?_, ?_⟩)
   ·have hbw := x.bel
    have hup : Below x.wd.heap.size x.wd (x.wd.alloc (Obj.cells (List.map pv [(A1, c1, beside), (A6, c6, zs (padN beside.length)), (A2, c2, under), (A7, c7, zs (padN under.length)), (A5, c5, sizesL beside under)]).toArray 23)) := (jE _ _).alloc (jD _) _
    simp only [List.mem_cons, List.not_mem_nil, or_false] at hp
    rcases hp with rfl | rfl | rfl | rfl | rfl
    ·exact ((HS1.out.ext (hbw.mono (jD _))).ext hup).more (by have := x.bel.size; simp; omega)
    ·exact (r6.ext hup).more (by simp)
    ·exact ((HS2.out.ext (hbw.mono (jD _))).ext hup).more (by have := x.bel.size; simp; omega)
    ·exact (r7.ext hup).more (by simp)
    ·exact ((HR5.out.ext hbw).ext hup).more (by have := x.bel.size; simp; omega)
   ·simp [cat, taggedL]) _ (by simp only [Act.put, sI, sS, sZ]; rfl) ?_
 refine wpLoud_call 35 rfl [34] (.agg (vb (polT (bl.take 32) (taggedL beside under)))) 97 (fun g => #[.agg (vb (bl.take 32)), g 34]) (by kernel_rfl) (fun _ _ h => by cases h) (by kernel_rfl) (fun g w => by kernel_rfl) (fun g y hg => by
   refine (HTP.out y.wd (g 34) (hg 34 (by simp))).mono ?_
   rintro e w' ⟨rfl, hb⟩
   exact ⟨_, rfl, hb, rfl⟩) _ (by simp only [Act.put, sI, sS, sZ]; rfl) ?_
 refine wpLoud_end [] (by rfl) ?_
 intro g z hg
 have HG4 := Li (BG3.out.below z.bel BG3.out.lt)
 have HB5 := Li (BW3.out.trans (z.bel.mono hlw))
 generalize z.wd = Y2 at *
 simp only [fill, Act.put, sI, sS, sZ]
 clear hg
 generalize polT (bl.take 32) (taggedL beside under) = tg at *
 go_wp2_with (refine wpList_store_rowTo rfl 132 (.tmp 8) (.tmp 35) rfl rfl (w.heap.size + 1 + 1) (vb tg) rfl rfl 132 zT HG4.out HTT.out HTZ.out (vb_one _) ?_)
 refine bodyPost_ret (results_cell_row rfl _ _ (w.heap.size + 1 + 1) 132 (vb tg) (0, 0) _ rfl (setRow_heap Y2 (w.heap.size + 1 + 1) zT _ 132 (0, 0) HG4.out) Tryz.underlying132 rfl HTT.out) rfl ?_
 exact ⟨by rw [HTG.out], HB5.out.trans (below_setRow _ _ _ (by omega))⟩
def sealL (k nonce beside plain : List Nat) : List Nat := xorL k nonce 1 plain ++ tagL k nonce beside (xorL k nonce 1 plain)
structure Kbx (w W : World) (k nonce : List Nat) : Prop where
 bel : Below w.heap.size w W
 kA : Blk W w.heap.size 45 (vb k)
 nA : Blk W (w.heap.size + 1) 57 (vb nonce)
 sz : w.heap.size + 1 + 1 ≤ W.heap.size
theorem Kbx.next {w W W' : World} {k nonce : List Nat} (s : Kbx w W k nonce) (hb : Below (w.heap.size + 1 + 1) W W') : Kbx w W' k nonce :=
 ⟨s.bel.trans (hb.mono (by omega)), s.kA.below hb (by omega), s.nA.below hb (by omega), Nat.le_trans s.sz hb.size⟩
theorem Kbx.begin (w : World) (k nonce : List Nat) : Kbx w ((w.alloc (Obj.cells (vb k) 45)).alloc (Obj.cells (vb nonce) 57)) k nonce :=
 ⟨((jE _ _).alloc (jD _) _).alloc (by simp) _, (Blk.new w _ _).alloc _, heap2 w _ _, by simp⟩
theorem tagL_len (k nonce beside under : List Nat) : (tagL k nonce beside under).length = 16 := polT_len _ _
theorem seal_c (A1 A2 : Option Addr) (c1 c2 : Nat) (k nonce beside plain : List Nat) (w : World) (hk : k.length = 32) (hkl : ∀ c ∈ k, c < 256) (hc : nonce.length = 12) (hcl : ∀ c ∈ nonce, c < 256)
  (hr1 : Rd w w.heap.size A1 (byt beside)) (hr2 : Rd w w.heap.size A2 (byt plain)) (hb1 : ∀ c ∈ beside, c < 256) (hb2 : ∀ c ∈ plain, c < 256) (hl1 : beside.length ≤ 4200) (hl2 : plain.length ≤ 4096) (hq : QuartersAt w) :
  Calls Tryz.prog 50 #[.agg (vb k), .agg (vb nonce), .slice A1 beside.length c1, .slice A2 plain.length c2] w fun e w' => ∃ v, e = .returned (.tuple #[v, .int .i64 0]) ∧ OwnB w' w.heap.size v (sealL k nonce beside plain) ∧ Below w.heap.size w w' := by
 obtain ⟨i0, hib, hz0, hz1, hz2⟩ := info_parts byteInfo
 have zt := zero_tag
 have zt1 : zT.size = 16 := by rfl
 have zt2 : ¬ zT = #[] := by intro h; have := congrArg Array.size h; rw [zt1] at this; cases this
 have p1 : ¬ (4096 : Int) < (plain.length : Int) := by omega
 have HIK := Li (keySz hk)
 have HIN := Li (show (Tryz.prog.info? 57).map (·.size) = some (vb nonce).size by rw [vb_size, hc]; kernel_rfl)
 have HSL := Li (show sealL k nonce beside plain = xorL k nonce 1 plain ++ tagL k nonce beside (xorL k nonce 1 plain) from rfl)
 have HUL := Li (xorL_len k nonce 1 plain)
 have HXC := Li (fun W (hW : Below w.heap.size w W) => xor_c w.heap.size A2 c2 k nonce 1 plain W hk hkl (by decide) hc hcl (hr2.below hW) hW.size hb2 (by omega) (hq.next hW))
 have HTC := Li (fun W A c (hW : Below w.heap.size w W) (h : Rd W W.heap.size A (byt (xorL k nonce 1 plain))) => atag_c A1 A c1 c k nonce beside (xorL k nonce 1 plain) W hk hkl hc hcl ((hr1.below hW).more hW.size) h hb1 (xorL_lt k nonce 1 hb2) hl1 (by rw [xorL_len]; omega) (hq.next hW))
 have HTT := Li (tagSz (tagL_len k nonce beside (xorL k nonce 1 plain)))
 have HTZ := Li (show zT.size = (vb (tagL k nonce beside (xorL k nonce 1 plain))).size by rw [vb_size, tagL_len]; rfl)
 have HTN := Li (tagL_len k nonce beside (xorL k nonce 1 plain))
 clear hkl hcl hr1 hr2 hb1 hb2 hq
 generalize tagL k nonce beside (xorL k nonce 1 plain) = tg at *
 generalize xorL k nonce 1 plain = un at *
 have hbx := Kbx.begin w k nonce
 go_enter Tryz.func50, Tryz.ntmps50
 go_upto_region 1 with (first
  | (refine Go.Great.wpList_boxTo rfl 45 (.tmp 0) rfl (some 4) rfl w.heap.size rfl (vb k) rfl ?_)
  | (refine Go.Great.wpList_boxTo rfl 57 (.tmp 1) rfl (some 5) rfl (w.heap.size + 1) (by simp) (vb nonce) rfl ?_))
 generalize (w.alloc (Obj.cells (vb k) 45)).alloc (Obj.cells (vb nonce) 57) = Z at *
 have HB := Li hbx
 clear hbx
 go_upto_region 4 with (first
  | (refine wpList_load_row rfl 45 (.tmp 4) rfl w.heap.size rfl 45 (vb k) (0, 0) _ HB.out.kA Tryz.underlying45 rfl HIK.out ?_)
  | (refine wpList_load_row rfl 57 (.tmp 5) rfl (w.heap.size + 1) rfl 57 (vb nonce) (0, 0) _ HB.out.nA Tryz.underlying57 rfl HIN.out ?_)
  | (go_at_call 72; (refine (HXC.out Z HB.out.bel).mono ?_); rintro e W1 ⟨v1, rfl, ho, hb⟩; have HO1 := Li (own_base_le ho HB.out.sz); obtain ⟨A3, c3, rfl, _, _, r3⟩ := ho.rd; have HR3 := Li r3; have HB1 := Li (HB.out.next (hb.mono HB.out.sz)); clear ho hb r3))
 go_upto_region 5 with (first
  | (refine wpList_load_row rfl 45 (.tmp 4) rfl w.heap.size rfl 45 (vb k) (0, 0) _ HB1.out.kA Tryz.underlying45 rfl HIK.out ?_)
  | (refine wpList_load_row rfl 57 (.tmp 5) rfl (w.heap.size + 1) rfl 57 (vb nonce) (0, 0) _ HB1.out.nA Tryz.underlying57 rfl HIN.out ?_)
  | (go_at_call 73; (refine (HTC.out W1 A3 c3 HB1.out.bel HR3.out).mono ?_); rintro e W2 ⟨rfl, hb⟩; have HO2 := Li (OwnB.next HO1.out hb); have HB2 := Li (HB1.out.next (hb.mono HB1.out.sz)); clear hb)
  | (refine wpList_store_rowTo rfl 132 (.tmp 11) (.tmp 23) rfl rfl W2.heap.size (vb tg) rfl rfl 132 zT (by exact Blk.new W2 _ _) HTT.out HTZ.out (vb_one _) ?_))
 have hnr := new_row W2 132 zT (vb tg)
 have HO3 := Li (OwnB.next HO2.out hnr.2)
 have HB3 := Li (HB2.out.next (hnr.2.mono HB2.out.sz))
 have HG := Li (rd_all hnr.1)
 generalize (W2.alloc (Obj.cells zT 132)).setRow W2.heap.size (vb tg) = W3 at *
 clear hnr
 go_wp2_with (at_builtin; refine wpList_app _ rfl (.tmp 24) (.tmp 25) _ rfl (w.heap.size + 1 + 1) 5 i0 (.int .u8 0) 1 1 Tryz.underlying23 hib hz0 hz1 hz2 rfl (by decide) _ un.length (byt un) rfl HO3.out _ (some ⟨W2.heap.size, 0, none⟩) 16 16 (byt tg) rfl (by simp [byt_len, HTN.out]) HG.out (byt_one _) (by rw [HUL.out]; omega) (by rw [HUL.out]; omega) (by have := HB3.out.sz; omega) ?_; intro v5 w5 hap; have HO5 := Li (show OwnB w5 (w.heap.size + 1 + 1) v5 (un ++ tg) from OwnB.app (by rw [HTN.out]; exact hap)); have HB5 := Li (HB3.out.next (hap.below HO3.out (by have := HB3.out.sz; omega))); clear hap)
 refine bodyPost_ret (results_tmp2 rfl _ _ _) rfl ?_
 exact ⟨_, rfl, by rw [HSL.out]; exact own_base_le HO5.out (by omega), HB5.out.bel⟩
def openErr (k nonce beside sealed : List Nat) : Nat :=
 if sealed.length < 16 then 2 else if 4112 < sealed.length then 3 else if tagL k nonce beside (sealed.take (sealed.length - 16)) == sealed.drop (sealed.length - 16) then 0 else 5
def openL (k nonce beside sealed : List Nat) : List Nat := if openErr k nonce beside sealed = 0 then xorL k nonce 1 (sealed.take (sealed.length - 16)) else []
theorem open_c (A1 A2 : Option Addr) (c1 c2 : Nat) (k nonce beside sealed : List Nat) (w : World) (hk : k.length = 32) (hkl : ∀ c ∈ k, c < 256) (hc : nonce.length = 12) (hcl : ∀ c ∈ nonce, c < 256)
  (hr1 : Rd w w.heap.size A1 (byt beside)) (hr2 : Rd w w.heap.size A2 (byt sealed)) (hb1 : ∀ c ∈ beside, c < 256) (hb2 : ∀ c ∈ sealed, c < 256) (hl1 : beside.length ≤ 4200) (h16 : 16 ≤ sealed.length) (hl2 : sealed.length ≤ 4112) (hcap : sealed.length ≤ c2) (hq : QuartersAt w) :
  Calls Tryz.prog 58 #[.agg (vb k), .agg (vb nonce), .slice A1 beside.length c1, .slice A2 sealed.length c2] w fun e w' => ∃ v, e = .returned (.tuple #[v, .int .i64 (openErr k nonce beside sealed : Nat)]) ∧ OwnB w' w.heap.size v (openL k nonce beside sealed) ∧ Below w.heap.size w w' := by
 obtain ⟨ad, rfl, _, _⟩ := hr2.byte (k := 0) (by omega)
 obtain ⟨m, hm⟩ : ∃ m, m = sealed.length - 16 := ⟨_, rfl⟩
 obtain ⟨un, hun⟩ : ∃ un, un = sealed.take m := ⟨_, rfl⟩
 obtain ⟨tl, htl⟩ : ∃ tl, tl = sealed.drop m := ⟨_, rfl⟩
 have hul : un.length = m := by rw [hun, List.length_take]; omega
 have htl16 : tl.length = 16 := by rw [htl, List.length_drop]; omega
 have hunl : ∀ c ∈ un, c < 256 := by rw [hun]; exact fun c hc => hb2 c (List.mem_of_mem_take hc)
 have htll : ∀ c ∈ tl, c < 256 := by rw [htl]; exact drop_lt hb2 _
 have HER := Li (show openErr k nonce beside sealed = if tagL k nonce beside un == tl then 0 else 5 by unfold openErr; rw [if_neg (by omega), if_neg (by omega), ← hm, ← hun, ← htl])
 have HOL := Li (show openL k nonce beside sealed = if openErr k nonce beside sealed = 0 then xorL k nonce 1 un else [] by unfold openL; rw [← hm, ← hun])
 have hru : Rd w w.heap.size (some ad) (byt un) := by rw [hun]; exact hr2.take_ m
 have hrt : Rd w w.heap.size (some (ad.add m)) (byt tl) := by rw [htl]; exact hr2.drop_ m
 have f0 : IntKind.i64.wrap ((sealed.length : Int) - 16) = (m : Int) := by simp [IntKind.wrap, IntKind.signed, IntKind.bits]; omega
 have p1 : ¬ (m : Int) < 0 := by omega
 have p2 : ¬ (4096 : Int) < (m : Int) := by omega
 have HIK := Li (keySz hk)
 have HIN := Li (show (Tryz.prog.info? 57).map (·.size) = some (vb nonce).size by rw [vb_size, hc]; kernel_rfl)
 have HXC := Li (show ∀ W, Below w.heap.size w W → Calls Tryz.prog 72 #[.agg (vb k), .agg (vb nonce), .int .u32 1, .slice (some ad) m c2] W (Gives (xorL k nonce 1 un) W) from fun W hW => by
  have h := xor_c w.heap.size (some ad) c2 k nonce 1 un W hk hkl (by decide) hc hcl (hru.below hW) hW.size hunl (by omega) (hq.next hW)
  rw [hul] at h
  exact h)
 have HTC := Li (show ∀ W, Below w.heap.size w W → Calls Tryz.prog 73 #[.agg (vb k), .agg (vb nonce), .slice A1 beside.length c1, .slice (some ad) m c2] W (fun e w' => e = .returned (.agg (vb (tagL k nonce beside un))) ∧ Below W.heap.size W w') from fun W hW => by
  have h := atag_c A1 (some ad) c1 c2 k nonce beside un W hk hkl hc hcl ((hr1.below hW).more hW.size) ((hru.below hW).more hW.size) hb1 hunl hl1 (by omega) (hq.next hW)
  rw [hul] at h
  exact h)
 have HTT := Li (tagSz (tagL_len k nonce beside un))
 have HTZ := Li (show zT.size = (vb (tagL k nonce beside un)).size by rw [vb_size, tagL_len]; rfl)
 have HTN := Li (tagL_len k nonce beside un)
 have HTB := Li (show ∀ c ∈ tagL k nonce beside un, c < 256 from form_lt _ _)
 have HSM := Li (fun W g (hW : Below w.heap.size w W) (hT : Blk W g 132 (vb (tagL k nonce beside un))) => show Calls Tryz.prog 81 #[.slice (some ⟨g, 0, none⟩) 16 16, .slice (some (ad.add m)) 16 (c2 - m)] W (fun e w' => e = .returned (.bool (tagL k nonce beside un == tl)) ∧ W = w') from by
  have h := psame_c (g + 1) w.heap.size (some ⟨g, 0, none⟩) (some (ad.add m)) 16 (c2 - m) (tagL k nonce beside un) tl W (form_lt _ _) htll (rd_all hT) (hrt.below hW) (by rw [tagL_len]; decide) (by omega)
  rw [tagL_len, htl16] at h
  exact h)
 have zt := zero_tag
 have zt1 : zT.size = 16 := by rfl
 have zt2 : ¬ zT = #[] := by intro h; have := congrArg Array.size h; rw [zt1] at this; cases this
 clear hkl hcl hr1 hr2 hb1 hb2 hq hru hrt hunl htll
 have hmc : m ≤ c2 := by omega
 have hms : m ≤ sealed.length := by omega
 have p3 : (m : Int) ≤ (c2 : Int) := by omega
 have p4 : (m : Int) ≤ (sealed.length : Int) := by omega
 have p5 : sealed.length - m = 16 := by omega
 clear hm hun htl
 have hbx := Kbx.begin w k nonce
 go_enter Tryz.func58, Tryz.ntmps58
 go_upto_region 1 with (first
  | (refine Go.Great.wpList_boxTo rfl 45 (.tmp 0) rfl (some 4) rfl w.heap.size rfl (vb k) rfl ?_)
  | (refine Go.Great.wpList_boxTo rfl 57 (.tmp 1) rfl (some 5) rfl (w.heap.size + 1) (by simp) (vb nonce) rfl ?_))
 generalize (w.alloc (Obj.cells (vb k) 45)).alloc (Obj.cells (vb nonce) 57) = Z at *
 have HB := Li hbx
 clear hbx
 go_upto_region 7 with fail
 go_upto_region 8 with (first
  | (refine wpList_load_row rfl 45 (.tmp 4) rfl w.heap.size rfl 45 (vb k) (0, 0) _ HB.out.kA Tryz.underlying45 rfl HIK.out ?_)
  | (refine wpList_load_row rfl 57 (.tmp 5) rfl (w.heap.size + 1) rfl 57 (vb nonce) (0, 0) _ HB.out.nA Tryz.underlying57 rfl HIN.out ?_)
  | (go_at_call 73; (with_reducible refine (HTC.out Z HB.out.bel).mono ?_); rintro e W1 ⟨rfl, hb⟩; have HB1 := Li (HB.out.next (hb.mono HB.out.sz)); clear hb)
  | (refine wpList_store_rowTo rfl 132 (.tmp 12) (.tmp 29) rfl rfl W1.heap.size (vb (tagL k nonce beside un)) rfl rfl 132 zT (by exact Blk.new W1 _ _) HTT.out HTZ.out (vb_one _) ?_))
 have hnr := new_row W1 132 zT (vb (tagL k nonce beside un))
 have HB3 := Li (HB1.out.next (hnr.2.mono HB1.out.sz))
 have HG := Li hnr.1
 generalize (W1.alloc (Obj.cells zT 132)).setRow W1.heap.size (vb (tagL k nonce beside un)) = W3 at *
 generalize W1.heap.size = gt at *
 clear hnr
 have HSC := Li (fun n => HSM.out (W3.drewN n) gt (belowDrewN n HB3.out.bel) HG.out)
 go_quiet (first | (go_at_call 81; exact (HSC.out _).mono fun _ _ h => ⟨h.1, _, h.2.symm⟩))
 have HBQ := Li (show Kbx w (W3.drewN nq) k nonce from HB3.out.next (belowDrewN nq (jE _ _)))
 generalize W3.drewN nq = W4 at *
 clear HB HB1 HB3 HTC HSM HSC HTT HTZ HTB HTN HG
 generalize (tagL k nonce beside un == tl) = bb at *
 by_cases hsm : bb = true
 ·have h0 : openErr k nonce beside sealed = 0 := by rw [HER.out, if_pos hsm]
  have hl : openL k nonce beside sealed = xorL k nonce 1 un := by rw [HOL.out, if_pos h0]
  have HE0 := Li h0
  have HL0 := Li hl
  have HX4 := Li (HXC.out W4 HBQ.out.bel)
  clear HER HOL h0 hl HXC
  subst hsm
  go_wp2_with (first
   | (refine wpList_load_row rfl 45 (.tmp 4) rfl w.heap.size rfl 45 (vb k) (0, 0) _ HBQ.out.kA Tryz.underlying45 rfl HIK.out ?_)
   | (refine wpList_load_row rfl 57 (.tmp 5) rfl (w.heap.size + 1) rfl 57 (vb nonce) (0, 0) _ HBQ.out.nA Tryz.underlying57 rfl HIN.out ?_)
   | (go_at_call 72; (refine HX4.out.mono ?_); rintro e W5 ⟨v1, rfl, ho, hb⟩; have HO5 := Li (own_base_le ho HBQ.out.bel.size); have HB5 := Li (HBQ.out.bel.trans (hb.mono HBQ.out.bel.size)); clear ho hb))
  refine bodyPost_ret (results_tmp2 rfl _ _ _) rfl ?_
  exact ⟨_, by rw [HE0.out]; rfl, by rw [HL0.out]; exact HO5.out, HB5.out⟩
 ·have h5 : openErr k nonce beside sealed = 5 := by rw [HER.out, if_neg hsm]
  have hl : openL k nonce beside sealed = [] := by rw [HOL.out, h5, if_neg (by decide)]
  have hf : bb = false := by simpa using hsm
  have HE0 := Li h5
  have HL0 := Li hl
  clear HER HOL h5 hl HXC hsm
  subst hf
  go_wp2_with fail
  refine bodyPost_ret (results_tmp2 rfl _ _ _) rfl ?_
  exact ⟨_, by rw [HE0.out]; rfl, by rw [HL0.out]; exact OwnB.nil_ _ _, HBQ.out.bel⟩
end Go.Proofs.YtfnhmnbcponkfaaGreatDoor
