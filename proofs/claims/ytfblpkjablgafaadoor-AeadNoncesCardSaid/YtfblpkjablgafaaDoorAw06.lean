/- Contract: the document's example of what is sealed. -/
import Derived.Test.YtfblpkjablgafaaDoorCe1
import Derived.Test.YtfblpkjablgafaaDoorCd0
namespace Go.Proofs.YtfblpkjablgafaaDoor
open Go.RowKit
set_option linter.unusedVariables false
set_option linter.unusedSimpArgs false
def exKs : List Nat := List.replicate 32 1
def exNs : List Nat := List.replicate 12 2
theorem ex_seal_at : (sealL exKs exNs [3] [4, 5]).getD 0 0 = 226 ∧ (sealL exKs exNs [3] [4, 5]).getD 1 0 = 25 ∧ (sealL exKs exNs [3] [4, 5]).getD 2 0 = 71 ∧ (sealL exKs exNs [3] [4, 5]).getD 3 0 = 97 ∧ (sealL exKs exNs [3] [4, 5]).getD 17 0 = 33 := by decide +kernel
set_option maxRecDepth 100000 in
set_option maxHeartbeats 8000000 in
theorem awake06_c (w : World) (hq : QuartersAt w) : Calls Tryd.prog 7 #[] w fun e w' => e = .returned (.bool true) ∧ Below w.heap.size w w' := by
  have HQ := Lib.hid hq
  clear hq
  have zf := zero_key
  have zs1 : zKey.size = 32 := by rfl
  have zs2 : ¬ zKey = #[] := by intro h; have := congrArg Array.size h; rw [zs1] at this; cases this
  have zn := zero_nonce
  have zn1 : (vb zNl).size = 12 := by rfl
  have zn2 : ¬ vb zNl = #[] := by intro h; have := congrArg Array.size h; rw [zn1] at this; cases this
  have HIK := Lib.hid (keySz (L := exKs) rfl)
  have HIN := Lib.hid (nonSz (L := exNs) rfl)
  have HSE := Lib.hid (fun W A1 A2 (h : QuartersAt W) (h1 : Rd W W.heap.size A1 (byt [3])) (h2 : Rd W W.heap.size A2 (byt [4, 5])) => show Calls Tryd.prog 9 #[.agg (vb exKs), .agg (vb exNs), .slice A1 1 1, .slice A2 2 2] W _ from seal_c A1 A2 1 2 exKs exNs [3] [4, 5] W rfl (by decide) rfl (by decide) h1 h2 (by decide) (by decide) (by decide) (by decide) h)
  have HSL := Lib.hid (show (sealL exKs exNs [3] [4, 5]).length = 18 by unfold sealL; rw [List.length_append, xorL_len, tagL_len]; rfl)
  have HAT := Lib.hid ex_seal_at
  generalize sealL exKs exNs [3] [4, 5] = sl at *
  obtain ⟨Z, hZ⟩ : ∃ Z, Z = (w.alloc (Obj.cells zKey 23)).alloc (Obj.cells (vb zNl) 25) := ⟨_, rfl⟩
  have HZ := Lib.hid (show Below w.heap.size w Z by rw [hZ]; exact ((Below.refl _ _).alloc (Nat.le_refl _) _).alloc (by simp) _)
  have H1 := Lib.hid (show Blk Z w.heap.size 23 zKey by rw [hZ]; exact (Blk.new w _ _).alloc _)
  have H2 := Lib.hid (show Blk Z (w.heap.size + 1) 25 (vb zNl) by rw [hZ]; exact heap2 w _ _)
  have HZS := Lib.hid (show w.heap.size + 1 < Z.heap.size by rw [hZ]; simp)
  go_enter Tryd.func7, Tryd.ntmps7
  go_upto_region 3 with fail
  rw [← hZ]
  clear hZ zf zs1 zs2 zn zn1 zn2
  go_wp2_with fail
  go_loopw [3] (fun i wr => ∃ j : Nat, j ≤ 32 ∧ i = .int .i64 j ∧ Blk wr w.heap.size 23 (vb (mapZ (fun _ => 1) 32 j)) ∧ Blk wr (w.heap.size + 1) 25 (vb zNl) ∧ Below w.heap.size w wr) (fun i _ => 32 - (intOf i).toNat)
  case atStart => exact ⟨0, by omega, rfl, by rw [mapZ_zero]; exact H1.out, H2.out, HZ.out⟩
  case round =>
    rename World => wr
    obtain ⟨j, hj, rfl, h1, h2, hb⟩ := hrel
    have HBK := Lib.hid h1
    have HA := Lib.hid h2
    have HB := Lib.hid hb
    clear h1 h2 hb
    by_cases hlt : j < 32
    · have p1 : (j : Int) < 32 := by omega
      have e1 := (HBK.out.cell j).trans (vb_at _ j (by rw [mapZ_len _ _ _ (by omega)]; omega))
      have e2 := HBK.out.free j
      have HZT := Lib.hid (mapZ_set (fun _ => 1) 32 j (by omega))
      have HBS := Lib.hid (HBK.out.set_ j (.int .u8 (1 : Nat)))
      generalize (mapZ (fun _ => 1) 32 j).getD j 0 = old at *
      go_wp2_with fail
      go_roundw
      case rel => exact ⟨j + 1, by omega, by go_num, by have h := HBS.out; rw [vb_set, HZT.out] at h; exact h, HA.out.far (p := ⟨w.heap.size, j, none⟩) (by show w.heap.size + 1 ≠ w.heap.size; omega) _, HB.out.setCell (by show w.heap.size ≤ w.heap.size; omega) _⟩
      case measure => simp only [intOf]; omega
    · obtain rfl : j = 32 := by omega
      have HK := Lib.hid (show Blk wr w.heap.size 23 (vb exKs) from HBK.out)
      have HN0 := Lib.hid HA.out
      have HB0 := Lib.hid HB.out
      clear HBK HA HB hlt
      generalize wr = w0 at *
      go_wp2_with fail
      go_loopw [4] (fun i wr => ∃ j : Nat, j ≤ 12 ∧ i = .int .i64 j ∧ Blk wr w.heap.size 23 (vb exKs) ∧ Blk wr (w.heap.size + 1) 25 (vb (mapZ (fun _ => 2) 12 j)) ∧ Below w.heap.size w wr) (fun i _ => 12 - (intOf i).toNat)
      case atStart => exact ⟨0, by omega, rfl, HK.out, by rw [mapZ_zero]; exact HN0.out, HB0.out⟩
      case round =>
        rename World => wr
        obtain ⟨j, hj, rfl, h1, h2, hb⟩ := hrel
        have HBK := Lib.hid h2
        have HA := Lib.hid h1
        have HB := Lib.hid hb
        clear h1 h2 hb
        by_cases hlt : j < 12
        · have p1 : (j : Int) < 12 := by omega
          have e1 := (HBK.out.cell j).trans (vb_at _ j (by rw [mapZ_len _ _ _ (by omega)]; omega))
          have e2 := HBK.out.free j
          have HZT := Lib.hid (mapZ_set (fun _ => 2) 12 j (by omega))
          have HBS := Lib.hid (HBK.out.set_ j (.int .u8 (2 : Nat)))
          generalize (mapZ (fun _ => 2) 12 j).getD j 0 = old at *
          go_wp2_with fail
          go_roundw
          case rel => exact ⟨j + 1, by omega, by go_num, HA.out.far (p := ⟨w.heap.size + 1, j, none⟩) (by show w.heap.size ≠ w.heap.size + 1; omega) _, by have h := HBS.out; rw [vb_set, HZT.out] at h; exact h, HB.out.setCell (by show w.heap.size ≤ w.heap.size + 1; omega) _⟩
          case measure => simp only [intOf]; omega
        · obtain rfl : j = 12 := by omega
          have HN := Lib.hid (show Blk wr (w.heap.size + 1) 25 (vb exNs) from HBK.out)
          have HK2 := Lib.hid HA.out
          have HB2 := Lib.hid HB.out
          have HQ2 := Lib.hid (HQ.out.next HB.out)
          clear HBK HA HB hlt HQ HK HN0 HB0
          generalize wr = w0 at *
          have hr1 := ((rd_new w0 (byt [3]) 5 (0, 0)).ext (w' := (w0.alloc (Obj.cells (byt [3]).toArray 5)).alloc (Obj.cells (byt [4, 5]).toArray 5)) ((Below.refl _ _).alloc (Nat.le_refl _) _)).more (B' := ((w0.alloc (Obj.cells (byt [3]).toArray 5)).alloc (Obj.cells (byt [4, 5]).toArray 5)).heap.size) (by simp)
          have hr2 := (rd_new (w0.alloc (Obj.cells (byt [3]).toArray 5)) (byt [4, 5]) 5 (0, 0)).more (B' := ((w0.alloc (Obj.cells (byt [3]).toArray 5)).alloc (Obj.cells (byt [4, 5]).toArray 5)).heap.size) (by simp)
          rw [show (w0.alloc (Obj.cells (byt [3]).toArray 5)).heap.size = w0.heap.size + 1 by simp] at hr2
          have hbx : Below w0.heap.size w0 ((w0.alloc (Obj.cells (byt [3]).toArray 5)).alloc (Obj.cells (byt [4, 5]).toArray 5)) := ((Below.refl _ _).alloc (Nat.le_refl _) _).alloc (by simp) _
          have HSX := Lib.hid ((HSE.out _ _ _ (HQ2.out.next hbx) hr1 hr2).mono (R' := fun e w' => ∃ v, e = .returned (.tuple #[v, .int .i64 0]) ∧ OwnB w' w0.heap.size v sl ∧ Below w0.heap.size w0 w') (fun e w' ⟨v, he, ho, hb⟩ => ⟨v, he, own_base_le ho hbx.size, hbx.trans (hb.mono hbx.size)⟩))
          clear hr1 hr2 hbx
          go_upto_region 12 with (first
            | (refine wpList_load_row rfl 23 (.tmp 1) rfl w.heap.size rfl 23 (vb exKs) (0, 0) _ HK2.out Tryd.underlying23 rfl HIK.out ?_)
            | (refine wpList_load_row rfl 25 (.tmp 2) rfl (w.heap.size + 1) rfl 25 (vb exNs) (0, 0) _ HN.out Tryd.underlying25 rfl HIN.out ?_)
            | (go_at_call 9; (refine HSX.out.mono ?_); rintro e W5 ⟨v5, rfl, ho, hb⟩; have HO := Lib.hid ho; have HB5 := Lib.hid (HB2.out.trans (hb.mono HB2.out.size)); clear ho hb))
          obtain ⟨g5, k5, rest, rfl, _, _, _, _⟩ := HO.out.open_ (by intro h0; have h1 := HSL.out; rw [h0] at h1; cases h1)
          have r5 := HO.out.rdAt
          rw [HSL.out]
          obtain ⟨g0, g1, g2, g3, g17⟩ := HAT.out
          have c0 := rd_cell r5 0 (by rw [HSL.out]; decide)
          rw [Addr.add_mid, Nat.zero_add] at c0
          have c1 := rd_cell r5 1 (by rw [HSL.out]; decide)
          rw [Addr.add_mid, Nat.zero_add] at c1
          have c2 := rd_cell r5 2 (by rw [HSL.out]; decide)
          rw [Addr.add_mid, Nat.zero_add] at c2
          have c3 := rd_cell r5 3 (by rw [HSL.out]; decide)
          rw [Addr.add_mid, Nat.zero_add] at c3
          have c17 := rd_cell r5 17 (by rw [HSL.out]; decide)
          rw [Addr.add_mid, Nat.zero_add] at c17
          rw [g0] at c0
          rw [g1] at c1
          rw [g2] at c2
          rw [g3] at c3
          rw [g17] at c17
          clear g0 g1 g2 g3 g17 r5 HO
          go_wp2_with fail
          go_ret
          exact ⟨rfl, HB5.out⟩
end Go.Proofs.YtfblpkjablgafaaDoor
