/- Contract: nonces, by the document. -/
import Derived.Test.YtfblpkjablgafaaDoorCe3
namespace Go.Proofs.YtfblpkjablgafaaDoor
open Go.RowKit
set_option linter.unusedVariables false
set_option linter.unusedSimpArgs false
theorem nonL_map (node count : Nat) : mapZ (fun i => (form count 8 ++ form node 2).getD i 0) 12 10 = nonL node count := by
  unfold mapZ
  rw [mapZ_getD _ _ (by simp [form_len]), List.take_of_length_le (by simp [form_len])]
  unfold nonL
  rw [List.append_assoc]
  rfl
set_option maxRecDepth 100000 in
set_option maxHeartbeats 4000000 in
theorem rnonce_c (node count : Nat) (w : World) (hn : node < 65536) (hc : count < 18446744073709551616) :
    Calls Tryd.prog 17 #[.int .u16 node, .int .u64 count] w fun e w' => e = .returned (.agg (vb (nonL node count))) ∧ Below w.heap.size w w' := by
  obtain ⟨i0, hib, hz0, hz1, hz2⟩ := info_parts byteInfo
  have zf := zero_non12
  have zs1 : (vb zNl).size = 12 := by rfl
  have zs2 : ¬ vb zNl = #[] := by intro h; have := congrArg Array.size h; rw [zs1] at this; cases this
  have f1 : IntKind.u64.wrap (node : Int) = (node : Int) := by simp [IntKind.wrap, IntKind.signed, IntKind.bits]; omega
  obtain ⟨Z, hZ⟩ : ∃ Z, Z = (w.alloc (Obj.cells (vb zNl) 24)).alloc (Obj.cells (vb zNl) 24) := ⟨_, rfl⟩
  have HZ := Lib.hid (show Below w.heap.size w Z by rw [hZ]; exact ((Below.refl _ _).alloc (Nat.le_refl _) _).alloc (by simp) _)
  have H1 := Lib.hid (show Blk Z w.heap.size 24 (vb zNl) by rw [hZ]; exact (Blk.new w _ _).alloc _)
  have H2 := Lib.hid (show Blk Z (w.heap.size + 1) 24 (vb zNl) by rw [hZ]; exact heap2 w _ _)
  have HF1 := Lib.hid (show ∀ W, Calls Tryd.prog 23 #[.int .u64 (count : Nat), .int .i64 8] W (Gives (form count 8) W) from fun W => rform_c count 8 W hc (by decide))
  have HF2 := Lib.hid (show ∀ W, Calls Tryd.prog 23 #[.int .u64 (node : Nat), .int .i64 2] W (Gives (form node 2) W) from fun W => rform_c node 2 W (by omega) (by decide))
  have HL1 := Lib.hid (show (form count 8).length = 8 by simp [form_len])
  have HL2 := Lib.hid (show (form node 2).length = 2 by simp [form_len])
  have HNM := Lib.hid (nonL_map node count)
  have HNS := Lib.hid (n12Sz (nonL_len node count))
  have HNZ := Lib.hid (show (vb zNl).size = (vb (nonL node count)).size by rw [vb_size, vb_size, nonL_len]; rfl)
  have HNT := Lib.hid (show ∀ c ∈ form count 8 ++ form node 2, c < 256 from fun c h => by rcases List.mem_append.1 h with h | h <;> exact form_lt _ _ c h)
  generalize nonL node count = z at *
  generalize form count 8 = x at *
  generalize form node 2 = y at *
  clear hn hc
  go_enter Tryd.func17, Tryd.ntmps17
  go_upto_region 2 with fail
  rw [← hZ]
  have HZS := Lib.hid (show w.heap.size + 1 < Z.heap.size by rw [hZ]; simp)
  clear hZ
  go_upto_region 3 with (first
    | (go_at_call 23; (with_reducible refine (HF1.out Z).mono ?_); rintro e W2 ⟨v2, rfl, ho, hb⟩; have HO2 := Lib.hid ho; have HB2 := Lib.hid hb; clear ho hb)
    | (go_at_call 23; (with_reducible refine (HF2.out W2).mono ?_); rintro e W3 ⟨v3, rfl, ho, hb⟩; obtain ⟨A3, k3, rfl, _, _, r3⟩ := ho.rd; rw [HL2.out]; have HR3 := Lib.hid r3; have HO3 := Lib.hid (HO2.out.next hb); have HB3 := Lib.hid (HB2.out.trans (hb.mono HB2.out.size)); clear ho hb r3)
    | (at_builtin; go_loud (refine wpList_app _ rfl (.tmp 9) (.tmp 12) _ rfl Z.heap.size 5 i0 (.int .u8 0) 1 1 Tryd.underlying26 hib hz0 hz1 hz2 rfl (by decide) v2 x.length (byt x) rfl HO3.out _ A3 2 k3 (byt y) rfl (by rw [byt_len, HL2.out]) HR3.out (byt_one _) (by rw [HL1.out]; decide) (by rw [HL1.out]; decide) HB3.out.size ?_; intro v4 W4 hap; have HO4 := Lib.hid (show OwnB W4 Z.heap.size v4 (x ++ y) from OwnB.app (by rw [HL2.out]; exact hap)); have HB4 := Lib.hid (HB3.out.trans (hap.below HO3.out HB3.out.size)); clear hap)))
  have HLL := Lib.hid (show (x ++ y).length = 10 by rw [List.length_append, HL1.out, HL2.out])
  generalize x ++ y = l at *
  obtain ⟨A5, k5, rfl, _, _, r5⟩ := HO4.out.rd
  obtain ⟨ad5, rfl, _, _⟩ := r5.byte (k := 0) (by rw [HLL.out]; decide)
  rw [HLL.out] at HO4 ⊢
  clear r5 HO3 HO2 HR3 HB2 HB3 HF1 HF2
  go_wp2_with fail
  go_loopw [7] (fun i wr => ∃ j : Nat, j ≤ 10 ∧ i = .int .i64 j ∧ OwnB wr Z.heap.size (.slice (some ad5) 10 k5) l ∧ Blk wr w.heap.size 24 (vb zNl) ∧ Blk wr (w.heap.size + 1) 24 (vb (mapZ (fun i => l.getD i 0) 12 j)) ∧ Below w.heap.size w wr) (fun i _ => 10 - (intOf i).toNat)
  case atStart => exact ⟨0, by omega, rfl, HO4.out, H1.out.below HB4.out H1.out.lt, by rw [mapZ_zero]; exact H2.out.below HB4.out H2.out.lt, HZ.out.trans (HB4.out.mono HZ.out.size)⟩
  case round =>
    rename World => wr
    obtain ⟨j, hj, rfl, ho, h1, h2, hb⟩ := hrel
    have HO := Lib.hid ho
    have HA := Lib.hid h1
    have HBK := Lib.hid h2
    have HB := Lib.hid hb
    clear ho h1 h2 hb HO4 HB4
    by_cases hlt : j < 10
    · have p1 : (j : Int) < 10 := by omega
      have p2 : (j : Int) < 12 := by omega
      have e0 := rd_cell HO.out.rdAt j (by rw [HLL.out]; exact hlt)
      have e1 := (HBK.out.cell j).trans (vb_at _ j (by rw [mapZ_len _ _ _ (by omega)]; omega))
      have e2 := HBK.out.free j
      have HZT := Lib.hid (mapZ_set (fun i => l.getD i 0) 12 j (by omega))
      have HBS := Lib.hid (HBK.out.set_ j (.int .u8 (l.getD j 0 : Nat)))
      have hx := getD_lt HNT.out j
      generalize (mapZ (fun i => l.getD i 0) 12 j).getD j 0 = old at *
      generalize l.getD j 0 = c at *
      go_wp2_with fail
      go_roundw
      case rel => exact ⟨j + 1, by omega, by go_num, HO.out.off ((Only.refl (fun k => k = w.heap.size + 1) wr).setCell (p := ⟨w.heap.size + 1, j, none⟩) (fun _ => rfl) _) (fun k hk => by have := HZS.out; omega), HA.out.far (p := ⟨w.heap.size + 1, j, none⟩) (by show w.heap.size ≠ w.heap.size + 1; omega) _, by have h := HBS.out; rw [vb_set, HZT.out] at h; exact h, HB.out.setCell (by show w.heap.size ≤ w.heap.size + 1; omega) _⟩
      case measure => simp only [intOf]; omega
    · obtain rfl : j = 10 := by omega
      rw [HNM.out] at HBK
      go_wp2_with (first
        | (refine wpList_load_row rfl 24 (.tmp 5) rfl (w.heap.size + 1) rfl 24 (vb z) (0, 0) _ HBK.out Tryd.underlying24 rfl HNS.out ?_)
        | (refine wpList_store_rowTo rfl 24 (.tmp 4) (.tmp 24) rfl rfl w.heap.size (vb z) rfl rfl 24 (vb zNl) HA.out HNS.out HNZ.out (vb_one _) ?_))
      first
        | rw [Exit.noGoto_ret]
        | skip
      refine bodyPost_ret (results_cell_row rfl _ _ w.heap.size 24 (vb z) (0, 0) _ rfl (setRow_heap _ _ (vb zNl) _ 24 (0, 0) HA.out) Tryd.underlying24 rfl HNS.out) rfl ?_
      exact ⟨rfl, below_row HB.out (Nat.le_refl _) _⟩
end Go.Proofs.YtfblpkjablgafaaDoor
