/- Contract: a sum of sixteen bytes. -/
import Derived.Test.YtfblpkjablgafaaPw7
namespace Go.Proofs.Ytfblpkjablgafaa
open Go.RowKit
set_option linter.unusedVariables false
set_option linter.unusedSimpArgs false
set_option maxRecDepth 100000 in
set_option maxHeartbeats 8000000 in
theorem plus_c (X Y : Nat) (ad : Addr) (ca : Nat) (w : World) (hr : Rd w w.heap.size (some ad) (byt (form Y 16))) (hca : 16 ≤ ca) :
    Calls Try.prog 27 #[.agg (vb (form X 16)), .slice (some ad) 16 ca] w fun e w' => e = .returned (.agg (vb (form (X + Y) 16))) ∧ Below w.heap.size w w' := by
  have zf := zero_tag
  have zs1 : zT.size = 16 := by rfl
  have zs2 : ¬ zT = #[] := by intro h; have := congrArg Array.size h; rw [zs1] at this; cases this
  have nsz : (vb (form X 16)).size = 16 := by rw [vb_size, form_len]
  have HR := Lib.hid hr
  clear hr
  obtain ⟨FX, hFX⟩ : ∃ FX, FX = form X 16 := ⟨_, rfl⟩
  have HFX := Lib.hid (show ∀ j, j < 16 → FX.getD j 0 = X / 256 ^ j % 256 from fun j hj => by rw [hFX, form_at _ _ _ hj])
  have HFL := Lib.hid (show FX.length = 16 by rw [hFX, form_len])
  rw [← hFX] at nsz
  rw [← hFX]
  clear hFX
  obtain ⟨FY, hFY⟩ : ∃ FY, FY = form Y 16 := ⟨_, rfl⟩
  have HFY := Lib.hid (show ∀ j, j < 16 → FY.getD j 0 = Y / 256 ^ j % 256 from fun j hj => by rw [hFY, form_at _ _ _ hj])
  have HYL := Lib.hid (show FY.length = 16 by rw [hFY, form_len])
  rw [← hFY] at HR
  clear hFY
  obtain ⟨Z, hZ⟩ : ∃ Z, Z = (w.alloc (Obj.cells (vb FX) 29)).alloc (Obj.cells zT 29) := ⟨_, rfl⟩
  have A0 := Lib.hid (show Blk Z w.heap.size 29 (vb FX) by rw [hZ]; exact (Blk.new w _ _).alloc _)
  have E0 := Lib.hid (show Blk Z (w.heap.size + 1) 29 zT by
    have h1 := Blk.new (w.alloc (Obj.cells (vb FX) 29)) 29 zT
    rw [show (w.alloc (Obj.cells (vb FX) 29)).heap.size = w.heap.size + 1 by simp] at h1
    rw [hZ]; exact h1)
  have B0 := Lib.hid (show Below w.heap.size w Z by rw [hZ]; exact ((Below.refl _ _).alloc (Nat.le_refl _) _).alloc (by simp) _)
  have ST0 := Lib.hid (show TgSt w Z (w.heap.size + 1) w.heap.size FX from ⟨HFL.out, A0.out, E0.out, B0.out, Nat.le_refl _, by omega⟩)
  go_enter Try.func27, Try.ntmps27
  go_upto_region 1 with fail
  rw [← hZ]
  clear hZ A0 E0 B0
  go_wp2_with fail
  go_loopw [5, 11] (fun c i wr => ∃ (k : Nat) (O : List Nat), k ≤ 16 ∧ i = .int .i64 (k : Int) ∧ c = .int .u64 (pcy X Y k : Nat) ∧ TgSt w wr (w.heap.size + 1) w.heap.size O ∧ ∀ j, j < 16 → O.getD j 0 = if j < k then (X + Y) / 256 ^ j % 256 else FX.getD j 0) (fun _ i _ => 16 - (intOf i).toNat)
  case atStart => exact ⟨0, FX, by omega, rfl, rfl, ST0.out, fun j _ => by rw [if_neg (Nat.not_lt_zero j)]⟩
  case round =>
    rename World => wr
    obtain ⟨k, O, hk, rfl, rfl, hst, hO⟩ := hrel
    have ST := Lib.hid hst
    have HO := Lib.hid hO
    clear hst hO ST0
    by_cases hlt : k < 16
    · have p1 : (k : Int) < 16 := by omega
      have q17 : (k : Int) < 16 := by omega
      have d0 := ST.out.cell k hlt
      rw [HO.out k hlt, if_neg (Nat.lt_irrefl k), HFX.out k hlt] at d0
      have e0 := ST.out.at_.free k
      obtain ⟨ad', e1, _, q0⟩ := (HR.out.below ST.out.bel).byte (k := k) (by rw [HYL.out]; exact hlt)
      cases e1
      rw [HFY.out k hlt] at q0
      have ha : X / 256 ^ k % 256 < 256 := Nat.mod_lt _ (by decide)
      have hy : Y / 256 ^ k % 256 < 256 := Nat.mod_lt _ (by decide)
      have hc := pcy_le X Y k
      have HV := Lib.hid (pcy_byte X Y k)
      have HC := Lib.hid (show pcy X Y (k + 1) = (pcy X Y k + X / 256 ^ k % 256 + Y / 256 ^ k % 256) / 256 from rfl)
      obtain ⟨v, hv⟩ : ∃ v, v = (X + Y) / 256 ^ k % 256 := ⟨_, rfl⟩
      rw [← hv] at HV
      have VV := Lib.hid hv
      clear hv
      generalize X / 256 ^ k % 256 = a at *
      generalize Y / 256 ^ k % 256 = y at *
      generalize pcy X Y k = c at *
      have f1 : IntKind.u8.wrap ((c : Int) + ((a : Int) + (y : Int))) = (v : Int) := by
        rw [show (c : Int) + ((a : Int) + (y : Int)) = ((c + a + y : Nat) : Int) by omega, u8wrap, HV.out]
      go_wp2_with fail
      refine ⟨⟨k + 1, O.set k v, by omega, rfl, by rw [HC.out]; congr 1; omega, ST.out.set k v, fun j hj => ?_⟩, by simp only [intOf]; omega⟩
      rw [getD_set _ _ _ _ (by rw [ST.out.len]; exact hlt), HO.out j hj, VV.out]
      by_cases hjk : j = k
      · subst hjk; rw [if_pos rfl, if_pos (Nat.lt_succ_self _)]
      · rw [if_neg hjk]
        by_cases h3 : j < k
        · rw [if_pos h3, if_pos (by omega)]
        · rw [if_neg h3, if_neg (by omega)]
    · obtain rfl : k = 16 := by omega
      have HE := Lib.hid (show O = form (X + Y) 16 by
        refine list_ext (by rw [ST.out.len, form_len]) fun j hj => ?_
        rw [ST.out.len] at hj
        rw [HO.out j hj, if_pos hj, form_at 16 _ j hj])
      clear HO
      have HSZ := Lib.hid (tagSz ST.out.len)
      have HQ := Lib.hid (show zT.size = (vb O).size by rw [vb_size, ST.out.len]; rfl)
      go_wp2_with (first
        | (refine wpList_loadT rfl (.tmp 2) rfl w.heap.size rfl O ST.out.at_ ST.out.len ?_)
        | (refine wpList_store_rowTo rfl 29 (.tmp 4) (.tmp 32) rfl rfl (w.heap.size + 1) (vb O) rfl rfl 29 zT ST.out.out HSZ.out HQ.out (vb_one _) ?_))
      first
        | rw [Exit.noGoto_ret]
        | skip
      refine bodyPost_ret (results_cell_row rfl _ _ (w.heap.size + 1) 29 (vb O) (0, 0) _ rfl (setRow_heap _ _ zT _ 29 (0, 0) ST.out.out) Try.underlying29 rfl HSZ.out) rfl ?_
      exact ⟨by rw [HE.out], below_row ST.out.bel (by omega) _⟩
end Go.Proofs.Ytfblpkjablgafaa
