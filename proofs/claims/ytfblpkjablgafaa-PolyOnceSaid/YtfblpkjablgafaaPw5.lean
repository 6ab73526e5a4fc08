/- Contract: the product of two numbers. -/
import Derived.Test.YtfblpkjablgafaaPw4
namespace Go.Proofs.Ytfblpkjablgafaa
open Go.RowKit
set_option linter.unusedVariables false
set_option linter.unusedSimpArgs false
theorem mulStep_len (x y : List Nat) (i k : Nat) (o : List Nat) : (mulStep x y i k o).length = o.length := by
  unfold mulStep; split <;> rw [List.length_set]
theorem mulRow_len (x y : List Nat) (i : Nat) (o : List Nat) : ∀ k, (mulRow x y i o k).length = o.length
  | 0 => rfl
  | k + 1 => by rw [mulRow, mulStep_len, mulRow_len x y i o k]
theorem mulAll_len (x y : List Nat) : ∀ i, (mulAll x y i).length = 5
  | 0 => rfl
  | i + 1 => by rw [mulAll, mulRow_len, mulAll_len x y i]
structure TmSt (w wr : World) (g : Nat) (y o : List Nat) : Prop where
  len : o.length = 5
  at_ : Blk wr (g + 1 + 1 + 1) 46 (vq o)
  my : Blk wr (g + 1) 46 (vq y)
  out : Blk wr (g + 1 + 1) 46 zN5
  bel : Below w.heap.size w wr
theorem TmSt.set {w wr : World} {g : Nat} {y o : List Nat} (h : TmSt w wr g y o) (k v : Nat) (hg : w.heap.size ≤ g) : TmSt w (wr.setCell ⟨g + 1 + 1 + 1, k, none⟩ (.int .u64 (v : Int))) g y (o.set k v) :=
  ⟨by rw [List.length_set]; exact h.len, by rw [← vq_set]; exact h.at_.set_ _ _, h.my.far (by show g + 1 ≠ g + 1 + 1 + 1; omega) _, h.out.far (by show g + 1 + 1 ≠ g + 1 + 1 + 1; omega) _, h.bel.setCell (by show w.heap.size ≤ g + 1 + 1 + 1; omega) _⟩
theorem TmSt.cell {w wr : World} {g : Nat} {y o : List Nat} (h : TmSt w wr g y o) (k : Nat) (hk : k < 5) : wr.cell? ⟨g + 1 + 1 + 1, k, none⟩ = some (.int .u64 (o.getD k 0 : Nat)) :=
  (h.at_.cell k).trans (vq_at _ k (by rw [h.len]; exact hk))
theorem lbel_at {n : List Nat} {a : Nat} (h : lbel n a a) (j : Nat) (hj : j < 5) : n.getD j 0 < a := by
  obtain ⟨h0, h1, h2, h3, h4⟩ := h
  have : j = 0 ∨ j = 1 ∨ j = 2 ∨ j = 3 ∨ j = 4 := by omega
  rcases this with rfl | rfl | rfl | rfl | rfl <;> assumption
theorem bnd_step (i k a p : Nat) (h : a ≤ (5 * i + k) * 144115188075855872) (hp : p < 144115188075855872) : a + p ≤ (5 * i + (k + 1)) * 144115188075855872 := by
  rw [← Nat.add_assoc, Nat.succ_mul]
  omega
theorem bnd_more (i k a : Nat) (h : a ≤ (5 * i + k) * 144115188075855872) : a ≤ (5 * i + (k + 1)) * 144115188075855872 :=
  Nat.le_trans h (Nat.mul_le_mul_right _ (by omega))
theorem prod5_lt {a b : Nat} (ha : a < 268435456) (hb : b < 67108864) : 5 * a * b < 144115188075855872 := by
  have := prod_lt ha hb
  rw [Nat.mul_assoc]; omega
set_option maxRecDepth 100000 in
set_option maxHeartbeats 8000000 in
theorem times_c (x y : List Nat) (w : World) (hx : x.length = 5) (hy : y.length = 5) (bx : lbel x 268435456 268435456) (by_ : lbel y 67108864 67108864) :
    Calls Try.prog 26 #[.agg (vq x), .agg (vq y)] w fun e w' => e = .returned (.agg (vq (carL (mulAll x y 5)))) ∧ Below w.heap.size w w' := by
  have zf := zero_num
  have zs1 : zN5.size = 5 := by rfl
  have zs2 : ¬ zN5 = #[] := by intro h; have := congrArg Array.size h; rw [zs1] at this; cases this
  have xsz : (vq x).size = 5 := by rw [vq_size, hx]
  have ysz : (vq y).size = 5 := by rw [vq_size, hy]
  have HX := Lib.hid (fun j hj => lbel_at bx j hj)
  have HY := Lib.hid (fun j hj => lbel_at by_ j hj)
  have HYL := Lib.hid hy
  have HXL := Lib.hid hx
  have HCA := Lib.hid (fun W => carried_c (mulAll x y 5) W (mulAll_len x y 5) (fun j hj => lbel_at (mulAll_below x y hx hy bx by_) j hj))
  have HIX := Lib.hid (fun k hk w => run_index_num x k hx hk w)
  have HIY := Lib.hid (fun k hk w => run_index_num y k hy hk w)
  obtain ⟨Z, hZ⟩ : ∃ Z, Z = (((w.alloc (Obj.cells (vq x) 46)).alloc (Obj.cells (vq y) 46)).alloc (Obj.cells zN5 46)).alloc (Obj.cells zN5 46) := ⟨_, rfl⟩
  have h0 : Blk Z w.heap.size 46 (vq x) := by rw [hZ]; exact (((Blk.new w _ _).alloc _).alloc _).alloc _
  have h1 : Blk Z (w.heap.size + 1) 46 (vq y) := by
    have h1 := ((Blk.new (w.alloc (Obj.cells (vq x) 46)) 46 (vq y)).alloc (Obj.cells zN5 46)).alloc (Obj.cells zN5 46)
    rw [show (w.alloc (Obj.cells (vq x) 46)).heap.size = w.heap.size + 1 by simp] at h1
    rw [hZ]; exact h1
  have h2 : Blk Z (w.heap.size + 1 + 1) 46 zN5 := by
    have h1 := (Blk.new ((w.alloc (Obj.cells (vq x) 46)).alloc (Obj.cells (vq y) 46)) 46 zN5).alloc (Obj.cells zN5 46)
    rw [show ((w.alloc (Obj.cells (vq x) 46)).alloc (Obj.cells (vq y) 46)).heap.size = w.heap.size + 1 + 1 by simp] at h1
    rw [hZ]; exact h1
  have h3 : Blk Z (w.heap.size + 1 + 1 + 1) 46 (vq zL5) := by
    have h1 := Blk.new (((w.alloc (Obj.cells (vq x) 46)).alloc (Obj.cells (vq y) 46)).alloc (Obj.cells zN5 46)) 46 zN5
    rw [show (((w.alloc (Obj.cells (vq x) 46)).alloc (Obj.cells (vq y) 46)).alloc (Obj.cells zN5 46)).heap.size = w.heap.size + 1 + 1 + 1 by simp] at h1
    rw [hZ]; exact h1
  have A0 := Lib.hid (show TmSt w Z w.heap.size y zL5 from ⟨rfl, h3, h1, h2, by rw [hZ]; exact ((((Below.refl _ _).alloc (Nat.le_refl _) _).alloc (by simp) _).alloc (by simp; omega) _).alloc (by simp; omega) _⟩)
  have X0 := Lib.hid h0
  clear h0 h1 h2 h3 bx by_
  go_enter Try.func26, Try.ntmps26
  go_upto_region 2 with fail
  rw [← hZ]
  clear hZ zf
  go_wp2_with (refine wpList_loadN rfl (.tmp 2) rfl w.heap.size rfl x X0.out HXL.out ?_)
  go_loopw [11] (fun i wr => ∃ k : Nat, k ≤ 5 ∧ i = .int .i64 (k : Int) ∧ TmSt w wr w.heap.size y (mulAll x y k) ∧ ∀ j, j < 5 → (mulAll x y k).getD j 0 ≤ 5 * k * 144115188075855872) (fun i _ => 5 - (intOf i).toNat)
  case atStart => exact ⟨0, by omega, rfl, A0.out, fun j hj => by
    show (zL5).getD j 0 ≤ _
    have : j = 0 ∨ j = 1 ∨ j = 2 ∨ j = 3 ∨ j = 4 := by omega
    rcases this with rfl | rfl | rfl | rfl | rfl <;> decide⟩
  case round =>
    rename World => wo
    obtain ⟨i, hi, rfl, hst, hbd⟩ := hrel
    have ST := Lib.hid hst
    have BD := Lib.hid hbd
    by_cases hlt : i < 5
    · have p1 : (i : Int) < 5 := by omega
      have p0 := HIX.out i hlt
      have HXI := Lib.hid (HX.out i hlt)
      have HO0 := Lib.hid (show mulRow x y i (mulAll x y i) 0 = mulAll x y i from rfl)
      have HO5 := Lib.hid (show mulRow x y i (mulAll x y i) 5 = mulAll x y (i + 1) from rfl)
      clear hst hbd
      obtain ⟨xi, hxi⟩ : ∃ xi, xi = x.getD i 0 := ⟨_, rfl⟩
      rw [← hxi] at p0 HXI
      have XI := Lib.hid hxi
      clear hxi
      generalize mulAll x y i = O at *
      go_wp2_with (refine wpList_loadN rfl (.tmp 3) rfl (w.heap.size + 1) rfl y ST.out.my HYL.out ?_)
      go_loopw [16] (fun kk wr => ∃ k : Nat, k ≤ 5 ∧ kk = .int .i64 (k : Int) ∧ TmSt w wr w.heap.size y (mulRow x y i O k) ∧ ∀ j, j < 5 → (mulRow x y i O k).getD j 0 ≤ (5 * i + k) * 144115188075855872) (fun kk _ => 5 - (intOf kk).toNat)
      case atStart => exact ⟨0, by omega, rfl, by rw [HO0.out]; exact ST.out, fun j hj => by rw [HO0.out]; exact BD.out j hj⟩
      case round =>
        rename World => wi
        obtain ⟨k, hk, rfl, hst2, hbd2⟩ := hrel
        have ST2 := Lib.hid hst2
        have BD2 := Lib.hid hbd2
        by_cases hlt2 : k < 5
        · have q1 : (k : Int) < 5 := by omega
          have q0 := HIY.out k hlt2
          have HYK := HY.out k hlt2
          have HMS := Lib.hid (show mulRow x y i O (k + 1) = mulStep x y i k (mulRow x y i O k) from rfl)
          obtain ⟨yk, hyk⟩ : ∃ yk, yk = y.getD k 0 := ⟨_, rfl⟩
          rw [← hyk] at q0 HYK
          have YK := Lib.hid hyk
          clear hyk hst2 hbd2
          generalize mulRow x y i O k = o at *
          by_cases hik : i + k < 5
          · obtain ⟨s, hs⟩ : ∃ s, s = i + k := ⟨_, rfl⟩
            have hsi : (i : Int) + (k : Int) = (s : Int) := by omega
            have hs5 : (s : Int) < 5 := by omega
            have hsn : s < 5 := by omega
            have c0 := ST2.out.cell s hsn
            have e0 := ST2.out.at_.free s
            have bo := BD2.out s hsn
            have bo2 : o.getD s 0 ≤ 3458764513820540928 := by omega
            have hp := prod_lt HXI.out HYK
            have HPE := Lib.hid (show mulStep x y i k o = o.set s (o.getD s 0 + xi * yk) by unfold mulStep; rw [if_pos hik, hs, XI.out, YK.out])
            obtain ⟨p, hpp⟩ : ∃ p, p = xi * yk := ⟨_, rfl⟩
            rw [← hpp] at hp
            have f1 : IntKind.u64.wrap ((xi : Int) * (yk : Int)) = (p : Int) := by
              rw [show (xi : Int) * (yk : Int) = ((xi * yk : Nat) : Int) by simp, wrap_lt _ (by omega), hpp]
            have HPB := Lib.hid hp
            have HPP := Lib.hid hpp
            clear hpp bo HYK
            generalize ho : o.getD s 0 = os at *
            have HOS := Lib.hid ho
            have HSS := Lib.hid hs
            clear ho hs hik
            obtain ⟨v, hv⟩ : ∃ v, v = os + p := ⟨_, rfl⟩
            have hvi : (os : Int) + (p : Int) = (v : Int) := by omega
            have HVI := Lib.hid hvi
            have HV := Lib.hid hv
            clear hvi hv
            go_wp2_with fail
            refine ⟨⟨k + 1, by omega, rfl, by rw [HVI.out, HMS.out, HPE.out, ← HPP.out, ← HV.out]; exact ST2.out.set s v (Nat.le_refl _), fun j hj => ?_⟩, by simp only [intOf]; omega⟩
            rw [HMS.out, HPE.out, getD_set _ _ _ _ (by rw [ST2.out.len]; exact hsn), ← HPP.out]
            by_cases hjs : j = s
            · rw [if_pos hjs]
              have h1 := BD2.out s hsn
              rw [HOS.out] at h1
              exact bnd_step i k _ _ h1 (Nat.lt_of_lt_of_le HPB.out (by decide))
            · rw [if_neg hjs]
              exact bnd_more i k _ (BD2.out j hj)
          · obtain ⟨s, hs⟩ : ∃ s, s = i + k := ⟨_, rfl⟩
            have hsi : (i : Int) + (k : Int) = (s : Int) := by omega
            have hs5 : ¬ (s : Int) < 5 := by omega
            obtain ⟨s5, hs5e⟩ : ∃ s5, s5 = i + k - 5 := ⟨_, rfl⟩
            have hsi5 : (s : Int) - 5 = (s5 : Int) := by omega
            have hsn : s5 < 5 := by omega
            have hsn2 : (s5 : Int) < 5 := by omega
            have c0 := ST2.out.cell s5 hsn
            have e0 := ST2.out.at_.free s5
            have bo := BD2.out s5 hsn
            have bo2 : o.getD s5 0 ≤ 3458764513820540928 := by omega
            have hp := prod5_lt HXI.out HYK
            have hx31 := HXI.out
            have HPE := Lib.hid (show mulStep x y i k o = o.set s5 (o.getD s5 0 + 5 * xi * yk) by unfold mulStep; rw [if_neg hik, hs5e, XI.out, YK.out])
            obtain ⟨p, hpp⟩ : ∃ p, p = 5 * xi * yk := ⟨_, rfl⟩
            rw [← hpp] at hp
            have f1 : IntKind.u64.wrap (5 * (xi : Int) * (yk : Int)) = (p : Int) := by
              rw [show 5 * (xi : Int) * (yk : Int) = ((5 * xi * yk : Nat) : Int) by simp, wrap_lt _ (by omega), hpp]
            have HPB := Lib.hid hp
            have HPP := Lib.hid hpp
            clear hpp bo HYK
            generalize ho : o.getD s5 0 = os at *
            have HOS := Lib.hid ho
            clear ho hs hs5e hik
            obtain ⟨v, hv⟩ : ∃ v, v = os + p := ⟨_, rfl⟩
            have hvi : (os : Int) + (p : Int) = (v : Int) := by omega
            have HVI := Lib.hid hvi
            have HV := Lib.hid hv
            clear hvi hv
            go_wp2_with fail
            refine ⟨⟨k + 1, by omega, rfl, by rw [HVI.out, HMS.out, HPE.out, ← HPP.out, ← HV.out]; exact ST2.out.set s5 v (Nat.le_refl _), fun j hj => ?_⟩, by simp only [intOf]; omega⟩
            rw [HMS.out, HPE.out, getD_set _ _ _ _ (by rw [ST2.out.len]; exact hsn), ← HPP.out]
            by_cases hjs : j = s5
            · rw [if_pos hjs]
              have h1 := BD2.out s5 hsn
              rw [HOS.out] at h1
              exact bnd_step i k _ _ h1 (Nat.lt_of_lt_of_le HPB.out (by decide))
            · rw [if_neg hjs]
              exact bnd_more i k _ (BD2.out j hj)
        · obtain rfl : k = 5 := by omega
          rw [HO5.out] at hst2 hbd2
          have ST3 := Lib.hid hst2
          have BD3 := Lib.hid hbd2
          clear hst2 hbd2 ST2 BD2
          go_wp2_with fail
          exact ⟨⟨i + 1, by omega, rfl, ST3.out, fun j hj => by have := BD3.out j hj; omega⟩, by simp only [intOf]; omega⟩
    · obtain rfl : i = 5 := by omega
      clear hst hbd
      have HCL := Lib.hid (carL_len (mulAll x y 5))
      have HML := Lib.hid (mulAll_len x y 5)
      obtain ⟨M, hM⟩ : ∃ M, M = mulAll x y 5 := ⟨_, rfl⟩
      rw [← hM] at HCA ST HCL HML
      obtain ⟨R, hR⟩ : ∃ R, R = carL M := ⟨_, rfl⟩
      rw [← hR] at HCA HCL
      have HRR := Lib.hid (show R = carL (mulAll x y 5) by rw [hR, hM])
      clear hM hR
      have HSZ := Lib.hid (numSz HCL.out)
      have HQ := Lib.hid (show (vq R).size = zN5.size by rw [vq_size, HCL.out]; rfl)
      go_wp2_with (first
        | (refine wpList_loadN rfl (.tmp 5) rfl (w.heap.size + 1 + 1 + 1) rfl M ST.out.at_ HML.out ?_)
        | (go_at_call 34; (refine (HCA.out _).mono ?_); rintro e w1 ⟨rfl, hb⟩; have E1 := Lib.hid (ST.out.out.below hb ST.out.out.lt); have B1 := Lib.hid (ST.out.bel.trans (hb.mono ST.out.bel.size)); clear hb)
        | (refine wpList_store_rowTo rfl 46 (.tmp 4) (.tmp 49) rfl rfl (w.heap.size + 1 + 1) (vq R) rfl rfl 46 zN5 E1.out HSZ.out HQ.out.symm (vq_one _) ?_))
      first
        | rw [Exit.noGoto_ret]
        | skip
      refine bodyPost_ret (results_cell_row rfl _ _ (w.heap.size + 1 + 1) 46 (vq R) (0, 0) _ rfl (setRow_heap _ _ zN5 _ 46 (0, 0) E1.out) Try.underlying46 rfl HSZ.out) rfl ?_
      exact ⟨by rw [HRR.out], below_row B1.out (by omega) _⟩
end Go.Proofs.Ytfblpkjablgafaa
