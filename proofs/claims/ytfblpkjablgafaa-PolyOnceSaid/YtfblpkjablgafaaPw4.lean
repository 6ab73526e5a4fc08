/- Contract: a number carried. -/
import Derived.Test.YtfblpkjablgafaaPw3
namespace Go.Proofs.Ytfblpkjablgafaa
open Go.RowKit
set_option linter.unusedVariables false
set_option linter.unusedSimpArgs false
theorem crr_lt (n : List Nat) (h : ∀ j, j < 5 → n.getD j 0 < 4611686018427387904) : ∀ k, k ≤ 5 → crr n k < 137438953472
  | 0, _ => by simp [crr]
  | k + 1, hk => by
    have h1 := crr_lt n h k (by omega)
    have h2 := h k (by omega)
    unfold crr
    omega
theorem NumSt.cell {w wr : World} {g b : Nat} {L : List Nat} (h : NumSt w wr g b L) (k : Nat) (hk : k < 5) : wr.cell? ⟨g, k, none⟩ = some (.int .u64 (L.getD k 0 : Nat)) :=
  (h.at_.cell k).trans (vq_at _ k (by rw [h.len]; exact hk))
theorem set_list (L : List Nat) (h : L.length = 5) (v0 v1 v2 : Nat) : ((L.set 0 v0).set 1 v1).set 0 v2 = [v2, v1, L.getD 2 0, L.getD 3 0, L.getD 4 0] := by
  match L, h with
  | [_, _, _, _, _], _ => rfl
set_option maxRecDepth 100000 in
set_option maxHeartbeats 4000000 in
theorem carried_c (n : List Nat) (w : World) (hn : n.length = 5) (hs : ∀ j, j < 5 → n.getD j 0 < 4611686018427387904) :
    Calls Try.prog 34 #[.agg (vq n)] w fun e w' => e = .returned (.agg (vq (carL n))) ∧ Below w.heap.size w w' := by
  have zf := zero_num
  have zs1 : zN5.size = 5 := by rfl
  have zs2 : ¬ zN5 = #[] := by intro h; have := congrArg Array.size h; rw [zs1] at this; cases this
  have nsz : (vq n).size = 5 := by rw [vq_size, hn]
  have HS := Lib.hid hs
  have HN := Lib.hid hn
  have HC := Lib.hid (crr_lt n hs)
  have HIX := fun k hk w => run_index_num n k hn hk w
  obtain ⟨Z, hZ⟩ : ∃ Z, Z = (w.alloc (Obj.cells (vq n) 46)).alloc (Obj.cells zN5 46) := ⟨_, rfl⟩
  have h2 : Blk Z (w.heap.size + 1) 46 zN5 := by
    have h1 := Blk.new (w.alloc (Obj.cells (vq n) 46)) 46 zN5
    rw [show (w.alloc (Obj.cells (vq n) 46)).heap.size = w.heap.size + 1 by simp] at h1
    rw [hZ]; exact h1
  have A0 := Lib.hid (show NumSt w Z w.heap.size (w.heap.size + 1) n from ⟨hn, by rw [hZ]; exact (Blk.new w _ _).alloc _, h2, by rw [hZ]; exact ((Below.refl _ _).alloc (Nat.le_refl _) _).alloc (by simp) _⟩)
  clear h2 hs
  go_enter Try.func34, Try.ntmps34
  go_upto_region 1 with fail
  rw [← hZ]
  clear hZ
  go_wp2_with (refine wpList_loadN rfl (.tmp 1) rfl w.heap.size rfl n A0.out.at_ HN.out ?_)
  go_loopw [3, 7] (fun c i wr => ∃ (k : Nat) (L : List Nat), k ≤ 5 ∧ i = .int .i64 (k : Int) ∧ c = .int .u64 (crr n k : Nat) ∧ NumSt w wr w.heap.size (w.heap.size + 1) L ∧ ∀ j, j < 5 → L.getD j 0 = if j < k then (n.getD j 0 + crr n j) % 67108864 else n.getD j 0) (fun _ i _ => 5 - (intOf i).toNat)
  case atStart => exact ⟨0, n, by omega, rfl, rfl, A0.out, fun j _ => by simp⟩
  case round =>
    rename World => wr
    obtain ⟨k, L, hk, rfl, rfl, hst, hL⟩ := hrel
    have ST := Lib.hid hst
    by_cases hlt : k < 5
    · have q1 : (k : Int) < 5 := by omega
      have q0 := HIX k hlt
      have eo := hst.cell k hlt
      rw [hL k hlt, if_neg (Nat.lt_irrefl k)] at eo
      have ef := hst.at_.free k
      have hx1 := HS.out k hlt
      have hc1 := HC.out k (by omega)
      have HLK := Lib.hid hL
      have HCS := Lib.hid (show crr n (k + 1) = (n.getD k 0 + crr n k) / 67108864 from rfl)
      clear hst hL HIX
      have HX := Lib.hid (show n.getD k 0 = n.getD k 0 from rfl)
      generalize hx : n.getD k 0 = x at *
      generalize hy : crr n k = c at *
      have HX := Lib.hid hx
      have HY := Lib.hid hy
      clear hx hy
      obtain ⟨v, hv⟩ : ∃ v, v = (x + c) % 67108864 := ⟨_, rfl⟩
      have f1 : bits BinOp.and IntKind.u64 ((x : Int) + (c : Int)) 67108863 = (v : Int) := by
        rw [show (x : Int) + (c : Int) = ((x + c : Nat) : Int) by omega, and26 _ (by omega), hv]
      have HV := Lib.hid hv
      clear hv
      go_wp2_with fail
      refine ⟨⟨k + 1, L.set k v, by omega, rfl, by rw [HCS.out]; congr 1, ST.out.set k v (Nat.le_refl _) (by omega), fun j hj => ?_⟩, by simp only [intOf]; omega⟩
      rw [getD_set _ _ _ _ (by rw [ST.out.len]; exact hlt), HLK.out j hj, HV.out, ← HX.out, ← HY.out]
      by_cases hjk : j = k
      · subst hjk; rw [if_pos rfl, if_pos (Nat.lt_succ_self _)]
      · rw [if_neg hjk]
        by_cases h3 : j < k
        · rw [if_pos h3, if_pos (by omega)]
        · rw [if_neg h3, if_neg (by omega)]
    · obtain rfl : k = 5 := by omega
      have l0 : L.getD 0 0 = n.getD 0 0 % 67108864 := hL 0 (by decide)
      have l1 : L.getD 1 0 = (n.getD 1 0 + crr n 1) % 67108864 := hL 1 (by decide)
      have l2 : L.getD 2 0 = (n.getD 2 0 + crr n 2) % 67108864 := hL 2 (by decide)
      have l3 : L.getD 3 0 = (n.getD 3 0 + crr n 3) % 67108864 := hL 3 (by decide)
      have l4 : L.getD 4 0 = (n.getD 4 0 + crr n 4) % 67108864 := hL 4 (by decide)
      clear hL
      have hc5 := HC.out 5 (by omega)
      have c0 := hst.cell 0 (by decide)
      have e0 := hst.at_.free 0
      rw [l0] at c0
      have b0 : n.getD 0 0 % 67108864 < 67108864 := Nat.mod_lt _ (by decide)
      have b1 : (n.getD 1 0 + crr n 1) % 67108864 < 67108864 := Nat.mod_lt _ (by decide)
      obtain ⟨v1, hv1⟩ : ∃ v1, v1 = (n.getD 1 0 + crr n 1) % 67108864 + (n.getD 0 0 % 67108864 + 5 * crr n 5) / 67108864 := ⟨_, rfl⟩
      obtain ⟨v2, hv2⟩ : ∃ v2, v2 = (n.getD 0 0 % 67108864 + 5 * crr n 5) % 67108864 := ⟨_, rfl⟩
      have HR := Lib.hid (show ∀ v0, ((L.set 0 v0).set 1 v1).set 0 v2 = carL n by
        intro v0
        rw [set_list L hst.len, l2, l3, l4, hv1, hv2]; rfl)
      rw [← l1] at b1 hv1
      clear l0 l1 l2 l3 l4
      generalize crr n 5 = C at *
      generalize n.getD 0 0 % 67108864 = x0 at *
      obtain ⟨v0, hv0⟩ : ∃ v0, v0 = x0 + 5 * C := ⟨_, rfl⟩
      have i0 : (x0 : Int) + 5 * (C : Int) = (v0 : Int) := by omega
      have HI0 := Lib.hid i0
      clear i0
      go_upto_region 9 with fail
      rw [HI0.out]
      have st1 := hst.set 0 v0 (Nat.le_refl _) (by omega)
      have c1 := st1.cell 1 (by decide)
      have c0' := st1.cell 0 (by decide)
      rw [getD_set _ _ _ _ (by rw [hst.len]; decide), if_neg (by decide)] at c1
      rw [getD_set _ _ _ _ (by rw [hst.len]; decide), if_pos rfl] at c0'
      have e1 := st1.at_.free 1
      have e0' := st1.at_.free 0
      have ST1 := Lib.hid st1
      clear c0 e0 hst st1 ST
      generalize wr.setCell ⟨w.heap.size, 0, none⟩ (.int .u64 (v0 : Nat)) = W1 at *
      have HR' := Lib.hid (HR.out v0)
      clear HR
      have i1 : ((L.getD 1 0 : Nat) : Int) + (v0 : Int) / 67108864 = (v1 : Int) := by omega
      have i2 : bits BinOp.and IntKind.u64 (v0 : Int) 67108863 = (v2 : Int) := by
        rw [and26 _ (by omega), hv2, hv0]
      have w1 : v0 / 67108864 < 274877906944 := by omega
      have HI1 := Lib.hid i1
      clear i1 hv1 hv2 hv0 HI0
      generalize L.getD 1 0 = x1 at *
      go_upto_region 10 with fail
      rw [HI1.out]
      have st2 := ST1.out.set 1 v1 (Nat.le_refl _) (by omega)
      have c2 := st2.cell 0 (by decide)
      rw [getD_set _ _ _ _ (by rw [ST1.out.len]; decide), if_neg (by decide)] at c2
      have e2 := st2.at_.free 0
      rw [ST1.out.cell 0 (by decide)] at c0'
      have hv : ((L.set 0 v0).getD 0 0) = v0 := by
        injection c0' with h1; injection h1 with _ h2; exact Int.ofNat_inj.1 h2
      rw [hv] at c2
      have ST2 := Lib.hid st2
      clear c0' e0' c1 e1 st2 ST1
      generalize W1.setCell ⟨w.heap.size, 1, none⟩ (.int .u64 (v1 : Nat)) = W2 at *
      go_upto_region 11 with fail
      have st3 := ST2.out.set 0 v2 (Nat.le_refl _) (by omega)
      rw [HR'.out] at st3
      have ST3 := Lib.hid st3
      clear c2 e2 st3 ST2 i2
      generalize W2.setCell ⟨w.heap.size, 0, none⟩ (.int .u64 (v2 : Nat)) = W3 at *
      have HSZ := Lib.hid (numSz (carL_len n))
      obtain ⟨R, hR⟩ : ∃ R, R = carL n := ⟨_, rfl⟩
      rw [← hR] at ST3 HSZ
      have HRR := Lib.hid hR
      clear hR
      have HQ := Lib.hid (show (vq R).size = zN5.size by rw [vq_size, ST3.out.len]; rfl)
      go_wp2_with (first
        | (refine wpList_loadN rfl (.tmp 1) rfl w.heap.size rfl R ST3.out.at_ ST3.out.len ?_)
        | (refine wpList_store_rowTo rfl 46 (.tmp 2) (.tmp 38) rfl rfl (w.heap.size + 1) (vq R) rfl rfl 46 zN5 ST3.out.out HSZ.out HQ.out.symm (vq_one _) ?_))
      first
        | rw [Exit.noGoto_ret]
        | skip
      refine bodyPost_ret (results_cell_row rfl _ _ (w.heap.size + 1) 46 (vq R) (0, 0) _ rfl (setRow_heap _ _ zN5 _ 46 (0, 0) ST3.out.out) Try.underlying46 rfl HSZ.out) rfl ?_
      exact ⟨by rw [HRR.out], below_row ST3.out.bel (by omega) _⟩
end Go.Proofs.Ytfblpkjablgafaa
