/- Contracts of the document's stream: a turn; a quarter. -/
import Derived.Test.YtfblpkjablgafaaDoorCaM
namespace Go.Proofs.YtfblpkjablgafaaDoor
open Go.RowKit
set_option linter.unusedVariables false
set_option linter.unusedSimpArgs false
set_option maxRecDepth 100000 in
set_option maxHeartbeats 1000000 in
theorem rturn_c (x n : Nat) (w : World) (hx : x < 4294967296) (hn : n ≤ 32) : Calls Tryd.prog 48 #[.int .u32 x, .int .i64 n] w fun e w' => e = .returned (.int .u32 (rotl x n : Nat)) ∧ w = w' := by
  have HZ := Lib.hid (rotl_zero x hx)
  go_enter Tryd.func48, Tryd.ntmps48
  go_wp2_with fail
  go_loopw [0, 5] (fun xv i wr => ∃ m : Nat, m ≤ n ∧ i = .int .i64 m ∧ xv = .int .u32 (rotl x m : Nat) ∧ wr = w) (fun _ i _ => n - (intOf i).toNat)
  case atStart => exact ⟨0, by omega, rfl, by rw [HZ.out], rfl⟩
  case round =>
    rename World => wr
    obtain ⟨m, hm, rfl, rfl, rfl⟩ := hrel
    by_cases hlt : m < n
    · have p1 : (m : Int) < (n : Int) := by omega
      have HS := Lib.hid (rotl_succ x m hx (by omega))
      have hy := rotl_lt x m hx (by omega)
      have hz := rotl_lt x (m + 1) hx (by omega)
      obtain ⟨z, hzz⟩ : ∃ z, z = rotl x (m + 1) := ⟨_, rfl⟩
      have HZZ := Lib.hid hzz
      rw [← hzz] at HS hz
      clear hzz
      generalize rotl x m = y at *
      obtain ⟨t, ht⟩ : ∃ t, t = y / 2147483648 := ⟨_, rfl⟩
      obtain ⟨u, hu⟩ : ∃ u, u = y * 2 % 4294967296 := ⟨_, rfl⟩
      have hs := HS.out
      have f0 : (y : Int) / 2147483648 = (t : Int) := by omega
      have f1 : IntKind.u32.wrap ((y : Int) * 2) = (u : Int) := by rw [wrap32]; omega
      have f2 : IntKind.u32.wrap ((u : Int) + (t : Int)) = (z : Int) := by rw [wrap32]; omega
      clear hs HS ht hu HZ
      go_wp2_with fail
      go_roundw
      case rel => exact ⟨m + 1, by omega, by go_num, by rw [← HZZ.out], by first | trivial | rfl⟩
      case measure => simp only [intOf]; omega
    · obtain rfl : m = n := by omega
      go_wp2_with fail
      refine bodyPost_ret (results_tmp rfl _ _ _) rfl ?_
      exact ⟨rfl, rfl⟩
theorem rTurns (n : Nat) (hn : n ≤ 32) (x : Nat) (w : World) (hx : x < 4294967296) : Calls Tryd.prog 48 #[.int .u32 x, .int .i64 n] w fun e w' => e = .returned (.int .u32 (rotl x n : Nat)) ∧ w = w' := rturn_c x n w hx hn
/-- words, and what lies behind them in their row -/
def vx (l : List Nat) (rest : List Value) : Array Value := (w32 l ++ rest).toArray
theorem vx_at (l : List Nat) (rest : List Value) (i : Nat) (h : i < l.length) : (vx l rest)[i]? = some (.int .u32 (l.getD i 0 : Nat)) := by
  unfold vx
  rw [List.getElem?_toArray, List.getElem?_append_left (by rw [w32_len]; exact h)]
  have := vw_at l i h
  simpa only [vw, List.getElem?_toArray] using this
theorem vx_set (l : List Nat) (rest : List Value) (i n : Nat) (h : i < l.length) : (vx l rest).setIfInBounds i (.int .u32 (n : Nat)) = vx (l.set i n) rest := by
  unfold vx
  rw [List.setIfInBounds_toArray, List.set_append_left _ _ (by rw [w32_len]; exact h)]
  simp [w32, List.map_set]
set_option maxRecDepth 100000 in
set_option maxHeartbeats 8000000 in
theorem rquarter_c (g ca a b c d : Nat) (ws : List Nat) (rest : List Value) (w : World) (hW0 : W16 ws) (hb : Blk w g 47 (vx ws rest)) (ha : a < 16) (hbb : b < 16) (hc : c < 16) (hd : d < 16) :
    Calls Tryd.prog 31 #[.slice (some ⟨g, 0, none⟩) 16 ca, .int .i64 a, .int .i64 b, .int .i64 c, .int .i64 d] w fun e w' => e = .returned (.tuple #[]) ∧ Blk w' g 47 (vx (qtrL ws [a, b, c, d]) rest) ∧ w.grownBy w' (some g) := by
  have pa : (a : Int) < 16 := by omega
  have pb : (b : Int) < 16 := by omega
  have pc : (c : Int) < 16 := by omega
  have pd : (d : Int) < 16 := by omega
  have HQ := Lib.hid (show qtrL ws [a, b, c, d] = mixL (mixL (mixL (mixL ws a b d 16) c d b 12) a b d 8) c d b 7 from rfl)
  have hW1 := hW0.mix a b d 16 (by omega) (by omega) (by decide)
  have hV0 := hW0.set a ((ws.getD a 0 + ws.getD b 0) % 4294967296) (by omega) (Nat.mod_lt _ (by decide))
  obtain ⟨u0, hu0⟩ : ∃ u, u = ws.set a ((ws.getD a 0 + ws.getD b 0) % 4294967296) := ⟨_, rfl⟩
  have HM0 := Lib.hid (show mixL ws a b d 16 = u0.set d (rotl (u0.getD d 0 ^^^ u0.getD a 0) 16) by rw [hu0]; rfl)
  rw [← hu0] at hV0
  generalize mixL ws a b d 16 = v1 at *
  have hW2 := hW1.mix c d b 12 (by omega) (by omega) (by decide)
  have hV1 := hW1.set c ((v1.getD c 0 + v1.getD d 0) % 4294967296) (by omega) (Nat.mod_lt _ (by decide))
  obtain ⟨u1, hu1⟩ : ∃ u, u = v1.set c ((v1.getD c 0 + v1.getD d 0) % 4294967296) := ⟨_, rfl⟩
  have HM1 := Lib.hid (show mixL v1 c d b 12 = u1.set b (rotl (u1.getD b 0 ^^^ u1.getD c 0) 12) by rw [hu1]; rfl)
  rw [← hu1] at hV1
  generalize mixL v1 c d b 12 = v2 at *
  have hW3 := hW2.mix a b d 8 (by omega) (by omega) (by decide)
  have hV2 := hW2.set a ((v2.getD a 0 + v2.getD b 0) % 4294967296) (by omega) (Nat.mod_lt _ (by decide))
  obtain ⟨u2, hu2⟩ : ∃ u, u = v2.set a ((v2.getD a 0 + v2.getD b 0) % 4294967296) := ⟨_, rfl⟩
  have HM2 := Lib.hid (show mixL v2 a b d 8 = u2.set d (rotl (u2.getD d 0 ^^^ u2.getD a 0) 8) by rw [hu2]; rfl)
  rw [← hu2] at hV2
  generalize mixL v2 a b d 8 = v3 at *
  have hW4 := hW3.mix c d b 7 (by omega) (by omega) (by decide)
  have hV3 := hW3.set c ((v3.getD c 0 + v3.getD d 0) % 4294967296) (by omega) (Nat.mod_lt _ (by decide))
  obtain ⟨u3, hu3⟩ : ∃ u, u = v3.set c ((v3.getD c 0 + v3.getD d 0) % 4294967296) := ⟨_, rfl⟩
  have HM3 := Lib.hid (show mixL v3 c d b 7 = u3.set b (rotl (u3.getD b 0 ^^^ u3.getD c 0) 7) by rw [hu3]; rfl)
  rw [← hu3] at hV3
  obtain ⟨v4, hv4⟩ : ∃ v, v = mixL v3 c d b 7 := ⟨_, rfl⟩
  rw [← hv4] at HM3 hW4 HQ
  clear hv4
  have hg0 := g1_refl w g
  have hs0 := hb
  clear hb
  go_enter Tryd.func31, Tryd.ntmps31
  have d0 := (hs0.cell a).trans (vx_at ws rest a (by rw [hW0.len]; omega))
  have d1 := (hs0.cell b).trans (vx_at ws rest b (by rw [hW0.len]; omega))
  have e0 := hs0.free a
  have x0 := hW0.lt a
  have x1 := hW0.lt b
  have l0 := hW0.len
  obtain ⟨s, hs⟩ : ∃ s, s = (ws.getD a 0 + ws.getD b 0) % 4294967296 := ⟨_, rfl⟩
  have f0 : IntKind.u32.wrap (((ws.getD a 0 : Nat) : Int) + ((ws.getD b 0 : Nat) : Int)) = (s : Int) := by rw [wrap32]; omega
  rw [← hs] at hu0
  have HS := Lib.hid (show Blk (w.setCell ⟨g, a, none⟩ (.int .u32 (s : Int))).drew g 47 (vx u0 rest) ∧ w.grownBy (w.setCell ⟨g, a, none⟩ (.int .u32 (s : Int))).drew (some g) from ⟨by rw [hu0, ← vx_set _ _ _ _ (by rw [l0]; omega)]; exact hs0.set_ _ _, g1_drew (g1_set hg0 _ _)⟩)
  clear hs hu0 hs0 hg0 x0 x1 l0
  generalize ws.getD a 0 = y0 at *
  generalize ws.getD b 0 = y1 at *
  go_wp2_with fail
  refine wp_region_still_tail 12 (by kernel_rfl) (by kernel_rfl) ?_
  simp only [List.take_succ_cons, List.take_zero, List.drop_succ_cons, List.drop_zero]
  repeat still_step
  try refine wpStill_nil ?_
  go_upto_region 1 with fail
  generalize (w.setCell ⟨g, a, none⟩ (.int .u32 (s : Int))).drew = Z0 at *
  obtain ⟨hs0, hg0⟩ := HS.out
  clear d0 d1 e0 f0 HS
  have d0 := (hs0.cell d).trans (vx_at u0 rest d (by rw [hV0.len]; omega))
  have d1 := (hs0.cell a).trans (vx_at u0 rest a (by rw [hV0.len]; omega))
  have e0 := hs0.free d
  have x0 := hV0.lt d
  have x1 := hV0.lt a
  have l0 := hV0.len
  have f0 := u32_xor_nat (u0.getD d 0) (u0.getD a 0) x0 x1
  have TT := Lib.hid (fun W => rTurns 16 (by decide) (u0.getD d 0 ^^^ u0.getD a 0) W (u32_xor_lt x0 x1))
  generalize u0.getD d 0 ^^^ u0.getD a 0 = q at *
  generalize u0.getD d 0 = y0 at *
  generalize u0.getD a 0 = y1 at *
  generalize rotl q 16 = r at *
  have HS := Lib.hid (show Blk (Z0.setCell ⟨g, d, none⟩ (.int .u32 (r : Int))).drew g 47 (vx v1 rest) ∧ w.grownBy (Z0.setCell ⟨g, d, none⟩ (.int .u32 (r : Int))).drew (some g) from ⟨by rw [HM0.out, ← vx_set _ _ _ _ (by rw [l0]; omega)]; exact hs0.set_ _ _, g1_drew (g1_set hg0 _ _)⟩)
  clear hs0 hg0 x0 x1 l0
  refine wp_region_still_tail 13 (by kernel_rfl) (by kernel_rfl) ?_
  simp only [List.take_succ_cons, List.take_zero, List.drop_succ_cons, List.drop_zero]
  iterate 11 still_step
  still_call ((TT.out _).mono fun _ _ h => ⟨h.1, h.2.symm⟩)
  repeat still_step
  try refine wpStill_nil ?_
  go_upto_region 2 with fail
  generalize (Z0.setCell ⟨g, d, none⟩ (.int .u32 (r : Int))).drew = Z1 at *
  obtain ⟨hs0, hg0⟩ := HS.out
  clear d0 d1 e0 f0 HS TT
  have d0 := (hs0.cell c).trans (vx_at v1 rest c (by rw [hW1.len]; omega))
  have d1 := (hs0.cell d).trans (vx_at v1 rest d (by rw [hW1.len]; omega))
  have e0 := hs0.free c
  have x0 := hW1.lt c
  have x1 := hW1.lt d
  have l0 := hW1.len
  obtain ⟨s, hs⟩ : ∃ s, s = (v1.getD c 0 + v1.getD d 0) % 4294967296 := ⟨_, rfl⟩
  have f0 : IntKind.u32.wrap (((v1.getD c 0 : Nat) : Int) + ((v1.getD d 0 : Nat) : Int)) = (s : Int) := by rw [wrap32]; omega
  rw [← hs] at hu1
  have HS := Lib.hid (show Blk (Z1.setCell ⟨g, c, none⟩ (.int .u32 (s : Int))).drew g 47 (vx u1 rest) ∧ w.grownBy (Z1.setCell ⟨g, c, none⟩ (.int .u32 (s : Int))).drew (some g) from ⟨by rw [hu1, ← vx_set _ _ _ _ (by rw [l0]; omega)]; exact hs0.set_ _ _, g1_drew (g1_set hg0 _ _)⟩)
  clear hs hu1 hs0 hg0 x0 x1 l0
  generalize v1.getD c 0 = y0 at *
  generalize v1.getD d 0 = y1 at *
  go_wp2_with fail
  refine wp_region_still_tail 12 (by kernel_rfl) (by kernel_rfl) ?_
  simp only [List.take_succ_cons, List.take_zero, List.drop_succ_cons, List.drop_zero]
  repeat still_step
  try refine wpStill_nil ?_
  go_upto_region 3 with fail
  generalize (Z1.setCell ⟨g, c, none⟩ (.int .u32 (s : Int))).drew = Z2 at *
  obtain ⟨hs0, hg0⟩ := HS.out
  clear d0 d1 e0 f0 HS
  have d0 := (hs0.cell b).trans (vx_at u1 rest b (by rw [hV1.len]; omega))
  have d1 := (hs0.cell c).trans (vx_at u1 rest c (by rw [hV1.len]; omega))
  have e0 := hs0.free b
  have x0 := hV1.lt b
  have x1 := hV1.lt c
  have l0 := hV1.len
  have f0 := u32_xor_nat (u1.getD b 0) (u1.getD c 0) x0 x1
  have TT := Lib.hid (fun W => rTurns 12 (by decide) (u1.getD b 0 ^^^ u1.getD c 0) W (u32_xor_lt x0 x1))
  generalize u1.getD b 0 ^^^ u1.getD c 0 = q at *
  generalize u1.getD b 0 = y0 at *
  generalize u1.getD c 0 = y1 at *
  generalize rotl q 12 = r at *
  have HS := Lib.hid (show Blk (Z2.setCell ⟨g, b, none⟩ (.int .u32 (r : Int))).drew g 47 (vx v2 rest) ∧ w.grownBy (Z2.setCell ⟨g, b, none⟩ (.int .u32 (r : Int))).drew (some g) from ⟨by rw [HM1.out, ← vx_set _ _ _ _ (by rw [l0]; omega)]; exact hs0.set_ _ _, g1_drew (g1_set hg0 _ _)⟩)
  clear hs0 hg0 x0 x1 l0
  refine wp_region_still_tail 13 (by kernel_rfl) (by kernel_rfl) ?_
  simp only [List.take_succ_cons, List.take_zero, List.drop_succ_cons, List.drop_zero]
  iterate 11 still_step
  still_call ((TT.out _).mono fun _ _ h => ⟨h.1, h.2.symm⟩)
  repeat still_step
  try refine wpStill_nil ?_
  go_upto_region 4 with fail
  generalize (Z2.setCell ⟨g, b, none⟩ (.int .u32 (r : Int))).drew = Z3 at *
  obtain ⟨hs0, hg0⟩ := HS.out
  clear d0 d1 e0 f0 HS TT
  have d0 := (hs0.cell a).trans (vx_at v2 rest a (by rw [hW2.len]; omega))
  have d1 := (hs0.cell b).trans (vx_at v2 rest b (by rw [hW2.len]; omega))
  have e0 := hs0.free a
  have x0 := hW2.lt a
  have x1 := hW2.lt b
  have l0 := hW2.len
  obtain ⟨s, hs⟩ : ∃ s, s = (v2.getD a 0 + v2.getD b 0) % 4294967296 := ⟨_, rfl⟩
  have f0 : IntKind.u32.wrap (((v2.getD a 0 : Nat) : Int) + ((v2.getD b 0 : Nat) : Int)) = (s : Int) := by rw [wrap32]; omega
  rw [← hs] at hu2
  have HS := Lib.hid (show Blk (Z3.setCell ⟨g, a, none⟩ (.int .u32 (s : Int))).drew g 47 (vx u2 rest) ∧ w.grownBy (Z3.setCell ⟨g, a, none⟩ (.int .u32 (s : Int))).drew (some g) from ⟨by rw [hu2, ← vx_set _ _ _ _ (by rw [l0]; omega)]; exact hs0.set_ _ _, g1_drew (g1_set hg0 _ _)⟩)
  clear hs hu2 hs0 hg0 x0 x1 l0
  generalize v2.getD a 0 = y0 at *
  generalize v2.getD b 0 = y1 at *
  go_wp2_with fail
  refine wp_region_still_tail 12 (by kernel_rfl) (by kernel_rfl) ?_
  simp only [List.take_succ_cons, List.take_zero, List.drop_succ_cons, List.drop_zero]
  repeat still_step
  try refine wpStill_nil ?_
  go_upto_region 5 with fail
  generalize (Z3.setCell ⟨g, a, none⟩ (.int .u32 (s : Int))).drew = Z4 at *
  obtain ⟨hs0, hg0⟩ := HS.out
  clear d0 d1 e0 f0 HS
  have d0 := (hs0.cell d).trans (vx_at u2 rest d (by rw [hV2.len]; omega))
  have d1 := (hs0.cell a).trans (vx_at u2 rest a (by rw [hV2.len]; omega))
  have e0 := hs0.free d
  have x0 := hV2.lt d
  have x1 := hV2.lt a
  have l0 := hV2.len
  have f0 := u32_xor_nat (u2.getD d 0) (u2.getD a 0) x0 x1
  have TT := Lib.hid (fun W => rTurns 8 (by decide) (u2.getD d 0 ^^^ u2.getD a 0) W (u32_xor_lt x0 x1))
  generalize u2.getD d 0 ^^^ u2.getD a 0 = q at *
  generalize u2.getD d 0 = y0 at *
  generalize u2.getD a 0 = y1 at *
  generalize rotl q 8 = r at *
  have HS := Lib.hid (show Blk (Z4.setCell ⟨g, d, none⟩ (.int .u32 (r : Int))).drew g 47 (vx v3 rest) ∧ w.grownBy (Z4.setCell ⟨g, d, none⟩ (.int .u32 (r : Int))).drew (some g) from ⟨by rw [HM2.out, ← vx_set _ _ _ _ (by rw [l0]; omega)]; exact hs0.set_ _ _, g1_drew (g1_set hg0 _ _)⟩)
  clear hs0 hg0 x0 x1 l0
  refine wp_region_still_tail 13 (by kernel_rfl) (by kernel_rfl) ?_
  simp only [List.take_succ_cons, List.take_zero, List.drop_succ_cons, List.drop_zero]
  iterate 11 still_step
  still_call ((TT.out _).mono fun _ _ h => ⟨h.1, h.2.symm⟩)
  repeat still_step
  try refine wpStill_nil ?_
  go_upto_region 6 with fail
  generalize (Z4.setCell ⟨g, d, none⟩ (.int .u32 (r : Int))).drew = Z5 at *
  obtain ⟨hs0, hg0⟩ := HS.out
  clear d0 d1 e0 f0 HS TT
  have d0 := (hs0.cell c).trans (vx_at v3 rest c (by rw [hW3.len]; omega))
  have d1 := (hs0.cell d).trans (vx_at v3 rest d (by rw [hW3.len]; omega))
  have e0 := hs0.free c
  have x0 := hW3.lt c
  have x1 := hW3.lt d
  have l0 := hW3.len
  obtain ⟨s, hs⟩ : ∃ s, s = (v3.getD c 0 + v3.getD d 0) % 4294967296 := ⟨_, rfl⟩
  have f0 : IntKind.u32.wrap (((v3.getD c 0 : Nat) : Int) + ((v3.getD d 0 : Nat) : Int)) = (s : Int) := by rw [wrap32]; omega
  rw [← hs] at hu3
  have HS := Lib.hid (show Blk (Z5.setCell ⟨g, c, none⟩ (.int .u32 (s : Int))).drew g 47 (vx u3 rest) ∧ w.grownBy (Z5.setCell ⟨g, c, none⟩ (.int .u32 (s : Int))).drew (some g) from ⟨by rw [hu3, ← vx_set _ _ _ _ (by rw [l0]; omega)]; exact hs0.set_ _ _, g1_drew (g1_set hg0 _ _)⟩)
  clear hs hu3 hs0 hg0 x0 x1 l0
  generalize v3.getD c 0 = y0 at *
  generalize v3.getD d 0 = y1 at *
  go_wp2_with fail
  refine wp_region_still_tail 12 (by kernel_rfl) (by kernel_rfl) ?_
  simp only [List.take_succ_cons, List.take_zero, List.drop_succ_cons, List.drop_zero]
  repeat still_step
  try refine wpStill_nil ?_
  go_upto_region 7 with fail
  generalize (Z5.setCell ⟨g, c, none⟩ (.int .u32 (s : Int))).drew = Z6 at *
  obtain ⟨hs0, hg0⟩ := HS.out
  clear d0 d1 e0 f0 HS
  have d0 := (hs0.cell b).trans (vx_at u3 rest b (by rw [hV3.len]; omega))
  have d1 := (hs0.cell c).trans (vx_at u3 rest c (by rw [hV3.len]; omega))
  have e0 := hs0.free b
  have x0 := hV3.lt b
  have x1 := hV3.lt c
  have l0 := hV3.len
  have f0 := u32_xor_nat (u3.getD b 0) (u3.getD c 0) x0 x1
  have TT := Lib.hid (fun W => rTurns 7 (by decide) (u3.getD b 0 ^^^ u3.getD c 0) W (u32_xor_lt x0 x1))
  generalize u3.getD b 0 ^^^ u3.getD c 0 = q at *
  generalize u3.getD b 0 = y0 at *
  generalize u3.getD c 0 = y1 at *
  generalize rotl q 7 = r at *
  have HS := Lib.hid (show Blk (Z6.setCell ⟨g, b, none⟩ (.int .u32 (r : Int))).drew g 47 (vx v4 rest) ∧ w.grownBy (Z6.setCell ⟨g, b, none⟩ (.int .u32 (r : Int))).drew (some g) from ⟨by rw [HM3.out, ← vx_set _ _ _ _ (by rw [l0]; omega)]; exact hs0.set_ _ _, g1_drew (g1_set hg0 _ _)⟩)
  clear hs0 hg0 x0 x1 l0
  refine wp_region_still_tail 13 (by kernel_rfl) (by kernel_rfl) ?_
  simp only [List.take_succ_cons, List.take_zero, List.drop_succ_cons, List.drop_zero]
  iterate 11 still_step
  still_call ((TT.out _).mono fun _ _ h => ⟨h.1, h.2.symm⟩)
  repeat still_step
  try refine wpStill_nil ?_
  go_wp2_with fail
  refine bodyPost_end (results_none rfl _ _ _) rfl ?_
  exact ⟨rfl, by rw [HQ.out]; exact HS.out.1, HS.out.2⟩
end Go.Proofs.YtfblpkjablgafaaDoor
