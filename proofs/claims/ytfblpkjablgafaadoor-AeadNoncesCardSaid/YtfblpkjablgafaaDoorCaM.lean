/- Merged: Ca1 Ca2 Ca3 Ca4 Ca5 Ca6. -/
import Derived.Test.YtfblpkjablgafaaDoorCa0
import Derived.Test.YtfblpkjablgafaaDoorRt5
import Derived.StillTailTactics
import Derived.Laws.Rows
import Derived.Deep.MidRow
import Derived.BigQuiet
import Derived.Laws.ResultCell
namespace Go.Proofs.YtfblpkjablgafaaDoor
open Go.RowKit
set_option linter.unusedVariables false
set_option linter.unusedSimpArgs false
theorem wrap32 (z : Int) : IntKind.u32.wrap z = z % 4294967296 := by simp [IntKind.wrap, IntKind.signed, IntKind.bits]
theorem rotl_or {n k : Nat} (hn : n < 4294967296) (hk2 : k ≤ 32) : (n * 2 ^ k % 4294967296) ||| (n / 2 ^ (32 - k)) = rotl n k := by
  have e : (4294967296 : Nat) = 2 ^ (32 - k) * 2 ^ k := by rw [← Nat.pow_add, show 32 - k + k = 32 by omega]
  have h1 : n / 2 ^ (32 - k) < 2 ^ k := Nat.div_lt_of_lt_mul (by rw [← e]; exact hn)
  have h2 : n * 2 ^ k % 4294967296 = 2 ^ k * (n % 2 ^ (32 - k)) := by rw [e, Nat.mul_mod_mul_right, Nat.mul_comm]
  unfold rotl
  rw [h2]
  exact (Nat.two_pow_add_eq_or_of_lt h1 _).symm
set_option maxRecDepth 100000 in
set_option maxHeartbeats 1000000 in
theorem rotl16_c (n : Nat) (w : World) (hn : n < 4294967296) : Calls Tryd.prog 55 #[.int .u32 n, .int .i64 16] w fun e w' => e = .returned (.int .u32 (rotl n 16 : Nat)) ∧ w = w' := by
  have h1 : bits BinOp.and .u64 16 31 = 16 := by decide
  have h2 : IntKind.u32.wrap ((n : Int) * 65536) = ((n * 65536 % 4294967296 : Nat) : Int) := by rw [wrap32]; omega
  have h3 : bits BinOp.or .u32 ((n * 65536 % 4294967296 : Nat) : Int) ((n : Int) / 65536) = ((rotl n 16 : Nat) : Int) := by
    rw [show (n : Int) / 65536 = ((n / 65536 : Nat) : Int) by omega, u32_or_nat _ _ (Nat.mod_lt _ (by decide)) (by omega)]
    rw [show n * 65536 % 4294967296 ||| n / 65536 = rotl n 16 from rotl_or (k := 16) hn (by decide)]
  go_enter Tryd.func55, Tryd.ntmps55
  go_wp2
  go_ret
  exact ⟨by first | rfl | simp_all, rfl⟩
set_option maxRecDepth 100000 in
set_option maxHeartbeats 1000000 in
theorem rotl12_c (n : Nat) (w : World) (hn : n < 4294967296) : Calls Tryd.prog 55 #[.int .u32 n, .int .i64 12] w fun e w' => e = .returned (.int .u32 (rotl n 12 : Nat)) ∧ w = w' := by
  have h1 : bits BinOp.and .u64 12 31 = 12 := by decide
  have h2 : IntKind.u32.wrap ((n : Int) * 4096) = ((n * 4096 % 4294967296 : Nat) : Int) := by rw [wrap32]; omega
  have h3 : bits BinOp.or .u32 ((n * 4096 % 4294967296 : Nat) : Int) ((n : Int) / 1048576) = ((rotl n 12 : Nat) : Int) := by
    rw [show (n : Int) / 1048576 = ((n / 1048576 : Nat) : Int) by omega, u32_or_nat _ _ (Nat.mod_lt _ (by decide)) (by omega)]
    rw [show n * 4096 % 4294967296 ||| n / 1048576 = rotl n 12 from rotl_or (k := 12) hn (by decide)]
  go_enter Tryd.func55, Tryd.ntmps55
  go_wp2
  go_ret
  exact ⟨by first | rfl | simp_all, rfl⟩
set_option maxRecDepth 100000 in
set_option maxHeartbeats 1000000 in
theorem rotl8_c (n : Nat) (w : World) (hn : n < 4294967296) : Calls Tryd.prog 55 #[.int .u32 n, .int .i64 8] w fun e w' => e = .returned (.int .u32 (rotl n 8 : Nat)) ∧ w = w' := by
  have h1 : bits BinOp.and .u64 8 31 = 8 := by decide
  have h2 : IntKind.u32.wrap ((n : Int) * 256) = ((n * 256 % 4294967296 : Nat) : Int) := by rw [wrap32]; omega
  have h3 : bits BinOp.or .u32 ((n * 256 % 4294967296 : Nat) : Int) ((n : Int) / 16777216) = ((rotl n 8 : Nat) : Int) := by
    rw [show (n : Int) / 16777216 = ((n / 16777216 : Nat) : Int) by omega, u32_or_nat _ _ (Nat.mod_lt _ (by decide)) (by omega)]
    rw [show n * 256 % 4294967296 ||| n / 16777216 = rotl n 8 from rotl_or (k := 8) hn (by decide)]
  go_enter Tryd.func55, Tryd.ntmps55
  go_wp2
  go_ret
  exact ⟨by first | rfl | simp_all, rfl⟩
set_option maxRecDepth 100000 in
set_option maxHeartbeats 1000000 in
theorem rotl7_c (n : Nat) (w : World) (hn : n < 4294967296) : Calls Tryd.prog 55 #[.int .u32 n, .int .i64 7] w fun e w' => e = .returned (.int .u32 (rotl n 7 : Nat)) ∧ w = w' := by
  have h1 : bits BinOp.and .u64 7 31 = 7 := by decide
  have h2 : IntKind.u32.wrap ((n : Int) * 128) = ((n * 128 % 4294967296 : Nat) : Int) := by rw [wrap32]; omega
  have h3 : bits BinOp.or .u32 ((n * 128 % 4294967296 : Nat) : Int) ((n : Int) / 33554432) = ((rotl n 7 : Nat) : Int) := by
    rw [show (n : Int) / 33554432 = ((n / 33554432 : Nat) : Int) by omega, u32_or_nat _ _ (Nat.mod_lt _ (by decide)) (by omega)]
    rw [show n * 128 % 4294967296 ||| n / 33554432 = rotl n 7 from rotl_or (k := 7) hn (by decide)]
  go_enter Tryd.func55, Tryd.ntmps55
  go_wp2
  go_ret
  exact ⟨by first | rfl | simp_all, rfl⟩
def Turns (k : Nat) : Prop := ∀ (n : Nat) (w : World), n < 4294967296 → Calls Tryd.prog 55 #[.int .u32 n, .int .i64 k] w fun e w' => e = .returned (.int .u32 (rotl n k : Nat)) ∧ w = w'
theorem turns16 : Turns 16 := fun n w hn => rotl16_c n w hn
theorem turns12 : Turns 12 := fun n w hn => rotl12_c n w hn
theorem turns8 : Turns 8 := fun n w hn => rotl8_c n w hn
theorem turns7 : Turns 7 := fun n w hn => rotl7_c n w hn
theorem u32_xor_lt {a b : Nat} (ha : a < 4294967296) (hb : b < 4294967296) : a ^^^ b < 4294967296 := Nat.xor_lt_two_pow (n := 32) ha hb
set_option maxRecDepth 100000 in
set_option maxHeartbeats 2000000 in
theorem mix_c (g a b d n : Nat) (ws : List Nat) (w : World) (ht : Turns n) (hW : W16 ws) (hb : Blk w g 70 (vw ws)) (ha : a < 16) (hbb : b < 16) (hd : d < 16) :
    Calls Tryd.prog 50 #[.pointer (some ⟨g, 0, none⟩), .int .i64 a, .int .i64 b, .int .i64 d, .int .i64 n] w fun e w' => e = .returned (.tuple #[]) ∧ Blk w' g 70 (vw (mixL ws a b d n)) ∧ w.grownBy w' (some g) := by
  have p1 : (a : Int) < 16 := by omega
  have p2 : (b : Int) < 16 := by omega
  have p3 : (d : Int) < 16 := by omega
  have l := hW.len
  have hW1 := hW.set a ((ws.getD a 0 + ws.getD b 0) % 4294967296) ha (Nat.mod_lt _ (by decide))
  have d0 := (hb.cell a).trans (vw_at ws a (by omega))
  have d1 := (hb.cell b).trans (vw_at ws b (by omega))
  have e0 := hb.free a
  have x0 := hW.lt a
  have x1 := hW.lt b
  have f0 : IntKind.u32.wrap (((ws.getD a 0 : Nat) : Int) + ((ws.getD b 0 : Nat) : Int)) = (((ws.getD a 0 + ws.getD b 0) % 4294967296 : Nat) : Int) := by rw [wrap32]; omega
  have HM := Lib.hid (show mixL ws a b d n = ((ws.set a ((ws.getD a 0 + ws.getD b 0) % 4294967296)).set d (rotl ((ws.set a ((ws.getD a 0 + ws.getD b 0) % 4294967296)).getD d 0 ^^^ (ws.set a ((ws.getD a 0 + ws.getD b 0) % 4294967296)).getD a 0) n)) from rfl)
  have HS := Lib.hid (show ∀ v : Nat, Blk (w.setCell ⟨g, a, none⟩ (.int .u32 (v : Int))).drew g 70 (vw (ws.set a v)) ∧ w.grownBy (w.setCell ⟨g, a, none⟩ (.int .u32 (v : Int))).drew (some g) from fun v => ⟨by rw [← vw_set]; exact hb.set_ _ _, g1_drew (g1_set (g1_refl w g) _ _)⟩)
  clear hb
  generalize (ws.getD a 0 + ws.getD b 0) % 4294967296 = v at *
  generalize ws.getD a 0 = wa at *
  generalize ws.getD b 0 = wb at *
  have hs := HS.out v
  clear HS
  generalize ws.set a v = us at *
  go_enter Tryd.func50, Tryd.ntmps50
  go_wp2_with fail
  refine wp_region_still_tail 13 (by kernel_rfl) (by kernel_rfl) ?_
  simp only [List.take_succ_cons, List.take_zero, List.drop_succ_cons, List.drop_zero]
  repeat still_step
  try refine wpStill_nil ?_
  go_wp2_with fail
  obtain ⟨hs1, hs2⟩ := hs
  generalize (w.setCell ⟨g, a, none⟩ (.int .u32 (v : Int))).drew = W1 at *
  have l2 := hW1.len
  have c0 := (hs1.cell d).trans (vw_at us d (by omega))
  have c1 := (hs1.cell a).trans (vw_at us a (by omega))
  have e1 := hs1.free d
  have y0 := hW1.lt d
  have y1 := hW1.lt a
  have g0 := u32_xor_nat (us.getD d 0) (us.getD a 0) y0 y1
  have TT := Lib.hid (fun W => ht (us.getD d 0 ^^^ us.getD a 0) W (u32_xor_lt y0 y1))
  have HS := Lib.hid (show ∀ v : Nat, Blk (W1.setCell ⟨g, d, none⟩ (.int .u32 (v : Int))).drew g 70 (vw (us.set d v)) ∧ w.grownBy (W1.setCell ⟨g, d, none⟩ (.int .u32 (v : Int))).drew (some g) from fun v => ⟨by rw [← vw_set]; exact hs1.set_ _ _, g1_drew (g1_set hs2 _ _)⟩)
  clear hs1 hs2
  generalize us.getD d 0 ^^^ us.getD a 0 = q at *
  generalize us.getD d 0 = ud at *
  generalize us.getD a 0 = ua at *
  go_wp2_with fail
  refine wp_region_still_tail 17 (by kernel_rfl) (by kernel_rfl) ?_
  simp only [List.take_succ_cons, List.take_zero, List.drop_succ_cons, List.drop_zero]
  iterate 14 still_step
  still_call ((TT.out _).mono fun _ _ h => ⟨h.1, h.2.symm⟩)
  repeat still_step
  try refine wpStill_nil ?_
  have HS2 := HS.out (rotl q n)
  generalize rotl q n = r at *
  go_wp2_with fail
  refine bodyPost_end (results_none rfl _ _ _) rfl ?_
  exact ⟨rfl, by rw [HM.out]; exact HS2.1, HS2.2⟩
end Go.Proofs.YtfblpkjablgafaaDoor
namespace Go.Proofs.YtfblpkjablgafaaDoor
open Go.RowKit
set_option linter.unusedVariables false
set_option linter.unusedSimpArgs false
def pV (p : List Nat) : Array Value := (p.map fun (n : Nat) => Value.int .i64 (n : Int)).toArray
theorem len4 {l : List Nat} (h : l.length = 4) : ∃ a b c d, l = [a, b, c, d] := by
  match l, h with
  | [a, b, c, d], _ => exact ⟨a, b, c, d, rfl⟩
set_option maxRecDepth 100000 in
set_option maxHeartbeats 2000000 in
theorem quarter_c (g : Nat) (p ws : List Nat) (w : World) (hp : p.length = 4) (hpl : ∀ j, p.getD j 0 < 16) (hW : W16 ws) (hb : Blk w g 70 (vw ws)) :
    Calls Tryd.prog 37 #[.pointer (some ⟨g, 0, none⟩), .agg (pV p)] w fun e w' => e = .returned (.tuple #[]) ∧ Blk w' g 70 (vw (qtrL ws p)) ∧ w.grownBy w' (some g) := by
  obtain ⟨p0, p1, p2, p3, rfl⟩ := len4 hp
  have q0 : p0 < 16 := hpl 0
  have q1 : p1 < 16 := hpl 1
  have q2 : p2 < 16 := hpl 2
  have q3 : p3 < 16 := hpl 3
  have HQ := Lib.hid (show qtrL ws [p0, p1, p2, p3] = mixL (mixL (mixL (mixL ws p0 p1 p3 16) p2 p3 p1 12) p0 p1 p3 8) p2 p3 p1 7 from rfl)
  have hW1 := hW.mix p0 p1 p3 16 q0 q3 (by decide)
  have hW2 := hW1.mix p2 p3 p1 12 q2 q1 (by decide)
  have hW3 := hW2.mix p0 p1 p3 8 q0 q3 (by decide)
  have hgn : g ≠ w.heap.size := fun h => by have := hb.lt; omega
  clear hp hpl
  have M1 := Lib.hid (fun W (hB : Blk W g 70 (vw ws)) => mix_c g p0 p1 p3 16 ws W turns16 hW hB q0 q1 q3)
  have M2 := Lib.hid (fun W (hB : Blk W g 70 (vw (mixL ws p0 p1 p3 16))) => mix_c g p2 p3 p1 12 _ W turns12 hW1 hB q2 q3 q1)
  generalize mixL ws p0 p1 p3 16 = u1 at *
  have M3 := Lib.hid (fun W (hB : Blk W g 70 (vw (mixL u1 p2 p3 p1 12))) => mix_c g p0 p1 p3 8 _ W turns8 hW2 hB q0 q1 q3)
  generalize mixL u1 p2 p3 p1 12 = u2 at *
  have M4 := Lib.hid (fun W (hB : Blk W g 70 (vw (mixL u2 p0 p1 p3 8))) => mix_c g p2 p3 p1 7 _ W turns7 hW3 hB q2 q3 q1)
  generalize mixL u2 p0 p1 p3 8 = u3 at *
  have HB := Lib.hid hb
  clear hW hW1 hW2 hW3 hb
  go_enter Tryd.func37, Tryd.ntmps37
  go_upto_region 1 with (refine Go.Great.wpList_boxTo rfl 72 (.tmp 1) rfl (some 3) rfl w.heap.size rfl (pV [p0, p1, p2, p3]) rfl ?_)
  have hbx : Blk (w.alloc (Obj.cells (pV [p0, p1, p2, p3]) 72)) w.heap.size 72 (pV [p0, p1, p2, p3]) := Blk.new w _ _
  have hbg : Blk (w.alloc (Obj.cells (pV [p0, p1, p2, p3]) 72)) g 70 (vw ws) := HB.out.alloc _
  have hgr : w.grownBy (w.alloc (Obj.cells (pV [p0, p1, p2, p3]) 72)) (some g) := by
    exact ⟨rfl, rfl, rfl, by simp, fun k hk _ => heap_alloc_old _ _ hk⟩
  generalize w.alloc (Obj.cells (pV [p0, p1, p2, p3]) 72) = Z0 at *
  generalize w.heap.size = nx at *
  clear HB
  have c00 : Z0.cell? ⟨nx, 0, none⟩ = some (.int .i64 (p0 : Nat)) := hbx.cell 0
  have c01 : Z0.cell? ⟨nx, 1, none⟩ = some (.int .i64 (p1 : Nat)) := hbx.cell 1
  have c02 : Z0.cell? ⟨nx, 2, none⟩ = some (.int .i64 (p2 : Nat)) := hbx.cell 2
  have c03 : Z0.cell? ⟨nx, 3, none⟩ = some (.int .i64 (p3 : Nat)) := hbx.cell 3
  have BX0 := Lib.hid hbx
  have GR0 := Lib.hid hgr
  have CL0 := Lib.hid (M1.out Z0 hbg)
  clear hbx hbg hgr
  go_upto_region 2 with (go_at_call 50; (refine CL0.out.mono ?_); rintro e Z1 ⟨rfl, hbg, hg⟩; have hbx := g1_blk hg BX0.out (Ne.symm hgn); have hgr := GR0.out.trans hg; clear hg)
  have c10 : Z1.cell? ⟨nx, 0, none⟩ = some (.int .i64 (p0 : Nat)) := hbx.cell 0
  have c11 : Z1.cell? ⟨nx, 1, none⟩ = some (.int .i64 (p1 : Nat)) := hbx.cell 1
  have c12 : Z1.cell? ⟨nx, 2, none⟩ = some (.int .i64 (p2 : Nat)) := hbx.cell 2
  have c13 : Z1.cell? ⟨nx, 3, none⟩ = some (.int .i64 (p3 : Nat)) := hbx.cell 3
  have BX1 := Lib.hid hbx
  have GR1 := Lib.hid hgr
  have CL1 := Lib.hid (M2.out Z1 hbg)
  clear hbx hbg hgr
  go_upto_region 3 with (go_at_call 50; (refine CL1.out.mono ?_); rintro e Z2 ⟨rfl, hbg, hg⟩; have hbx := g1_blk hg BX1.out (Ne.symm hgn); have hgr := GR1.out.trans hg; clear hg)
  have c20 : Z2.cell? ⟨nx, 0, none⟩ = some (.int .i64 (p0 : Nat)) := hbx.cell 0
  have c21 : Z2.cell? ⟨nx, 1, none⟩ = some (.int .i64 (p1 : Nat)) := hbx.cell 1
  have c22 : Z2.cell? ⟨nx, 2, none⟩ = some (.int .i64 (p2 : Nat)) := hbx.cell 2
  have c23 : Z2.cell? ⟨nx, 3, none⟩ = some (.int .i64 (p3 : Nat)) := hbx.cell 3
  have BX2 := Lib.hid hbx
  have GR2 := Lib.hid hgr
  have CL2 := Lib.hid (M3.out Z2 hbg)
  clear hbx hbg hgr
  go_upto_region 4 with (go_at_call 50; (refine CL2.out.mono ?_); rintro e Z3 ⟨rfl, hbg, hg⟩; have hbx := g1_blk hg BX2.out (Ne.symm hgn); have hgr := GR2.out.trans hg; clear hg)
  have c30 : Z3.cell? ⟨nx, 0, none⟩ = some (.int .i64 (p0 : Nat)) := hbx.cell 0
  have c31 : Z3.cell? ⟨nx, 1, none⟩ = some (.int .i64 (p1 : Nat)) := hbx.cell 1
  have c32 : Z3.cell? ⟨nx, 2, none⟩ = some (.int .i64 (p2 : Nat)) := hbx.cell 2
  have c33 : Z3.cell? ⟨nx, 3, none⟩ = some (.int .i64 (p3 : Nat)) := hbx.cell 3
  have BX3 := Lib.hid hbx
  have GR3 := Lib.hid hgr
  have CL3 := Lib.hid (M4.out Z3 hbg)
  clear hbx hbg hgr
  go_wp2_with (go_at_call 50; (refine CL3.out.mono ?_); rintro e Z4 ⟨rfl, hbg, hg⟩; have hbx := g1_blk hg BX3.out (Ne.symm hgn); have hgr := GR3.out.trans hg; clear hg)
  refine bodyPost_end (results_none rfl _ _ _) rfl ?_
  exact ⟨rfl, by rw [HQ.out]; exact hbg, hgr⟩
end Go.Proofs.YtfblpkjablgafaaDoor
namespace Go.Proofs.YtfblpkjablgafaaDoor
open Go.RowKit
set_option linter.unusedVariables false
set_option linter.unusedSimpArgs false
theorem or_put {i a b n m : Nat} (h : b < 2 ^ i) (hn : n = 2 ^ i * a) (hm : n + b = m) : n ||| b = m := by
  rw [← hm, hn]
  exact (Nat.two_pow_add_eq_or_of_lt h a).symm
def le4 (l : List Nat) : Nat := number (l.take 4)
theorem le4_lt {l : List Nat} (hl : ∀ c ∈ l, c < 256) : le4 l < 4294967296 := by
  have h := number_lt (l.take 4) (fun c hc => hl c (List.mem_of_mem_take hc))
  have h2 : (l.take 4).length ≤ 4 := by rw [List.length_take]; omega
  exact Nat.lt_of_lt_of_le h (Nat.le_trans (Nat.pow_le_pow_right (by decide) h2) (by decide))
theorem le4_eq (l : List Nat) (h : 4 ≤ l.length) : le4 l = l.getD 0 0 + 256 * (l.getD 1 0 + 256 * (l.getD 2 0 + 256 * l.getD 3 0)) := by
  match l, h with
  | a :: b :: c :: d :: t, _ => simp [le4, number]; try omega
theorem le_facts (y0 y1 y2 y3 : Nat) (x0 : y0 < 256) (x1 : y1 < 256) (x2 : y2 < 256) (x3 : y3 < 256) :
    ∃ z1 z2 z3 s1 s2 le : Nat, (y1 : Int) * 256 = (z1 : Int) ∧ (y2 : Int) * 65536 = (z2 : Int) ∧ (y3 : Int) * 16777216 = (z3 : Int) ∧ le = y0 + 256 * (y1 + 256 * (y2 + 256 * y3)) ∧ IntKind.u32.wrap ((y1 : Int) * 256) = (z1 : Int) ∧ IntKind.u32.wrap ((y2 : Int) * 65536) = (z2 : Int) ∧ IntKind.u32.wrap ((y3 : Int) * 16777216) = (z3 : Int) ∧
      bits BinOp.or .u32 (y0 : Int) (z1 : Int) = (s1 : Int) ∧ bits BinOp.or .u32 (s1 : Int) (z2 : Int) = (s2 : Int) ∧ bits BinOp.or .u32 (s2 : Int) (z3 : Int) = (le : Int) := by
  refine ⟨y1 * 256, y2 * 65536, y3 * 16777216, y0 + y1 * 256, y0 + y1 * 256 + y2 * 65536, _, by omega, by omega, by omega, rfl, by rw [wrap32]; omega, by rw [wrap32]; omega, by rw [wrap32]; omega, ?_, ?_, ?_⟩
  · rw [u32_or_nat _ _ (by omega) (by omega), Nat.or_comm, or_put (i := 8) (a := y1) (m := y0 + y1 * 256) (by omega) (by omega) (by omega)]
  · rw [u32_or_nat _ _ (by omega) (by omega), Nat.or_comm, or_put (i := 16) (a := y2) (m := y0 + y1 * 256 + y2 * 65536) (by omega) (by omega) (by omega)]
  · rw [u32_or_nat _ _ (by omega) (by omega), Nat.or_comm, or_put (i := 24) (a := y3) (m := y0 + 256 * (y1 + 256 * (y2 + 256 * y3))) (by omega) (by omega) (by omega)]
set_option maxRecDepth 100000 in
set_option maxHeartbeats 2000000 in
theorem word_c (B : Nat) (ad : Addr) (n ca : Nat) (l : List Nat) (w : World) (hl : ∀ c ∈ l, c < 256) (hr : Rd w B (some ad) (byt l)) (h4 : 4 ≤ l.length) (hn : n = l.length) :
    Calls Tryd.prog 49 #[.slice (some ad) n ca] w fun e w' => e = .returned (.int .u32 (le4 l : Nat)) ∧ ∃ m, w' = w.drewN m := by
  have hcell : ∀ j, j < 4 → w.cell? (ad.add j) = some (.int .u8 (l.getD j 0 : Nat)) := fun j hj => by
    obtain ⟨a1, e1, _, hc⟩ := hr.byte (k := j) (by omega)
    injection e1 with e1
    subst e1
    exact hc
  have q0 := hcell 0 (by decide)
  have q1 := hcell 1 (by decide)
  have q2 := hcell 2 (by decide)
  have q3 := hcell 3 (by decide)
  have x0 := getD_lt hl 0
  have x1 := getD_lt hl 1
  have x2 := getD_lt hl 2
  have x3 := getD_lt hl 3
  have HE := Lib.hid (le4_eq l h4)
  rw [show ∀ a : Addr, a.add 0 = a from fun a => by simp [Addr.add]] at q0
  rw [show ∀ a : Addr, a.add 1 = ⟨a.block, a.off + 1, none⟩ from fun a => by simp [Addr.add]] at q1
  rw [show ∀ a : Addr, a.add 2 = ⟨a.block, a.off + 2, none⟩ from fun a => by simp [Addr.add]] at q2
  rw [show ∀ a : Addr, a.add 3 = ⟨a.block, a.off + 3, none⟩ from fun a => by simp [Addr.add]] at q3
  have m0 : 0 < n := by omega
  have m1 : 1 < n := by omega
  have m2 : 2 < n := by omega
  have m3 : 3 < n := by omega
  have n0 : (0 : Int) < (n : Int) := by omega
  have n1 : (1 : Int) < (n : Int) := by omega
  have n2 : (2 : Int) < (n : Int) := by omega
  have n3 : (3 : Int) < (n : Int) := by omega
  clear hcell hl hr h4 hn
  generalize l.getD 0 0 = y0 at *
  generalize l.getD 1 0 = y1 at *
  generalize l.getD 2 0 = y2 at *
  generalize l.getD 3 0 = y3 at *
  obtain ⟨z1, z2, z3, s1, s2, le, e1, e2, e3, hle, r1, r2, r3, o1, o2, o3⟩ := le_facts y0 y1 y2 y3 x0 x1 x2 x3
  rw [← hle] at HE
  rw [HE.out]
  clear hle HE
  have c0 : IntKind.u32.wrap (y0 : Int) = (y0 : Int) := by rw [wrap32]; omega
  have c1 : IntKind.u32.wrap (y1 : Int) = (y1 : Int) := by rw [wrap32]; omega
  have c2 : IntKind.u32.wrap (y2 : Int) = (y2 : Int) := by rw [wrap32]; omega
  have c3 : IntKind.u32.wrap (y3 : Int) = (y3 : Int) := by rw [wrap32]; omega
  go_enter Tryd.func49, Tryd.ntmps49
  go_wp2_with fail
  go_quiet (fail)
  go_wp2_with fail
  refine bodyPost_ret (results_tmp rfl _ _ _) rfl ?_
  exact ⟨rfl, _, rfl⟩
end Go.Proofs.YtfblpkjablgafaaDoor
namespace Go.Proofs.YtfblpkjablgafaaDoor
open Go.RowKit
set_option linter.unusedVariables false
set_option linter.unusedSimpArgs false
theorem blk_rdAt {w : World} {g : Nat} {T : TypeId} {l : List Nat} (h : Blk w g T (vb l)) (i : Nat) : Rd w (g + 1) (some ⟨g, i, none⟩) (byt (l.drop i)) := fun _ => ⟨_, rfl, Nat.lt_succ_self _, fun j u hu => by
  rw [Addr.add_mid, h.cell (i + j), ← hu]
  simp [vb, byt]⟩
def S0 : List Nat := [1634760805, 857760878, 2036477234, 1797285236, 0, 0, 0, 0, 0, 0, 0, 0, 0, 0, 0, 0]
def stk (k : List Nat) : Nat → List Nat
  | 0 => S0
  | i + 1 => (stk k i).set (4 + i) (le4 (k.drop (4 * i)))
def stn (k : List Nat) (n : Nat) (nonce : List Nat) : Nat → List Nat
  | 0 => (stk k 8).set 12 n
  | i + 1 => (stn k n nonce i).set (13 + i) (le4 (nonce.drop (4 * i)))
/-- what a block begins with -/
def startL (k : List Nat) (n : Nat) (nonce : List Nat) : List Nat := stn k n nonce 3
theorem stk_len (k : List Nat) (i : Nat) : (stk k i).length = 16 := by
  induction i with
  | zero => rfl
  | succ i ih => rw [stk, List.length_set]; exact ih
theorem stn_len (k : List Nat) (n : Nat) (nonce : List Nat) (i : Nat) : (stn k n nonce i).length = 16 := by
  induction i with
  | zero => rw [stn, List.length_set]; exact stk_len _ _
  | succ i ih => rw [stn, List.length_set]; exact ih
theorem startL_eq (k : List Nat) (n : Nat) (nonce : List Nat) : startL k n nonce = [1634760805, 857760878, 2036477234, 1797285236, le4 (k.drop 0), le4 (k.drop 4), le4 (k.drop 8), le4 (k.drop 12), le4 (k.drop 16), le4 (k.drop 20), le4 (k.drop 24), le4 (k.drop 28), n, le4 (nonce.drop 0), le4 (nonce.drop 4), le4 (nonce.drop 8)] := rfl
theorem startL_16 {k nonce : List Nat} {n : Nat} (hk : ∀ c ∈ k, c < 256) (hn : n < 4294967296) (hc : ∀ c ∈ nonce, c < 256) : W16 (startL k n nonce) := by
  refine ⟨by rw [startL_eq]; rfl, fun j => ?_⟩
  have h : ∀ c ∈ startL k n nonce, c < 4294967296 := by
    rw [startL_eq]
    intro c h
    simp only [List.mem_cons, List.not_mem_nil, or_false] at h
    have hk' := fun i => le4_lt (drop_lt hk i)
    have hc' := fun i => le4_lt (drop_lt hc i)
    rcases h with rfl | rfl | rfl | rfl | rfl | rfl | rfl | rfl | rfl | rfl | rfl | rfl | rfl | rfl | rfl | rfl <;> first | exact hk' _ | exact hc' _ | exact hn | decide
  rw [List.getD_eq_getElem?_getD]
  rcases Nat.lt_or_ge j (startL k n nonce).length with h1 | h1
  · rw [List.getElem?_eq_getElem h1]; exact h _ (List.getElem_mem _)
  · rw [List.getElem?_eq_none h1]; decide
def z16w : Array Value := vw (List.replicate 16 0)
theorem zero_16 (w : World) : (zeroValue 70).run Tryd.prog w = .ok (.agg z16w) w := by kernel_rfl
theorem built_16 : Tryd.prog.built 70 [(0, .int .u32 1634760805), (1, .int .u32 857760878), (2, .int .u32 2036477234), (3, .int .u32 1797285236)] = some (vw S0) := by kernel_rfl
/-- the blocks of a beginning -/
structure Sta (w W : World) (k nonce us : List Nat) : Prop where
  bel : Below w.heap.size w W
  kA : Blk W w.heap.size 23 (vb k)
  nA : Blk W (w.heap.size + 1) 25 (vb nonce)
  oA : Blk W (w.heap.size + 1 + 1) 70 z16w
  wA : Blk W (w.heap.size + 1 + 1 + 1) 70 (vw us)
theorem Sta.next {w W W' : World} {k nonce us : List Nat} (s : Sta w W k nonce us) (hb : Below W.heap.size W W') : Sta w W' k nonce us :=
  ⟨s.bel.trans (hb.mono s.bel.size), s.kA.below hb s.kA.lt, s.nA.below hb s.nA.lt, s.oA.below hb s.oA.lt, s.wA.below hb s.wA.lt⟩
theorem Sta.set {w W : World} {k nonce us : List Nat} (s : Sta w W k nonce us) (i n : Nat) : Sta w (W.setCell ⟨w.heap.size + 1 + 1 + 1, i, none⟩ (.int .u32 (n : Nat))) k nonce (us.set i n) :=
  ⟨s.bel.setCell (by simp; try omega) _, s.kA.far (p := ⟨w.heap.size + 1 + 1 + 1, i, none⟩) (by simp; try omega) _, s.nA.far (p := ⟨w.heap.size + 1 + 1 + 1, i, none⟩) (by simp; try omega) _, s.oA.far (p := ⟨w.heap.size + 1 + 1 + 1, i, none⟩) (by simp) _, by rw [← vw_set]; exact s.wA.set_ i _⟩
theorem heap4 (w : World) (a b c d : Obj) : (((((w.alloc a).alloc b).alloc c).alloc d)).heap[w.heap.size + 1 + 1 + 1]? = some d := by
  have h := heap_alloc_new (((w.alloc a).alloc b).alloc c) d
  have e : (((w.alloc a).alloc b).alloc c).heap.size = w.heap.size + 1 + 1 + 1 := by simp
  rw [e] at h
  exact h
theorem heap3 (w : World) (a b c : Obj) : ((((w.alloc a).alloc b).alloc c)).heap[w.heap.size + 1 + 1]? = some c := by
  have h := heap_alloc_new ((w.alloc a).alloc b) c
  have e : ((w.alloc a).alloc b).heap.size = w.heap.size + 1 + 1 := by simp
  rw [e] at h
  exact h
theorem heap2 (w : World) (a b : Obj) : ((((w.alloc a).alloc b))).heap[w.heap.size + 1]? = some b := by
  have h := heap_alloc_new (w.alloc a) b
  have e : (w.alloc a).heap.size = w.heap.size + 1 := by simp
  rw [e] at h
  exact h
theorem below_setRow (w : World) (g : Nat) (cs : Array Value) {n : Nat} (h : n ≤ g) : Below n w (w.setRow g cs) := ⟨rfl, rfl, rfl, by simp [World.setRow], fun i hi => setRow_other _ _ i _ (by omega)⟩
theorem Sta.begin (w : World) (k nonce : List Nat) : Sta w (((((w.alloc (Obj.cells (vb k) 23)).alloc (Obj.cells (vb nonce) 25)).alloc (Obj.cells z16w 70)).alloc (Obj.cells z16w 70)).setRow (w.heap.size + 1 + 1 + 1) (vw S0)) k nonce (stk k 0) := by
  refine ⟨?_, ?_, ?_, ?_, ?_⟩
  · exact (((((Below.refl _ _).alloc (Nat.le_refl _) _).alloc (by simp) _).alloc (by simp; omega) _).alloc (by simp; omega) _).trans (below_setRow _ _ _ (by omega))
  · exact (setRow_other _ _ _ _ (by omega)).trans ((((Blk.new w _ _).alloc _).alloc _).alloc _)
  · exact (setRow_other _ _ _ _ (by omega)).trans (((show Blk _ (w.heap.size + 1) _ _ from heap2 w _ _).alloc _).alloc _)
  · exact (setRow_other _ _ _ _ (by omega)).trans ((show Blk _ (w.heap.size + 1 + 1) _ _ from heap3 w _ _ _).alloc _)
  · exact setRow_heap _ _ _ _ _ (0, 0) (heap4 w _ _ _ _)
end Go.Proofs.YtfblpkjablgafaaDoor
namespace Go.Proofs.YtfblpkjablgafaaDoor
open Go.RowKit
set_option linter.unusedVariables false
set_option linter.unusedSimpArgs false
theorem rdn_drop {w : World} {g : Nat} {T : TypeId} {l : List Nat} (h : Blk w g T (vb l)) (hl : ∀ c ∈ l, c < 256) (i N : Nat) (hN : l.length = N) (hi : 4 * i + 4 ≤ N) :
    ∀ ca, Calls Tryd.prog 49 #[.slice (some ⟨g, 4 * i, none⟩) (N - 4 * i) ca] w fun e w' => e = .returned (.int .u32 (le4 (l.drop (4 * i)) : Nat)) ∧ ∃ m, w' = w.drewN m := fun ca =>
  word_c _ _ _ _ _ w (drop_lt hl _) (blk_rdAt h (4 * i)) (by rw [List.length_drop]; omega) (by rw [List.length_drop]; omega)
set_option maxRecDepth 100000 in
set_option maxHeartbeats 4000000 in
theorem start_c (k : List Nat) (n : Nat) (nonce : List Nat) (w : World) (hk : k.length = 32) (hkl : ∀ c ∈ k, c < 256) (hn : n < 4294967296) (hc : nonce.length = 12) (hcl : ∀ c ∈ nonce, c < 256) :
    Calls Tryd.prog 36 #[.agg (vb k), .int .u32 n, .agg (vb nonce)] w fun e w' => e = .returned (.agg (vw (startL k n nonce))) ∧ Below w.heap.size w w' := by
  have zf := zero_16
  have zs1 : z16w.size = 16 := by rfl
  have zs2 : ¬ z16w = #[] := by intro h; have := congrArg Array.size h; rw [zs1] at this; cases this
  have HK := Lib.hid hkl
  have HC := Lib.hid hcl
  have HBU := Lib.hid built_16
  have HIH := Lib.hid (show ∀ us : List Nat, us.length = 16 → (Tryd.prog.info? 70).map (·.size) = some (vw us).size from fun us h => by rw [vw_size, h]; kernel_rfl)
  have HZH := Lib.hid (show ∀ us : List Nat, us.length = 16 → z16w.size = (vw us).size from fun us h => by rw [vw_size, h]; rfl)
  clear hkl hcl
  go_enter Tryd.func36, Tryd.ntmps36
  go_upto_region 2 with (first
    | (refine Go.Great.wpList_boxTo rfl 23 (.tmp 0) rfl (some 3) rfl w.heap.size rfl (vb k) rfl ?_)
    | (refine Go.Great.wpList_boxTo rfl 25 (.tmp 2) rfl (some 5) rfl (w.heap.size + 1) (by simp) (vb nonce) rfl ?_)
    | (refine wpList_valG (by kernel_rfl) (.agg (vw S0)) (run_built _ 70 [(0, .int .u32 1634760805), (1, .int .u32 857760878), (2, .int .u32 2036477234), (3, .int .u32 1797285236)] _ HBU.out _ rfl rfl) ?_)
    | (refine wpList_store_rowTo rfl 70 (.tmp 7) (.tmp 10) rfl rfl (w.heap.size + 1 + 1 + 1) (vw S0) rfl rfl 70 z16w (by exact heap4 _ _ _ _ _) (HIH.out S0 rfl) (HZH.out S0 rfl) (vw_one _) ?_))
  obtain ⟨Z, hZ⟩ : ∃ Z, Z = ((((w.alloc (Obj.cells (vb k) 23)).alloc (Obj.cells (vb nonce) 25)).alloc (Obj.cells z16w 70)).alloc (Obj.cells z16w 70)).setRow (w.heap.size + 1 + 1 + 1) (vw S0) := ⟨_, rfl⟩
  have hs : Sta w Z k nonce (stk k 0) := by
    rw [hZ]
    exact Sta.begin w k nonce
  rw [← hZ]
  clear hZ zf zs1 zs2
  have HS := Lib.hid hs
  clear hs
  go_wp2_with fail
  go_loopw [8, 11] (fun u i wr => ∃ m : Nat, m ≤ 8 ∧ i = .int .i64 m ∧ Sta w wr k nonce (stk k m)) (fun _ i _ => 8 - (intOf i).toNat)
  case atStart => exact ⟨0, by omega, rfl, HS.out⟩
  case round =>
    rename World => wr
    obtain ⟨i, hi, rfl, hs⟩ := hrel
    have HT := Lib.hid hs
    clear hs
    by_cases hlt : i < 8
    · have p1 : (i : Int) < 8 := by omega
      have hcall := rdn_drop HT.out.kA HK.out i 32 hk (by omega)
      have HW := Lib.hid hcall
      have d0 := (HT.out.wA.cell (4 + i)).trans (vw_at _ (4 + i) (by rw [stk_len]; omega))
      have e0 := HT.out.wA.free (4 + i)
      have HST := Lib.hid (show stk k (i + 1) = (stk k i).set (4 + i) (le4 (k.drop (4 * i))) from rfl)
      have HSS := Lib.hid (show ∀ (m v : Nat), Sta w ((wr.drewN m).setCell ⟨w.heap.size + 1 + 1 + 1, 4 + i, none⟩ (.int .u32 (v : Nat))) k nonce ((stk k i).set (4 + i) v) from fun m v => (HT.out.next (belowDrewN m (Below.refl _ _))).set _ _)
      obtain ⟨a, ha⟩ : ∃ a, a = 4 + i := ⟨_, rfl⟩
      obtain ⟨b, hb⟩ : ∃ b, b = 4 * i := ⟨_, rfl⟩
      have p2 : b ≤ 32 := by omega
      have p3 : (4 : Int) * (i : Int) = (b : Int) := by omega
      have p4 : (4 : Int) + (i : Int) = (a : Int) := by omega
      have p5 : (a : Int) < 16 := by omega
      have p6 : (b : Int) ≤ 32 := by omega
      rw [← ha] at d0 e0 HST HSS
      rw [← hb] at HW HST
      clear hcall ha hb
      generalize le4 (k.drop b) = v at *
      go_wp2_with (go_at_call 49; (refine (HW.out _).mono ?_); rintro e w1 ⟨rfl, m, rfl⟩)
      exact ⟨⟨i + 1, by omega, by go_num, by rw [HST.out]; exact HSS.out _ _⟩, by simp only [intOf]; omega⟩
    · obtain rfl : i = 8 := by omega
      rw [show ((8 : Nat) : Int) = 8 from rfl]
      have d0 := (HT.out.wA.cell 12).trans (vw_at _ 12 (by rw [stk_len]; omega))
      have e0 := HT.out.wA.free 12
      have HS2 := Lib.hid (show Sta w (wr.setCell ⟨w.heap.size + 1 + 1 + 1, 12, none⟩ (.int .u32 (n : Nat))) k nonce (stn k n nonce 0) from HT.out.set 12 n)
      go_wp2_with fail
      generalize wr.setCell ⟨w.heap.size + 1 + 1 + 1, 12, none⟩ (.int .u32 (n : Nat)) = Z2 at *
      clear d0 e0 HT
      go_loopw [9, 24] (fun u i wr => ∃ m : Nat, m ≤ 3 ∧ i = .int .i64 m ∧ Sta w wr k nonce (stn k n nonce m)) (fun _ i _ => 3 - (intOf i).toNat)
      case atStart => exact ⟨0, by omega, rfl, HS2.out⟩
      case round =>
        rename World => wr
        obtain ⟨i, hi, rfl, hs⟩ := hrel
        have HT := Lib.hid hs
        clear hs
        by_cases hlt : i < 3
        · have p1 : (i : Int) < 3 := by omega
          have hcall := rdn_drop HT.out.nA HC.out i 12 hc (by omega)
          have HW := Lib.hid hcall
          have d0 := (HT.out.wA.cell (13 + i)).trans (vw_at _ (13 + i) (by rw [stn_len]; omega))
          have e0 := HT.out.wA.free (13 + i)
          have HST := Lib.hid (show stn k n nonce (i + 1) = (stn k n nonce i).set (13 + i) (le4 (nonce.drop (4 * i))) from rfl)
          have HSS := Lib.hid (show ∀ (m v : Nat), Sta w ((wr.drewN m).setCell ⟨w.heap.size + 1 + 1 + 1, 13 + i, none⟩ (.int .u32 (v : Nat))) k nonce ((stn k n nonce i).set (13 + i) v) from fun m v => (HT.out.next (belowDrewN m (Below.refl _ _))).set _ _)
          obtain ⟨a, ha⟩ : ∃ a, a = 13 + i := ⟨_, rfl⟩
          obtain ⟨b, hb⟩ : ∃ b, b = 4 * i := ⟨_, rfl⟩
          have p2 : b ≤ 12 := by omega
          have p3 : (4 : Int) * (i : Int) = (b : Int) := by omega
          have p4 : (13 : Int) + (i : Int) = (a : Int) := by omega
          have p5 : (a : Int) < 16 := by omega
          have p6 : (b : Int) ≤ 12 := by omega
          rw [← ha] at d0 e0 HST HSS
          rw [← hb] at HW HST
          clear hcall ha hb
          generalize le4 (nonce.drop b) = v at *
          go_wp2_with (go_at_call 49; (refine (HW.out _).mono ?_); rintro e w1 ⟨rfl, m, rfl⟩)
          go_roundw
          case rel => exact ⟨i + 1, by omega, by go_num, by rw [HST.out]; exact HSS.out _ _⟩
          case measure => simp only [intOf]; omega
        · obtain rfl : i = 3 := by omega
          have HE := Lib.hid (show Sta w wr k nonce (startL k n nonce) from HT.out)
          have HL := Lib.hid (show (startL k n nonce).length = 16 from rfl)
          clear HT
          obtain ⟨us, hus⟩ : ∃ us, us = startL k n nonce := ⟨_, rfl⟩
          have HU := Lib.hid hus
          rw [← hus] at HE HL
          clear hus
          go_wp2_with (first
            | (refine wpList_load_row rfl 70 (.tmp 7) rfl (w.heap.size + 1 + 1 + 1) rfl 70 (vw us) (0, 0) _ HE.out.wA Tryd.underlying70 rfl (HIH.out us HL.out) ?_)
            | (refine wpList_store_rowTo rfl 70 (.tmp 6) (.tmp 35) rfl rfl (w.heap.size + 1 + 1) (vw us) rfl rfl 70 z16w HE.out.oA (HIH.out us HL.out) (HZH.out us HL.out) (vw_one _) ?_))
          refine bodyPost_ret (results_cell_row rfl _ _ (w.heap.size + 1 + 1) 70 (vw us) (0, 0) _ rfl (setRow_heap wr (w.heap.size + 1 + 1) z16w _ 70 (0, 0) HE.out.oA) Tryd.underlying70 rfl (HIH.out us HL.out)) rfl ?_
          exact ⟨by rw [HU.out], HE.out.bel.trans (below_setRow _ _ _ (by omega))⟩
end Go.Proofs.YtfblpkjablgafaaDoor
namespace Go.Proofs.YtfblpkjablgafaaDoor
open Go.RowKit
set_option linter.unusedVariables false
set_option linter.unusedSimpArgs false
def qs : List (List Nat) := [[0, 4, 8, 12], [1, 5, 9, 13], [2, 6, 10, 14], [3, 7, 11, 15], [0, 5, 10, 15], [1, 6, 11, 12], [2, 7, 8, 13], [3, 4, 9, 14]]
theorem qs_len (j : Nat) (h : j < 8) : (qs.getD j []).length = 4 := (show ∀ j, j < 8 → (qs.getD j []).length = 4 by decide) j h
theorem qs_lt (j : Nat) (h : j < 8) : ∀ i, (qs.getD j []).getD i 0 < 16 := fun i => by
  rcases Nat.lt_or_ge i 4 with h1 | h1
  · exact (show ∀ j, j < 8 → ∀ i, i < 4 → (qs.getD j []).getD i 0 < 16 by decide) j h i h1
  · rw [List.getD_eq_getElem?_getD, List.getElem?_eq_none (by rw [qs_len j h]; exact h1)]; decide
def qrt (us : List Nat) : Nat → List Nat
  | 0 => us
  | j + 1 => qtrL (qrt us j) (qs.getD j [])
def rnds (us : List Nat) : Nat → List Nat
  | 0 => us
  | i + 1 => qrt (rnds us i) 8
theorem W16.qrt {us : List Nat} (h : W16 us) (j : Nat) (hj : j ≤ 8) : W16 (qrt us j) := by
  induction j with
  | zero => exact h
  | succ j ih => exact (ih (by omega)).qtr (qs_lt j (by omega))
theorem W16.rnds {us : List Nat} (h : W16 us) (i : Nat) : W16 (rnds us i) := by
  induction i with
  | zero => exact h
  | succ i ih => exact ih.qrt 8 (Nat.le_refl _)
def outB (us fr : List Nat) (i : Nat) : Nat := (us.getD (i / 4) 0 + fr.getD (i / 4) 0) % 4294967296 / 256 ^ (i % 4) % 256
/-- a block of the stream -/
def blkL (k : List Nat) (n : Nat) (nonce : List Nat) : List Nat := (List.range 64).map (outB (rnds (startL k n nonce) 10) (startL k n nonce))
theorem blkL_len (k : List Nat) (n : Nat) (nonce : List Nat) : (blkL k n nonce).length = 64 := by simp [blkL]
theorem blkL_lt (k : List Nat) (n : Nat) (nonce : List Nat) : ∀ c ∈ blkL k n nonce, c < 256 := fun c hc => by
  obtain ⟨i, _, rfl⟩ := List.mem_map.1 hc
  exact Nat.mod_lt _ (by decide)
def mapZ (f : Nat → Nat) (n i : Nat) : List Nat := (List.range i).map f ++ List.replicate (n - i) 0
theorem mapZ_len (f : Nat → Nat) (n i : Nat) (h : i ≤ n) : (mapZ f n i).length = n := by simp [mapZ]; omega
theorem mapZ_zero (f : Nat → Nat) (n : Nat) : mapZ f n 0 = List.replicate n 0 := by simp [mapZ]
theorem mapZ_end (f : Nat → Nat) (n : Nat) : mapZ f n n = (List.range n).map f := by simp [mapZ]
theorem mapZ_set (f : Nat → Nat) (n i : Nat) (h : i < n) : (mapZ f n i).set i (f i) = mapZ f n (i + 1) := by
  have hl : ((List.range i).map f).length = i := by simp
  unfold mapZ
  rw [List.set_append_right _ _ (by rw [hl]; exact Nat.le_refl _), hl, Nat.sub_self, show n - i = (n - (i + 1)) + 1 by omega, List.replicate_succ, List.set_cons_zero, List.range_succ, List.map_append]
  simp
def qcells : Array Value := #[.int .i64 0, .int .i64 4, .int .i64 8, .int .i64 12, .int .i64 1, .int .i64 5, .int .i64 9, .int .i64 13, .int .i64 2, .int .i64 6, .int .i64 10, .int .i64 14, .int .i64 3, .int .i64 7, .int .i64 11, .int .i64 15, .int .i64 0, .int .i64 5, .int .i64 10, .int .i64 15, .int .i64 1, .int .i64 6, .int .i64 11, .int .i64 12, .int .i64 2, .int .i64 7, .int .i64 8, .int .i64 13, .int .i64 3, .int .i64 4, .int .i64 9, .int .i64 14]
theorem run_index_q0 (w : World) : (Instr.index 73 (.agg qcells) (.int .i64 0)).run Tryd.prog w = .ok (.agg (pV [0, 4, 8, 12])) w := by kernel_rfl
theorem run_index_q1 (w : World) : (Instr.index 73 (.agg qcells) (.int .i64 1)).run Tryd.prog w = .ok (.agg (pV [1, 5, 9, 13])) w := by kernel_rfl
theorem run_index_q2 (w : World) : (Instr.index 73 (.agg qcells) (.int .i64 2)).run Tryd.prog w = .ok (.agg (pV [2, 6, 10, 14])) w := by kernel_rfl
theorem run_index_q3 (w : World) : (Instr.index 73 (.agg qcells) (.int .i64 3)).run Tryd.prog w = .ok (.agg (pV [3, 7, 11, 15])) w := by kernel_rfl
theorem run_index_q4 (w : World) : (Instr.index 73 (.agg qcells) (.int .i64 4)).run Tryd.prog w = .ok (.agg (pV [0, 5, 10, 15])) w := by kernel_rfl
theorem run_index_q5 (w : World) : (Instr.index 73 (.agg qcells) (.int .i64 5)).run Tryd.prog w = .ok (.agg (pV [1, 6, 11, 12])) w := by kernel_rfl
theorem run_index_q6 (w : World) : (Instr.index 73 (.agg qcells) (.int .i64 6)).run Tryd.prog w = .ok (.agg (pV [2, 7, 8, 13])) w := by kernel_rfl
theorem run_index_q7 (w : World) : (Instr.index 73 (.agg qcells) (.int .i64 7)).run Tryd.prog w = .ok (.agg (pV [3, 4, 9, 14])) w := by kernel_rfl
theorem run_index_q (m : Nat) (hm : m < 8) (w : World) : (Instr.index 73 (.agg qcells) (.int .i64 (m : Int))).run Tryd.prog w = .ok (.agg (pV (qs.getD m []))) w := by
  have h : m = 0 ∨ m = 1 ∨ m = 2 ∨ m = 3 ∨ m = 4 ∨ m = 5 ∨ m = 6 ∨ m = 7 := by omega
  rcases h with rfl | rfl | rfl | rfl | rfl | rfl | rfl | rfl
  · exact run_index_q0 w
  · exact run_index_q1 w
  · exact run_index_q2 w
  · exact run_index_q3 w
  · exact run_index_q4 w
  · exact run_index_q5 w
  · exact run_index_q6 w
  · exact run_index_q7 w
def QuartersAt (w : World) : Prop := w.rangeAt 0 0 qcells.toList ∧ 0 < w.heap.size
theorem QuartersAt.next {w w' : World} (h : QuartersAt w) (hb : Below w.heap.size w w') : QuartersAt w' := ⟨fun j v hv => (hb.cell (p := ⟨0, 0 + j, none⟩) h.2).trans (h.1 j v hv), Nat.lt_of_lt_of_le h.2 hb.size⟩
def z4 : Array Value := pV [0, 0, 0, 0]
theorem zero_4 (w : World) : (zeroValue 72).run Tryd.prog w = .ok (.agg z4) w := by kernel_rfl
def z64 : List Nat := List.replicate 64 0
theorem zero_64b (w : World) : (zeroValue 58).run Tryd.prog w = .ok (.agg (vb z64)) w := by kernel_rfl
theorem pV_size (p : List Nat) : (pV p).size = p.length := by simp [pV]
theorem pV_one (p : List Nat) : (pV p).all (·.oneCell') = true := by
  rw [Array.all_eq_true_iff_forall_mem]
  intro v hv
  simp only [pV, List.mem_toArray, List.mem_map] at hv
  obtain ⟨n, _, rfl⟩ := hv
  rfl
theorem pV_info (p : List Nat) (h : p.length = 4) : (Tryd.prog.info? 72).map (·.size) = some (pV p).size := by rw [pV_size, h]; kernel_rfl
theorem pV_z4 (p : List Nat) (h : p.length = 4) : z4.size = (pV p).size := by rw [pV_size, h]; rfl
theorem qcells_info : (Tryd.prog.info? 73).map (·.size) = some qcells.toList.length := by kernel_rfl
theorem qcells_arr : qcells.toList.toArray = qcells := rfl
/-- the blocks of memory while a block is made -/
structure Bst (w W : World) (gR gF gW : Nat) (fr us : List Nat) : Prop where
  bel : Below w.heap.size w W
  rA : Blk W gR 58 (vb z64)
  fA : Blk W gF 70 (vw fr)
  wA : Blk W gW 70 (vw us)
  n1 : gR ≠ gW
  n2 : gF ≠ gW
  up : w.heap.size ≤ gW
theorem Bst.next {w W W' : World} {gR gF gW : Nat} {fr us : List Nat} (s : Bst w W gR gF gW fr us) (hb : Below W.heap.size W W') : Bst w W' gR gF gW fr us :=
  ⟨s.bel.trans (hb.mono s.bel.size), s.rA.below hb s.rA.lt, s.fA.below hb s.fA.lt, s.wA.below hb s.wA.lt, s.n1, s.n2, s.up⟩
theorem Bst.grown {w W W' : World} {gR gF gW : Nat} {fr us vs : List Nat} (s : Bst w W gR gF gW fr us) (hb : W.grownBy W' (some gW)) (hv : Blk W' gW 70 (vw vs)) : Bst w W' gR gF gW fr vs :=
  ⟨g1_below_refl hb s.bel s.up s.bel.size, g1_blk hb s.rA s.n1, g1_blk hb s.fA s.n2, hv, s.n1, s.n2, s.up⟩
theorem Bst.quarters {w W : World} {gR gF gW : Nat} {fr us : List Nat} (s : Bst w W gR gF gW fr us) (h : QuartersAt w) : QuartersAt W := h.next s.bel
theorem new_row (W : World) (T : TypeId) (old cs : Array Value) : Blk ((W.alloc (Obj.cells old T)).setRow W.heap.size cs) W.heap.size T cs ∧ Below W.heap.size W ((W.alloc (Obj.cells old T)).setRow W.heap.size cs) :=
  ⟨setRow_heap _ _ _ _ _ (0, 0) (Blk.new W _ _), ((Below.refl _ _).alloc (Nat.le_refl _) _).trans (below_setRow _ _ _ (Nat.le_refl _))⟩
structure Bo (w W : World) (gR gF gW gO : Nat) (fr us os : List Nat) : Prop where
  st : Bst w W gR gF gW fr us
  oA : Blk W gO 58 (vb os)
  nR : gR ≠ gO
  nF : gF ≠ gO
  nW : gW ≠ gO
  up : w.heap.size ≤ gO
theorem Bo.set {w W : World} {gR gF gW gO : Nat} {fr us os : List Nat} (s : Bo w W gR gF gW gO fr us os) (i c : Nat) : Bo w (W.setCell ⟨gO, i, none⟩ (.int .u8 (c : Int))).drew gR gF gW gO fr us (os.set i c) :=
  ⟨⟨(s.st.bel.setCell (by show w.heap.size ≤ gO; exact s.up) _).drew, s.st.rA.far (p := ⟨gO, i, none⟩) s.nR _, s.st.fA.far (p := ⟨gO, i, none⟩) s.nF _, s.st.wA.far (p := ⟨gO, i, none⟩) s.nW _, s.st.n1, s.st.n2, s.st.up⟩, by rw [← vb_set]; exact s.oA.set_ i _, s.nR, s.nF, s.nW, s.up⟩
theorem Bst.out {w W : World} {gR gF gW : Nat} {fr us : List Nat} (s : Bst w W gR gF gW fr us) : Bo w (W.alloc (Obj.cells (vb z64) 58)) gR gF gW W.heap.size fr us z64 :=
  ⟨s.next ((Below.refl _ _).alloc (Nat.le_refl _) _), Blk.new W _ _, by have := s.rA.lt; omega, by have := s.fA.lt; omega, by have := s.wA.lt; omega, s.bel.size⟩
end Go.Proofs.YtfblpkjablgafaaDoor
