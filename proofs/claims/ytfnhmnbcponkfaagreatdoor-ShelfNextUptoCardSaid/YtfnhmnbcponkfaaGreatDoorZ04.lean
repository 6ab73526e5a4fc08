/- Parts, one behind the other: CaM LiftQ OpQ De0 De1 De2 De3 Df1 Df2 Df3 OpP. -/
import Derived.Test.YtfnhmnbcponkfaaGreatDoorZ03
import Derived.Test.YtfnhmnbcponkfaaGreatDoorRows
import Derived.StillTailTactics
import Derived.Laws.Rows
import Derived.Deep.MidRow
import Derived.BigQuiet
import Derived.Laws.ResultCell
import Derived.LaidMore
import Derived.Lib.LaidTab
import Derived.MakeChecks
import Derived.Stop.Joined
import Derived.WalkLawsBesides
import Derived.Great.BuildSlice
import Derived.DataElems
set_option maxRecDepth 100000
set_option linter.unusedVariables false
set_option linter.unusedSimpArgs false
set_option maxHeartbeats 4000000
namespace Go.Proofs.YtfnhmnbcponkfaaGreatDoor
open Go.RowKit
theorem wrap32 (z : Int) : IntKind.u32.wrap z = z % 4294967296 := by simp [IntKind.wrap, IntKind.signed, IntKind.bits]
theorem rotl_or {n k : Nat} (hn : n < 4294967296) (hk2 : k ≤ 32) : (n * 2 ^ k % 4294967296) ||| (n / 2 ^ (32 - k)) = rotl n k := by
 have e : (4294967296 : Nat) = 2 ^ (32 - k) * 2 ^ k := by rw [← Nat.pow_add, show 32 - k + k = 32 by omega]
 have h1 : n / 2 ^ (32 - k) < 2 ^ k := Nat.div_lt_of_lt_mul (by rw [← e]; exact hn)
 have h2 : n * 2 ^ k % 4294967296 = 2 ^ k * (n % 2 ^ (32 - k)) := by rw [e, Nat.mul_mod_mul_right, Nat.mul_comm]
 unfold rotl
 rw [h2]
 exact (Nat.two_pow_add_eq_or_of_lt h1 _).symm
theorem rotl16_c (n : Nat) (w : World) (hn : n < 4294967296) : Calls Tryz.prog 139 #[.int .u32 n, .int .i64 16] w fun e w' => e = .returned (.int .u32 (rotl n 16 : Nat)) ∧ w = w' := by
 have h1 : bits BinOp.and .u64 16 31 = 16 := by decide
 have h2 : IntKind.u32.wrap ((n : Int) * 65536) = ((n * 65536 % 4294967296 : Nat) : Int) := by rw [wrap32]; omega
 have h3 : bits BinOp.or .u32 ((n * 65536 % 4294967296 : Nat) : Int) ((n : Int) / 65536) = ((rotl n 16 : Nat) : Int) := by
  rw [show (n : Int) / 65536 = ((n / 65536 : Nat) : Int) by omega, u32_or_nat _ _ (Nat.mod_lt _ (by decide)) (by omega)]
  rw [show n * 65536 % 4294967296 ||| n / 65536 = rotl n 16 from rotl_or (k := 16) hn (by decide)]
 go_enter Tryz.func139, Tryz.ntmps139
 go_wp2
 go_ret
 exact ⟨by first | rfl | simp_all, rfl⟩
theorem rotl12_c (n : Nat) (w : World) (hn : n < 4294967296) : Calls Tryz.prog 139 #[.int .u32 n, .int .i64 12] w fun e w' => e = .returned (.int .u32 (rotl n 12 : Nat)) ∧ w = w' := by
 have h1 : bits BinOp.and .u64 12 31 = 12 := by decide
 have h2 : IntKind.u32.wrap ((n : Int) * 4096) = ((n * 4096 % 4294967296 : Nat) : Int) := by rw [wrap32]; omega
 have h3 : bits BinOp.or .u32 ((n * 4096 % 4294967296 : Nat) : Int) ((n : Int) / 1048576) = ((rotl n 12 : Nat) : Int) := by
  rw [show (n : Int) / 1048576 = ((n / 1048576 : Nat) : Int) by omega, u32_or_nat _ _ (Nat.mod_lt _ (by decide)) (by omega)]
  rw [show n * 4096 % 4294967296 ||| n / 1048576 = rotl n 12 from rotl_or (k := 12) hn (by decide)]
 go_enter Tryz.func139, Tryz.ntmps139
 go_wp2
 go_ret
 exact ⟨by first | rfl | simp_all, rfl⟩
theorem rotl8_c (n : Nat) (w : World) (hn : n < 4294967296) : Calls Tryz.prog 139 #[.int .u32 n, .int .i64 8] w fun e w' => e = .returned (.int .u32 (rotl n 8 : Nat)) ∧ w = w' := by
 have h1 : bits BinOp.and .u64 8 31 = 8 := by decide
 have h2 : IntKind.u32.wrap ((n : Int) * 256) = ((n * 256 % 4294967296 : Nat) : Int) := by rw [wrap32]; omega
 have h3 : bits BinOp.or .u32 ((n * 256 % 4294967296 : Nat) : Int) ((n : Int) / 16777216) = ((rotl n 8 : Nat) : Int) := by
  rw [show (n : Int) / 16777216 = ((n / 16777216 : Nat) : Int) by omega, u32_or_nat _ _ (Nat.mod_lt _ (by decide)) (by omega)]
  rw [show n * 256 % 4294967296 ||| n / 16777216 = rotl n 8 from rotl_or (k := 8) hn (by decide)]
 go_enter Tryz.func139, Tryz.ntmps139
 go_wp2
 go_ret
 exact ⟨by first | rfl | simp_all, rfl⟩
theorem rotl7_c (n : Nat) (w : World) (hn : n < 4294967296) : Calls Tryz.prog 139 #[.int .u32 n, .int .i64 7] w fun e w' => e = .returned (.int .u32 (rotl n 7 : Nat)) ∧ w = w' := by
 have h1 : bits BinOp.and .u64 7 31 = 7 := by decide
 have h2 : IntKind.u32.wrap ((n : Int) * 128) = ((n * 128 % 4294967296 : Nat) : Int) := by rw [wrap32]; omega
 have h3 : bits BinOp.or .u32 ((n * 128 % 4294967296 : Nat) : Int) ((n : Int) / 33554432) = ((rotl n 7 : Nat) : Int) := by
  rw [show (n : Int) / 33554432 = ((n / 33554432 : Nat) : Int) by omega, u32_or_nat _ _ (Nat.mod_lt _ (by decide)) (by omega)]
  rw [show n * 128 % 4294967296 ||| n / 33554432 = rotl n 7 from rotl_or (k := 7) hn (by decide)]
 go_enter Tryz.func139, Tryz.ntmps139
 go_wp2
 go_ret
 exact ⟨by first | rfl | simp_all, rfl⟩
def Turns (k : Nat) : Prop := ∀ (n : Nat) (w : World), n < 4294967296 → Calls Tryz.prog 139 #[.int .u32 n, .int .i64 k] w fun e w' => e = .returned (.int .u32 (rotl n k : Nat)) ∧ w = w'
theorem turns16 : Turns 16 := fun n w hn => rotl16_c n w hn
theorem turns12 : Turns 12 := fun n w hn => rotl12_c n w hn
theorem turns8 : Turns 8 := fun n w hn => rotl8_c n w hn
theorem turns7 : Turns 7 := fun n w hn => rotl7_c n w hn
theorem u32_xor_lt {a b : Nat} (ha : a < 4294967296) (hb : b < 4294967296) : a ^^^ b < 4294967296 := Nat.xor_lt_two_pow (n := 32) ha hb
theorem mix_c (g a b d n : Nat) (ws : List Nat) (w : World) (ht : Turns n) (hW : W16 ws) (hb : Blk w g 179 (vw ws)) (ha : a < 16) (hbb : b < 16) (hd : d < 16) :
  Calls Tryz.prog 133 #[.pointer (some ⟨g, 0, none⟩), .int .i64 a, .int .i64 b, .int .i64 d, .int .i64 n] w fun e w' => e = .returned (.tuple #[]) ∧ Blk w' g 179 (vw (mixL ws a b d n)) ∧ w.grownBy w' (some g) := by
 have p1 : (a : Int) < 16 := by omega
 have p2 : (b : Int) < 16 := by omega
 have p3 : (d : Int) < 16 := by omega
 have l := hW.len
 have hW1 := hW.set a ((ws.getD a 0 + ws.getD b 0) % 4294967296) ha (Nat.mod_lt _ (by decide))
 have d0 := (hb.cell a).trans (vw_at ws a (by omega))
 have d1 := (hb.cell b).trans (vw_at ws b (by omega))
 have e0 := hb.free a
 have x0 := hW.lt a
 have x1 := hW.lt b
 have f0 : IntKind.u32.wrap (((ws.getD a 0 : Nat) : Int) + ((ws.getD b 0 : Nat) : Int)) = (((ws.getD a 0 + ws.getD b 0) % 4294967296 : Nat) : Int) := by rw [wrap32]; omega
 have HM := Li (show mixL ws a b d n = ((ws.set a ((ws.getD a 0 + ws.getD b 0) % 4294967296)).set d (rotl ((ws.set a ((ws.getD a 0 + ws.getD b 0) % 4294967296)).getD d 0 ^^^ (ws.set a ((ws.getD a 0 + ws.getD b 0) % 4294967296)).getD a 0) n)) from rfl)
 have HS := Li (show ∀ v : Nat, Blk (w.setCell ⟨g, a, none⟩ (.int .u32 (v : Int))).drew g 179 (vw (ws.set a v)) ∧ w.grownBy (w.setCell ⟨g, a, none⟩ (.int .u32 (v : Int))).drew (some g) from fun v => ⟨by rw [← vw_set]; exact hb.set_ _ _, g1_drew (g1_set (g1_refl w g) _ _)⟩)
 clear hb
 generalize (ws.getD a 0 + ws.getD b 0) % 4294967296 = v at *
 generalize ws.getD a 0 = wa at *
 generalize ws.getD b 0 = wb at *
 have hs := HS.out v
 clear HS
 generalize ws.set a v = us at *
 go_enter Tryz.func133, Tryz.ntmps133
 go_wp2_with fail
 refine wp_region_still_tail 13 (by kernel_rfl) (by kernel_rfl) ?_
 simp only [List.take_succ_cons, List.take_zero, List.drop_succ_cons, List.drop_zero]
 repeat still_step
 try refine wpStill_nil ?_
 go_wp2_with fail
 obtain ⟨hs1, hs2⟩ := hs
 generalize (w.setCell ⟨g, a, none⟩ (.int .u32 (v : Int))).drew = W1 at *
 have l2 := hW1.len
 have c0 := (hs1.cell d).trans (vw_at us d (by omega))
 have c1 := (hs1.cell a).trans (vw_at us a (by omega))
 have e1 := hs1.free d
 have y0 := hW1.lt d
 have y1 := hW1.lt a
 have g0 := u32_xor_nat (us.getD d 0) (us.getD a 0) y0 y1
 have TT := Li (fun W => ht (us.getD d 0 ^^^ us.getD a 0) W (u32_xor_lt y0 y1))
 have HS := Li (show ∀ v : Nat, Blk (W1.setCell ⟨g, d, none⟩ (.int .u32 (v : Int))).drew g 179 (vw (us.set d v)) ∧ w.grownBy (W1.setCell ⟨g, d, none⟩ (.int .u32 (v : Int))).drew (some g) from fun v => ⟨by rw [← vw_set]; exact hs1.set_ _ _, g1_drew (g1_set hs2 _ _)⟩)
 clear hs1 hs2
 generalize us.getD d 0 ^^^ us.getD a 0 = q at *
 generalize us.getD d 0 = ud at *
 generalize us.getD a 0 = ua at *
 go_wp2_with fail
 refine wp_region_still_tail 17 (by kernel_rfl) (by kernel_rfl) ?_
 simp only [List.take_succ_cons, List.take_zero, List.drop_succ_cons, List.drop_zero]
 iterate 14 still_step
 still_call ((TT.out _).mono fun _ _ h => ⟨h.1, h.2.symm⟩)
 repeat still_step
 try refine wpStill_nil ?_
 have HS2 := HS.out (rotl q n)
 generalize rotl q n = r at *
 go_wp2_with fail
 refine bodyPost_end (results_none rfl _ _ _) rfl ?_
 exact ⟨rfl, by rw [HM.out]; exact HS2.1, HS2.2⟩
def pV (p : List Nat) : Array Value := (p.map fun (n : Nat) => Value.int .i64 (n : Int)).toArray
theorem len4 {l : List Nat} (h : l.length = 4) : ∃ a b c d, l = [a, b, c, d] := by
 match l, h with
 | [a, b, c, d], _ => exact ⟨a, b, c, d, rfl⟩
theorem quarter_c (g : Nat) (p ws : List Nat) (w : World) (hp : p.length = 4) (hpl : ∀ j, p.getD j 0 < 16) (hW : W16 ws) (hb : Blk w g 179 (vw ws)) :
  Calls Tryz.prog 117 #[.pointer (some ⟨g, 0, none⟩), .agg (pV p)] w fun e w' => e = .returned (.tuple #[]) ∧ Blk w' g 179 (vw (qtrL ws p)) ∧ w.grownBy w' (some g) := by
 obtain ⟨p0, p1, p2, p3, rfl⟩ := len4 hp
 have q0 : p0 < 16 := hpl 0
 have q1 : p1 < 16 := hpl 1
 have q2 : p2 < 16 := hpl 2
 have q3 : p3 < 16 := hpl 3
 have HQ := Li (show qtrL ws [p0, p1, p2, p3] = mixL (mixL (mixL (mixL ws p0 p1 p3 16) p2 p3 p1 12) p0 p1 p3 8) p2 p3 p1 7 from rfl)
 have hW1 := hW.mix p0 p1 p3 16 q0 q3 (by decide)
 have hW2 := hW1.mix p2 p3 p1 12 q2 q1 (by decide)
 have hW3 := hW2.mix p0 p1 p3 8 q0 q3 (by decide)
 have hgn : g ≠ w.heap.size := fun h => by have := hb.lt; omega
 clear hp hpl
 have M1 := Li (fun W (hB : Blk W g 179 (vw ws)) => mix_c g p0 p1 p3 16 ws W turns16 hW hB q0 q1 q3)
 have M2 := Li (fun W (hB : Blk W g 179 (vw (mixL ws p0 p1 p3 16))) => mix_c g p2 p3 p1 12 _ W turns12 hW1 hB q2 q3 q1)
 generalize mixL ws p0 p1 p3 16 = u1 at *
 have M3 := Li (fun W (hB : Blk W g 179 (vw (mixL u1 p2 p3 p1 12))) => mix_c g p0 p1 p3 8 _ W turns8 hW2 hB q0 q1 q3)
 generalize mixL u1 p2 p3 p1 12 = u2 at *
 have M4 := Li (fun W (hB : Blk W g 179 (vw (mixL u2 p0 p1 p3 8))) => mix_c g p2 p3 p1 7 _ W turns7 hW3 hB q2 q3 q1)
 generalize mixL u2 p0 p1 p3 8 = u3 at *
 have HB := Li hb
 clear hW hW1 hW2 hW3 hb
 go_enter Tryz.func117, Tryz.ntmps117
 go_upto_region 1 with (refine Go.Great.wpList_boxTo rfl 181 (.tmp 1) rfl (some 3) rfl w.heap.size rfl (pV [p0, p1, p2, p3]) rfl ?_)
 have hbx : Blk (w.alloc (Obj.cells (pV [p0, p1, p2, p3]) 181)) w.heap.size 181 (pV [p0, p1, p2, p3]) := Blk.new w _ _
 have hbg : Blk (w.alloc (Obj.cells (pV [p0, p1, p2, p3]) 181)) g 179 (vw ws) := HB.out.alloc _
 have hgr : w.grownBy (w.alloc (Obj.cells (pV [p0, p1, p2, p3]) 181)) (some g) := by
  exact ⟨rfl, rfl, rfl, by simp, fun k hk _ => heap_alloc_old _ _ hk⟩
 generalize w.alloc (Obj.cells (pV [p0, p1, p2, p3]) 181) = Z0 at *
 generalize w.heap.size = nx at *
 clear HB
 have c00 : Z0.cell? ⟨nx, 0, none⟩ = some (.int .i64 (p0 : Nat)) := hbx.cell 0
 have c01 : Z0.cell? ⟨nx, 1, none⟩ = some (.int .i64 (p1 : Nat)) := hbx.cell 1
 have c02 : Z0.cell? ⟨nx, 2, none⟩ = some (.int .i64 (p2 : Nat)) := hbx.cell 2
 have c03 : Z0.cell? ⟨nx, 3, none⟩ = some (.int .i64 (p3 : Nat)) := hbx.cell 3
 have BX0 := Li hbx
 have GR0 := Li hgr
 have CL0 := Li (M1.out Z0 hbg)
 clear hbx hbg hgr
 go_upto_region 2 with (go_at_call 133; (refine CL0.out.mono ?_); rintro e Z1 ⟨rfl, hbg, hg⟩; have hbx := g1_blk hg BX0.out (Ne.symm hgn); have hgr := GR0.out.trans hg; clear hg)
 have c10 : Z1.cell? ⟨nx, 0, none⟩ = some (.int .i64 (p0 : Nat)) := hbx.cell 0
 have c11 : Z1.cell? ⟨nx, 1, none⟩ = some (.int .i64 (p1 : Nat)) := hbx.cell 1
 have c12 : Z1.cell? ⟨nx, 2, none⟩ = some (.int .i64 (p2 : Nat)) := hbx.cell 2
 have c13 : Z1.cell? ⟨nx, 3, none⟩ = some (.int .i64 (p3 : Nat)) := hbx.cell 3
 have BX1 := Li hbx
 have GR1 := Li hgr
 have CL1 := Li (M2.out Z1 hbg)
 clear hbx hbg hgr
 go_upto_region 3 with (go_at_call 133; (refine CL1.out.mono ?_); rintro e Z2 ⟨rfl, hbg, hg⟩; have hbx := g1_blk hg BX1.out (Ne.symm hgn); have hgr := GR1.out.trans hg; clear hg)
 have c20 : Z2.cell? ⟨nx, 0, none⟩ = some (.int .i64 (p0 : Nat)) := hbx.cell 0
 have c21 : Z2.cell? ⟨nx, 1, none⟩ = some (.int .i64 (p1 : Nat)) := hbx.cell 1
 have c22 : Z2.cell? ⟨nx, 2, none⟩ = some (.int .i64 (p2 : Nat)) := hbx.cell 2
 have c23 : Z2.cell? ⟨nx, 3, none⟩ = some (.int .i64 (p3 : Nat)) := hbx.cell 3
 have BX2 := Li hbx
 have GR2 := Li hgr
 have CL2 := Li (M3.out Z2 hbg)
 clear hbx hbg hgr
 go_upto_region 4 with (go_at_call 133; (refine CL2.out.mono ?_); rintro e Z3 ⟨rfl, hbg, hg⟩; have hbx := g1_blk hg BX2.out (Ne.symm hgn); have hgr := GR2.out.trans hg; clear hg)
 have c30 : Z3.cell? ⟨nx, 0, none⟩ = some (.int .i64 (p0 : Nat)) := hbx.cell 0
 have c31 : Z3.cell? ⟨nx, 1, none⟩ = some (.int .i64 (p1 : Nat)) := hbx.cell 1
 have c32 : Z3.cell? ⟨nx, 2, none⟩ = some (.int .i64 (p2 : Nat)) := hbx.cell 2
 have c33 : Z3.cell? ⟨nx, 3, none⟩ = some (.int .i64 (p3 : Nat)) := hbx.cell 3
 have BX3 := Li hbx
 have GR3 := Li hgr
 have CL3 := Li (M4.out Z3 hbg)
 clear hbx hbg hgr
 go_wp2_with (go_at_call 133; (refine CL3.out.mono ?_); rintro e Z4 ⟨rfl, hbg, hg⟩; have hbx := g1_blk hg BX3.out (Ne.symm hgn); have hgr := GR3.out.trans hg; clear hg)
 refine bodyPost_end (results_none rfl _ _ _) rfl ?_
 exact ⟨rfl, by rw [HQ.out]; exact hbg, hgr⟩
theorem or_put {i a b n m : Nat} (h : b < 2 ^ i) (hn : n = 2 ^ i * a) (hm : n + b = m) : n ||| b = m := by
 rw [← hm, hn]
 exact (Nat.two_pow_add_eq_or_of_lt h a).symm
def le4 (l : List Nat) : Nat := number (l.take 4)
theorem le4_lt {l : List Nat} (hl : ∀ c ∈ l, c < 256) : le4 l < 4294967296 := by
 have h := number_lt (l.take 4) (fun c hc => hl c (List.mem_of_mem_take hc))
 have h2 : (l.take 4).length ≤ 4 := by rw [List.length_take]; omega
 exact jH h (Nat.le_trans (Nat.pow_le_pow_right (by decide) h2) (by decide))
theorem le4_eq (l : List Nat) (h : 4 ≤ l.length) : le4 l = l.getD 0 0 + 256 * (l.getD 1 0 + 256 * (l.getD 2 0 + 256 * l.getD 3 0)) := by
 match l, h with
 | a :: b :: c :: d :: t, _ => simp [le4, number]; try omega
theorem le_facts (y0 y1 y2 y3 : Nat) (x0 : y0 < 256) (x1 : y1 < 256) (x2 : y2 < 256) (x3 : y3 < 256) :
  ∃ z1 z2 z3 s1 s2 le : Nat, (y1 : Int) * 256 = (z1 : Int) ∧ (y2 : Int) * 65536 = (z2 : Int) ∧ (y3 : Int) * 16777216 = (z3 : Int) ∧ le = y0 + 256 * (y1 + 256 * (y2 + 256 * y3)) ∧ IntKind.u32.wrap ((y1 : Int) * 256) = (z1 : Int) ∧ IntKind.u32.wrap ((y2 : Int) * 65536) = (z2 : Int) ∧ IntKind.u32.wrap ((y3 : Int) * 16777216) = (z3 : Int) ∧
   bits BinOp.or .u32 (y0 : Int) (z1 : Int) = (s1 : Int) ∧ bits BinOp.or .u32 (s1 : Int) (z2 : Int) = (s2 : Int) ∧ bits BinOp.or .u32 (s2 : Int) (z3 : Int) = (le : Int) := by
 refine ⟨y1 * 256, y2 * 65536, y3 * 16777216, y0 + y1 * 256, y0 + y1 * 256 + y2 * 65536, _, by omega, by omega, by omega, rfl, by rw [wrap32]; omega, by rw [wrap32]; omega, by rw [wrap32]; omega, ?_, ?_, ?_⟩
 ·rw [u32_or_nat _ _ (by omega) (by omega), Nat.or_comm, or_put (i := 8) (a := y1) (m := y0 + y1 * 256) (by omega) (by omega) (by omega)]
 ·rw [u32_or_nat _ _ (by omega) (by omega), Nat.or_comm, or_put (i := 16) (a := y2) (m := y0 + y1 * 256 + y2 * 65536) (by omega) (by omega) (by omega)]
 ·rw [u32_or_nat _ _ (by omega) (by omega), Nat.or_comm, or_put (i := 24) (a := y3) (m := y0 + 256 * (y1 + 256 * (y2 + 256 * y3))) (by omega) (by omega) (by omega)]
theorem word_c (B : Nat) (ad : Addr) (n ca : Nat) (l : List Nat) (w : World) (hl : ∀ c ∈ l, c < 256) (hr : Rd w B (some ad) (byt l)) (h4 : 4 ≤ l.length) (hn : n = l.length) :
  Calls Tryz.prog 132 #[.slice (some ad) n ca] w fun e w' => e = .returned (.int .u32 (le4 l : Nat)) ∧ ∃ m, w' = w.drewN m := by
 have hcell : ∀ j, j < 4 → w.cell? (ad.add j) = some (.int .u8 (l.getD j 0 : Nat)) := fun j hj => by
  obtain ⟨a1, e1, _, hc⟩ := hr.byte (k := j) (by omega)
  injection e1 with e1
  subst e1
  exact hc
 have q0 := hcell 0 (by decide)
 have q1 := hcell 1 (by decide)
 have q2 := hcell 2 (by decide)
 have q3 := hcell 3 (by decide)
 have x0 := getD_lt hl 0
 have x1 := getD_lt hl 1
 have x2 := getD_lt hl 2
 have x3 := getD_lt hl 3
 have HE := Li (le4_eq l h4)
 rw [show ∀ a : Addr, a.add 0 = a from fun a => by simp [Addr.add]] at q0
 rw [show ∀ a : Addr, a.add 1 = ⟨a.block, a.off + 1, none⟩ from fun a => by simp [Addr.add]] at q1
 rw [show ∀ a : Addr, a.add 2 = ⟨a.block, a.off + 2, none⟩ from fun a => by simp [Addr.add]] at q2
 rw [show ∀ a : Addr, a.add 3 = ⟨a.block, a.off + 3, none⟩ from fun a => by simp [Addr.add]] at q3
 have m0 : 0 < n := by omega
 have m1 : 1 < n := by omega
 have m2 : 2 < n := by omega
 have m3 : 3 < n := by omega
 have n0 : (0 : Int) < (n : Int) := by omega
 have n1 : (1 : Int) < (n : Int) := by omega
 have n2 : (2 : Int) < (n : Int) := by omega
 have n3 : (3 : Int) < (n : Int) := by omega
 clear hcell hl hr h4 hn
 generalize l.getD 0 0 = y0 at *
 generalize l.getD 1 0 = y1 at *
 generalize l.getD 2 0 = y2 at *
 generalize l.getD 3 0 = y3 at *
 obtain ⟨z1, z2, z3, s1, s2, le, e1, e2, e3, hle, r1, r2, r3, o1, o2, o3⟩ := le_facts y0 y1 y2 y3 x0 x1 x2 x3
 rw [← hle] at HE
 rw [HE.out]
 clear hle HE
 have c0 : IntKind.u32.wrap (y0 : Int) = (y0 : Int) := by rw [wrap32]; omega
 have c1 : IntKind.u32.wrap (y1 : Int) = (y1 : Int) := by rw [wrap32]; omega
 have c2 : IntKind.u32.wrap (y2 : Int) = (y2 : Int) := by rw [wrap32]; omega
 have c3 : IntKind.u32.wrap (y3 : Int) = (y3 : Int) := by rw [wrap32]; omega
 go_enter Tryz.func132, Tryz.ntmps132
 go_wp2_with fail
 go_quiet (fail)
 go_wp2_with fail
 refine bodyPost_ret (results_tmp rfl _ _ _) rfl ?_
 exact ⟨rfl, _, rfl⟩
theorem blk_rdAt {w : World} {g : Nat} {T : TypeId} {l : List Nat} (h : Blk w g T (vb l)) (i : Nat) : Rd w (g + 1) (some ⟨g, i, none⟩) (byt (l.drop i)) := fun _ => ⟨_, rfl, Nat.lt_succ_self _, fun j u hu => by
 rw [Addr.add_mid, h.cell (i + j), ← hu]
 simp [vb, byt]⟩
def S0 : List Nat := [1634760805, 857760878, 2036477234, 1797285236, 0, 0, 0, 0, 0, 0, 0, 0, 0, 0, 0, 0]
def stk (k : List Nat) : Nat → List Nat
 | 0 => S0
 | i + 1 => (stk k i).set (4 + i) (le4 (k.drop (4 * i)))
def stn (k : List Nat) (n : Nat) (nonce : List Nat) : Nat → List Nat
 | 0 => (stk k 8).set 12 n
 | i + 1 => (stn k n nonce i).set (13 + i) (le4 (nonce.drop (4 * i)))
def startL (k : List Nat) (n : Nat) (nonce : List Nat) : List Nat := stn k n nonce 3
theorem stk_len (k : List Nat) (i : Nat) : (stk k i).length = 16 := by
 induction i with
 | zero => rfl
 | succ i ih => rw [stk, List.length_set]; exact ih
theorem stn_len (k : List Nat) (n : Nat) (nonce : List Nat) (i : Nat) : (stn k n nonce i).length = 16 := by
 induction i with
 | zero => rw [stn, List.length_set]; exact stk_len _ _
 | succ i ih => rw [stn, List.length_set]; exact ih
theorem startL_eq (k : List Nat) (n : Nat) (nonce : List Nat) : startL k n nonce = [1634760805, 857760878, 2036477234, 1797285236, le4 (k.drop 0), le4 (k.drop 4), le4 (k.drop 8), le4 (k.drop 12), le4 (k.drop 16), le4 (k.drop 20), le4 (k.drop 24), le4 (k.drop 28), n, le4 (nonce.drop 0), le4 (nonce.drop 4), le4 (nonce.drop 8)] := rfl
theorem startL_16 {k nonce : List Nat} {n : Nat} (hk : ∀ c ∈ k, c < 256) (hn : n < 4294967296) (hc : ∀ c ∈ nonce, c < 256) : W16 (startL k n nonce) := by
 refine ⟨by rw [startL_eq]; rfl, fun j => ?_⟩
 have h : ∀ c ∈ startL k n nonce, c < 4294967296 := by
  rw [startL_eq]
  intro c h
  simp only [List.mem_cons, List.not_mem_nil, or_false] at h
  have hk' := fun i => le4_lt (drop_lt hk i)
  have hc' := fun i => le4_lt (drop_lt hc i)
  rcases h with rfl | rfl | rfl | rfl | rfl | rfl | rfl | rfl | rfl | rfl | rfl | rfl | rfl | rfl | rfl | rfl <;> first | exact hk' _ | exact hc' _ | exact hn | decide
 rw [jA]
 rcases Nat.lt_or_ge j (startL k n nonce).length with h1 | h1
 ·rw [jB h1]; exact h _ (List.getElem_mem _)
 ·rw [List.getElem?_eq_none h1]; decide
def z16w : Array Value := vw (List.replicate 16 0)
theorem zero_16 (w : World) : (zeroValue 179).run Tryz.prog w = .ok (.agg z16w) w := by kernel_rfl
theorem built_16 : Tryz.prog.built 179 [(0, .int .u32 1634760805), (1, .int .u32 857760878), (2, .int .u32 2036477234), (3, .int .u32 1797285236)] = some (vw S0) := by kernel_rfl
structure Sta (w W : World) (k nonce us : List Nat) : Prop where
 bel : Below w.heap.size w W
 kA : Blk W w.heap.size 45 (vb k)
 nA : Blk W (w.heap.size + 1) 57 (vb nonce)
 oA : Blk W (w.heap.size + 1 + 1) 179 z16w
 wA : Blk W (w.heap.size + 1 + 1 + 1) 179 (vw us)
theorem Sta.next {w W W' : World} {k nonce us : List Nat} (s : Sta w W k nonce us) (hb : Below W.heap.size W W') : Sta w W' k nonce us :=
 ⟨s.bel.trans (hb.mono s.bel.size), s.kA.below hb s.kA.lt, s.nA.below hb s.nA.lt, s.oA.below hb s.oA.lt, s.wA.below hb s.wA.lt⟩
theorem Sta.set {w W : World} {k nonce us : List Nat} (s : Sta w W k nonce us) (i n : Nat) : Sta w (W.setCell ⟨w.heap.size + 1 + 1 + 1, i, none⟩ (.int .u32 (n : Nat))) k nonce (us.set i n) :=
 ⟨s.bel.setCell (by simp; try omega) _, s.kA.far (p := ⟨w.heap.size + 1 + 1 + 1, i, none⟩) (by simp; try omega) _, s.nA.far (p := ⟨w.heap.size + 1 + 1 + 1, i, none⟩) (by simp; try omega) _, s.oA.far (p := ⟨w.heap.size + 1 + 1 + 1, i, none⟩) (by simp) _, by rw [← vw_set]; exact s.wA.set_ i _⟩
theorem heap4 (w : World) (a b c d : Obj) : (((((w.alloc a).alloc b).alloc c).alloc d)).heap[w.heap.size + 1 + 1 + 1]? = some d := by
 have h := heap_alloc_new (((w.alloc a).alloc b).alloc c) d
 have e : (((w.alloc a).alloc b).alloc c).heap.size = w.heap.size + 1 + 1 + 1 := by simp
 rw [e] at h
 exact h
theorem heap3 (w : World) (a b c : Obj) : ((((w.alloc a).alloc b).alloc c)).heap[w.heap.size + 1 + 1]? = some c := by
 have h := heap_alloc_new ((w.alloc a).alloc b) c
 have e : ((w.alloc a).alloc b).heap.size = w.heap.size + 1 + 1 := by simp
 rw [e] at h
 exact h
theorem heap2 (w : World) (a b : Obj) : ((((w.alloc a).alloc b))).heap[w.heap.size + 1]? = some b := by
 have h := heap_alloc_new (w.alloc a) b
 have e : (w.alloc a).heap.size = w.heap.size + 1 := by simp
 rw [e] at h
 exact h
theorem below_setRow (w : World) (g : Nat) (cs : Array Value) {n : Nat} (h : n ≤ g) : Below n w (w.setRow g cs) := ⟨rfl, rfl, rfl, by simp [World.setRow], fun i hi => setRow_other _ _ i _ (by omega)⟩
theorem Sta.begin (w : World) (k nonce : List Nat) : Sta w (((((w.alloc (Obj.cells (vb k) 45)).alloc (Obj.cells (vb nonce) 57)).alloc (Obj.cells z16w 179)).alloc (Obj.cells z16w 179)).setRow (w.heap.size + 1 + 1 + 1) (vw S0)) k nonce (stk k 0) := by
 refine ⟨?_, ?_, ?_, ?_, ?_⟩
 ·exact (((((jE _ _).alloc (jD _) _).alloc (by simp) _).alloc (by simp; omega) _).alloc (by simp; omega) _).trans (below_setRow _ _ _ (by omega))
 ·exact (setRow_other _ _ _ _ (by omega)).trans ((((Blk.new w _ _).alloc _).alloc _).alloc _)
 ·exact (setRow_other _ _ _ _ (by omega)).trans (((show Blk _ (w.heap.size + 1) _ _ from heap2 w _ _).alloc _).alloc _)
 ·exact (setRow_other _ _ _ _ (by omega)).trans ((show Blk _ (w.heap.size + 1 + 1) _ _ from heap3 w _ _ _).alloc _)
 ·exact setRow_heap _ _ _ _ _ (0, 0) (heap4 w _ _ _ _)
theorem rdn_drop {w : World} {g : Nat} {T : TypeId} {l : List Nat} (h : Blk w g T (vb l)) (hl : ∀ c ∈ l, c < 256) (i N : Nat) (hN : l.length = N) (hi : 4 * i + 4 ≤ N) :
  ∀ ca, Calls Tryz.prog 132 #[.slice (some ⟨g, 4 * i, none⟩) (N - 4 * i) ca] w fun e w' => e = .returned (.int .u32 (le4 (l.drop (4 * i)) : Nat)) ∧ ∃ m, w' = w.drewN m := fun ca =>
 word_c _ _ _ _ _ w (drop_lt hl _) (blk_rdAt h (4 * i)) (by rw [List.length_drop]; omega) (by rw [List.length_drop]; omega)
theorem start_c (k : List Nat) (n : Nat) (nonce : List Nat) (w : World) (hk : k.length = 32) (hkl : ∀ c ∈ k, c < 256) (hn : n < 4294967296) (hc : nonce.length = 12) (hcl : ∀ c ∈ nonce, c < 256) :
  Calls Tryz.prog 116 #[.agg (vb k), .int .u32 n, .agg (vb nonce)] w fun e w' => e = .returned (.agg (vw (startL k n nonce))) ∧ Below w.heap.size w w' := by
 have zf := zero_16
 have zs1 : z16w.size = 16 := by rfl
 have zs2 : ¬ z16w = #[] := by intro h; have := congrArg Array.size h; rw [zs1] at this; cases this
 have HK := Li hkl
 have HC := Li hcl
 have HBU := Li built_16
 have HIH := Li (show ∀ us : List Nat, us.length = 16 → (Tryz.prog.info? 179).map (·.size) = some (vw us).size from fun us h => by rw [vw_size, h]; kernel_rfl)
 have HZH := Li (show ∀ us : List Nat, us.length = 16 → z16w.size = (vw us).size from fun us h => by rw [vw_size, h]; rfl)
 clear hkl hcl
 go_enter Tryz.func116, Tryz.ntmps116
 go_upto_region 2 with (first
  | (refine Go.Great.wpList_boxTo rfl 45 (.tmp 0) rfl (some 3) rfl w.heap.size rfl (vb k) rfl ?_)
  | (refine Go.Great.wpList_boxTo rfl 57 (.tmp 2) rfl (some 5) rfl (w.heap.size + 1) (by simp) (vb nonce) rfl ?_)
  | (refine wpList_valG (by kernel_rfl) (.agg (vw S0)) (run_built _ 179 [(0, .int .u32 1634760805), (1, .int .u32 857760878), (2, .int .u32 2036477234), (3, .int .u32 1797285236)] _ HBU.out _ rfl rfl) ?_)
  | (refine wpList_store_rowTo rfl 179 (.tmp 7) (.tmp 10) rfl rfl (w.heap.size + 1 + 1 + 1) (vw S0) rfl rfl 179 z16w (by exact heap4 _ _ _ _ _) (HIH.out S0 rfl) (HZH.out S0 rfl) (vw_one _) ?_))
 obtain ⟨Z, hZ⟩ : ∃ Z, Z = ((((w.alloc (Obj.cells (vb k) 45)).alloc (Obj.cells (vb nonce) 57)).alloc (Obj.cells z16w 179)).alloc (Obj.cells z16w 179)).setRow (w.heap.size + 1 + 1 + 1) (vw S0) := ⟨_, rfl⟩
 have hs : Sta w Z k nonce (stk k 0) := by
  rw [hZ]
  exact Sta.begin w k nonce
 rw [← hZ]
 clear hZ zf zs1 zs2
 have HS := Li hs
 clear hs
 go_wp2_with fail
 go_loopw [8, 11] (fun u i wr => ∃ m : Nat, m ≤ 8 ∧ i = .int .i64 m ∧ Sta w wr k nonce (stk k m)) (fun _ i _ => 8 - (intOf i).toNat)
 case atStart => exact ⟨0, by omega, rfl, HS.out⟩
 case round =>
  rename World => wr
  obtain ⟨i, hi, rfl, hs⟩ := hrel
  have HT := Li hs
  clear hs
  by_cases hlt : i < 8
  ·have p1 : (i : Int) < 8 := by omega
   have hcall := rdn_drop HT.out.kA HK.out i 32 hk (by omega)
   have HW := Li hcall
   have d0 := (HT.out.wA.cell (4 + i)).trans (vw_at _ (4 + i) (by rw [stk_len]; omega))
   have e0 := HT.out.wA.free (4 + i)
   have HST := Li (show stk k (i + 1) = (stk k i).set (4 + i) (le4 (k.drop (4 * i))) from rfl)
   have HSS := Li (show ∀ (m v : Nat), Sta w ((wr.drewN m).setCell ⟨w.heap.size + 1 + 1 + 1, 4 + i, none⟩ (.int .u32 (v : Nat))) k nonce ((stk k i).set (4 + i) v) from fun m v => (HT.out.next (belowDrewN m (jE _ _))).set _ _)
   obtain ⟨a, ha⟩ : ∃ a, a = 4 + i := ⟨_, rfl⟩
   obtain ⟨b, hb⟩ : ∃ b, b = 4 * i := ⟨_, rfl⟩
   have p2 : b ≤ 32 := by omega
   have p3 : (4 : Int) * (i : Int) = (b : Int) := by omega
   have p4 : (4 : Int) + (i : Int) = (a : Int) := by omega
   have p5 : (a : Int) < 16 := by omega
   have p6 : (b : Int) ≤ 32 := by omega
   rw [← ha] at d0 e0 HST HSS
   rw [← hb] at HW HST
   clear hcall ha hb
   generalize le4 (k.drop b) = v at *
   go_wp2_with (go_at_call 132; (refine (HW.out _).mono ?_); rintro e w1 ⟨rfl, m, rfl⟩)
   exact ⟨⟨i + 1, by omega, by go_num, by rw [HST.out]; exact HSS.out _ _⟩, by simp only [intOf]; omega⟩
  ·obtain rfl : i = 8 := by omega
   rw [show ((8 : Nat) : Int) = 8 from rfl]
   have d0 := (HT.out.wA.cell 12).trans (vw_at _ 12 (by rw [stk_len]; omega))
   have e0 := HT.out.wA.free 12
   have HS2 := Li (show Sta w (wr.setCell ⟨w.heap.size + 1 + 1 + 1, 12, none⟩ (.int .u32 (n : Nat))) k nonce (stn k n nonce 0) from HT.out.set 12 n)
   go_wp2_with fail
   generalize wr.setCell ⟨w.heap.size + 1 + 1 + 1, 12, none⟩ (.int .u32 (n : Nat)) = Z2 at *
   clear d0 e0 HT
   go_loopw [9, 24] (fun u i wr => ∃ m : Nat, m ≤ 3 ∧ i = .int .i64 m ∧ Sta w wr k nonce (stn k n nonce m)) (fun _ i _ => 3 - (intOf i).toNat)
   case atStart => exact ⟨0, by omega, rfl, HS2.out⟩
   case round =>
    rename World => wr
    obtain ⟨i, hi, rfl, hs⟩ := hrel
    have HT := Li hs
    clear hs
    by_cases hlt : i < 3
    ·have p1 : (i : Int) < 3 := by omega
     have hcall := rdn_drop HT.out.nA HC.out i 12 hc (by omega)
     have HW := Li hcall
     have d0 := (HT.out.wA.cell (13 + i)).trans (vw_at _ (13 + i) (by rw [stn_len]; omega))
     have e0 := HT.out.wA.free (13 + i)
     have HST := Li (show stn k n nonce (i + 1) = (stn k n nonce i).set (13 + i) (le4 (nonce.drop (4 * i))) from rfl)
     have HSS := Li (show ∀ (m v : Nat), Sta w ((wr.drewN m).setCell ⟨w.heap.size + 1 + 1 + 1, 13 + i, none⟩ (.int .u32 (v : Nat))) k nonce ((stn k n nonce i).set (13 + i) v) from fun m v => (HT.out.next (belowDrewN m (jE _ _))).set _ _)
     obtain ⟨a, ha⟩ : ∃ a, a = 13 + i := ⟨_, rfl⟩
     obtain ⟨b, hb⟩ : ∃ b, b = 4 * i := ⟨_, rfl⟩
     have p2 : b ≤ 12 := by omega
     have p3 : (4 : Int) * (i : Int) = (b : Int) := by omega
     have p4 : (13 : Int) + (i : Int) = (a : Int) := by omega
     have p5 : (a : Int) < 16 := by omega
     have p6 : (b : Int) ≤ 12 := by omega
     rw [← ha] at d0 e0 HST HSS
     rw [← hb] at HW HST
     clear hcall ha hb
     generalize le4 (nonce.drop b) = v at *
     go_wp2_with (go_at_call 132; (refine (HW.out _).mono ?_); rintro e w1 ⟨rfl, m, rfl⟩)
     go_roundw
     case rel => exact ⟨i + 1, by omega, by go_num, by rw [HST.out]; exact HSS.out _ _⟩
     case measure => simp only [intOf]; omega
    ·obtain rfl : i = 3 := by omega
     have HE := Li (show Sta w wr k nonce (startL k n nonce) from HT.out)
     have HL := Li (show (startL k n nonce).length = 16 from rfl)
     clear HT
     obtain ⟨us, hus⟩ : ∃ us, us = startL k n nonce := ⟨_, rfl⟩
     have HU := Li hus
     rw [← hus] at HE HL
     clear hus
     go_wp2_with (first
      | (refine wpList_load_row rfl 179 (.tmp 7) rfl (w.heap.size + 1 + 1 + 1) rfl 179 (vw us) (0, 0) _ HE.out.wA Tryz.underlying179 rfl (HIH.out us HL.out) ?_)
      | (refine wpList_store_rowTo rfl 179 (.tmp 6) (.tmp 35) rfl rfl (w.heap.size + 1 + 1) (vw us) rfl rfl 179 z16w HE.out.oA (HIH.out us HL.out) (HZH.out us HL.out) (vw_one _) ?_))
     refine bodyPost_ret (results_cell_row rfl _ _ (w.heap.size + 1 + 1) 179 (vw us) (0, 0) _ rfl (setRow_heap wr (w.heap.size + 1 + 1) z16w _ 179 (0, 0) HE.out.oA) Tryz.underlying179 rfl (HIH.out us HL.out)) rfl ?_
     exact ⟨by rw [HU.out], HE.out.bel.trans (below_setRow _ _ _ (by omega))⟩
def qs : List (List Nat) := [[0, 4, 8, 12], [1, 5, 9, 13], [2, 6, 10, 14], [3, 7, 11, 15], [0, 5, 10, 15], [1, 6, 11, 12], [2, 7, 8, 13], [3, 4, 9, 14]]
theorem qs_len (j : Nat) (h : j < 8) : (qs.getD j []).length = 4 := (show ∀ j, j < 8 → (qs.getD j []).length = 4 by decide) j h
theorem qs_lt (j : Nat) (h : j < 8) : ∀ i, (qs.getD j []).getD i 0 < 16 := fun i => by
 rcases Nat.lt_or_ge i 4 with h1 | h1
 ·exact (show ∀ j, j < 8 → ∀ i, i < 4 → (qs.getD j []).getD i 0 < 16 by decide) j h i h1
 ·rw [jA, List.getElem?_eq_none (by rw [qs_len j h]; exact h1)]; decide
def qrt (us : List Nat) : Nat → List Nat
 | 0 => us
 | j + 1 => qtrL (qrt us j) (qs.getD j [])
def rnds (us : List Nat) : Nat → List Nat
 | 0 => us
 | i + 1 => qrt (rnds us i) 8
theorem W16.qrt {us : List Nat} (h : W16 us) (j : Nat) (hj : j ≤ 8) : W16 (qrt us j) := by
 induction j with
 | zero => exact h
 | succ j ih => exact (ih (by omega)).qtr (qs_lt j (by omega))
theorem W16.rnds {us : List Nat} (h : W16 us) (i : Nat) : W16 (rnds us i) := by
 induction i with
 | zero => exact h
 | succ i ih => exact ih.qrt 8 (jD _)
def outB (us fr : List Nat) (i : Nat) : Nat := (us.getD (i / 4) 0 + fr.getD (i / 4) 0) % 4294967296 / 256 ^ (i % 4) % 256
def blkL (k : List Nat) (n : Nat) (nonce : List Nat) : List Nat := (List.range 64).map (outB (rnds (startL k n nonce) 10) (startL k n nonce))
theorem blkL_len (k : List Nat) (n : Nat) (nonce : List Nat) : (blkL k n nonce).length = 64 := by simp [blkL]
theorem blkL_lt (k : List Nat) (n : Nat) (nonce : List Nat) : ∀ c ∈ blkL k n nonce, c < 256 := fun c hc => by
 obtain ⟨i, _, rfl⟩ := List.mem_map.1 hc
 exact Nat.mod_lt _ (by decide)
def mapZ (f : Nat → Nat) (n i : Nat) : List Nat := (List.range i).map f ++ List.replicate (n - i) 0
theorem mapZ_len (f : Nat → Nat) (n i : Nat) (h : i ≤ n) : (mapZ f n i).length = n := by simp [mapZ]; omega
theorem mapZ_zero (f : Nat → Nat) (n : Nat) : mapZ f n 0 = List.replicate n 0 := by simp [mapZ]
theorem mapZ_end (f : Nat → Nat) (n : Nat) : mapZ f n n = (List.range n).map f := by simp [mapZ]
theorem mapZ_set (f : Nat → Nat) (n i : Nat) (h : i < n) : (mapZ f n i).set i (f i) = mapZ f n (i + 1) := by
 have hl : ((List.range i).map f).length = i := by simp
 unfold mapZ
 rw [List.set_append_right _ _ (by rw [hl]; exact jD _), hl, Nat.sub_self, show n - i = (n - (i + 1)) + 1 by omega, List.replicate_succ, sZ, List.range_succ, List.map_append]
 simp
def qcells : Array Value := #[.int .i64 0, .int .i64 4, .int .i64 8, .int .i64 12, .int .i64 1, .int .i64 5, .int .i64 9, .int .i64 13, .int .i64 2, .int .i64 6, .int .i64 10, .int .i64 14, .int .i64 3, .int .i64 7, .int .i64 11, .int .i64 15, .int .i64 0, .int .i64 5, .int .i64 10, .int .i64 15, .int .i64 1, .int .i64 6, .int .i64 11, .int .i64 12, .int .i64 2, .int .i64 7, .int .i64 8, .int .i64 13, .int .i64 3, .int .i64 4, .int .i64 9, .int .i64 14]
theorem run_index_q0 (w : World) : (Instr.index 182 (.agg qcells) (.int .i64 0)).run Tryz.prog w = .ok (.agg (pV [0, 4, 8, 12])) w := by kernel_rfl
theorem run_index_q1 (w : World) : (Instr.index 182 (.agg qcells) (.int .i64 1)).run Tryz.prog w = .ok (.agg (pV [1, 5, 9, 13])) w := by kernel_rfl
theorem run_index_q2 (w : World) : (Instr.index 182 (.agg qcells) (.int .i64 2)).run Tryz.prog w = .ok (.agg (pV [2, 6, 10, 14])) w := by kernel_rfl
theorem run_index_q3 (w : World) : (Instr.index 182 (.agg qcells) (.int .i64 3)).run Tryz.prog w = .ok (.agg (pV [3, 7, 11, 15])) w := by kernel_rfl
theorem run_index_q4 (w : World) : (Instr.index 182 (.agg qcells) (.int .i64 4)).run Tryz.prog w = .ok (.agg (pV [0, 5, 10, 15])) w := by kernel_rfl
theorem run_index_q5 (w : World) : (Instr.index 182 (.agg qcells) (.int .i64 5)).run Tryz.prog w = .ok (.agg (pV [1, 6, 11, 12])) w := by kernel_rfl
theorem run_index_q6 (w : World) : (Instr.index 182 (.agg qcells) (.int .i64 6)).run Tryz.prog w = .ok (.agg (pV [2, 7, 8, 13])) w := by kernel_rfl
theorem run_index_q7 (w : World) : (Instr.index 182 (.agg qcells) (.int .i64 7)).run Tryz.prog w = .ok (.agg (pV [3, 4, 9, 14])) w := by kernel_rfl
theorem run_index_q (m : Nat) (hm : m < 8) (w : World) : (Instr.index 182 (.agg qcells) (.int .i64 (m : Int))).run Tryz.prog w = .ok (.agg (pV (qs.getD m []))) w := by
 have h : m = 0 ∨ m = 1 ∨ m = 2 ∨ m = 3 ∨ m = 4 ∨ m = 5 ∨ m = 6 ∨ m = 7 := by omega
 rcases h with rfl | rfl | rfl | rfl | rfl | rfl | rfl | rfl
 ·exact run_index_q0 w
 ·exact run_index_q1 w
 ·exact run_index_q2 w
 ·exact run_index_q3 w
 ·exact run_index_q4 w
 ·exact run_index_q5 w
 ·exact run_index_q6 w
 ·exact run_index_q7 w
def QuartersAt (w : World) : Prop := w.rangeAt 0 0 qcells.toList ∧ 0 < w.heap.size
theorem QuartersAt.next {w w' : World} (h : QuartersAt w) (hb : Below w.heap.size w w') : QuartersAt w' := ⟨fun j v hv => (hb.cell (p := ⟨0, 0 + j, none⟩) h.2).trans (h.1 j v hv), jH h.2 hb.size⟩
def z4 : Array Value := pV [0, 0, 0, 0]
theorem zero_4 (w : World) : (zeroValue 181).run Tryz.prog w = .ok (.agg z4) w := by kernel_rfl
def z64 : List Nat := List.replicate 64 0
theorem zero_64b (w : World) : (zeroValue 159).run Tryz.prog w = .ok (.agg (vb z64)) w := by kernel_rfl
theorem pV_size (p : List Nat) : (pV p).size = p.length := by simp [pV]
theorem pV_one (p : List Nat) : (pV p).all (·.oneCell') = true := by
 rw [Array.all_eq_true_iff_forall_mem]
 intro v hv
 simp only [pV, List.mem_toArray, List.mem_map] at hv
 obtain ⟨n, _, rfl⟩ := hv
 rfl
theorem pV_info (p : List Nat) (h : p.length = 4) : (Tryz.prog.info? 181).map (·.size) = some (pV p).size := by rw [pV_size, h]; kernel_rfl
theorem pV_z4 (p : List Nat) (h : p.length = 4) : z4.size = (pV p).size := by rw [pV_size, h]; rfl
theorem qcells_info : (Tryz.prog.info? 182).map (·.size) = some qcells.toList.length := by kernel_rfl
theorem qcells_arr : qcells.toList.toArray = qcells := rfl
structure Bst (w W : World) (gR gF gW : Nat) (fr us : List Nat) : Prop where
 bel : Below w.heap.size w W
 rA : Blk W gR 159 (vb z64)
 fA : Blk W gF 179 (vw fr)
 wA : Blk W gW 179 (vw us)
 n1 : gR ≠ gW
 n2 : gF ≠ gW
 up : w.heap.size ≤ gW
theorem Bst.next {w W W' : World} {gR gF gW : Nat} {fr us : List Nat} (s : Bst w W gR gF gW fr us) (hb : Below W.heap.size W W') : Bst w W' gR gF gW fr us :=
 ⟨s.bel.trans (hb.mono s.bel.size), s.rA.below hb s.rA.lt, s.fA.below hb s.fA.lt, s.wA.below hb s.wA.lt, s.n1, s.n2, s.up⟩
theorem Bst.grown {w W W' : World} {gR gF gW : Nat} {fr us vs : List Nat} (s : Bst w W gR gF gW fr us) (hb : W.grownBy W' (some gW)) (hv : Blk W' gW 179 (vw vs)) : Bst w W' gR gF gW fr vs :=
 ⟨g1_below_refl hb s.bel s.up s.bel.size, g1_blk hb s.rA s.n1, g1_blk hb s.fA s.n2, hv, s.n1, s.n2, s.up⟩
theorem Bst.quarters {w W : World} {gR gF gW : Nat} {fr us : List Nat} (s : Bst w W gR gF gW fr us) (h : QuartersAt w) : QuartersAt W := h.next s.bel
theorem new_row (W : World) (T : TypeId) (old cs : Array Value) : Blk ((W.alloc (Obj.cells old T)).setRow W.heap.size cs) W.heap.size T cs ∧ Below W.heap.size W ((W.alloc (Obj.cells old T)).setRow W.heap.size cs) :=
 ⟨setRow_heap _ _ _ _ _ (0, 0) (Blk.new W _ _), ((jE _ _).alloc (jD _) _).trans (below_setRow _ _ _ (jD _))⟩
structure Bo (w W : World) (gR gF gW gO : Nat) (fr us os : List Nat) : Prop where
 st : Bst w W gR gF gW fr us
 oA : Blk W gO 159 (vb os)
 nR : gR ≠ gO
 nF : gF ≠ gO
 nW : gW ≠ gO
 up : w.heap.size ≤ gO
theorem Bo.set {w W : World} {gR gF gW gO : Nat} {fr us os : List Nat} (s : Bo w W gR gF gW gO fr us os) (i c : Nat) : Bo w (W.setCell ⟨gO, i, none⟩ (.int .u8 (c : Int))).drew gR gF gW gO fr us (os.set i c) :=
 ⟨⟨(s.st.bel.setCell (by show w.heap.size ≤ gO; exact s.up) _).drew, s.st.rA.far (p := ⟨gO, i, none⟩) s.nR _, s.st.fA.far (p := ⟨gO, i, none⟩) s.nF _, s.st.wA.far (p := ⟨gO, i, none⟩) s.nW _, s.st.n1, s.st.n2, s.st.up⟩, by rw [← vb_set]; exact s.oA.set_ i _, s.nR, s.nF, s.nW, s.up⟩
theorem Bst.out {w W : World} {gR gF gW : Nat} {fr us : List Nat} (s : Bst w W gR gF gW fr us) : Bo w (W.alloc (Obj.cells (vb z64) 159)) gR gF gW W.heap.size fr us z64 :=
 ⟨s.next ((jE _ _).alloc (jD _) _), Blk.new W _ _, by have := s.rA.lt; omega, by have := s.fA.lt; omega, by have := s.wA.lt; omega, s.bel.size⟩
end Go.Proofs.YtfnhmnbcponkfaaGreatDoor
namespace Go.Proofs.YtfnhmnbcponkfaaGreatDoor
open Go.ChangeShapes Go.WideShapes Go.ChangeAt Go.RowKit
theorem cells_of_tab2 {H : Type} {enc : TypeId × Value → H} {P : Program} {w : World} {base : Nat} {sp : Nat → Bool} {held : Bool} {fuel : Nat} {t t2 e : TypeId} {n m : Nat} {k : IntKind} {cs : List Value} {zss : List (List Int)} {p : List MemPlace}
  (ht : P.underlying t = some (.array n t2)) (ht2 : P.underlying t2 = some (.array m e)) (he : P.underlying e = some (.int k)) (hce : P.cellsOf e = 1) (hct2 : P.cellsOf t2 = m)
  (h : DataW.trod enc P w base sp held fuel t cs = some (.agg (zss.map (Lib.tabData k)), p)) (i : Nat) (hi : i < n) : (cs.drop (i * m)).take m = (zss.getD i []).map fun z => Value.int k z := by
 cases fuel with
 | zero => simp [DataW.trod] at h
 | succ fuel =>
  simp only [DataW.trod, ht, hct2] at h
  split at h
  ·rename_i hl
   obtain ⟨xs, hm, hx⟩ := Option.map_eq_some_iff.1 h
   have hxs : xs.map (·.1) = zss.map (Lib.tabData (H := H) k) := by
    have := congrArg Prod.fst hx
    simpa using this
   obtain ⟨b, hb, hf⟩ := Lib.mapM_at hm i i (by simp [hi])
   have h2 : (xs.map (·.1))[i]? = some b.1 := by simp [hb]
   rw [hxs] at h2
   simp only [List.getElem?_map, Option.map_eq_some_iff] at h2
   obtain ⟨zs, hzs, e1⟩ := h2
   obtain ⟨b1, b2⟩ := b
   simp only at e1
   subst e1
   rw [jA, hzs]
   exact Lib.cells_of_tab ht2 he hce hct2 hf
  ·cases h
def qz : List (List Int) := [[0, 4, 8, 12], [1, 5, 9, 13], [2, 6, 10, 14], [3, 7, 11, 15], [0, 5, 10, 15], [1, 6, 11, 12], [2, 7, 8, 13], [3, 4, 9, 14]]
def laidQ : List (String × DataW Unit) := [("quaestor/chacha.quarters", Rows.laid_quaestor_chacha_quarters)]
theorem laidQ_tab : laidQ = [("quaestor/chacha.quarters", .agg (qz.map (Lib.tabData .i64)))] := rfl
theorem gQuarters : Tryz.prog.globalNamed "quaestor/chacha.quarters" = some 0 := by kernel_rfl
theorem gQuartersT : (Tryz.prog.globals[0]?).map (·.type) = some 182 := by kernel_rfl
theorem cellsI : Tryz.prog.cellsOf 3 = 1 := by kernel_rfl
theorem cells4 : Tryz.prog.cellsOf 181 = 4 := by kernel_rfl
theorem door_met (os : Os) (args : Array Value) : laidMetH Tryz.prog laidQ ((World.doorLaid Tryz.prog 400 os).forCall (fun _ _ => 0) ⟨#[], args, []⟩).memory :=
 laidMetH_of_parts3 (fuel := 8) (laidMet_of_run' 8 (by kernel_rfl) (by kernel_rfl)) (by kernel_rfl) (by kernel_rfl)
theorem q_rows : (List.range 8).flatMap (fun i => (qz.getD i []).map fun z => Value.int .i64 z) = qcells.toList := by rfl
theorem rows_of (cs : List Value) (h : ∀ i, i < 8 → (cs.drop (i * 4)).take 4 = (qz.getD i []).map fun z => Value.int .i64 z) : cs.take 32 = qcells.toList := by
 rw [← q_rows]
 have e : ∀ n, n ≤ 8 → cs.take (n * 4) = (List.range n).flatMap (fun i => (qz.getD i []).map fun z => Value.int .i64 z) := by
  intro n
  induction n with
  | zero => intro _; simp
  | succ n ih =>
   intro hn
   rw [List.range_succ, List.flatMap_append, ← ih (by omega), List.flatMap_cons, List.flatMap_nil, List.append_nil, ← h n (by omega), Nat.succ_mul, List.take_add]
 exact e 8 (jD _)
theorem of_laidQ {W : World} (h : laidMetH Tryz.prog laidQ W) : QuartersAt W := by
 rw [MakeChecks.laidMetH_plain _ _ _ (by kernel_rfl), laidQ_tab] at h
 obtain ⟨ps, ⟨g', t', cs, fuel, p, q, hg', ht', hvar, hd, _, _⟩, _⟩ := h
 obtain rfl := Option.some.inj (gQuarters.symm.trans hg')
 obtain rfl := Option.some.inj (gQuartersT.symm.trans ht')
 have h32 := rows_of cs.toList (fun i hi => cells_of_tab2 Tryz.underlying182 Tryz.underlying181 Tryz.underlying3 cellsI cells4 hd i hi)
 have hc : ∀ i v, qcells.toList[i]? = some v → W.cell? ⟨0, 0 + i, none⟩ = some v := fun i v hv => by
  have hi : i < 32 := by
   have h1 := (List.getElem?_eq_some_iff.1 hv).1
   exact h1
  rw [← h32, List.getElem?_take, if_pos hi] at hv
  rw [Nat.zero_add]
  exact (World.var?_cell gQuarters hvar i).trans (by simpa using hv)
 exact ⟨hc, block_lt (hc 0 _ rfl)⟩
end Go.Proofs.YtfnhmnbcponkfaaGreatDoor
namespace Go.Proofs.YtfnhmnbcponkfaaGreatDoor
open Go.ChangeShapes Go.WideShapes Go.ChangeAt Go.RowKit
end Go.Proofs.YtfnhmnbcponkfaaGreatDoor
namespace Go.Proofs.YtfnhmnbcponkfaaGreatDoor
open Go.RowKit
def w64 (x : Int) : Int := (x + 9223372036854775808) % 18446744073709551616 - 9223372036854775808
theorem w64_lo (x : Int) : -9223372036854775808 ≤ w64 x := by unfold w64; omega
theorem w64_hi (x : Int) : w64 x ≤ 9223372036854775807 := by unfold w64; omega
theorem w64_in (x : Int) (h0 : -9223372036854775808 ≤ x) (h1 : x ≤ 9223372036854775807) : w64 x = x := by unfold w64; omega
structure Pc where
 s : ByteArray
 t : Int
 v : Int
 n : Nat
 d : Nat
structure PcOk (p : Pc) : Prop where
 t0 : -9223372036854775808 ≤ p.t
 t1 : p.t ≤ 9223372036854775807
 v0 : -9223372036854775808 ≤ p.v
 v1 : p.v ≤ 9223372036854775807
 n1 : p.n < 18446744073709551616
 d1 : p.d < 65536
def sby (s : ByteArray) : List Nat := s.toList.map (·.toNat)
theorem sby_lt (s : ByteArray) : ∀ c ∈ sby s, c < 256 := fun c h => by
 obtain ⟨u, _, rfl⟩ := List.mem_map.1 h
 exact u.toNat_lt
def sh (n : Nat) : List Nat := if h : n < 128 then [n] else (n % 128 + 128) :: sh (n / 128)
termination_by n
decreasing_by omega
theorem sh_lt (n : Nat) : ∀ c ∈ sh n, c < 256 := by
 induction n using Nat.strongRecOn with
 | ind n ih =>
  intro c hc
  rw [sh] at hc
  split at hc
  ·simp at hc; omega
  ·rcases List.mem_cons.1 hc with rfl | h
   ·omega
   ·exact ih (n / 128) (by omega) c h
def zig (n : Int) : Nat := if 0 ≤ n then (2 * n).toNat else (-2 * n - 1).toNat
def zag (n : Nat) : Int := if n % 2 = 0 then ((n / 2 : Nat) : Int) else -((n / 2 : Nat) : Int) - 1
theorem zag_zig (n : Int) : zag (zig n) = n := by unfold zig zag; split <;> split <;> omega
theorem zig_lt (n : Int) (h0 : -9223372036854775808 ≤ n) (h1 : n ≤ 9223372036854775807) : zig n < 18446744073709551616 := by unfold zig; split <;> omega
def rowsL (t step v : Int) : List Pc → List Nat
 | [] => []
 | p :: l => sh (zig (w64 (w64 (p.t - t) - step))) ++ sh (zig (w64 (p.v - v))) ++ sh p.n ++ form p.d 2 ++ rowsL p.t (w64 (p.t - t)) p.v l
def run1 (s : ByteArray) : List Pc → Nat
 | [] => 0
 | p :: l => if p.s = s then run1 s l + 1 else 0
theorem run1_le (s : ByteArray) : ∀ l : List Pc, run1 s l ≤ l.length
 | [] => jD _
 | p :: l => by
  unfold run1
  split
  ·have := run1_le s l; simp; omega
  ·omega
def putL (g : List Pc) : List Nat :=
 match g with
 | [] => []
 | p :: _ => sh p.s.size ++ sby p.s ++ sh g.length ++ rowsL 0 0 0 g
def gls : List Pc → List Nat
 | [] => []
 | p :: l => (run1 p.s l + 1) :: gls (l.drop (run1 p.s l))
termination_by l => l.length
decreasing_by simp; omega
theorem gls_cons (p : Pc) (l : List Pc) : gls (p :: l) = (run1 p.s l + 1) :: gls (l.drop (run1 p.s l)) := by rw [gls]
theorem gls_nil : gls [] = [] := by rw [gls]
def cutsL : List Nat → List Pc → List (List Pc)
 | [], _ => []
 | n :: ns, l => l.take n :: cutsL ns (l.drop n)
def grps (l : List Pc) : List (List Pc) := cutsL (gls l) l
def formP (l : List Pc) : List Nat := sh (grps l).length ++ ((grps l).map putL).flatten
def roomG : List (List Pc) → Nat
 | [] => 0
 | g :: gs => (match g with | [] => 0 | p :: _ => 6 + p.s.size) + roomG gs
def roomL (l : List Pc) : Nat := 4 + 32 * l.length + roomG (grps l)
def gsF (i acc : Nat) : List Nat → Nat × Nat × Nat
 | [] => (0, 0, 2)
 | c :: b => if i = 9 ∧ 1 < c then (0, 0, 4) else if 128 ≤ c then gsF (i + 1) (acc + c % 128 * 128 ^ i) b else if c = 0 ∧ 0 < i then (0, 0, 4) else (acc + c % 128 * 128 ^ i, i + 1, 0)
theorem gsF_used (b : List Nat) : ∀ i acc, (gsF i acc b).2.1 ≤ i + b.length := by
 induction b with
 | nil => intro i acc; simp [gsF]
 | cons c b ih =>
  intro i acc
  rw [gsF]
  split
  ·simp
  ·split
   ·have := ih (i + 1) (acc + c % 128 * 128 ^ i)
    rw [List.length_cons]
    omega
   ·split
    ·exact Nat.zero_le _
    ·rw [List.length_cons]
     show i + 1 ≤ _
     omega
theorem gsF_pos (b : List Nat) : ∀ i acc, (gsF i acc b).2.2 = 0 → i + 1 ≤ (gsF i acc b).2.1 := by
 induction b with
 | nil => intro i acc h; simp [gsF] at h
 | cons c b ih =>
  intro i acc h
  rw [gsF] at h ⊢
  split
  ·rename_i h1; rw [if_pos h1] at h; simp at h
  ·rename_i h1; rw [if_neg h1] at h
   split
   ·rename_i h2; rw [if_pos h2] at h; have := ih _ _ h; omega
   ·rename_i h2; rw [if_neg h2] at h
    split
    ·rename_i h3; rw [if_pos h3] at h; simp at h
    ·exact jD _
theorem gsF_lt (b : List Nat) (hb : ∀ c ∈ b, c < 256) : ∀ i acc, i ≤ 9 → acc < 128 ^ i → (gsF i acc b).1 < 18446744073709551616 := by
 induction b with
 | nil => intro i acc _ _; simp [gsF]
 | cons c b ih =>
  intro i acc hi ha
  have hc := hb c (by simp)
  rw [gsF]
  split
  ·simp
  ·rename_i h1
   split
   ·rename_i h2
    have hi9 : i < 9 := by
     rcases Nat.lt_or_ge i 9 with h | h
     ·exact h
     ·exact absurd ⟨by omega, by omega⟩ h1
    refine ih (fun c h => hb c (by simp [h])) _ _ (by omega) ?_
    have h3 : c % 128 < 128 := Nat.mod_lt _ (by decide)
    have h4 : (c % 128 + 1) * 128 ^ i ≤ 128 * 128 ^ i := Nat.mul_le_mul_right _ h3
    rw [Nat.add_mul, Nat.one_mul] at h4
    rw [Nat.pow_succ, Nat.mul_comm (128 ^ i)]
    omega
   ·rename_i h2
    split
    ·simp
    ·have h3 : c % 128 = c := by omega
     rw [h3]
     rcases Nat.lt_or_ge i 9 with h | h
     ·have h4 : (c + 1) * 128 ^ i ≤ 128 * 128 ^ i := Nat.mul_le_mul_right _ (by omega)
      rw [Nat.add_mul, Nat.one_mul] at h4
      have h5 : 128 * 128 ^ i ≤ 128 * 128 ^ 8 := Nat.mul_le_mul_left _ (Nat.pow_le_pow_right (by decide) (by omega))
      simp only
      omega
     ·have : i = 9 := by omega
      subst this
      have hc1 : c ≤ 1 := by
       rcases Nat.lt_or_ge 1 c with h | h
       ·exact absurd ⟨rfl, h⟩ h1
       ·exact h
      have h4 : c * 128 ^ 9 ≤ 1 * 128 ^ 9 := Nat.mul_le_mul_right _ hc1
      simp only
      omega
theorem gsF_sh (n : Nat) : ∀ i acc rest, n * 128 ^ i < 18446744073709551616 → (n = 0 → i = 0) → gsF i acc (sh n ++ rest) = (acc + n * 128 ^ i, i + (sh n).length, 0) := by
 induction n using Nat.strongRecOn with
 | ind n ih =>
  intro i acc rest h h0
  rw [sh]
  split
  ·rename_i hlt
   rw [List.cons_append, List.nil_append, gsF]
   have h9 : ¬ (i = 9 ∧ 1 < n) := by
    rintro ⟨rfl, h1⟩
    have : 2 * 128 ^ 9 ≤ n * 128 ^ 9 := Nat.mul_le_mul_right _ h1
    omega
   rw [if_neg h9, if_neg (by omega), if_neg (by omega), Nat.mod_eq_of_lt hlt]
   rfl
  ·rename_i hge
   rw [List.cons_append, gsF]
   have hi : i ≤ 8 := by
    rcases Nat.lt_or_ge 8 i with h1 | h1
    ·have h2 : 128 * 128 ^ 9 ≤ n * 128 ^ i := Nat.mul_le_mul (by omega) (Nat.pow_le_pow_right (by decide) h1)
     omega
    ·exact h1
   rw [if_neg (by omega), if_pos (by omega)]
   have e1 : n / 128 * 128 ^ (i + 1) + n % 128 * 128 ^ i = n * 128 ^ i := by
    rw [Nat.pow_succ, Nat.mul_comm (128 ^ i) 128, ← Nat.mul_assoc, ← Nat.add_mul]
    congr 1
    omega
   rw [ih (n / 128) (by omega) (i + 1) _ rest (by omega) (by omega), show (n % 128 + 128) % 128 = n % 128 by omega]
   simp only [List.length_cons, Prod.mk.injEq, and_true]
   omega
def rdS (b : List Nat) (bad : Bool) : Nat × List Nat × Bool := ((gsF 0 0 b).1, b.drop (gsF 0 0 b).2.1, bad || decide ((gsF 0 0 b).2.2 ≠ 0))
def rdB (n : Nat) (b : List Nat) (bad : Bool) : List Nat × List Nat × Bool := if b.length < n then ([], b, true) else (b.take n, b.drop n, bad)
theorem rdS_sh (n : Nat) (rest : List Nat) (h : n < 18446744073709551616) : rdS (sh n ++ rest) false = (n, rest, false) := by
 unfold rdS
 rw [gsF_sh n 0 0 rest (by simpa using h) (fun _ => rfl)]
 simp
theorem rdB_app (l rest : List Nat) (bad : Bool) : rdB l.length (l ++ rest) bad = (l, rest, bad) := by
 unfold rdB
 rw [if_neg (by simp)]
 simp
def rpL (s : ByteArray) : Nat → List Nat → Bool → Int → Int → Int → List Pc → List Pc × List Nat × Bool
 | 0, b, bad, t, step, v, acc => (acc, b, bad)
 | i + 1, b, bad, t, step, v, acc =>
  if (rdB 2 (rdS (rdS (rdS b bad).2.1 (rdS b bad).2.2).2.1 (rdS (rdS b bad).2.1 (rdS b bad).2.2).2.2).2.1 (rdS (rdS (rdS b bad).2.1 (rdS b bad).2.2).2.1 (rdS (rdS b bad).2.1 (rdS b bad).2.2).2.2).2.2).2.2 then
   (acc, (rdB 2 (rdS (rdS (rdS b bad).2.1 (rdS b bad).2.2).2.1 (rdS (rdS b bad).2.1 (rdS b bad).2.2).2.2).2.1 (rdS (rdS (rdS b bad).2.1 (rdS b bad).2.2).2.1 (rdS (rdS b bad).2.1 (rdS b bad).2.2).2.2).2.2).2.1, true)
  else
   rpL s i (rdB 2 (rdS (rdS (rdS b bad).2.1 (rdS b bad).2.2).2.1 (rdS (rdS b bad).2.1 (rdS b bad).2.2).2.2).2.1 (rdS (rdS (rdS b bad).2.1 (rdS b bad).2.2).2.1 (rdS (rdS b bad).2.1 (rdS b bad).2.2).2.2).2.2).2.1 false
    (w64 (t + w64 (step + zag (rdS b bad).1))) (w64 (step + zag (rdS b bad).1)) (w64 (v + zag (rdS (rdS b bad).2.1 (rdS b bad).2.2).1))
    (acc ++ [⟨s, w64 (t + w64 (step + zag (rdS b bad).1)), w64 (v + zag (rdS (rdS b bad).2.1 (rdS b bad).2.2).1), (rdS (rdS (rdS b bad).2.1 (rdS b bad).2.2).2.1 (rdS (rdS b bad).2.1 (rdS b bad).2.2).2.2).1,
     number (rdB 2 (rdS (rdS (rdS b bad).2.1 (rdS b bad).2.2).2.1 (rdS (rdS b bad).2.1 (rdS b bad).2.2).2.2).2.1 (rdS (rdS (rdS b bad).2.1 (rdS b bad).2.2).2.1 (rdS (rdS b bad).2.1 (rdS b bad).2.2).2.2).2.2).1⟩])
theorem rpL_step (s : ByteArray) (i : Nat) (b : List Nat) (bad : Bool) (t step v : Int) (acc : List Pc) {n1 n2 n3 : Nat} {b1 b2 b3 b4 l4 : List Nat} {x1 x2 x3 x4 : Bool}
  (h1 : rdS b bad = (n1, b1, x1)) (h2 : rdS b1 x1 = (n2, b2, x2)) (h3 : rdS b2 x2 = (n3, b3, x3)) (h4 : rdB 2 b3 x3 = (l4, b4, x4)) :
  rpL s (i + 1) b bad t step v acc = if x4 then (acc, b4, true) else rpL s i b4 false (w64 (t + w64 (step + zag n1))) (w64 (step + zag n1)) (w64 (v + zag n2)) (acc ++ [⟨s, w64 (t + w64 (step + zag n1)), w64 (v + zag n2), n3, number l4⟩]) := by
 rw [rpL]
 simp only [h1, h2, h3, h4]
def rsL (b : List Nat) (bad : Bool) : List Pc × List Nat × Bool :=
 rpL ⟨((rdB (rdS b bad).1 (rdS b bad).2.1 (rdS b bad).2.2).1.map UInt8.ofNat).toArray⟩ (rdS (rdB (rdS b bad).1 (rdS b bad).2.1 (rdS b bad).2.2).2.1 (rdB (rdS b bad).1 (rdS b bad).2.1 (rdS b bad).2.2).2.2).1
  (rdS (rdB (rdS b bad).1 (rdS b bad).2.1 (rdS b bad).2.2).2.1 (rdB (rdS b bad).1 (rdS b bad).2.1 (rdS b bad).2.2).2.2).2.1 (rdS (rdB (rdS b bad).1 (rdS b bad).2.1 (rdS b bad).2.2).2.1 (rdB (rdS b bad).1 (rdS b bad).2.1 (rdS b bad).2.2).2.2).2.2 0 0 0 []
theorem rsL_eq (b : List Nat) (bad : Bool) {n1 n3 : Nat} {b1 b2 b3 l2 : List Nat} {x1 x2 x3 : Bool} (h1 : rdS b bad = (n1, b1, x1)) (h2 : rdB n1 b1 x1 = (l2, b2, x2)) (h3 : rdS b2 x2 = (n3, b3, x3)) :
  rsL b bad = rpL ⟨(l2.map UInt8.ofNat).toArray⟩ n3 b3 x3 0 0 0 [] := by
 unfold rsL
 simp only [h1, h2, h3]
def rgL : Nat → List Nat → Bool → List Pc → List Pc × Bool
 | 0, b, bad, acc => (acc, bad)
 | i + 1, b, bad, acc => if (rsL b bad).2.2 then (acc ++ (rsL b bad).1, true) else rgL i (rsL b bad).2.1 false (acc ++ (rsL b bad).1)
theorem rpL_rows (s : ByteArray) (g : List Pc) : ∀ (t step v : Int) (acc : List Pc) (rest : List Nat), (∀ p ∈ g, PcOk p ∧ p.s = s) → -9223372036854775808 ≤ t → t ≤ 9223372036854775807 → -9223372036854775808 ≤ v → v ≤ 9223372036854775807 →
  rpL s g.length (rowsL t step v g ++ rest) false t step v acc = (acc ++ g, rest, false) := by
 induction g with
 | nil => intro t step v acc rest _ _ _ _ _; simp [rpL, rowsL]
 | cons p g ih =>
  intro t step v acc rest h t0 t1 v0 v1
  obtain ⟨hp, hs⟩ := h p (by simp)
  have hz1 := zig_lt (w64 (w64 (p.t - t) - step)) (w64_lo _) (w64_hi _)
  have hz2 := zig_lt (w64 (p.v - v)) (w64_lo _) (w64_hi _)
  rw [List.length_cons, rowsL]
  simp only [List.append_assoc]
  have h4 := rdB_app (form p.d 2) (rowsL p.t (w64 (p.t - t)) p.v g ++ rest) false
  rw [form_len] at h4
  rw [rpL_step s g.length _ false t step v acc (rdS_sh _ _ hz1) (rdS_sh _ _ hz2) (rdS_sh _ _ hp.n1) h4]
  simp only [zag_zig, Bool.false_eq_true, if_false]
  rw [number_form p.d 2 hp.d1]
  have e1 : w64 (step + w64 (w64 (p.t - t) - step)) = w64 (p.t - t) := by unfold w64; omega
  have e2 : w64 (t + w64 (p.t - t)) = p.t := by have := hp.t0; have := hp.t1; unfold w64; omega
  have e3 : w64 (v + w64 (p.v - v)) = p.v := by have := hp.v0; have := hp.v1; unfold w64; omega
  rw [e1, e2, e3, ih p.t (w64 (p.t - t)) p.v _ rest (fun q hq => h q (by simp [hq])) hp.t0 hp.t1 hp.v0 hp.v1]
  have e4 : (⟨s, p.t, p.v, p.n, p.d⟩ : Pc) = p := by rw [← hs]
  rw [e4, List.append_assoc]
  rfl
theorem sby_back (s : ByteArray) : (⟨((sby s).map UInt8.ofNat).toArray⟩ : ByteArray) = s := by
 have e : (sby s).map UInt8.ofNat = s.toList := by
  unfold sby
  rw [List.map_map]
  conv => rhs; rw [← List.map_id s.toList]
  apply List.map_congr_left
  intro a _
  simp
 rw [e]
 cases s with
 | mk d => rw [ByteArray.toList_mk]
theorem run1_all (s : ByteArray) : ∀ (l : List Pc), ∀ q ∈ l.take (run1 s l), q.s = s
 | [], q, h => by simp at h
 | p :: l, q, h => by
  unfold run1 at h
  split at h
  ·rename_i he
   rw [List.take_succ_cons] at h
   rcases List.mem_cons.1 h with rfl | h
   ·exact he
   ·exact run1_all s l q h
  ·simp at h
theorem grps_nil : grps [] = [] := by unfold grps; rw [gls_nil]; rfl
theorem grps_cons (p : Pc) (l : List Pc) : grps (p :: l) = (p :: l.take (run1 p.s l)) :: grps (l.drop (run1 p.s l)) := by
 unfold grps
 rw [gls_cons]
 rfl
theorem drop_lt_len (s : ByteArray) (l : List Pc) (m : Nat) (h : l.length ≤ m) : (l.drop (run1 s l)).length ≤ m := by rw [List.length_drop]; omega
theorem grps_ind {Q : List Pc → Prop} (h0 : Q []) (h1 : ∀ p l, Q (l.drop (run1 p.s l)) → Q (p :: l)) : ∀ l, Q l := by
 suffices H : ∀ m, ∀ l : List Pc, l.length ≤ m → Q l from fun l => H _ l (jD _)
 intro m
 induction m with
 | zero => intro l hl; rw [List.eq_nil_of_length_eq_zero (by omega : l.length = 0)]; exact h0
 | succ m ih =>
  intro l hl
  cases l with
  | nil => exact h0
  | cons p l => exact h1 p l (ih _ (drop_lt_len _ _ _ (by simpa using hl)))
theorem grps_flat : ∀ l, (grps l).flatten = l := grps_ind (by rw [grps_nil]; rfl) fun p l ih => by
 rw [grps_cons, List.flatten_cons, ih, List.cons_append, List.take_append_drop]
theorem len_flat {gs : List (List Pc)} {g : List Pc} (h : g ∈ gs) : g.length ≤ gs.flatten.length := by
 induction gs with
 | nil => cases h
 | cons a gs ih =>
  rw [List.flatten_cons, jC]
  rcases List.mem_cons.1 h with rfl | h
  ·omega
  ·have := ih h; omega
def OneSer (g : List Pc) : Prop := ∃ p g', g = p :: g' ∧ ∀ q ∈ g, q.s = p.s
theorem grps_one : ∀ l, ∀ g ∈ grps l, OneSer g := grps_ind (fun g h => by rw [grps_nil] at h; cases h) fun p l ih g h => by
 rw [grps_cons] at h
 rcases List.mem_cons.1 h with rfl | h
 ·refine ⟨p, _, rfl, fun q hq => ?_⟩
  rcases List.mem_cons.1 hq with rfl | hq
  ·rfl
  ·exact run1_all _ _ q hq
 ·exact ih g h
theorem grps_mem (l : List Pc) (g : List Pc) (h : g ∈ grps l) : ∀ q ∈ g, q ∈ l := fun q hq => by
 rw [← grps_flat l]
 exact List.mem_flatten.2 ⟨g, h, hq⟩
theorem rsL_put (g : List Pc) (rest : List Nat) (h1 : OneSer g) (hk : ∀ p ∈ g, PcOk p ∧ p.s.size < 1000000) (hn : g.length < 1000000) : rsL (putL g ++ rest) false = (g, rest, false) := by
 obtain ⟨p, g', rfl, hs⟩ := h1
 have hp := (hk p (by simp)).2
 unfold putL
 simp only [List.append_assoc]
 have h2 := rdB_app (sby p.s) (sh (p :: g').length ++ (rowsL 0 0 0 (p :: g') ++ rest)) false
 have hl : (sby p.s).length = p.s.size := by unfold sby; rw [List.length_map]; cases p.s with | mk d => rw [ByteArray.toList_mk]; rfl
 rw [hl] at h2
 rw [rsL_eq _ _ (rdS_sh _ _ (by omega)) h2 (rdS_sh _ _ (by omega)), sby_back, rpL_rows p.s (p :: g') 0 0 0 [] rest (fun q hq => ⟨(hk q hq).1, hs q hq⟩) (by decide) (by decide) (by decide) (by decide)]
 rfl
theorem rgL_put (gs : List (List Pc)) : ∀ (acc : List Pc) (rest : List Nat), (∀ g ∈ gs, OneSer g ∧ g.length < 1000000 ∧ ∀ p ∈ g, PcOk p ∧ p.s.size < 1000000) →
  rgL gs.length ((gs.map putL).flatten ++ rest) false acc = (acc ++ gs.flatten, false) := by
 induction gs with
 | nil => intro acc rest _; simp [rgL]
 | cons g gs ih =>
  intro acc rest h
  obtain ⟨h1, h2, h3⟩ := h g (by simp)
  rw [List.length_cons, rgL, List.map_cons, List.flatten_cons, List.append_assoc, rsL_put g _ h1 h3 h2]
  simp only [Bool.false_eq_true, if_false]
  rw [ih _ _ (fun g hg => h g (by simp [hg])), List.flatten_cons, List.append_assoc]
theorem read_form (l : List Pc) (h : ∀ p ∈ l, PcOk p ∧ p.s.size < 1000000) (hl : l.length < 1000000) : rgL (rdS (formP l) false).1 (rdS (formP l) false).2.1 (rdS (formP l) false).2.2 [] = (l, false) := by
 have hgn : ∀ l : List Pc, (grps l).length ≤ l.length := grps_ind (by rw [grps_nil]; exact jD _) fun p l ih => by
  rw [grps_cons, List.length_cons, List.length_cons]
  rw [List.length_drop] at ih
  omega
 have hn := hgn l
 unfold formP
 rw [rdS_sh _ _ (by omega)]
 have := rgL_put (grps l) [] [] (fun g hg => ⟨grps_one l g hg, by
  have hm : g.length ≤ (grps l).flatten.length := by
   exact len_flat hg
  rw [grps_flat] at hm
  omega, fun p hp => h p (grps_mem l g hg p hp)⟩)
 rw [List.append_nil, grps_flat, List.nil_append] at this
 exact this
theorem sh_len (n k : Nat) (h : n < 128 ^ (k + 1)) : (sh n).length ≤ k + 1 := by
 induction k generalizing n with
 | zero =>
  rw [sh, dif_pos (by simpa using h)]
  exact jD _
 | succ k ih =>
  rw [sh]
  split
  ·simp
  ·rw [List.length_cons]
   have := ih (n / 128) (by rw [Nat.div_lt_iff_lt_mul (by decide), ← Nat.pow_succ]; exact h)
   omega
theorem sh64 (n : Nat) (h : n < 18446744073709551616) : (sh n).length ≤ 10 := sh_len n 9 (jH h (by decide))
theorem rowsL_len (g : List Pc) : ∀ t step v, (∀ p ∈ g, PcOk p) → (rowsL t step v g).length ≤ 32 * g.length := by
 induction g with
 | nil => intro t step v _; simp [rowsL]
 | cons p g ih =>
  intro t step v h
  have hp := h p (by simp)
  have h1 := sh64 _ (zig_lt (w64 (w64 (p.t - t) - step)) (w64_lo _) (w64_hi _))
  have h2 := sh64 _ (zig_lt (w64 (p.v - v)) (w64_lo _) (w64_hi _))
  have h3 := sh64 _ hp.n1
  have h4 := ih p.t (w64 (p.t - t)) p.v (fun q hq => h q (by simp [hq]))
  rw [rowsL]
  simp only [jC, form_len, List.length_cons]
  omega
theorem sby_len (s : ByteArray) : (sby s).length = s.size := by
 unfold sby; rw [List.length_map]; cases s with | mk d => rw [ByteArray.toList_mk]; rfl
theorem putG_len (gs : List (List Pc)) : (∀ g ∈ gs, OneSer g ∧ g.length < 16384 ∧ ∀ p ∈ g, PcOk p ∧ p.s.size < 16384) → ((gs.map putL).flatten).length ≤ roomG gs + 32 * gs.flatten.length := by
 induction gs with
 | nil => intro _; simp [roomG]
 | cons g gs ih =>
  intro h
  obtain ⟨⟨p, g', rfl, hs⟩, h2, h3⟩ := h g (by simp)
  have h4 := ih (fun g hg => h g (by simp [hg]))
  have h5 := sh_len p.s.size 1 (by have := (h3 p (by simp)).2; simpa using this)
  have h6 := sh_len (p :: g').length 1 (by simpa using h2)
  have h7 := rowsL_len (p :: g') 0 0 0 (fun q hq => (h3 q hq).1)
  rw [List.map_cons, List.flatten_cons, jC, List.flatten_cons, jC, roomG, putL]
  simp only [jC, sby_len]
  omega
theorem form_fits (l : List Pc) (h : ∀ p ∈ l, PcOk p ∧ p.s.size < 16384) (hl : l.length < 16384) : (formP l).length + 2 ≤ roomL l := by
 have hgn : ∀ l : List Pc, (grps l).length ≤ l.length := grps_ind (by rw [grps_nil]; exact jD _) fun p l ih => by
  rw [grps_cons, List.length_cons, List.length_cons]
  rw [List.length_drop] at ih
  omega
 have hn := hgn l
 have h1 := sh_len (grps l).length 1 (by have : (128 : Nat) ^ 2 = 16384 := by decide
                                         omega)
 have h2 := putG_len (grps l) (fun g hg => ⟨grps_one l g hg, by
  have hm : g.length ≤ (grps l).flatten.length := by
   exact len_flat hg
  rw [grps_flat] at hm
  omega, fun p hp => h p (grps_mem l g hg p hp)⟩)
 rw [grps_flat] at h2
 unfold formP roomL
 rw [jC]
 omega
def pc0 : Pc := ⟨ByteArray.empty, 0, 0, 0, 0⟩
def hdL : Option ByteArray → List Pc → Nat
 | _, [] => 0
 | o, p :: l => (if o = some p.s then 0 else 6 + p.s.size) + hdL (some p.s) l
theorem hdL_same (s : ByteArray) : ∀ l : List Pc, hdL (some s) l = hdL none (l.drop (run1 s l))
 | [] => rfl
 | p :: l => by
  unfold run1
  split
  ·rename_i he
   subst he
   rw [hdL, if_pos rfl, Nat.zero_add, List.drop_succ_cons]
   exact hdL_same p.s l
  ·rename_i hne
   rw [List.drop_zero, hdL, hdL, if_neg (fun h => hne (Option.some.inj h).symm), if_neg (by intro h; cases h)]
theorem room_heads : ∀ l, roomG (grps l) = hdL none l := grps_ind (by rw [grps_nil]; rfl) fun p l ih => by
 rw [grps_cons, roomG, ih, hdL, if_neg (by intro h; cases h), hdL_same]
def lastS : Option ByteArray → List Pc → Option ByteArray
 | o, [] => o
 | _, p :: l => lastS (some p.s) l
theorem lastS_snoc (q : Pc) : ∀ (l : List Pc) (o : Option ByteArray), lastS o (l ++ [q]) = some q.s
 | [], o => rfl
 | p :: l, o => lastS_snoc q l (some p.s)
def hd1 (o : Option ByteArray) (q : Pc) : Nat := if o = some q.s then 0 else 6 + q.s.size
theorem hdL_snoc (q : Pc) : ∀ (l : List Pc) (o : Option ByteArray), hdL o (l ++ [q]) = hdL o l + hd1 (lastS o l) q
 | [], o => by unfold lastS hd1; rw [List.nil_append, hdL, hdL, hdL]; omega
 | p :: l, o => by rw [List.cons_append, hdL, hdL_snoc q l (some p.s), hdL, lastS]; omega
def roomTo (l : List Pc) (k : Nat) : Nat := 4 + 32 * k + hdL none (l.take k)
theorem roomTo_zero (l : List Pc) : roomTo l 0 = 4 := by simp [roomTo, hdL]
theorem roomTo_all (l : List Pc) : roomTo l l.length = roomL l := by unfold roomTo roomL; rw [List.take_length, room_heads]
theorem roomTo_succ (l : List Pc) (k : Nat) (h : k < l.length) : roomTo l (k + 1) = roomTo l k + (if k = 0 ∨ (l.getD k pc0).s ≠ (l.getD (k - 1) pc0).s then 6 + (l.getD k pc0).s.size else 0) + 32 := by
 unfold roomTo
 have e : l.take (k + 1) = l.take k ++ [l.getD k pc0] := by
  rw [List.take_succ_eq_append_getElem h]
  simp [jA, h]
 rw [e, hdL_snoc]
 rcases Nat.eq_zero_or_pos k with h0 | h0
 ·subst h0
  rw [List.take_zero]
  unfold lastS hd1
  rw [if_neg (by intro h; cases h), if_pos (.inl rfl)]
  omega
 ·obtain ⟨j, rfl⟩ : ∃ j, k = j + 1 := ⟨k - 1, by omega⟩
  have e2 : l.take (j + 1) = l.take j ++ [l.getD j pc0] := by
   rw [List.take_succ_eq_append_getElem (by omega)]
   simp [jA, show j < l.length by omega]
  have e3 : lastS none (l.take (j + 1)) = some (l.getD j pc0).s := by rw [e2, lastS_snoc]
  rw [e3, show j + 1 - 1 = j from rfl]
  unfold hd1
  by_cases hs : (l.getD j pc0).s = (l.getD (j + 1) pc0).s
  ·rw [if_pos (by rw [hs]), if_neg (by rintro (h1 | h1); · omega
                                       ·exact h1 hs.symm)]
   omega
  ·rw [if_neg (fun h => hs (Option.some.inj h)), if_pos (.inr (fun h1 => hs h1.symm))]
   omega
def ltS (a b : ByteArray) : Bool := Op.bytesLess a.toList b.toList
theorem bless_irr : ∀ l : List UInt8, Op.bytesLess l l = false
 | [] => rfl
 | a :: l => by rw [Op.bytesLess, bless_irr l]; simp
theorem bless_tri : ∀ l m : List UInt8, l ≠ m → Op.bytesLess l m = false → Op.bytesLess m l = true
 | [], [], h, _ => absurd rfl h
 | [], b :: m, _, h => by simp [Op.bytesLess] at h
 | a :: l, [], _, _ => rfl
 | a :: l, b :: m, hne, h => by
  rw [Op.bytesLess] at h ⊢
  simp only [Bool.or_eq_false_iff, Bool.and_eq_false_iff, Bool.or_eq_true, Bool.and_eq_true, decide_eq_false_iff_not, decide_eq_true_eq, beq_iff_eq, beq_eq_false_iff_ne] at h ⊢
  obtain ⟨h1, h2⟩ := h
  by_cases hab : a = b
  ·subst hab
   right
   refine ⟨rfl, bless_tri l m (fun e => hne (by rw [e])) ?_⟩
   rcases h2 with h2 | h2
   ·exact absurd rfl h2
   ·exact h2
  ·left
   rw [UInt8.lt_iff_toNat_lt] at h1 ⊢
   have : a.toNat ≠ b.toNat := fun e => hab (UInt8.toNat_inj.1 e)
   omega
theorem bless_asym : ∀ l m : List UInt8, Op.bytesLess l m = true → Op.bytesLess m l = false
 | [], [], h => by simp [Op.bytesLess] at h
 | [], b :: m, _ => rfl
 | a :: l, [], h => by simp [Op.bytesLess] at h
 | a :: l, b :: m, h => by
  rw [Op.bytesLess] at h ⊢
  simp only [Bool.or_eq_false_iff, Bool.and_eq_false_iff, Bool.or_eq_true, Bool.and_eq_true, decide_eq_false_iff_not, decide_eq_true_eq, beq_iff_eq, beq_eq_false_iff_ne] at h ⊢
  rcases h with h | ⟨h, h2⟩
  ·rw [UInt8.lt_iff_toNat_lt] at h ⊢
   exact ⟨by omega, .inl (fun e => by subst e; omega)⟩
  ·subst h
   exact ⟨by rw [UInt8.lt_iff_toNat_lt]; omega, .inr (bless_asym l m h2)⟩
theorem toList_inj {a b : ByteArray} (h : a.toList = b.toList) : a = b := by
 cases a with
 | mk x => cases b with
  | mk y => rw [ByteArray.toList_mk, ByteArray.toList_mk] at h; rw [Array.toList_inj.1 h]
def okPair (a b : Pc) : Bool := ltS a.s b.s || (a.s.toList == b.s.toList && decide (a.t < b.t))
def ckP (p : Pc) : Bool := decide (1 ≤ p.s.size) && decide (p.s.size ≤ 200)
def okAt (l : List Pc) (i : Nat) : Bool := ckP (l.getD i pc0) && (decide (i = 0) || okPair (l.getD (i - 1) pc0) (l.getD i pc0))
def okTo (l : List Pc) (k : Nat) : Bool := (List.range k).all (okAt l)
theorem okTo_succ (l : List Pc) (k : Nat) : okTo l (k + 1) = (okTo l k && okAt l k) := by unfold okTo; rw [List.range_succ, List.all_append]; simp
theorem okTo_not (l : List Pc) (k n : Nat) (h : k < n) (hk : okAt l k = false) : okTo l n = false := by
 unfold okTo
 rw [List.all_eq_false]
 exact ⟨k, List.mem_range.2 h, by rw [hk]; decide⟩
def chkL (l : List Pc) : Nat := if 256 < l.length ∨ 4096 < roomL l then 3 else if okTo l l.length then 0 else 1
def layL (l : List Pc) : List Nat := form (formP l).length 2 ++ formP l ++ List.replicate (roomL l - (2 + (formP l).length)) 0
theorem okTo_at {l : List Pc} {k : Nat} (h : okTo l l.length = true) (hk : k < l.length) : okAt l k = true := by
 unfold okTo at h
 exact List.all_eq_true.1 h k (List.mem_range.2 hk)
theorem chk_ok {l : List Pc} (h : chkL l = 0) : l.length ≤ 256 ∧ roomL l ≤ 4096 ∧ okTo l l.length = true := by
 unfold chkL at h
 split at h
 ·cases h
 ·rename_i h1
  split at h
  ·rename_i h2; exact ⟨by omega, by omega, h2⟩
  ·cases h
theorem chk_sizes {l : List Pc} (h : chkL l = 0) : ∀ p ∈ l, 1 ≤ p.s.size ∧ p.s.size ≤ 200 := fun p hp => by
 obtain ⟨k, hk, rfl⟩ := List.mem_iff_getElem.1 hp
 have h1 := okTo_at (chk_ok h).2.2 hk
 unfold okAt ckP at h1
 rw [jA, jB hk] at h1
 simp only [Option.getD_some, Bool.and_eq_true, decide_eq_true_eq] at h1
 exact h1.1
theorem layL_len {l : List Pc} (h : chkL l = 0) (hl : ∀ p ∈ l, PcOk p) : (layL l).length = roomL l := by
 have h1 := form_fits l (fun p hp => ⟨hl p hp, by have := (chk_sizes h p hp).2; omega⟩) (by have := (chk_ok h).1; omega)
 unfold layL
 simp only [jC, form_len, List.length_replicate]
 omega
def bodyL (b : List Nat) : List Nat := (b.drop 2).take (number (b.take 2))
def shortB (b : List Nat) : Bool := decide (b.length < 2) || decide (b.length < number (b.take 2) + 2)
def readB (b : List Nat) : List Pc × Bool := rgL (rdS (bodyL b) false).1 (rdS (bodyL b) false).2.1 (rdS (bodyL b) false).2.2 []
def readE (b : List Nat) : Nat := if shortB b then 2 else if (readB b).2 then 4 else if chkL (readB b).1 = 0 ∧ layL (readB b).1 = b then 0 else 4
def readL (b : List Nat) : List Pc := if readE b = 0 then (readB b).1 else []
theorem read_lay {l : List Pc} (h : chkL l = 0) (hl : ∀ p ∈ l, PcOk p) : readE (layL l) = 0 ∧ readL (layL l) = l := by
 have hs := chk_sizes h
 have hc := chk_ok h
 have h1 := form_fits l (fun p hp => ⟨hl p hp, by have := (hs p hp).2; omega⟩) (by omega)
 have e1 : (layL l).take 2 = form (formP l).length 2 := by
  unfold layL
  rw [List.append_assoc, List.take_append_of_le_length (by rw [form_len]; exact jD _), List.take_of_length_le (by rw [form_len]; exact jD _)]
 have e2 : number ((layL l).take 2) = (formP l).length := by
  rw [e1, number_form]
  have : (256 : Nat) ^ 2 = 65536 := by decide
  omega
 have e3 : bodyL (layL l) = formP l := by
  unfold bodyL
  rw [e2]
  unfold layL
  rw [List.append_assoc, List.drop_append_of_le_length (by rw [form_len]; exact jD _), List.drop_of_length_le (by rw [form_len]; exact jD _), List.nil_append, List.take_append_of_le_length (jD _), List.take_length]
 have e4 : readB (layL l) = (l, false) := by
  unfold readB
  rw [e3]
  exact read_form l (fun p hp => ⟨hl p hp, by have := (hs p hp).2; omega⟩) (by omega)
 have e5 : shortB (layL l) = false := by
  unfold shortB
  rw [e2, layL_len h hl]
  simp
  omega
 have e6 : readE (layL l) = 0 := by
  unfold readE
  rw [e5, e4]
  simp only [Bool.false_eq_true, if_false]
  rw [if_pos ⟨h, trivial⟩]
 exact ⟨e6, by unfold readL; rw [if_pos e6, e4]⟩
def cmpI (x y : Int) : Int := if x < y then -1 else if y < x then 1 else 0
def cmpS (a b : ByteArray) : Int := if ltS a b then -1 else if ltS b a then 1 else 0
theorem nan_i64 (x : Int) (w : World) : Calls Tryz.prog 63 #[.int .i64 x] w fun e w' => e = .returned (.bool false) ∧ w = w' := by
 have t0 : (x != x) = false := by simp
 go_enter Tryz.func63, Tryz.ntmps63
 go_wp2
 go_ret
 exact ⟨rfl, rfl⟩
theorem cmp_i64 (x y : Int) (w : World) : Calls Tryz.prog 44 #[.int .i64 x, .int .i64 y] w fun e w' => e = .returned (.int .i64 (cmpI x y)) ∧ w = w' := by
 unfold cmpI
 by_cases h1 : x < y
 ·rw [if_pos h1]
  have d1 : decide (x < y) = true := jF h1
  clear h1
  go_enter Tryz.func44, Tryz.ntmps44
  go_wp2_with (go_at_call 63; (refine (nan_i64 _ _).mono ?_); rintro e w' ⟨rfl, rfl⟩)
  go_ret
  exact ⟨rfl, rfl⟩
 ·rw [if_neg h1]
  have d1 : decide (x < y) = false := jG h1
  by_cases h2 : y < x
  ·rw [if_pos h2]
   have d2 : decide (y < x) = true := jF h2
   clear h1 h2
   go_enter Tryz.func44, Tryz.ntmps44
   go_wp2_with (go_at_call 63; (refine (nan_i64 _ _).mono ?_); rintro e w' ⟨rfl, rfl⟩)
   go_ret
   exact ⟨rfl, rfl⟩
  ·rw [if_neg h2]
   have d2 : decide (y < x) = false := jG h2
   clear h1 h2
   go_enter Tryz.func44, Tryz.ntmps44
   go_wp2_with (go_at_call 63; (refine (nan_i64 _ _).mono ?_); rintro e w' ⟨rfl, rfl⟩)
   go_ret
   exact ⟨rfl, rfl⟩
theorem nan_u64 (x : Int) (w : World) : Calls Tryz.prog 86 #[.int .u64 x] w fun e w' => e = .returned (.bool false) ∧ w = w' := by
 have t0 : (x != x) = false := by simp
 go_enter Tryz.func86, Tryz.ntmps86
 go_wp2
 go_ret
 exact ⟨rfl, rfl⟩
theorem cmp_u64 (x y : Int) (w : World) : Calls Tryz.prog 61 #[.int .u64 x, .int .u64 y] w fun e w' => e = .returned (.int .i64 (cmpI x y)) ∧ w = w' := by
 unfold cmpI
 by_cases h1 : x < y
 ·rw [if_pos h1]
  have d1 : decide (x < y) = true := jF h1
  clear h1
  go_enter Tryz.func61, Tryz.ntmps61
  go_wp2_with (go_at_call 86; (refine (nan_u64 _ _).mono ?_); rintro e w' ⟨rfl, rfl⟩)
  go_ret
  exact ⟨rfl, rfl⟩
 ·rw [if_neg h1]
  have d1 : decide (x < y) = false := jG h1
  by_cases h2 : y < x
  ·rw [if_pos h2]
   have d2 : decide (y < x) = true := jF h2
   clear h1 h2
   go_enter Tryz.func61, Tryz.ntmps61
   go_wp2_with (go_at_call 86; (refine (nan_u64 _ _).mono ?_); rintro e w' ⟨rfl, rfl⟩)
   go_ret
   exact ⟨rfl, rfl⟩
  ·rw [if_neg h2]
   have d2 : decide (y < x) = false := jG h2
   clear h1 h2
   go_enter Tryz.func61, Tryz.ntmps61
   go_wp2_with (go_at_call 86; (refine (nan_u64 _ _).mono ?_); rintro e w' ⟨rfl, rfl⟩)
   go_ret
   exact ⟨rfl, rfl⟩
theorem nan_u16 (x : Int) (w : World) : Calls Tryz.prog 87 #[.int .u16 x] w fun e w' => e = .returned (.bool false) ∧ w = w' := by
 have t0 : (x != x) = false := by simp
 go_enter Tryz.func87, Tryz.ntmps87
 go_wp2
 go_ret
 exact ⟨rfl, rfl⟩
theorem cmp_u16 (x y : Int) (w : World) : Calls Tryz.prog 62 #[.int .u16 x, .int .u16 y] w fun e w' => e = .returned (.int .i64 (cmpI x y)) ∧ w = w' := by
 unfold cmpI
 by_cases h1 : x < y
 ·rw [if_pos h1]
  have d1 : decide (x < y) = true := jF h1
  clear h1
  go_enter Tryz.func62, Tryz.ntmps62
  go_wp2_with (go_at_call 87; (refine (nan_u16 _ _).mono ?_); rintro e w' ⟨rfl, rfl⟩)
  go_ret
  exact ⟨rfl, rfl⟩
 ·rw [if_neg h1]
  have d1 : decide (x < y) = false := jG h1
  by_cases h2 : y < x
  ·rw [if_pos h2]
   have d2 : decide (y < x) = true := jF h2
   clear h1 h2
   go_enter Tryz.func62, Tryz.ntmps62
   go_wp2_with (go_at_call 87; (refine (nan_u16 _ _).mono ?_); rintro e w' ⟨rfl, rfl⟩)
   go_ret
   exact ⟨rfl, rfl⟩
  ·rw [if_neg h2]
   have d2 : decide (y < x) = false := jG h2
   clear h1 h2
   go_enter Tryz.func62, Tryz.ntmps62
   go_wp2_with (go_at_call 87; (refine (nan_u16 _ _).mono ?_); rintro e w' ⟨rfl, rfl⟩)
   go_ret
   exact ⟨rfl, rfl⟩
theorem nan_s (a : ByteArray) (w : World) : Calls Tryz.prog 91 #[.string a] w fun e w' => e = .returned (.bool false) ∧ w = w' := by
 go_enter Tryz.func91, Tryz.ntmps91
 go_wp2
 go_ret
 exact ⟨by simp, rfl⟩
theorem cmp_s (a b : ByteArray) (w : World) : Calls Tryz.prog 67 #[.string a, .string b] w fun e w' => e = .returned (.int .i64 (cmpS a b)) ∧ w = w' := by
 unfold cmpS ltS
 by_cases h1 : Op.bytesLess a.toList b.toList = true
 ·rw [if_pos h1]
  go_enter Tryz.func67, Tryz.ntmps67
  go_wp2_with (go_at_call 91; (refine (nan_s _ _).mono ?_); rintro e w' ⟨rfl, rfl⟩)
  go_ret
  exact ⟨rfl, rfl⟩
 ·rw [if_neg h1]
  have h1' : Op.bytesLess a.toList b.toList = false := by simpa using h1
  clear h1
  by_cases h2 : Op.bytesLess b.toList a.toList = true
  ·rw [if_pos h2]
   have h3 : (a.toList == b.toList) = false := by
    rw [beq_eq_false_iff_ne]
    intro he
    rw [he, bless_irr] at h2
    cases h2
   go_enter Tryz.func67, Tryz.ntmps67
   go_wp2_with (go_at_call 91; (refine (nan_s _ _).mono ?_); rintro e w' ⟨rfl, rfl⟩)
   go_ret
   exact ⟨rfl, rfl⟩
  ·rw [if_neg h2]
   have h3 : (a.toList == b.toList) = true := by
    rw [beq_iff_eq]
    by_cases he : a.toList = b.toList
    ·exact he
    ·exact absurd (bless_tri _ _ he h1') h2
   clear h2
   go_enter Tryz.func67, Tryz.ntmps67
   go_wp2_with (go_at_call 91; (refine (nan_s _ _).mono ?_); rintro e w' ⟨rfl, rfl⟩)
   go_ret
   exact ⟨rfl, rfl⟩
theorem heap2P (w : World) (a b : Obj) : ((((w.alloc a).alloc b))).heap[w.heap.size + 1]? = some b := by
 have h := heap_alloc_new (w.alloc a) b
 have e : (w.alloc a).heap.size = w.heap.size + 1 := by simp
 rw [e] at h
 exact h
def orL : List Int → Int
 | [] => 0
 | x :: l => if x = 0 then orL l else x
def ints (l : List Int) : List Value := l.map fun x => .int .i64 x
def IntsAt (w : World) (g : Nat) (l : List Int) : Prop := Blk w g 3 (ints l).toArray
theorem IntsAt.at_ {w : World} {g : Nat} {l : List Int} (h : IntsAt w g l) (i : Nat) (hi : i < l.length) : w.cell? ⟨g, i, none⟩ = some (.int .i64 (l.getD i 0)) := by
 refine (Blk.cell h i).trans ?_
 simp [ints, jA, hi]
theorem or_c (g c : Nat) (l : List Int) (w : World) (h : IntsAt w g l) (hl : l.length ≤ 100) :
  Calls Tryz.prog 42 #[.slice (some ⟨g, 0, none⟩) l.length c] w fun e w' => e = .returned (.int .i64 (orL l)) ∧ w = w' := by
 have HH := Li h
 clear h
 go_enter Tryz.func42, Tryz.ntmps42
 go_wp2
 go_loop [8] (fun i => ∃ k : Nat, k ≤ l.length ∧ i = .int .i64 k ∧ orL l = orL (l.drop k)) (fun i => l.length - (intOf i).toNat)
 case atStart => exact ⟨0, Nat.zero_le _, rfl, rfl⟩
 case round =>
  obtain ⟨k, hk, rfl, hd⟩ := hrel
  have HD := Li hd
  clear hd
  by_cases hlt : k < l.length
  ·have e0 := HH.out.at_ k hlt
   have HDK := Li (show l.drop k = l.getD k 0 :: l.drop (k + 1) by rw [List.drop_eq_getElem_cons hlt]; simp [jA, hlt])
   generalize l.getD k 0 = x at *
   have p1 : (k : Int) < (l.length : Int) := by omega
   by_cases hx : x = 0
   ·subst hx
    go_wp2
    go_round
    case rel => exact ⟨k + 1, by omega, by go_num, by rw [HD.out, HDK.out]; rfl⟩
    case measure => simp [intOf]; omega
   ·have t0 : (x != 0) = true := by rw [bne_iff_ne]; exact hx
    have HX := Li hx
    clear hx
    go_wp2
    go_ret
    exact ⟨by rw [HD.out, HDK.out, orL, if_neg HX.out]; rfl, rfl⟩
  ·obtain rfl : k = l.length := by omega
   go_wp2
   go_ret
   exact ⟨by rw [HD.out, List.drop_length]; rfl, rfl⟩
theorem intInfo : (Tryz.prog.info? 3).map (fun i => (i.zero, i.size, i.bytes)) = some (some (.int .i64 0), 1, 8) := by kernel_rfl
theorem run_ints (w : World) (l : List Int) {o : Oper} {ρ : Operand → Value} (xs : Array (Nat × Operand)) (ho : o.op = .buildSlice 122 l.length xs)
  (hx : (xs.map fun (p : Nat × Operand) => (p.1, ρ p.2)).toList = (((ints l).zipIdx 0).map fun x => (x.2, x.1))) (hlen : l.length ≤ 1000) (hpos : 0 < l.length) :
  (execOp ρ o).run Tryz.prog w = .ok (.value (.slice (some ⟨w.heap.size, 0, none⟩) l.length l.length)) (w.alloc (.cells (ints l).toArray 3)) := by
 obtain ⟨i0, hi, hz0, hz1, hz2⟩ := info_parts intInfo
 have h1 := run_buildSlice (P := Tryz.prog) w 122 3 l.length (xs.map fun (p : Nat × Operand) => (p.1, ρ p.2)) (ints l).toArray i0 _ Tryz.underlying122 hi hz0 (by rw [hz1]; omega) (by rw [hz1]; omega) (by
  rw [hz1]
  refine (congrArg _ hx).trans ?_
  exact (Great.fill_flat (ints l) _ (fun v hv => by
   obtain ⟨p, _, rfl⟩ := List.mem_map.1 hv
   rfl) (by simp [ints])))
 unfold execOp
 simp only [ho, Sem.run_bind, h1, Result.andThen_ok]
 rfl
def IntsV (l : List Int) (u : Value) (W : World) : Prop := ∃ g, u = .slice (some ⟨g, 0, none⟩) l.length l.length ∧ IntsAt W g l
theorem IntsV.next {l : List Int} {u : Value} {W W' : World} (h : IntsV l u W) (hb : Below W.heap.size W W') : IntsV l u W' := by
 obtain ⟨g, e, h⟩ := h
 exact ⟨g, e, Blk.below h hb (Blk.lt h)⟩
theorem IntsV.or_ {l : List Int} {u : Value} {W : World} (h : IntsV l u W) (hl : l.length ≤ 100) : Calls Tryz.prog 42 #[u] W fun e w' => e = .returned (.int .i64 (orL l)) ∧ W = w' := by
 obtain ⟨g, rfl, h⟩ := h
 exact or_c g _ l W h hl
def idV (n d : Nat) : Array Value := #[.int .u64 (n : Int), .int .u16 (d : Int)]
def cmpD (n d n2 d2 : Nat) : Int := orL [cmpI n n2, cmpI d d2]
theorem ids_c (n d n2 d2 : Nat) (w : World) : Calls Tryz.prog 43 #[.agg (idV n d), .agg (idV n2 d2)] w fun e w' => e = .returned (.int .i64 (cmpD n d n2 d2)) ∧ Below w.heap.size w w' := by
 go_enter Tryz.func43, Tryz.ntmps43
 go_upto_region 1 with (first
  | (refine Go.Great.wpList_boxTo rfl 75 (.tmp 0) rfl (some 2) rfl w.heap.size rfl (idV n d) rfl ?_)
  | (refine Go.Great.wpList_boxTo rfl 75 (.tmp 1) rfl (some 3) rfl (w.heap.size + 1) (by simp) (idV n2 d2) rfl ?_))
 obtain ⟨Z, hZ⟩ : ∃ Z, Z = (w.alloc (Obj.cells (idV n d) 75)).alloc (Obj.cells (idV n2 d2) 75) := ⟨_, rfl⟩
 have H1 := show Blk Z w.heap.size 75 (idV n d) by rw [hZ]; exact (Blk.new w _ _).alloc _
 have H2 := show Blk Z (w.heap.size + 1) 75 (idV n2 d2) by rw [hZ]; exact heap2P w _ _
 have HB := Li (show Below w.heap.size w Z by rw [hZ]; exact ((jE _ _).alloc (jD _) _).alloc (by simp) _)
 rw [← hZ]
 clear hZ
 have c0 := cell_ext (show Z.cell? ⟨w.heap.size, 0, none⟩ = some (.int .u64 (n : Int)) from (H1.cell 0).trans rfl)
 have c1 := cell_ext (show Z.cell? ⟨w.heap.size, 1, none⟩ = some (.int .u16 (d : Int)) from (H1.cell 1).trans rfl)
 have c2 := cell_ext (show Z.cell? ⟨w.heap.size + 1, 0, none⟩ = some (.int .u64 (n2 : Int)) from (H2.cell 0).trans rfl)
 have c3 := cell_ext (show Z.cell? ⟨w.heap.size + 1, 1, none⟩ = some (.int .u16 (d2 : Int)) from (H2.cell 1).trans rfl)
 clear H1 H2
 refine wp_region_loud Z [15] (fun _ u W => IntsV [cmpI n n2, cmpI d d2] u W) (by kernel_rfl) (by kernel_rfl) (by kernel_rfl) (by kernel_rfl) (fun _ _ _ _ h hb => h.next hb) (jE _ _).drew ?_
 repeat (first
  | (refine wpLoud_call 9 rfl [] (.int .i64 (cmpI n n2)) 61 (fun g => #[.int .u64 (n : Int), .int .u64 (n2 : Int)]) rfl (fun _ _ h => by cases h) rfl (fun g w => by kernel_rfl) (fun g z hg => by
    refine (cmp_u64 _ _ z.wd).mono ?_
    rintro e w' ⟨rfl, rfl⟩
    exact ⟨_, rfl, jE _ _, rfl⟩) _ (by simp only [Act.put, sI, sS, sZ]; rfl) ?_)
  | (refine wpLoud_call 14 rfl [] (.int .i64 (cmpI d d2)) 62 (fun g => #[.int .u16 (d : Int), .int .u16 (d2 : Int)]) rfl (fun _ _ h => by cases h) rfl (fun g w => by kernel_rfl) (fun g z hg => by
    refine (cmp_u16 _ _ z.wd).mono ?_
    rintro e w' ⟨rfl, rfl⟩
    exact ⟨_, rfl, jE _ _, rfl⟩) _ (by simp only [Act.put, sI, sS, sZ]; rfl) ?_)
  | (refine wpLoud_make rfl (fun _ _ h => by cases h) rfl 15 rfl rfl (fun y => ⟨_, _, run_ints y.wd [cmpI n n2, cmpI d d2] #[(0, .tmp 9), (1, .tmp 14)] rfl (by kernel_rfl) (by simp) (by simp), (jE _ _).alloc (jD _) _, ⟨_, rfl, Blk.new _ _ _⟩⟩) _ (by simp only [Act.put, sI, sS, sZ]; rfl) ?_)
  | (refine wpLoud_call 16 rfl [15] (.int .i64 (cmpD n d n2 d2)) 42 (fun g => #[g 15]) rfl (fun _ _ h => by cases h) rfl (fun g w => by kernel_rfl) (fun g z hg => by
    refine ((hg 15 (by simp)).or_ (by simp)).mono ?_
    rintro e w' ⟨rfl, rfl⟩
    exact ⟨_, rfl, jE _ _, rfl⟩) _ (by simp only [Act.put, sI, sS, sZ]; rfl) ?_)
  | (refine wpLoud_plain rfl rfl rfl ?_; intro K hK; go_big_quiet_op; go_big_quiet_on))
 refine wpLoud_end [] (by rfl) ?_
 intro g z hg
 have HBZ := Li (HB.out.trans (z.bel.mono HB.out.size))
 generalize z.wd = Y2 at *
 simp only [fill, Act.put, sI, sS, sZ]
 go_wp2_with fail
 go_ret
 exact ⟨rfl, HBZ.out⟩
def pcL (p : Pc) : List Value := [.string p.s, .int .i64 p.t, .int .i64 p.v, .int .u64 (p.n : Int), .int .u16 (p.d : Int)]
def pcV (p : Pc) : Array Value := (pcL p).toArray
def cmpP (a b : Pc) : Int := orL [cmpS a.s b.s, cmpI a.t b.t, cmpD a.n a.d b.n b.d]
def lessP (a b : Pc) : Bool := decide (cmpP a b < 0)
theorem idInfo : (Tryz.prog.info? 75).map (·.size) = some 2 := by kernel_rfl
theorem rangeAt_id {w : World} {g : Nat} {p : Pc} (h : Blk w g 77 (pcV p)) : w.rangeAt g 3 (idV p.n p.d).toList := fun i u hu => by
 refine (h.cell (3 + i)).trans ?_
 rw [← hu]
 match i with
 | 0 => rfl
 | 1 => rfl
 | i + 2 =>
  rw [show 3 + (i + 2) = i + 5 by omega]
  rfl
theorem compare_c (p q : Pc) (w : World) : Calls Tryz.prog 47 #[.agg (pcV p), .agg (pcV q)] w fun e w' => e = .returned (.int .i64 (cmpP p q)) ∧ Below w.heap.size w w' := by
 go_enter Tryz.func47, Tryz.ntmps47
 go_upto_region 1 with (first
  | (refine Go.Great.wpList_boxTo rfl 77 (.tmp 0) rfl (some 2) rfl w.heap.size rfl (pcV p) rfl ?_)
  | (refine Go.Great.wpList_boxTo rfl 77 (.tmp 1) rfl (some 3) rfl (w.heap.size + 1) (by simp) (pcV q) rfl ?_))
 obtain ⟨Z, hZ⟩ : ∃ Z, Z = (w.alloc (Obj.cells (pcV p) 77)).alloc (Obj.cells (pcV q) 77) := ⟨_, rfl⟩
 have h1 := show Blk Z w.heap.size 77 (pcV p) by rw [hZ]; exact (Blk.new w _ _).alloc _
 have h2 := show Blk Z (w.heap.size + 1) 77 (pcV q) by rw [hZ]; exact heap2P w _ _
 have HB := Li (show Below w.heap.size w Z by rw [hZ]; exact ((jE _ _).alloc (jD _) _).alloc (by simp) _)
 rw [← hZ]
 clear hZ
 have c0 := cell_ext (show Z.cell? ⟨w.heap.size, 0, none⟩ = some (.string p.s) from (h1.cell 0).trans rfl)
 have c1 := cell_ext (show Z.cell? ⟨w.heap.size, 1, none⟩ = some (.int .i64 p.t) from (h1.cell 1).trans rfl)
 have c2 := cell_ext (show Z.cell? ⟨w.heap.size + 1, 0, none⟩ = some (.string q.s) from (h2.cell 0).trans rfl)
 have c3 := cell_ext (show Z.cell? ⟨w.heap.size + 1, 1, none⟩ = some (.int .i64 q.t) from (h2.cell 1).trans rfl)
 have H1 := Li h1
 have H2 := Li h2
 have HII := Li idInfo
 clear h1 h2
 refine wp_region_loud Z [20] (fun _ u W => IntsV [cmpS p.s q.s, cmpI p.t q.t, cmpD p.n p.d q.n q.d] u W) (by kernel_rfl) (by kernel_rfl) (by kernel_rfl) (by kernel_rfl) (fun _ _ _ _ h hb => h.next hb) (jE _ _).drew ?_
 repeat (first
  | (refine wpLoud_loadB rfl rfl 75 (.tmp 15) rfl w.heap.size 3 rfl (idV p.n p.d) _ (fun z => rangeAt_id (H1.out.below z.bel H1.out.lt)) Tryz.underlying75 rfl HII.out _ (by simp only [Act.put, sI, sS, sZ]; rfl) ?_)
  | (refine wpLoud_loadB rfl rfl 75 (.tmp 17) rfl (w.heap.size + 1) 3 rfl (idV q.n q.d) _ (fun z => rangeAt_id (H2.out.below z.bel H2.out.lt)) Tryz.underlying75 rfl HII.out _ (by simp only [Act.put, sI, sS, sZ]; rfl) ?_)
  | (refine wpLoud_call 9 rfl [] (.int .i64 (cmpS p.s q.s)) 67 (fun g => #[.string p.s, .string q.s]) rfl (fun _ _ h => by cases h) rfl (fun g w => by kernel_rfl) (fun g z hg => by
    refine (cmp_s _ _ z.wd).mono ?_
    rintro e w' ⟨rfl, rfl⟩
    exact ⟨_, rfl, jE _ _, rfl⟩) _ (by simp only [Act.put, sI, sS, sZ]; rfl) ?_)
  | (refine wpLoud_call 14 rfl [] (.int .i64 (cmpI p.t q.t)) 44 (fun g => #[.int .i64 p.t, .int .i64 q.t]) rfl (fun _ _ h => by cases h) rfl (fun g w => by kernel_rfl) (fun g z hg => by
    refine (cmp_i64 _ _ z.wd).mono ?_
    rintro e w' ⟨rfl, rfl⟩
    exact ⟨_, rfl, jE _ _, rfl⟩) _ (by simp only [Act.put, sI, sS, sZ]; rfl) ?_)
  | (refine wpLoud_call 19 rfl [] (.int .i64 (cmpD p.n p.d q.n q.d)) 43 (fun g => #[.agg (idV p.n p.d), .agg (idV q.n q.d)]) rfl (fun _ _ h => by cases h) rfl (fun g w => by kernel_rfl) (fun g z hg => by
    refine (ids_c _ _ _ _ z.wd).mono ?_
    rintro e w' ⟨rfl, hb⟩
    exact ⟨_, rfl, hb, rfl⟩) _ (by simp only [Act.put, sI, sS, sZ]; rfl) ?_)
  | (refine wpLoud_make rfl (fun _ _ h => by cases h) rfl 20 rfl rfl (fun y => ⟨_, _, run_ints y.wd [cmpS p.s q.s, cmpI p.t q.t, cmpD p.n p.d q.n q.d] #[(0, .tmp 9), (1, .tmp 14), (2, .tmp 19)] rfl (by kernel_rfl) (by simp) (by simp), (jE _ _).alloc (jD _) _, ⟨_, rfl, Blk.new _ _ _⟩⟩) _ (by simp only [Act.put, sI, sS, sZ]; rfl) ?_)
  | (refine wpLoud_call 21 rfl [20] (.int .i64 (cmpP p q)) 42 (fun g => #[g 20]) rfl (fun _ _ h => by cases h) rfl (fun g w => by kernel_rfl) (fun g z hg => by
    refine ((hg 20 (by simp)).or_ (by simp)).mono ?_
    rintro e w' ⟨rfl, rfl⟩
    exact ⟨_, rfl, jE _ _, rfl⟩) _ (by simp only [Act.put, sI, sS, sZ]; rfl) ?_)
  | (refine wpLoud_plain rfl rfl rfl ?_; intro K hK; go_big_quiet_op; go_big_quiet_on))
 refine wpLoud_end [] (by rfl) ?_
 intro g z hg
 have HBZ := Li (HB.out.trans (z.bel.mono HB.out.size))
 generalize z.wd = Y2 at *
 simp only [fill, Act.put, sI, sS, sZ]
 go_wp2_with fail
 go_ret
 exact ⟨rfl, HBZ.out⟩
theorem pcInfo (p : Pc) : (Tryz.prog.info? 77).map (·.size) = some (pcV p).size := by
 show _ = some 5
 kernel_rfl
theorem less_c (p q : Pc) (w : World) : Calls Tryz.prog 92 #[.agg (pcV p), .agg (pcV q)] w fun e w' => e = .returned (.bool (lessP p q)) ∧ Below w.heap.size w w' := by
 have HLP := Li (show lessP p q = decide (cmpP p q < 0) from rfl)
 have HCC := Li (fun W => compare_c p q W)
 have HI1 := Li (pcInfo p)
 have HI2 := Li (pcInfo q)
 generalize cmpP p q = r at *
 generalize lessP p q = b at *
 go_enter Tryz.func92, Tryz.ntmps92
 go_upto_region 1 with (first
  | (refine Go.Great.wpList_boxTo rfl 77 (.tmp 0) rfl (some 2) rfl w.heap.size rfl (pcV p) rfl ?_)
  | (refine Go.Great.wpList_boxTo rfl 77 (.tmp 1) rfl (some 3) rfl (w.heap.size + 1) (by simp) (pcV q) rfl ?_))
 obtain ⟨Z, hZ⟩ : ∃ Z, Z = (w.alloc (Obj.cells (pcV p) 77)).alloc (Obj.cells (pcV q) 77) := ⟨_, rfl⟩
 have H1 := Li (show Blk Z w.heap.size 77 (pcV p) by rw [hZ]; exact (Blk.new w _ _).alloc _)
 have H2 := Li (show Blk Z (w.heap.size + 1) 77 (pcV q) by rw [hZ]; exact heap2P w _ _)
 have HB := Li (show Below w.heap.size w Z by rw [hZ]; exact ((jE _ _).alloc (jD _) _).alloc (by simp) _)
 rw [← hZ]
 clear hZ
 go_wp2_with (first
  | (refine wpList_load_row rfl 77 (.tmp 2) rfl w.heap.size rfl 77 (pcV p) (0, 0) _ H1.out Tryz.underlying77 rfl HI1.out ?_)
  | (refine wpList_load_row rfl 77 (.tmp 3) rfl (w.heap.size + 1) rfl 77 (pcV q) (0, 0) _ H2.out Tryz.underlying77 rfl HI2.out ?_)
  | (go_at_call 47; (refine (HCC.out Z).mono ?_); rintro e W1 ⟨rfl, hb⟩; have HB1 := Li (HB.out.trans (hb.mono HB.out.size)); clear hb))
 go_ret
 exact ⟨by rw [HLP.out]; rfl, HB1.out⟩
def AtA (w : World) (a : Addr) (cs : List Value) : Prop := ∀ j v, cs[j]? = some v → w.cell? (a.add j) = some v
theorem AtA.drop {w : World} {a : Addr} {cs : List Value} (h : AtA w a cs) (k n : Nat) : AtA w (a.add k) ((cs.drop k).take n) := fun j v hv => by
 rw [Addr.add_add]
 have hj : j < n := by
  rcases Nat.lt_or_ge j n with h1 | h1
  ·exact h1
  ·rw [List.getElem?_eq_none (by rw [List.length_take]; omega)] at hv; cases hv
 rw [List.getElem?_take_of_lt hj, List.getElem?_drop] at hv
 exact h (k + j) v hv
theorem AtA.below {w w' : World} {a : Addr} {cs : List Value} {B : Nat} (h : AtA w a cs) (hb : Below B w w') (ha : a.block < B) : AtA w' a cs := fun j v hv =>
 (hb.cell (by rw [add_block]; exact ha)).trans (h j v hv)
section
variable {P : Program}
theorem run_loadVar_at (w : World) (a : Addr) (ty : TypeId) (cs : List Value) (d : TypeDesc) (hc : AtA w a cs)
  (hu : P.underlying ty = some d) (hd : d.isRow = true) (hi : (P.info? ty).map (·.size) = some cs.length) :
  (loadVar ty a).run P w = .ok (.agg cs.toArray) w := by
 have hl : (loadCells a cs.length).run P w = .ok cs.toArray w := run_loadCells_list (P := P) w a cs hc
 cases hq : P.info? ty with
 | none => simp [hq] at hi
 | some i =>
  have hs : i.size = cs.length := by simpa [hq] using hi
  have hagg : (isAgg ty).run P w = .ok true w := by
   unfold isAgg
   rw [Sem.run_bind, run_underlying hu w]
   cases d <;> simp_all
  simp [loadVar, Sem.run_bind, hagg, sizeOf, typeInfo, hq, hs, hl]
end
section
variable {P : Program}
theorem wpList_loadA {ops : Array Oper} {rest : List Oper} {op : Oper} {a : Act} {w : World} {Q : Exit → Act → World → Prop} (hw : Region.wanted op (yielded ops a.tmps) = true) (ty : TypeId) (x : Operand) (ho : op.op = .load ty x)
  (b : Addr) (hx : a.eval x = .pointer (some b)) (l : List Value) (d : TypeDesc) (hc : AtA w b l)
  (hu : P.underlying ty = some d) (hd : d.isRow = true) (hi : (P.info? ty).map (·.size) = some l.length)
  (h : wpList P ops Q rest (a.put op.dst (.agg l.toArray)) w) : wpList P ops Q (op :: rest) a w :=
 wpList_valG hw _ (by
  unfold execOp
  simp only [ho, hx, Instr.loadAt, Instr.sureAddr, Sem.run_bind, Sem.run_pure, Result.andThen_ok, run_loadVar_at w b ty l d hc hu hd hi]) h
end
def pcs (l : List Pc) : List Value := (l.map pcL).flatten
theorem pcs_nil : pcs [] = [] := rfl
theorem pcs_cons (p : Pc) (l : List Pc) : pcs (p :: l) = pcL p ++ pcs l := by simp [pcs]
theorem pcs_app (l m : List Pc) : pcs (l ++ m) = pcs l ++ pcs m := by simp [pcs]
theorem pcs_len (l : List Pc) : (pcs l).length = l.length * 5 := by
 induction l with
 | nil => rfl
 | cons p l ih => rw [pcs_cons, jC, ih]; simp [pcL]; omega
theorem pcs_drop (l : List Pc) (n : Nat) : pcs (l.drop n) = (pcs l).drop (n * 5) := by
 induction l generalizing n with
 | nil => simp [pcs_nil]
 | cons p l ih =>
  cases n with
  | zero => simp
  | succ n =>
   rw [List.drop_succ_cons, ih, pcs_cons, show (n + 1) * 5 = (pcL p).length + n * 5 by simp [pcL]; omega, List.drop_length_add_append]
theorem pcs_take (l : List Pc) (n : Nat) : pcs (l.take n) = (pcs l).take (n * 5) := by
 induction l generalizing n with
 | nil => simp [pcs_nil]
 | cons p l ih =>
  cases n with
  | zero => simp [pcs_nil]
  | succ n =>
   rw [List.take_succ_cons, pcs_cons, pcs_cons, ih, show (n + 1) * 5 = (pcL p).length + n * 5 by simp [pcL]; omega, List.take_length_add_append]
theorem pcs_one (l : List Pc) (i : Nat) (h : i < l.length) : ((pcs l).drop (i * 5)).take 5 = pcL (l.getD i pc0) := by
 rw [← pcs_drop, List.drop_eq_getElem_cons h, pcs_cons]
 simp [pcL, jA, h]
def RdP (w : World) (B : Nat) (A : Option Addr) (l : List Pc) : Prop := Rd w B A (pcs l)
theorem RdP.open_ {w : World} {B : Nat} {A : Option Addr} {l : List Pc} (h : RdP w B A l) (hn : 0 < l.length) : ∃ ad, A = some ad ∧ ad.block < B ∧ AtA w ad (pcs l) := by
 obtain ⟨ad, rfl, hb, hc⟩ := (show Rd w B A (pcs l) from h) (by intro h0; have := congrArg List.length h0; rw [pcs_len] at this; simp at this; omega)
 exact ⟨ad, rfl, hb, hc⟩
theorem AtA.piece {w : World} {ad : Addr} {l : List Pc} (h : AtA w ad (pcs l)) (i : Nat) (hi : i < l.length) : AtA w (ad.add (i * 5)) (pcL (l.getD i pc0)) := by
 rw [← pcs_one l i hi]; exact h.drop (i * 5) 5
theorem AtA.ser {w : World} {a : Addr} {p : Pc} (h : AtA w a (pcL p)) : w.cell? a = some (.string p.s) := by
 have := h 0 _ rfl
 rwa [show a.add 0 = a by simp [Addr.add]] at this
theorem pcLn (p : Pc) : (Tryz.prog.info? 77).map (·.size) = some (pcL p).length := by
 show _ = some 5
 kernel_rfl
def greatB (l : List Pc) (m : Nat) : Bool := decide (m < l.length) || (l.take m).any fun p => decide (400 < p.s.size)
theorem greatB_no {l : List Pc} {m : Nat} (h : greatB l m = false) : l.length ≤ m ∧ ∀ p ∈ l, p.s.size ≤ 400 := by
 unfold greatB at h
 rw [Bool.or_eq_false_iff, decide_eq_false_iff_not, List.any_eq_false] at h
 refine ⟨by omega, fun p hp => ?_⟩
 have := h.2 p (by rw [List.take_of_length_le (by omega)]; exact hp)
 simpa using this
theorem great_c (B : Nat) (A : Option Addr) (c : Nat) (l : List Pc) (m : Nat) (w : World) (hr : RdP w B A l) (h1 : l.length ≤ 9223372036854775807) (hm : m ≤ 1000000) (hs : ∀ p ∈ l, p.s.size ≤ 9223372036854775807) :
  Calls Tryz.prog 17 #[.slice A l.length c, .int .i64 m] w fun e w' => e = .returned (.bool (greatB l m)) ∧ w = w' := by
 have HR := Li hr
 clear hr
 go_enter Tryz.func17, Tryz.ntmps17
 go_wp2
 go_loop [5] (fun i => ∃ k : Nat, k ≤ l.length ∧ k ≤ m ∧ i = .int .i64 k ∧ ((l.take k).any fun p => decide (400 < p.s.size)) = false) (fun i => l.length - (intOf i).toNat)
 case atStart => exact ⟨0, Nat.zero_le _, Nat.zero_le _, rfl, by simp⟩
 case round =>
  obtain ⟨k, hk, hkm, rfl, hd⟩ := hrel
  have HD := Li hd
  clear hd
  by_cases hlt : k < l.length ∧ k < m
  ·obtain ⟨hlt, hltm⟩ := hlt
   obtain ⟨ad, rfl, _, hat⟩ := HR.out.open_ (by omega)
   have e0 := (hat.piece k hlt).ser
   have HS := Li (show l.take (k + 1) = l.take k ++ [l.getD k pc0] by rw [List.take_succ_eq_append_getElem hlt]; simp [jA, hlt])
   have hz := hs (l.getD k pc0) (by simp [jA, hlt])
   have HMEM := Li (show l.getD k pc0 ∈ l.take m by
    rw [List.mem_iff_getElem]
    exact ⟨k, by rw [List.length_take]; omega, by simp [jA, hlt]⟩)
   clear hat
   generalize l.getD k pc0 = p at *
   have p1 : (k : Int) < (l.length : Int) := by omega
   have p2 : (k : Int) < (m : Int) := by omega
   by_cases hg : 400 < p.s.size
   ·have HF := Li (show greatB l m = true by
     unfold greatB
     rw [Bool.or_eq_true, List.any_eq_true]
     exact .inr ⟨p, HMEM.out, jF hg⟩)
    clear HMEM
    go_wp2
    go_ret
    exact ⟨by rw [HF.out]; rfl, rfl⟩
   ·have HG := Li hg
    go_wp2
    go_round
    case rel => exact ⟨k + 1, by omega, by omega, by go_num, by rw [HS.out, List.any_append, HD.out, List.any_cons, jG HG.out]; rfl⟩
    case measure => simp [intOf]; omega
  ·have HF := Li (show greatB l m = decide (m < l.length) by
    unfold greatB
    by_cases hlm : m < l.length
    ·rw [jF hlm]; rfl
    ·rw [jG hlm, Bool.false_or]
     have e : l.take m = l.take k := by rw [List.take_of_length_le (by omega), List.take_of_length_le (by omega)]
     rw [e]; exact HD.out)
   by_cases hkl : k < l.length
   ·have hk2 : k = m := by omega
    subst hk2
    have p1 : (k : Int) < (l.length : Int) := by omega
    have HT := Li (jF (show k < l.length from hkl))
    clear hlt
    go_wp2
    go_ret
    exact ⟨by rw [HF.out]; first | rfl | (rw [HT.out]; rfl), rfl⟩
   ·have hk2 : k = l.length := by omega
    subst hk2
    have HT := Li (jG (show ¬ m < l.length by omega))
    clear hlt hkl
    go_wp2
    go_ret
    exact ⟨by rw [HF.out]; first | rfl | (rw [HT.out]; rfl), rfl⟩
end Go.Proofs.YtfnhmnbcponkfaaGreatDoor
namespace Go.Proofs.YtfnhmnbcponkfaaGreatDoor
open Go.ChangeShapes Go.WideShapes Go.ChangeAt Go.RowKit
theorem cut_eqP {cs : List Value} {n : Nat} (a : Nat) (xs : List Value) (hx : xs.length = n) (h : (cs.drop a).take n = xs) : cs.drop a = xs ++ cs.drop (a + n) := by
 rw [← h, ← List.drop_drop, List.take_append_drop]
theorem mark_of {H : Type} {enc : TypeId × Value → H} {W : World} {fuel : Nat} {cs : List Value} {y : DataW H × List MemPlace} (hf : DataW.trod enc Tryz.prog W 0 (fun _ => true) true fuel 75 cs = some y) :
  ∃ n d : Nat, n < 18446744073709551616 ∧ d < 65536 ∧ cs = [.int .u64 (n : Int), .int .u16 (d : Int)] := by
 obtain ⟨f0, f1, hs, ⟨o0, o1⟩, k0, k1⟩ : ∃ f0 f1 : Field, Tryz.prog.underlying 75 = some (.struct #[f0, f1]) ∧ (f0.offset = 0 ∧ f1.offset = 1) ∧ f0.type = 43 ∧ f1.type = 73 := ⟨_, _, Tryz.underlying75, ⟨rfl, rfl⟩, rfl, rfl⟩
 obtain ⟨xs, n, _, hx, hlc, hlen, hg⟩ := DataW.trod_struct hs hf
 have hlen' : xs.length = 2 := hlen
 have hC : Tryz.prog.cellsOf 75 = 2 := by kernel_rfl
 rw [hC] at hlc
 have h64 : Tryz.prog.cellsOf 43 = 1 := by kernel_rfl
 have h16 : Tryz.prog.cellsOf 73 = 1 := by kernel_rfl
 have g0 := hg 0 f0 rfl
 rw [k0, o0, h64, jB (by omega)] at g0
 have g1 := hg 1 f1 rfl
 rw [k1, o1, h16, jB (by omega)] at g1
 obtain ⟨z0, e0, _, w0⟩ := DataW.trod_int Tryz.underlying43 g0
 have b0 := bounds_u64 w0
 obtain ⟨n0, rfl⟩ := Int.eq_ofNat_of_zero_le b0.1
 obtain ⟨z1, e1, _, w1⟩ := DataW.trod_int Tryz.underlying73 g1
 have b1 := bounds_u16 w1
 obtain ⟨n1, rfl⟩ := Int.eq_ofNat_of_zero_le b1.1
 refine ⟨n0, n1, by omega, by omega, ?_⟩
 have c0 := cut_eqP (n := 1) 0 [_] rfl e0
 have c1 := cut_eqP (n := 1) 1 [_] rfl e1
 rw [List.drop_zero] at c0
 rw [c0, show 0 + 1 = 1 from rfl, c1, List.drop_eq_nil_of_le (by omega)]
 rfl
theorem piece_of {H : Type} {enc : TypeId × Value → H} {W : World} {fuel : Nat} {cs : List Value} {y : DataW H × List MemPlace} (hf : DataW.trod enc Tryz.prog W 0 (fun _ => true) true fuel 77 cs = some y) :
  ∃ p : Pc, cs = pcL p ∧ PcOk p ∧ p.s.size ≤ 9223372036854775807 := by
 obtain ⟨f0, f1, f2, f3, hs, ⟨o0, o1, o2, o3⟩, k0, k1, k2, k3⟩ : ∃ f0 f1 f2 f3 : Field, Tryz.prog.underlying 77 = some (.struct #[f0, f1, f2, f3]) ∧ (f0.offset = 0 ∧ f1.offset = 1 ∧ f2.offset = 2 ∧ f3.offset = 3) ∧ f0.type = 9 ∧ f1.type = 2 ∧ f2.type = 2 ∧ f3.type = 75 := ⟨_, _, _, _, Tryz.underlying77, ⟨rfl, rfl, rfl, rfl⟩, rfl, rfl, rfl, rfl⟩
 obtain ⟨xs, n, _, hx, hlc, hlen, hg⟩ := DataW.trod_struct hs hf
 have hlen' : xs.length = 4 := hlen
 have hC : Tryz.prog.cellsOf 77 = 5 := by kernel_rfl
 rw [hC] at hlc
 have hst : Tryz.prog.cellsOf 9 = 1 := by kernel_rfl
 have h64 : Tryz.prog.cellsOf 2 = 1 := by kernel_rfl
 have hid : Tryz.prog.cellsOf 75 = 2 := by kernel_rfl
 have g0 := hg 0 f0 rfl
 rw [k0, o0, hst, jB (by omega)] at g0
 have g1 := hg 1 f1 rfl
 rw [k1, o1, h64, jB (by omega)] at g1
 have g2 := hg 2 f2 rfl
 rw [k2, o2, h64, jB (by omega)] at g2
 have g3 := hg 3 f3 rfl
 rw [k3, o3, hid, jB (by omega)] at g3
 obtain ⟨s, e0, _, hsz⟩ := DataW.trod_string Tryz.underlying9 g0
 obtain ⟨z1, e1, _, w1⟩ := DataW.trod_int Tryz.underlying2 g1
 have b1 := bounds_i64 w1
 obtain ⟨z2, e2, _, w2⟩ := DataW.trod_int Tryz.underlying2 g2
 have b2 := bounds_i64 w2
 obtain ⟨n3, d3, hn, hd, e3⟩ := mark_of g3
 refine ⟨⟨s, z1, z2, n3, d3⟩, ?_, ⟨b1.1, by show z1 ≤ _; omega, b2.1, by show z2 ≤ _; omega, hn, hd⟩, by simpa [maxLen] using hsz⟩
 have c0 := cut_eqP (n := 1) 0 [_] rfl e0
 have c1 := cut_eqP (n := 1) 1 [_] rfl e1
 have c2 := cut_eqP (n := 1) 2 [_] rfl e2
 have c3 := cut_eqP (n := 2) 3 [_, _] rfl e3
 rw [List.drop_zero] at c0
 rw [c0, show 0 + 1 = 1 from rfl, c1, show 1 + 1 = 2 from rfl, c2, show 2 + 1 = 3 from rfl, c3, List.drop_eq_nil_of_le (by omega)]
 rfl
end Go.Proofs.YtfnhmnbcponkfaaGreatDoor
