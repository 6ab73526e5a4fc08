/- Parts, one behind the other: CaM Cb1 Cb2 Mk2 Cb3. -/
import Derived.Test.YtaikejlcpnelpaaDoorZ05
import Derived.StillTailTactics
import Derived.Laws.Rows
import Derived.Deep.MidRow
import Derived.BigQuiet
import Derived.Laws.ResultCell
import Derived.Lib.ConvBytes
import Derived.Laws.IdiomCopy
import Derived.OrdersHeld
import Derived.Great.BuildSlice
import Derived.Lib.SlBytesConst
/- Merged: Ca1 Ca2 Ca3 Ca4 Ca5 Ca6. -/
namespace Go.Proofs.YtaikejlcpnelpaaDoor
set_option maxRecDepth 100000
open Go.RowKit
set_option linter.unusedVariables false
set_option linter.unusedSimpArgs false
theorem wrap32 (z : Int) : IntKind.u32.wrap z = z % 4294967296 := by simp [IntKind.wrap, IntKind.signed, IntKind.bits]
theorem rotl_or {n k : Nat} (hn : n < 4294967296) (hk2 : k ≤ 32) : (n * 2 ^ k % 4294967296) ||| (n / 2 ^ (32 - k)) = rotl n k := by
  have e : (4294967296 : Nat) = 2 ^ (32 - k) * 2 ^ k := by rw [← Nat.pow_add, show 32 - k + k = 32 by omega]
  have h1 : n / 2 ^ (32 - k) < 2 ^ k := Nat.div_lt_of_lt_mul (by rw [← e]; exact hn)
  have h2 : n * 2 ^ k % 4294967296 = 2 ^ k * (n % 2 ^ (32 - k)) := by rw [e, Nat.mul_mod_mul_right, Nat.mul_comm]
  unfold rotl
  rw [h2]
  exact (Nat.two_pow_add_eq_or_of_lt h1 _).symm
set_option maxRecDepth 100000 in
set_option maxHeartbeats 1000000 in
theorem rotl16_c (n : Nat) (w : World) (hn : n < 4294967296) : Calls Tryd.prog 105 #[.int .u32 n, .int .i64 16] w fun e w' => e = .returned (.int .u32 (rotl n 16 : Nat)) ∧ w = w' := by
  have h1 : bits BinOp.and .u64 16 31 = 16 := by decide
  have h2 : IntKind.u32.wrap ((n : Int) * 65536) = ((n * 65536 % 4294967296 : Nat) : Int) := by rw [wrap32]; omega
  have h3 : bits BinOp.or .u32 ((n * 65536 % 4294967296 : Nat) : Int) ((n : Int) / 65536) = ((rotl n 16 : Nat) : Int) := by
    rw [show (n : Int) / 65536 = ((n / 65536 : Nat) : Int) by omega, u32_or_nat _ _ (Nat.mod_lt _ (by decide)) (by omega)]
    rw [show n * 65536 % 4294967296 ||| n / 65536 = rotl n 16 from rotl_or (k := 16) hn (by decide)]
  go_enter Tryd.func105, Tryd.ntmps105
  go_wp2
  go_ret
  exact ⟨by first | rfl | simp_all, rfl⟩
set_option maxRecDepth 100000 in
set_option maxHeartbeats 1000000 in
theorem rotl12_c (n : Nat) (w : World) (hn : n < 4294967296) : Calls Tryd.prog 105 #[.int .u32 n, .int .i64 12] w fun e w' => e = .returned (.int .u32 (rotl n 12 : Nat)) ∧ w = w' := by
  have h1 : bits BinOp.and .u64 12 31 = 12 := by decide
  have h2 : IntKind.u32.wrap ((n : Int) * 4096) = ((n * 4096 % 4294967296 : Nat) : Int) := by rw [wrap32]; omega
  have h3 : bits BinOp.or .u32 ((n * 4096 % 4294967296 : Nat) : Int) ((n : Int) / 1048576) = ((rotl n 12 : Nat) : Int) := by
    rw [show (n : Int) / 1048576 = ((n / 1048576 : Nat) : Int) by omega, u32_or_nat _ _ (Nat.mod_lt _ (by decide)) (by omega)]
    rw [show n * 4096 % 4294967296 ||| n / 1048576 = rotl n 12 from rotl_or (k := 12) hn (by decide)]
  go_enter Tryd.func105, Tryd.ntmps105
  go_wp2
  go_ret
  exact ⟨by first | rfl | simp_all, rfl⟩
set_option maxRecDepth 100000 in
set_option maxHeartbeats 1000000 in
theorem rotl8_c (n : Nat) (w : World) (hn : n < 4294967296) : Calls Tryd.prog 105 #[.int .u32 n, .int .i64 8] w fun e w' => e = .returned (.int .u32 (rotl n 8 : Nat)) ∧ w = w' := by
  have h1 : bits BinOp.and .u64 8 31 = 8 := by decide
  have h2 : IntKind.u32.wrap ((n : Int) * 256) = ((n * 256 % 4294967296 : Nat) : Int) := by rw [wrap32]; omega
  have h3 : bits BinOp.or .u32 ((n * 256 % 4294967296 : Nat) : Int) ((n : Int) / 16777216) = ((rotl n 8 : Nat) : Int) := by
    rw [show (n : Int) / 16777216 = ((n / 16777216 : Nat) : Int) by omega, u32_or_nat _ _ (Nat.mod_lt _ (by decide)) (by omega)]
    rw [show n * 256 % 4294967296 ||| n / 16777216 = rotl n 8 from rotl_or (k := 8) hn (by decide)]
  go_enter Tryd.func105, Tryd.ntmps105
  go_wp2
  go_ret
  exact ⟨by first | rfl | simp_all, rfl⟩
set_option maxRecDepth 100000 in
set_option maxHeartbeats 1000000 in
theorem rotl7_c (n : Nat) (w : World) (hn : n < 4294967296) : Calls Tryd.prog 105 #[.int .u32 n, .int .i64 7] w fun e w' => e = .returned (.int .u32 (rotl n 7 : Nat)) ∧ w = w' := by
  have h1 : bits BinOp.and .u64 7 31 = 7 := by decide
  have h2 : IntKind.u32.wrap ((n : Int) * 128) = ((n * 128 % 4294967296 : Nat) : Int) := by rw [wrap32]; omega
  have h3 : bits BinOp.or .u32 ((n * 128 % 4294967296 : Nat) : Int) ((n : Int) / 33554432) = ((rotl n 7 : Nat) : Int) := by
    rw [show (n : Int) / 33554432 = ((n / 33554432 : Nat) : Int) by omega, u32_or_nat _ _ (Nat.mod_lt _ (by decide)) (by omega)]
    rw [show n * 128 % 4294967296 ||| n / 33554432 = rotl n 7 from rotl_or (k := 7) hn (by decide)]
  go_enter Tryd.func105, Tryd.ntmps105
  go_wp2
  go_ret
  exact ⟨by first | rfl | simp_all, rfl⟩
def Turns (k : Nat) : Prop := ∀ (n : Nat) (w : World), n < 4294967296 → Calls Tryd.prog 105 #[.int .u32 n, .int .i64 k] w fun e w' => e = .returned (.int .u32 (rotl n k : Nat)) ∧ w = w'
theorem turns16 : Turns 16 := fun n w hn => rotl16_c n w hn
theorem turns12 : Turns 12 := fun n w hn => rotl12_c n w hn
theorem turns8 : Turns 8 := fun n w hn => rotl8_c n w hn
theorem turns7 : Turns 7 := fun n w hn => rotl7_c n w hn
theorem u32_xor_lt {a b : Nat} (ha : a < 4294967296) (hb : b < 4294967296) : a ^^^ b < 4294967296 := Nat.xor_lt_two_pow (n := 32) ha hb
set_option maxRecDepth 100000 in
set_option maxHeartbeats 2000000 in
theorem mix_c (g a b d n : Nat) (ws : List Nat) (w : World) (ht : Turns n) (hW : W16 ws) (hb : Blk w g 123 (vw ws)) (ha : a < 16) (hbb : b < 16) (hd : d < 16) :
    Calls Tryd.prog 96 #[.pointer (some ⟨g, 0, none⟩), .int .i64 a, .int .i64 b, .int .i64 d, .int .i64 n] w fun e w' => e = .returned (.tuple #[]) ∧ Blk w' g 123 (vw (mixL ws a b d n)) ∧ w.grownBy w' (some g) := by
  have p1 : (a : Int) < 16 := by omega
  have p2 : (b : Int) < 16 := by omega
  have p3 : (d : Int) < 16 := by omega
  have l := hW.len
  have hW1 := hW.set a ((ws.getD a 0 + ws.getD b 0) % 4294967296) ha (Nat.mod_lt _ (by decide))
  have d0 := (hb.cell a).trans (vw_at ws a (by omega))
  have d1 := (hb.cell b).trans (vw_at ws b (by omega))
  have e0 := hb.free a
  have x0 := hW.lt a
  have x1 := hW.lt b
  have f0 : IntKind.u32.wrap (((ws.getD a 0 : Nat) : Int) + ((ws.getD b 0 : Nat) : Int)) = (((ws.getD a 0 + ws.getD b 0) % 4294967296 : Nat) : Int) := by rw [wrap32]; omega
  have HM := Lib.hid (show mixL ws a b d n = ((ws.set a ((ws.getD a 0 + ws.getD b 0) % 4294967296)).set d (rotl ((ws.set a ((ws.getD a 0 + ws.getD b 0) % 4294967296)).getD d 0 ^^^ (ws.set a ((ws.getD a 0 + ws.getD b 0) % 4294967296)).getD a 0) n)) from rfl)
  have HS := Lib.hid (show ∀ v : Nat, Blk (w.setCell ⟨g, a, none⟩ (.int .u32 (v : Int))).drew g 123 (vw (ws.set a v)) ∧ w.grownBy (w.setCell ⟨g, a, none⟩ (.int .u32 (v : Int))).drew (some g) from fun v => ⟨by rw [← vw_set]; exact hb.set_ _ _, g1_drew (g1_set (g1_refl w g) _ _)⟩)
  clear hb
  generalize (ws.getD a 0 + ws.getD b 0) % 4294967296 = v at *
  generalize ws.getD a 0 = wa at *
  generalize ws.getD b 0 = wb at *
  have hs := HS.out v
  clear HS
  generalize ws.set a v = us at *
  go_enter Tryd.func96, Tryd.ntmps96
  go_wp2_with fail
  refine wp_region_still_tail 13 (by kernel_rfl) (by kernel_rfl) ?_
  simp only [List.take_succ_cons, List.take_zero, List.drop_succ_cons, List.drop_zero]
  repeat still_step
  try refine wpStill_nil ?_
  go_wp2_with fail
  obtain ⟨hs1, hs2⟩ := hs
  generalize (w.setCell ⟨g, a, none⟩ (.int .u32 (v : Int))).drew = W1 at *
  have l2 := hW1.len
  have c0 := (hs1.cell d).trans (vw_at us d (by omega))
  have c1 := (hs1.cell a).trans (vw_at us a (by omega))
  have e1 := hs1.free d
  have y0 := hW1.lt d
  have y1 := hW1.lt a
  have g0 := u32_xor_nat (us.getD d 0) (us.getD a 0) y0 y1
  have TT := Lib.hid (fun W => ht (us.getD d 0 ^^^ us.getD a 0) W (u32_xor_lt y0 y1))
  have HS := Lib.hid (show ∀ v : Nat, Blk (W1.setCell ⟨g, d, none⟩ (.int .u32 (v : Int))).drew g 123 (vw (us.set d v)) ∧ w.grownBy (W1.setCell ⟨g, d, none⟩ (.int .u32 (v : Int))).drew (some g) from fun v => ⟨by rw [← vw_set]; exact hs1.set_ _ _, g1_drew (g1_set hs2 _ _)⟩)
  clear hs1 hs2
  generalize us.getD d 0 ^^^ us.getD a 0 = q at *
  generalize us.getD d 0 = ud at *
  generalize us.getD a 0 = ua at *
  go_wp2_with fail
  refine wp_region_still_tail 17 (by kernel_rfl) (by kernel_rfl) ?_
  simp only [List.take_succ_cons, List.take_zero, List.drop_succ_cons, List.drop_zero]
  iterate 14 still_step
  still_call ((TT.out _).mono fun _ _ h => ⟨h.1, h.2.symm⟩)
  repeat still_step
  try refine wpStill_nil ?_
  have HS2 := HS.out (rotl q n)
  generalize rotl q n = r at *
  go_wp2_with fail
  refine bodyPost_end (results_none rfl _ _ _) rfl ?_
  exact ⟨rfl, by rw [HM.out]; exact HS2.1, HS2.2⟩
end Go.Proofs.YtaikejlcpnelpaaDoor
namespace Go.Proofs.YtaikejlcpnelpaaDoor
open Go.RowKit
set_option linter.unusedVariables false
set_option linter.unusedSimpArgs false
def pV (p : List Nat) : Array Value := (p.map fun (n : Nat) => Value.int .i64 (n : Int)).toArray
theorem len4 {l : List Nat} (h : l.length = 4) : ∃ a b c d, l = [a, b, c, d] := by
  match l, h with
  | [a, b, c, d], _ => exact ⟨a, b, c, d, rfl⟩
set_option maxRecDepth 100000 in
set_option maxHeartbeats 2000000 in
theorem quarter_c (g : Nat) (p ws : List Nat) (w : World) (hp : p.length = 4) (hpl : ∀ j, p.getD j 0 < 16) (hW : W16 ws) (hb : Blk w g 123 (vw ws)) :
    Calls Tryd.prog 81 #[.pointer (some ⟨g, 0, none⟩), .agg (pV p)] w fun e w' => e = .returned (.tuple #[]) ∧ Blk w' g 123 (vw (qtrL ws p)) ∧ w.grownBy w' (some g) := by
  obtain ⟨p0, p1, p2, p3, rfl⟩ := len4 hp
  have q0 : p0 < 16 := hpl 0
  have q1 : p1 < 16 := hpl 1
  have q2 : p2 < 16 := hpl 2
  have q3 : p3 < 16 := hpl 3
  have HQ := Lib.hid (show qtrL ws [p0, p1, p2, p3] = mixL (mixL (mixL (mixL ws p0 p1 p3 16) p2 p3 p1 12) p0 p1 p3 8) p2 p3 p1 7 from rfl)
  have hW1 := hW.mix p0 p1 p3 16 q0 q3 (by decide)
  have hW2 := hW1.mix p2 p3 p1 12 q2 q1 (by decide)
  have hW3 := hW2.mix p0 p1 p3 8 q0 q3 (by decide)
  have hgn : g ≠ w.heap.size := fun h => by have := hb.lt; omega
  clear hp hpl
  have M1 := Lib.hid (fun W (hB : Blk W g 123 (vw ws)) => mix_c g p0 p1 p3 16 ws W turns16 hW hB q0 q1 q3)
  have M2 := Lib.hid (fun W (hB : Blk W g 123 (vw (mixL ws p0 p1 p3 16))) => mix_c g p2 p3 p1 12 _ W turns12 hW1 hB q2 q3 q1)
  generalize mixL ws p0 p1 p3 16 = u1 at *
  have M3 := Lib.hid (fun W (hB : Blk W g 123 (vw (mixL u1 p2 p3 p1 12))) => mix_c g p0 p1 p3 8 _ W turns8 hW2 hB q0 q1 q3)
  generalize mixL u1 p2 p3 p1 12 = u2 at *
  have M4 := Lib.hid (fun W (hB : Blk W g 123 (vw (mixL u2 p0 p1 p3 8))) => mix_c g p2 p3 p1 7 _ W turns7 hW3 hB q2 q3 q1)
  generalize mixL u2 p0 p1 p3 8 = u3 at *
  have HB := Lib.hid hb
  clear hW hW1 hW2 hW3 hb
  go_enter Tryd.func81, Tryd.ntmps81
  go_upto_region 1 with (refine Go.Great.wpList_boxTo rfl 125 (.tmp 1) rfl (some 3) rfl w.heap.size rfl (pV [p0, p1, p2, p3]) rfl ?_)
  have hbx : Blk (w.alloc (Obj.cells (pV [p0, p1, p2, p3]) 125)) w.heap.size 125 (pV [p0, p1, p2, p3]) := Blk.new w _ _
  have hbg : Blk (w.alloc (Obj.cells (pV [p0, p1, p2, p3]) 125)) g 123 (vw ws) := HB.out.alloc _
  have hgr : w.grownBy (w.alloc (Obj.cells (pV [p0, p1, p2, p3]) 125)) (some g) := by
    exact ⟨rfl, rfl, rfl, by simp, fun k hk _ => heap_alloc_old _ _ hk⟩
  generalize w.alloc (Obj.cells (pV [p0, p1, p2, p3]) 125) = Z0 at *
  generalize w.heap.size = nx at *
  clear HB
  have c00 : Z0.cell? ⟨nx, 0, none⟩ = some (.int .i64 (p0 : Nat)) := hbx.cell 0
  have c01 : Z0.cell? ⟨nx, 1, none⟩ = some (.int .i64 (p1 : Nat)) := hbx.cell 1
  have c02 : Z0.cell? ⟨nx, 2, none⟩ = some (.int .i64 (p2 : Nat)) := hbx.cell 2
  have c03 : Z0.cell? ⟨nx, 3, none⟩ = some (.int .i64 (p3 : Nat)) := hbx.cell 3
  have BX0 := Lib.hid hbx
  have GR0 := Lib.hid hgr
  have CL0 := Lib.hid (M1.out Z0 hbg)
  clear hbx hbg hgr
  go_upto_region 2 with (go_at_call 96; (refine CL0.out.mono ?_); rintro e Z1 ⟨rfl, hbg, hg⟩; have hbx := g1_blk hg BX0.out (Ne.symm hgn); have hgr := GR0.out.trans hg; clear hg)
  have c10 : Z1.cell? ⟨nx, 0, none⟩ = some (.int .i64 (p0 : Nat)) := hbx.cell 0
  have c11 : Z1.cell? ⟨nx, 1, none⟩ = some (.int .i64 (p1 : Nat)) := hbx.cell 1
  have c12 : Z1.cell? ⟨nx, 2, none⟩ = some (.int .i64 (p2 : Nat)) := hbx.cell 2
  have c13 : Z1.cell? ⟨nx, 3, none⟩ = some (.int .i64 (p3 : Nat)) := hbx.cell 3
  have BX1 := Lib.hid hbx
  have GR1 := Lib.hid hgr
  have CL1 := Lib.hid (M2.out Z1 hbg)
  clear hbx hbg hgr
  go_upto_region 3 with (go_at_call 96; (refine CL1.out.mono ?_); rintro e Z2 ⟨rfl, hbg, hg⟩; have hbx := g1_blk hg BX1.out (Ne.symm hgn); have hgr := GR1.out.trans hg; clear hg)
  have c20 : Z2.cell? ⟨nx, 0, none⟩ = some (.int .i64 (p0 : Nat)) := hbx.cell 0
  have c21 : Z2.cell? ⟨nx, 1, none⟩ = some (.int .i64 (p1 : Nat)) := hbx.cell 1
  have c22 : Z2.cell? ⟨nx, 2, none⟩ = some (.int .i64 (p2 : Nat)) := hbx.cell 2
  have c23 : Z2.cell? ⟨nx, 3, none⟩ = some (.int .i64 (p3 : Nat)) := hbx.cell 3
  have BX2 := Lib.hid hbx
  have GR2 := Lib.hid hgr
  have CL2 := Lib.hid (M3.out Z2 hbg)
  clear hbx hbg hgr
  go_upto_region 4 with (go_at_call 96; (refine CL2.out.mono ?_); rintro e Z3 ⟨rfl, hbg, hg⟩; have hbx := g1_blk hg BX2.out (Ne.symm hgn); have hgr := GR2.out.trans hg; clear hg)
  have c30 : Z3.cell? ⟨nx, 0, none⟩ = some (.int .i64 (p0 : Nat)) := hbx.cell 0
  have c31 : Z3.cell? ⟨nx, 1, none⟩ = some (.int .i64 (p1 : Nat)) := hbx.cell 1
  have c32 : Z3.cell? ⟨nx, 2, none⟩ = some (.int .i64 (p2 : Nat)) := hbx.cell 2
  have c33 : Z3.cell? ⟨nx, 3, none⟩ = some (.int .i64 (p3 : Nat)) := hbx.cell 3
  have BX3 := Lib.hid hbx
  have GR3 := Lib.hid hgr
  have CL3 := Lib.hid (M4.out Z3 hbg)
  clear hbx hbg hgr
  go_wp2_with (go_at_call 96; (refine CL3.out.mono ?_); rintro e Z4 ⟨rfl, hbg, hg⟩; have hbx := g1_blk hg BX3.out (Ne.symm hgn); have hgr := GR3.out.trans hg; clear hg)
  refine bodyPost_end (results_none rfl _ _ _) rfl ?_
  exact ⟨rfl, by rw [HQ.out]; exact hbg, hgr⟩
end Go.Proofs.YtaikejlcpnelpaaDoor
namespace Go.Proofs.YtaikejlcpnelpaaDoor
open Go.RowKit
set_option linter.unusedVariables false
set_option linter.unusedSimpArgs false
theorem or_put {i a b n m : Nat} (h : b < 2 ^ i) (hn : n = 2 ^ i * a) (hm : n + b = m) : n ||| b = m := by
  rw [← hm, hn]
  exact (Nat.two_pow_add_eq_or_of_lt h a).symm
def le4 (l : List Nat) : Nat := number (l.take 4)
theorem le4_lt {l : List Nat} (hl : ∀ c ∈ l, c < 256) : le4 l < 4294967296 := by
  have h := number_lt (l.take 4) (fun c hc => hl c (List.mem_of_mem_take hc))
  have h2 : (l.take 4).length ≤ 4 := by rw [List.length_take]; omega
  exact Nat.lt_of_lt_of_le h (Nat.le_trans (Nat.pow_le_pow_right (by decide) h2) (by decide))
theorem le4_eq (l : List Nat) (h : 4 ≤ l.length) : le4 l = l.getD 0 0 + 256 * (l.getD 1 0 + 256 * (l.getD 2 0 + 256 * l.getD 3 0)) := by
  match l, h with
  | a :: b :: c :: d :: t, _ => simp [le4, number]; try omega
theorem le_facts (y0 y1 y2 y3 : Nat) (x0 : y0 < 256) (x1 : y1 < 256) (x2 : y2 < 256) (x3 : y3 < 256) :
    ∃ z1 z2 z3 s1 s2 le : Nat, (y1 : Int) * 256 = (z1 : Int) ∧ (y2 : Int) * 65536 = (z2 : Int) ∧ (y3 : Int) * 16777216 = (z3 : Int) ∧ le = y0 + 256 * (y1 + 256 * (y2 + 256 * y3)) ∧ IntKind.u32.wrap ((y1 : Int) * 256) = (z1 : Int) ∧ IntKind.u32.wrap ((y2 : Int) * 65536) = (z2 : Int) ∧ IntKind.u32.wrap ((y3 : Int) * 16777216) = (z3 : Int) ∧
      bits BinOp.or .u32 (y0 : Int) (z1 : Int) = (s1 : Int) ∧ bits BinOp.or .u32 (s1 : Int) (z2 : Int) = (s2 : Int) ∧ bits BinOp.or .u32 (s2 : Int) (z3 : Int) = (le : Int) := by
  refine ⟨y1 * 256, y2 * 65536, y3 * 16777216, y0 + y1 * 256, y0 + y1 * 256 + y2 * 65536, _, by omega, by omega, by omega, rfl, by rw [wrap32]; omega, by rw [wrap32]; omega, by rw [wrap32]; omega, ?_, ?_, ?_⟩
  · rw [u32_or_nat _ _ (by omega) (by omega), Nat.or_comm, or_put (i := 8) (a := y1) (m := y0 + y1 * 256) (by omega) (by omega) (by omega)]
  · rw [u32_or_nat _ _ (by omega) (by omega), Nat.or_comm, or_put (i := 16) (a := y2) (m := y0 + y1 * 256 + y2 * 65536) (by omega) (by omega) (by omega)]
  · rw [u32_or_nat _ _ (by omega) (by omega), Nat.or_comm, or_put (i := 24) (a := y3) (m := y0 + 256 * (y1 + 256 * (y2 + 256 * y3))) (by omega) (by omega) (by omega)]
set_option maxRecDepth 100000 in
set_option maxHeartbeats 2000000 in
theorem word_c (B : Nat) (ad : Addr) (n ca : Nat) (l : List Nat) (w : World) (hl : ∀ c ∈ l, c < 256) (hr : Rd w B (some ad) (byt l)) (h4 : 4 ≤ l.length) (hn : n = l.length) :
    Calls Tryd.prog 95 #[.slice (some ad) n ca] w fun e w' => e = .returned (.int .u32 (le4 l : Nat)) ∧ ∃ m, w' = w.drewN m := by
  have hcell : ∀ j, j < 4 → w.cell? (ad.add j) = some (.int .u8 (l.getD j 0 : Nat)) := fun j hj => by
    obtain ⟨a1, e1, _, hc⟩ := hr.byte (k := j) (by omega)
    injection e1 with e1
    subst e1
    exact hc
  have q0 := hcell 0 (by decide)
  have q1 := hcell 1 (by decide)
  have q2 := hcell 2 (by decide)
  have q3 := hcell 3 (by decide)
  have x0 := getD_lt hl 0
  have x1 := getD_lt hl 1
  have x2 := getD_lt hl 2
  have x3 := getD_lt hl 3
  have HE := Lib.hid (le4_eq l h4)
  rw [show ∀ a : Addr, a.add 0 = a from fun a => by simp [Addr.add]] at q0
  rw [show ∀ a : Addr, a.add 1 = ⟨a.block, a.off + 1, none⟩ from fun a => by simp [Addr.add]] at q1
  rw [show ∀ a : Addr, a.add 2 = ⟨a.block, a.off + 2, none⟩ from fun a => by simp [Addr.add]] at q2
  rw [show ∀ a : Addr, a.add 3 = ⟨a.block, a.off + 3, none⟩ from fun a => by simp [Addr.add]] at q3
  have m0 : 0 < n := by omega
  have m1 : 1 < n := by omega
  have m2 : 2 < n := by omega
  have m3 : 3 < n := by omega
  have n0 : (0 : Int) < (n : Int) := by omega
  have n1 : (1 : Int) < (n : Int) := by omega
  have n2 : (2 : Int) < (n : Int) := by omega
  have n3 : (3 : Int) < (n : Int) := by omega
  clear hcell hl hr h4 hn
  generalize l.getD 0 0 = y0 at *
  generalize l.getD 1 0 = y1 at *
  generalize l.getD 2 0 = y2 at *
  generalize l.getD 3 0 = y3 at *
  obtain ⟨z1, z2, z3, s1, s2, le, e1, e2, e3, hle, r1, r2, r3, o1, o2, o3⟩ := le_facts y0 y1 y2 y3 x0 x1 x2 x3
  rw [← hle] at HE
  rw [HE.out]
  clear hle HE
  have c0 : IntKind.u32.wrap (y0 : Int) = (y0 : Int) := by rw [wrap32]; omega
  have c1 : IntKind.u32.wrap (y1 : Int) = (y1 : Int) := by rw [wrap32]; omega
  have c2 : IntKind.u32.wrap (y2 : Int) = (y2 : Int) := by rw [wrap32]; omega
  have c3 : IntKind.u32.wrap (y3 : Int) = (y3 : Int) := by rw [wrap32]; omega
  go_enter Tryd.func95, Tryd.ntmps95
  go_wp2_with fail
  go_quiet (fail)
  go_wp2_with fail
  refine bodyPost_ret (results_tmp rfl _ _ _) rfl ?_
  exact ⟨rfl, _, rfl⟩
end Go.Proofs.YtaikejlcpnelpaaDoor
namespace Go.Proofs.YtaikejlcpnelpaaDoor
open Go.RowKit
set_option linter.unusedVariables false
set_option linter.unusedSimpArgs false
theorem blk_rdAt {w : World} {g : Nat} {T : TypeId} {l : List Nat} (h : Blk w g T (vb l)) (i : Nat) : Rd w (g + 1) (some ⟨g, i, none⟩) (byt (l.drop i)) := fun _ => ⟨_, rfl, Nat.lt_succ_self _, fun j u hu => by
  rw [Addr.add_mid, h.cell (i + j), ← hu]
  simp [vb, byt]⟩
def S0 : List Nat := [1634760805, 857760878, 2036477234, 1797285236, 0, 0, 0, 0, 0, 0, 0, 0, 0, 0, 0, 0]
def stk (k : List Nat) : Nat → List Nat
  | 0 => S0
  | i + 1 => (stk k i).set (4 + i) (le4 (k.drop (4 * i)))
def stn (k : List Nat) (n : Nat) (nonce : List Nat) : Nat → List Nat
  | 0 => (stk k 8).set 12 n
  | i + 1 => (stn k n nonce i).set (13 + i) (le4 (nonce.drop (4 * i)))
/-- what a block begins with -/
def startL (k : List Nat) (n : Nat) (nonce : List Nat) : List Nat := stn k n nonce 3
theorem stk_len (k : List Nat) (i : Nat) : (stk k i).length = 16 := by
  induction i with
  | zero => rfl
  | succ i ih => rw [stk, List.length_set]; exact ih
theorem stn_len (k : List Nat) (n : Nat) (nonce : List Nat) (i : Nat) : (stn k n nonce i).length = 16 := by
  induction i with
  | zero => rw [stn, List.length_set]; exact stk_len _ _
  | succ i ih => rw [stn, List.length_set]; exact ih
theorem startL_eq (k : List Nat) (n : Nat) (nonce : List Nat) : startL k n nonce = [1634760805, 857760878, 2036477234, 1797285236, le4 (k.drop 0), le4 (k.drop 4), le4 (k.drop 8), le4 (k.drop 12), le4 (k.drop 16), le4 (k.drop 20), le4 (k.drop 24), le4 (k.drop 28), n, le4 (nonce.drop 0), le4 (nonce.drop 4), le4 (nonce.drop 8)] := rfl
theorem startL_16 {k nonce : List Nat} {n : Nat} (hk : ∀ c ∈ k, c < 256) (hn : n < 4294967296) (hc : ∀ c ∈ nonce, c < 256) : W16 (startL k n nonce) := by
  refine ⟨by rw [startL_eq]; rfl, fun j => ?_⟩
  have h : ∀ c ∈ startL k n nonce, c < 4294967296 := by
    rw [startL_eq]
    intro c h
    simp only [List.mem_cons, List.not_mem_nil, or_false] at h
    have hk' := fun i => le4_lt (drop_lt hk i)
    have hc' := fun i => le4_lt (drop_lt hc i)
    rcases h with rfl | rfl | rfl | rfl | rfl | rfl | rfl | rfl | rfl | rfl | rfl | rfl | rfl | rfl | rfl | rfl <;> first | exact hk' _ | exact hc' _ | exact hn | decide
  rw [List.getD_eq_getElem?_getD]
  rcases Nat.lt_or_ge j (startL k n nonce).length with h1 | h1
  · rw [List.getElem?_eq_getElem h1]; exact h _ (List.getElem_mem _)
  · rw [List.getElem?_eq_none h1]; decide
def z16w : Array Value := vw (List.replicate 16 0)
theorem zero_16 (w : World) : (zeroValue 123).run Tryd.prog w = .ok (.agg z16w) w := by kernel_rfl
theorem built_16 : Tryd.prog.built 123 [(0, .int .u32 1634760805), (1, .int .u32 857760878), (2, .int .u32 2036477234), (3, .int .u32 1797285236)] = some (vw S0) := by kernel_rfl
/-- the blocks of a beginning -/
structure Sta (w W : World) (k nonce us : List Nat) : Prop where
  bel : Below w.heap.size w W
  kA : Blk W w.heap.size 23 (vb k)
  nA : Blk W (w.heap.size + 1) 25 (vb nonce)
  oA : Blk W (w.heap.size + 1 + 1) 123 z16w
  wA : Blk W (w.heap.size + 1 + 1 + 1) 123 (vw us)
theorem Sta.next {w W W' : World} {k nonce us : List Nat} (s : Sta w W k nonce us) (hb : Below W.heap.size W W') : Sta w W' k nonce us :=
  ⟨s.bel.trans (hb.mono s.bel.size), s.kA.below hb s.kA.lt, s.nA.below hb s.nA.lt, s.oA.below hb s.oA.lt, s.wA.below hb s.wA.lt⟩
theorem Sta.set {w W : World} {k nonce us : List Nat} (s : Sta w W k nonce us) (i n : Nat) : Sta w (W.setCell ⟨w.heap.size + 1 + 1 + 1, i, none⟩ (.int .u32 (n : Nat))) k nonce (us.set i n) :=
  ⟨s.bel.setCell (by simp; try omega) _, s.kA.far (p := ⟨w.heap.size + 1 + 1 + 1, i, none⟩) (by simp; try omega) _, s.nA.far (p := ⟨w.heap.size + 1 + 1 + 1, i, none⟩) (by simp; try omega) _, s.oA.far (p := ⟨w.heap.size + 1 + 1 + 1, i, none⟩) (by simp) _, by rw [← vw_set]; exact s.wA.set_ i _⟩
theorem heap4 (w : World) (a b c d : Obj) : (((((w.alloc a).alloc b).alloc c).alloc d)).heap[w.heap.size + 1 + 1 + 1]? = some d := by
  have h := heap_alloc_new (((w.alloc a).alloc b).alloc c) d
  have e : (((w.alloc a).alloc b).alloc c).heap.size = w.heap.size + 1 + 1 + 1 := by simp
  rw [e] at h
  exact h
theorem heap3 (w : World) (a b c : Obj) : ((((w.alloc a).alloc b).alloc c)).heap[w.heap.size + 1 + 1]? = some c := by
  have h := heap_alloc_new ((w.alloc a).alloc b) c
  have e : ((w.alloc a).alloc b).heap.size = w.heap.size + 1 + 1 := by simp
  rw [e] at h
  exact h
theorem heap2 (w : World) (a b : Obj) : ((((w.alloc a).alloc b))).heap[w.heap.size + 1]? = some b := by
  have h := heap_alloc_new (w.alloc a) b
  have e : (w.alloc a).heap.size = w.heap.size + 1 := by simp
  rw [e] at h
  exact h
theorem below_setRow (w : World) (g : Nat) (cs : Array Value) {n : Nat} (h : n ≤ g) : Below n w (w.setRow g cs) := ⟨rfl, rfl, rfl, by simp [World.setRow], fun i hi => setRow_other _ _ i _ (by omega)⟩
theorem Sta.begin (w : World) (k nonce : List Nat) : Sta w (((((w.alloc (Obj.cells (vb k) 23)).alloc (Obj.cells (vb nonce) 25)).alloc (Obj.cells z16w 123)).alloc (Obj.cells z16w 123)).setRow (w.heap.size + 1 + 1 + 1) (vw S0)) k nonce (stk k 0) := by
  refine ⟨?_, ?_, ?_, ?_, ?_⟩
  · exact (((((Below.refl _ _).alloc (Nat.le_refl _) _).alloc (by simp) _).alloc (by simp; omega) _).alloc (by simp; omega) _).trans (below_setRow _ _ _ (by omega))
  · exact (setRow_other _ _ _ _ (by omega)).trans ((((Blk.new w _ _).alloc _).alloc _).alloc _)
  · exact (setRow_other _ _ _ _ (by omega)).trans (((show Blk _ (w.heap.size + 1) _ _ from heap2 w _ _).alloc _).alloc _)
  · exact (setRow_other _ _ _ _ (by omega)).trans ((show Blk _ (w.heap.size + 1 + 1) _ _ from heap3 w _ _ _).alloc _)
  · exact setRow_heap _ _ _ _ _ (0, 0) (heap4 w _ _ _ _)
end Go.Proofs.YtaikejlcpnelpaaDoor
namespace Go.Proofs.YtaikejlcpnelpaaDoor
open Go.RowKit
set_option linter.unusedVariables false
set_option linter.unusedSimpArgs false
theorem rdn_drop {w : World} {g : Nat} {T : TypeId} {l : List Nat} (h : Blk w g T (vb l)) (hl : ∀ c ∈ l, c < 256) (i N : Nat) (hN : l.length = N) (hi : 4 * i + 4 ≤ N) :
    ∀ ca, Calls Tryd.prog 95 #[.slice (some ⟨g, 4 * i, none⟩) (N - 4 * i) ca] w fun e w' => e = .returned (.int .u32 (le4 (l.drop (4 * i)) : Nat)) ∧ ∃ m, w' = w.drewN m := fun ca =>
  word_c _ _ _ _ _ w (drop_lt hl _) (blk_rdAt h (4 * i)) (by rw [List.length_drop]; omega) (by rw [List.length_drop]; omega)
set_option maxRecDepth 100000 in
set_option maxHeartbeats 4000000 in
theorem start_c (k : List Nat) (n : Nat) (nonce : List Nat) (w : World) (hk : k.length = 32) (hkl : ∀ c ∈ k, c < 256) (hn : n < 4294967296) (hc : nonce.length = 12) (hcl : ∀ c ∈ nonce, c < 256) :
    Calls Tryd.prog 80 #[.agg (vb k), .int .u32 n, .agg (vb nonce)] w fun e w' => e = .returned (.agg (vw (startL k n nonce))) ∧ Below w.heap.size w w' := by
  have zf := zero_16
  have zs1 : z16w.size = 16 := by rfl
  have zs2 : ¬ z16w = #[] := by intro h; have := congrArg Array.size h; rw [zs1] at this; cases this
  have HK := Lib.hid hkl
  have HC := Lib.hid hcl
  have HBU := Lib.hid built_16
  have HIH := Lib.hid (show ∀ us : List Nat, us.length = 16 → (Tryd.prog.info? 123).map (·.size) = some (vw us).size from fun us h => by rw [vw_size, h]; kernel_rfl)
  have HZH := Lib.hid (show ∀ us : List Nat, us.length = 16 → z16w.size = (vw us).size from fun us h => by rw [vw_size, h]; rfl)
  clear hkl hcl
  go_enter Tryd.func80, Tryd.ntmps80
  go_upto_region 2 with (first
    | (refine Go.Great.wpList_boxTo rfl 23 (.tmp 0) rfl (some 3) rfl w.heap.size rfl (vb k) rfl ?_)
    | (refine Go.Great.wpList_boxTo rfl 25 (.tmp 2) rfl (some 5) rfl (w.heap.size + 1) (by simp) (vb nonce) rfl ?_)
    | (refine wpList_valG (by kernel_rfl) (.agg (vw S0)) (run_built _ 123 [(0, .int .u32 1634760805), (1, .int .u32 857760878), (2, .int .u32 2036477234), (3, .int .u32 1797285236)] _ HBU.out _ rfl rfl) ?_)
    | (refine wpList_store_rowTo rfl 123 (.tmp 7) (.tmp 10) rfl rfl (w.heap.size + 1 + 1 + 1) (vw S0) rfl rfl 123 z16w (by exact heap4 _ _ _ _ _) (HIH.out S0 rfl) (HZH.out S0 rfl) (vw_one _) ?_))
  obtain ⟨Z, hZ⟩ : ∃ Z, Z = ((((w.alloc (Obj.cells (vb k) 23)).alloc (Obj.cells (vb nonce) 25)).alloc (Obj.cells z16w 123)).alloc (Obj.cells z16w 123)).setRow (w.heap.size + 1 + 1 + 1) (vw S0) := ⟨_, rfl⟩
  have hs : Sta w Z k nonce (stk k 0) := by
    rw [hZ]
    exact Sta.begin w k nonce
  rw [← hZ]
  clear hZ zf zs1 zs2
  have HS := Lib.hid hs
  clear hs
  go_wp2_with fail
  go_loopw [8, 11] (fun u i wr => ∃ m : Nat, m ≤ 8 ∧ i = .int .i64 m ∧ Sta w wr k nonce (stk k m)) (fun _ i _ => 8 - (intOf i).toNat)
  case atStart => exact ⟨0, by omega, rfl, HS.out⟩
  case round =>
    rename World => wr
    obtain ⟨i, hi, rfl, hs⟩ := hrel
    have HT := Lib.hid hs
    clear hs
    by_cases hlt : i < 8
    · have p1 : (i : Int) < 8 := by omega
      have hcall := rdn_drop HT.out.kA HK.out i 32 hk (by omega)
      have HW := Lib.hid hcall
      have d0 := (HT.out.wA.cell (4 + i)).trans (vw_at _ (4 + i) (by rw [stk_len]; omega))
      have e0 := HT.out.wA.free (4 + i)
      have HST := Lib.hid (show stk k (i + 1) = (stk k i).set (4 + i) (le4 (k.drop (4 * i))) from rfl)
      have HSS := Lib.hid (show ∀ (m v : Nat), Sta w ((wr.drewN m).setCell ⟨w.heap.size + 1 + 1 + 1, 4 + i, none⟩ (.int .u32 (v : Nat))) k nonce ((stk k i).set (4 + i) v) from fun m v => (HT.out.next (belowDrewN m (Below.refl _ _))).set _ _)
      obtain ⟨a, ha⟩ : ∃ a, a = 4 + i := ⟨_, rfl⟩
      obtain ⟨b, hb⟩ : ∃ b, b = 4 * i := ⟨_, rfl⟩
      have p2 : b ≤ 32 := by omega
      have p3 : (4 : Int) * (i : Int) = (b : Int) := by omega
      have p4 : (4 : Int) + (i : Int) = (a : Int) := by omega
      have p5 : (a : Int) < 16 := by omega
      have p6 : (b : Int) ≤ 32 := by omega
      rw [← ha] at d0 e0 HST HSS
      rw [← hb] at HW HST
      clear hcall ha hb
      generalize le4 (k.drop b) = v at *
      go_wp2_with (go_at_call 95; (refine (HW.out _).mono ?_); rintro e w1 ⟨rfl, m, rfl⟩)
      exact ⟨⟨i + 1, by omega, by go_num, by rw [HST.out]; exact HSS.out _ _⟩, by simp only [intOf]; omega⟩
    · obtain rfl : i = 8 := by omega
      rw [show ((8 : Nat) : Int) = 8 from rfl]
      have d0 := (HT.out.wA.cell 12).trans (vw_at _ 12 (by rw [stk_len]; omega))
      have e0 := HT.out.wA.free 12
      have HS2 := Lib.hid (show Sta w (wr.setCell ⟨w.heap.size + 1 + 1 + 1, 12, none⟩ (.int .u32 (n : Nat))) k nonce (stn k n nonce 0) from HT.out.set 12 n)
      go_wp2_with fail
      generalize wr.setCell ⟨w.heap.size + 1 + 1 + 1, 12, none⟩ (.int .u32 (n : Nat)) = Z2 at *
      clear d0 e0 HT
      go_loopw [9, 24] (fun u i wr => ∃ m : Nat, m ≤ 3 ∧ i = .int .i64 m ∧ Sta w wr k nonce (stn k n nonce m)) (fun _ i _ => 3 - (intOf i).toNat)
      case atStart => exact ⟨0, by omega, rfl, HS2.out⟩
      case round =>
        rename World => wr
        obtain ⟨i, hi, rfl, hs⟩ := hrel
        have HT := Lib.hid hs
        clear hs
        by_cases hlt : i < 3
        · have p1 : (i : Int) < 3 := by omega
          have hcall := rdn_drop HT.out.nA HC.out i 12 hc (by omega)
          have HW := Lib.hid hcall
          have d0 := (HT.out.wA.cell (13 + i)).trans (vw_at _ (13 + i) (by rw [stn_len]; omega))
          have e0 := HT.out.wA.free (13 + i)
          have HST := Lib.hid (show stn k n nonce (i + 1) = (stn k n nonce i).set (13 + i) (le4 (nonce.drop (4 * i))) from rfl)
          have HSS := Lib.hid (show ∀ (m v : Nat), Sta w ((wr.drewN m).setCell ⟨w.heap.size + 1 + 1 + 1, 13 + i, none⟩ (.int .u32 (v : Nat))) k nonce ((stn k n nonce i).set (13 + i) v) from fun m v => (HT.out.next (belowDrewN m (Below.refl _ _))).set _ _)
          obtain ⟨a, ha⟩ : ∃ a, a = 13 + i := ⟨_, rfl⟩
          obtain ⟨b, hb⟩ : ∃ b, b = 4 * i := ⟨_, rfl⟩
          have p2 : b ≤ 12 := by omega
          have p3 : (4 : Int) * (i : Int) = (b : Int) := by omega
          have p4 : (13 : Int) + (i : Int) = (a : Int) := by omega
          have p5 : (a : Int) < 16 := by omega
          have p6 : (b : Int) ≤ 12 := by omega
          rw [← ha] at d0 e0 HST HSS
          rw [← hb] at HW HST
          clear hcall ha hb
          generalize le4 (nonce.drop b) = v at *
          go_wp2_with (go_at_call 95; (refine (HW.out _).mono ?_); rintro e w1 ⟨rfl, m, rfl⟩)
          go_roundw
          case rel => exact ⟨i + 1, by omega, by go_num, by rw [HST.out]; exact HSS.out _ _⟩
          case measure => simp only [intOf]; omega
        · obtain rfl : i = 3 := by omega
          have HE := Lib.hid (show Sta w wr k nonce (startL k n nonce) from HT.out)
          have HL := Lib.hid (show (startL k n nonce).length = 16 from rfl)
          clear HT
          obtain ⟨us, hus⟩ : ∃ us, us = startL k n nonce := ⟨_, rfl⟩
          have HU := Lib.hid hus
          rw [← hus] at HE HL
          clear hus
          go_wp2_with (first
            | (refine wpList_load_row rfl 123 (.tmp 7) rfl (w.heap.size + 1 + 1 + 1) rfl 123 (vw us) (0, 0) _ HE.out.wA Tryd.underlying123 rfl (HIH.out us HL.out) ?_)
            | (refine wpList_store_rowTo rfl 123 (.tmp 6) (.tmp 35) rfl rfl (w.heap.size + 1 + 1) (vw us) rfl rfl 123 z16w HE.out.oA (HIH.out us HL.out) (HZH.out us HL.out) (vw_one _) ?_))
          refine bodyPost_ret (results_cell_row rfl _ _ (w.heap.size + 1 + 1) 123 (vw us) (0, 0) _ rfl (setRow_heap wr (w.heap.size + 1 + 1) z16w _ 123 (0, 0) HE.out.oA) Tryd.underlying123 rfl (HIH.out us HL.out)) rfl ?_
          exact ⟨by rw [HU.out], HE.out.bel.trans (below_setRow _ _ _ (by omega))⟩
end Go.Proofs.YtaikejlcpnelpaaDoor
namespace Go.Proofs.YtaikejlcpnelpaaDoor
open Go.RowKit
set_option linter.unusedVariables false
set_option linter.unusedSimpArgs false
def qs : List (List Nat) := [[0, 4, 8, 12], [1, 5, 9, 13], [2, 6, 10, 14], [3, 7, 11, 15], [0, 5, 10, 15], [1, 6, 11, 12], [2, 7, 8, 13], [3, 4, 9, 14]]
theorem qs_len (j : Nat) (h : j < 8) : (qs.getD j []).length = 4 := (show ∀ j, j < 8 → (qs.getD j []).length = 4 by decide) j h
theorem qs_lt (j : Nat) (h : j < 8) : ∀ i, (qs.getD j []).getD i 0 < 16 := fun i => by
  rcases Nat.lt_or_ge i 4 with h1 | h1
  · exact (show ∀ j, j < 8 → ∀ i, i < 4 → (qs.getD j []).getD i 0 < 16 by decide) j h i h1
  · rw [List.getD_eq_getElem?_getD, List.getElem?_eq_none (by rw [qs_len j h]; exact h1)]; decide
def qrt (us : List Nat) : Nat → List Nat
  | 0 => us
  | j + 1 => qtrL (qrt us j) (qs.getD j [])
def rnds (us : List Nat) : Nat → List Nat
  | 0 => us
  | i + 1 => qrt (rnds us i) 8
theorem W16.qrt {us : List Nat} (h : W16 us) (j : Nat) (hj : j ≤ 8) : W16 (qrt us j) := by
  induction j with
  | zero => exact h
  | succ j ih => exact (ih (by omega)).qtr (qs_lt j (by omega))
theorem W16.rnds {us : List Nat} (h : W16 us) (i : Nat) : W16 (rnds us i) := by
  induction i with
  | zero => exact h
  | succ i ih => exact ih.qrt 8 (Nat.le_refl _)
def outB (us fr : List Nat) (i : Nat) : Nat := (us.getD (i / 4) 0 + fr.getD (i / 4) 0) % 4294967296 / 256 ^ (i % 4) % 256
/-- a block of the stream -/
def blkL (k : List Nat) (n : Nat) (nonce : List Nat) : List Nat := (List.range 64).map (outB (rnds (startL k n nonce) 10) (startL k n nonce))
theorem blkL_len (k : List Nat) (n : Nat) (nonce : List Nat) : (blkL k n nonce).length = 64 := by simp [blkL]
theorem blkL_lt (k : List Nat) (n : Nat) (nonce : List Nat) : ∀ c ∈ blkL k n nonce, c < 256 := fun c hc => by
  obtain ⟨i, _, rfl⟩ := List.mem_map.1 hc
  exact Nat.mod_lt _ (by decide)
def mapZ (f : Nat → Nat) (n i : Nat) : List Nat := (List.range i).map f ++ List.replicate (n - i) 0
theorem mapZ_len (f : Nat → Nat) (n i : Nat) (h : i ≤ n) : (mapZ f n i).length = n := by simp [mapZ]; omega
theorem mapZ_zero (f : Nat → Nat) (n : Nat) : mapZ f n 0 = List.replicate n 0 := by simp [mapZ]
theorem mapZ_end (f : Nat → Nat) (n : Nat) : mapZ f n n = (List.range n).map f := by simp [mapZ]
theorem mapZ_set (f : Nat → Nat) (n i : Nat) (h : i < n) : (mapZ f n i).set i (f i) = mapZ f n (i + 1) := by
  have hl : ((List.range i).map f).length = i := by simp
  unfold mapZ
  rw [List.set_append_right _ _ (by rw [hl]; exact Nat.le_refl _), hl, Nat.sub_self, show n - i = (n - (i + 1)) + 1 by omega, List.replicate_succ, List.set_cons_zero, List.range_succ, List.map_append]
  simp
def qcells : Array Value := #[.int .i64 0, .int .i64 4, .int .i64 8, .int .i64 12, .int .i64 1, .int .i64 5, .int .i64 9, .int .i64 13, .int .i64 2, .int .i64 6, .int .i64 10, .int .i64 14, .int .i64 3, .int .i64 7, .int .i64 11, .int .i64 15, .int .i64 0, .int .i64 5, .int .i64 10, .int .i64 15, .int .i64 1, .int .i64 6, .int .i64 11, .int .i64 12, .int .i64 2, .int .i64 7, .int .i64 8, .int .i64 13, .int .i64 3, .int .i64 4, .int .i64 9, .int .i64 14]
theorem run_index_q0 (w : World) : (Instr.index 126 (.agg qcells) (.int .i64 0)).run Tryd.prog w = .ok (.agg (pV [0, 4, 8, 12])) w := by kernel_rfl
theorem run_index_q1 (w : World) : (Instr.index 126 (.agg qcells) (.int .i64 1)).run Tryd.prog w = .ok (.agg (pV [1, 5, 9, 13])) w := by kernel_rfl
theorem run_index_q2 (w : World) : (Instr.index 126 (.agg qcells) (.int .i64 2)).run Tryd.prog w = .ok (.agg (pV [2, 6, 10, 14])) w := by kernel_rfl
theorem run_index_q3 (w : World) : (Instr.index 126 (.agg qcells) (.int .i64 3)).run Tryd.prog w = .ok (.agg (pV [3, 7, 11, 15])) w := by kernel_rfl
theorem run_index_q4 (w : World) : (Instr.index 126 (.agg qcells) (.int .i64 4)).run Tryd.prog w = .ok (.agg (pV [0, 5, 10, 15])) w := by kernel_rfl
theorem run_index_q5 (w : World) : (Instr.index 126 (.agg qcells) (.int .i64 5)).run Tryd.prog w = .ok (.agg (pV [1, 6, 11, 12])) w := by kernel_rfl
theorem run_index_q6 (w : World) : (Instr.index 126 (.agg qcells) (.int .i64 6)).run Tryd.prog w = .ok (.agg (pV [2, 7, 8, 13])) w := by kernel_rfl
theorem run_index_q7 (w : World) : (Instr.index 126 (.agg qcells) (.int .i64 7)).run Tryd.prog w = .ok (.agg (pV [3, 4, 9, 14])) w := by kernel_rfl
theorem run_index_q (m : Nat) (hm : m < 8) (w : World) : (Instr.index 126 (.agg qcells) (.int .i64 (m : Int))).run Tryd.prog w = .ok (.agg (pV (qs.getD m []))) w := by
  have h : m = 0 ∨ m = 1 ∨ m = 2 ∨ m = 3 ∨ m = 4 ∨ m = 5 ∨ m = 6 ∨ m = 7 := by omega
  rcases h with rfl | rfl | rfl | rfl | rfl | rfl | rfl | rfl
  · exact run_index_q0 w
  · exact run_index_q1 w
  · exact run_index_q2 w
  · exact run_index_q3 w
  · exact run_index_q4 w
  · exact run_index_q5 w
  · exact run_index_q6 w
  · exact run_index_q7 w
def QuartersAt (w : World) : Prop := w.rangeAt 0 0 qcells.toList ∧ 0 < w.heap.size
theorem QuartersAt.next {w w' : World} (h : QuartersAt w) (hb : Below w.heap.size w w') : QuartersAt w' := ⟨fun j v hv => (hb.cell (p := ⟨0, 0 + j, none⟩) h.2).trans (h.1 j v hv), Nat.lt_of_lt_of_le h.2 hb.size⟩
def z4 : Array Value := pV [0, 0, 0, 0]
theorem zero_4 (w : World) : (zeroValue 125).run Tryd.prog w = .ok (.agg z4) w := by kernel_rfl
def z64 : List Nat := List.replicate 64 0
theorem zero_64b (w : World) : (zeroValue 113).run Tryd.prog w = .ok (.agg (vb z64)) w := by kernel_rfl
theorem pV_size (p : List Nat) : (pV p).size = p.length := by simp [pV]
theorem pV_one (p : List Nat) : (pV p).all (·.oneCell') = true := by
  rw [Array.all_eq_true_iff_forall_mem]
  intro v hv
  simp only [pV, List.mem_toArray, List.mem_map] at hv
  obtain ⟨n, _, rfl⟩ := hv
  rfl
theorem pV_info (p : List Nat) (h : p.length = 4) : (Tryd.prog.info? 125).map (·.size) = some (pV p).size := by rw [pV_size, h]; kernel_rfl
theorem pV_z4 (p : List Nat) (h : p.length = 4) : z4.size = (pV p).size := by rw [pV_size, h]; rfl
theorem qcells_info : (Tryd.prog.info? 126).map (·.size) = some qcells.toList.length := by kernel_rfl
theorem qcells_arr : qcells.toList.toArray = qcells := rfl
/-- the blocks of memory while a block is made -/
structure Bst (w W : World) (gR gF gW : Nat) (fr us : List Nat) : Prop where
  bel : Below w.heap.size w W
  rA : Blk W gR 113 (vb z64)
  fA : Blk W gF 123 (vw fr)
  wA : Blk W gW 123 (vw us)
  n1 : gR ≠ gW
  n2 : gF ≠ gW
  up : w.heap.size ≤ gW
theorem Bst.next {w W W' : World} {gR gF gW : Nat} {fr us : List Nat} (s : Bst w W gR gF gW fr us) (hb : Below W.heap.size W W') : Bst w W' gR gF gW fr us :=
  ⟨s.bel.trans (hb.mono s.bel.size), s.rA.below hb s.rA.lt, s.fA.below hb s.fA.lt, s.wA.below hb s.wA.lt, s.n1, s.n2, s.up⟩
theorem Bst.grown {w W W' : World} {gR gF gW : Nat} {fr us vs : List Nat} (s : Bst w W gR gF gW fr us) (hb : W.grownBy W' (some gW)) (hv : Blk W' gW 123 (vw vs)) : Bst w W' gR gF gW fr vs :=
  ⟨g1_below_refl hb s.bel s.up s.bel.size, g1_blk hb s.rA s.n1, g1_blk hb s.fA s.n2, hv, s.n1, s.n2, s.up⟩
theorem Bst.quarters {w W : World} {gR gF gW : Nat} {fr us : List Nat} (s : Bst w W gR gF gW fr us) (h : QuartersAt w) : QuartersAt W := h.next s.bel
theorem new_row (W : World) (T : TypeId) (old cs : Array Value) : Blk ((W.alloc (Obj.cells old T)).setRow W.heap.size cs) W.heap.size T cs ∧ Below W.heap.size W ((W.alloc (Obj.cells old T)).setRow W.heap.size cs) :=
  ⟨setRow_heap _ _ _ _ _ (0, 0) (Blk.new W _ _), ((Below.refl _ _).alloc (Nat.le_refl _) _).trans (below_setRow _ _ _ (Nat.le_refl _))⟩
structure Bo (w W : World) (gR gF gW gO : Nat) (fr us os : List Nat) : Prop where
  st : Bst w W gR gF gW fr us
  oA : Blk W gO 113 (vb os)
  nR : gR ≠ gO
  nF : gF ≠ gO
  nW : gW ≠ gO
  up : w.heap.size ≤ gO
theorem Bo.set {w W : World} {gR gF gW gO : Nat} {fr us os : List Nat} (s : Bo w W gR gF gW gO fr us os) (i c : Nat) : Bo w (W.setCell ⟨gO, i, none⟩ (.int .u8 (c : Int))).drew gR gF gW gO fr us (os.set i c) :=
  ⟨⟨(s.st.bel.setCell (by show w.heap.size ≤ gO; exact s.up) _).drew, s.st.rA.far (p := ⟨gO, i, none⟩) s.nR _, s.st.fA.far (p := ⟨gO, i, none⟩) s.nF _, s.st.wA.far (p := ⟨gO, i, none⟩) s.nW _, s.st.n1, s.st.n2, s.st.up⟩, by rw [← vb_set]; exact s.oA.set_ i _, s.nR, s.nF, s.nW, s.up⟩
theorem Bst.out {w W : World} {gR gF gW : Nat} {fr us : List Nat} (s : Bst w W gR gF gW fr us) : Bo w (W.alloc (Obj.cells (vb z64) 113)) gR gF gW W.heap.size fr us z64 :=
  ⟨s.next ((Below.refl _ _).alloc (Nat.le_refl _) _), Blk.new W _ _, by have := s.rA.lt; omega, by have := s.fA.lt; omega, by have := s.wA.lt; omega, s.bel.size⟩
end Go.Proofs.YtaikejlcpnelpaaDoor
/- Contracts of the document's stream: a turn; a quarter. -/
namespace Go.Proofs.YtaikejlcpnelpaaDoor
set_option maxRecDepth 100000
open Go.RowKit
set_option linter.unusedVariables false
set_option linter.unusedSimpArgs false
set_option maxRecDepth 100000 in
set_option maxHeartbeats 1000000 in
theorem rturn_c (x n : Nat) (w : World) (hx : x < 4294967296) (hn : n ≤ 32) : Calls Tryd.prog 75 #[.int .u32 x, .int .i64 n] w fun e w' => e = .returned (.int .u32 (rotl x n : Nat)) ∧ w = w' := by
  have HZ := Lib.hid (rotl_zero x hx)
  go_enter Tryd.func75, Tryd.ntmps75
  go_wp2_with fail
  go_loopw [0, 5] (fun xv i wr => ∃ m : Nat, m ≤ n ∧ i = .int .i64 m ∧ xv = .int .u32 (rotl x m : Nat) ∧ wr = w) (fun _ i _ => n - (intOf i).toNat)
  case atStart => exact ⟨0, by omega, rfl, by rw [HZ.out], rfl⟩
  case round =>
    rename World => wr
    obtain ⟨m, hm, rfl, rfl, rfl⟩ := hrel
    by_cases hlt : m < n
    · have p1 : (m : Int) < (n : Int) := by omega
      have HS := Lib.hid (rotl_succ x m hx (by omega))
      have hy := rotl_lt x m hx (by omega)
      have hz := rotl_lt x (m + 1) hx (by omega)
      obtain ⟨z, hzz⟩ : ∃ z, z = rotl x (m + 1) := ⟨_, rfl⟩
      have HZZ := Lib.hid hzz
      rw [← hzz] at HS hz
      clear hzz
      generalize rotl x m = y at *
      obtain ⟨t, ht⟩ : ∃ t, t = y / 2147483648 := ⟨_, rfl⟩
      obtain ⟨u, hu⟩ : ∃ u, u = y * 2 % 4294967296 := ⟨_, rfl⟩
      have hs := HS.out
      have f0 : (y : Int) / 2147483648 = (t : Int) := by omega
      have f1 : IntKind.u32.wrap ((y : Int) * 2) = (u : Int) := by rw [wrap32]; omega
      have f2 : IntKind.u32.wrap ((u : Int) + (t : Int)) = (z : Int) := by rw [wrap32]; omega
      clear hs HS ht hu HZ
      go_wp2_with fail
      go_roundw
      case rel => exact ⟨m + 1, by omega, by go_num, by rw [← HZZ.out], by first | trivial | rfl⟩
      case measure => simp only [intOf]; omega
    · obtain rfl : m = n := by omega
      go_wp2_with fail
      refine bodyPost_ret (results_tmp rfl _ _ _) rfl ?_
      exact ⟨rfl, rfl⟩
theorem rTurns (n : Nat) (hn : n ≤ 32) (x : Nat) (w : World) (hx : x < 4294967296) : Calls Tryd.prog 75 #[.int .u32 x, .int .i64 n] w fun e w' => e = .returned (.int .u32 (rotl x n : Nat)) ∧ w = w' := rturn_c x n w hx hn
/-- words, and what lies behind them in their row -/
def vx (l : List Nat) (rest : List Value) : Array Value := (w32 l ++ rest).toArray
theorem vx_at (l : List Nat) (rest : List Value) (i : Nat) (h : i < l.length) : (vx l rest)[i]? = some (.int .u32 (l.getD i 0 : Nat)) := by
  unfold vx
  rw [List.getElem?_toArray, List.getElem?_append_left (by rw [w32_len]; exact h)]
  have := vw_at l i h
  simpa only [vw, List.getElem?_toArray] using this
theorem vx_set (l : List Nat) (rest : List Value) (i n : Nat) (h : i < l.length) : (vx l rest).setIfInBounds i (.int .u32 (n : Nat)) = vx (l.set i n) rest := by
  unfold vx
  rw [List.setIfInBounds_toArray, List.set_append_left _ _ (by rw [w32_len]; exact h)]
  simp [w32, List.map_set]
set_option maxRecDepth 100000 in
set_option maxHeartbeats 8000000 in
theorem rquarter_c (g ca a b c d : Nat) (ws : List Nat) (rest : List Value) (w : World) (hW0 : W16 ws) (hb : Blk w g 26 (vx ws rest)) (ha : a < 16) (hbb : b < 16) (hc : c < 16) (hd : d < 16) :
    Calls Tryd.prog 60 #[.slice (some ⟨g, 0, none⟩) 16 ca, .int .i64 a, .int .i64 b, .int .i64 c, .int .i64 d] w fun e w' => e = .returned (.tuple #[]) ∧ Blk w' g 26 (vx (qtrL ws [a, b, c, d]) rest) ∧ w.grownBy w' (some g) := by
  have pa : (a : Int) < 16 := by omega
  have pb : (b : Int) < 16 := by omega
  have pc : (c : Int) < 16 := by omega
  have pd : (d : Int) < 16 := by omega
  have HQ := Lib.hid (show qtrL ws [a, b, c, d] = mixL (mixL (mixL (mixL ws a b d 16) c d b 12) a b d 8) c d b 7 from rfl)
  have hW1 := hW0.mix a b d 16 (by omega) (by omega) (by decide)
  have hV0 := hW0.set a ((ws.getD a 0 + ws.getD b 0) % 4294967296) (by omega) (Nat.mod_lt _ (by decide))
  obtain ⟨u0, hu0⟩ : ∃ u, u = ws.set a ((ws.getD a 0 + ws.getD b 0) % 4294967296) := ⟨_, rfl⟩
  have HM0 := Lib.hid (show mixL ws a b d 16 = u0.set d (rotl (u0.getD d 0 ^^^ u0.getD a 0) 16) by rw [hu0]; rfl)
  rw [← hu0] at hV0
  generalize mixL ws a b d 16 = v1 at *
  have hW2 := hW1.mix c d b 12 (by omega) (by omega) (by decide)
  have hV1 := hW1.set c ((v1.getD c 0 + v1.getD d 0) % 4294967296) (by omega) (Nat.mod_lt _ (by decide))
  obtain ⟨u1, hu1⟩ : ∃ u, u = v1.set c ((v1.getD c 0 + v1.getD d 0) % 4294967296) := ⟨_, rfl⟩
  have HM1 := Lib.hid (show mixL v1 c d b 12 = u1.set b (rotl (u1.getD b 0 ^^^ u1.getD c 0) 12) by rw [hu1]; rfl)
  rw [← hu1] at hV1
  generalize mixL v1 c d b 12 = v2 at *
  have hW3 := hW2.mix a b d 8 (by omega) (by omega) (by decide)
  have hV2 := hW2.set a ((v2.getD a 0 + v2.getD b 0) % 4294967296) (by omega) (Nat.mod_lt _ (by decide))
  obtain ⟨u2, hu2⟩ : ∃ u, u = v2.set a ((v2.getD a 0 + v2.getD b 0) % 4294967296) := ⟨_, rfl⟩
  have HM2 := Lib.hid (show mixL v2 a b d 8 = u2.set d (rotl (u2.getD d 0 ^^^ u2.getD a 0) 8) by rw [hu2]; rfl)
  rw [← hu2] at hV2
  generalize mixL v2 a b d 8 = v3 at *
  have hW4 := hW3.mix c d b 7 (by omega) (by omega) (by decide)
  have hV3 := hW3.set c ((v3.getD c 0 + v3.getD d 0) % 4294967296) (by omega) (Nat.mod_lt _ (by decide))
  obtain ⟨u3, hu3⟩ : ∃ u, u = v3.set c ((v3.getD c 0 + v3.getD d 0) % 4294967296) := ⟨_, rfl⟩
  have HM3 := Lib.hid (show mixL v3 c d b 7 = u3.set b (rotl (u3.getD b 0 ^^^ u3.getD c 0) 7) by rw [hu3]; rfl)
  rw [← hu3] at hV3
  obtain ⟨v4, hv4⟩ : ∃ v, v = mixL v3 c d b 7 := ⟨_, rfl⟩
  rw [← hv4] at HM3 hW4 HQ
  clear hv4
  have hg0 := g1_refl w g
  have hs0 := hb
  clear hb
  go_enter Tryd.func60, Tryd.ntmps60
  have d0 := (hs0.cell a).trans (vx_at ws rest a (by rw [hW0.len]; omega))
  have d1 := (hs0.cell b).trans (vx_at ws rest b (by rw [hW0.len]; omega))
  have e0 := hs0.free a
  have x0 := hW0.lt a
  have x1 := hW0.lt b
  have l0 := hW0.len
  obtain ⟨s, hs⟩ : ∃ s, s = (ws.getD a 0 + ws.getD b 0) % 4294967296 := ⟨_, rfl⟩
  have f0 : IntKind.u32.wrap (((ws.getD a 0 : Nat) : Int) + ((ws.getD b 0 : Nat) : Int)) = (s : Int) := by rw [wrap32]; omega
  rw [← hs] at hu0
  have HS := Lib.hid (show Blk (w.setCell ⟨g, a, none⟩ (.int .u32 (s : Int))).drew g 26 (vx u0 rest) ∧ w.grownBy (w.setCell ⟨g, a, none⟩ (.int .u32 (s : Int))).drew (some g) from ⟨by rw [hu0, ← vx_set _ _ _ _ (by rw [l0]; omega)]; exact hs0.set_ _ _, g1_drew (g1_set hg0 _ _)⟩)
  clear hs hu0 hs0 hg0 x0 x1 l0
  generalize ws.getD a 0 = y0 at *
  generalize ws.getD b 0 = y1 at *
  go_wp2_with fail
  refine wp_region_still_tail 12 (by kernel_rfl) (by kernel_rfl) ?_
  simp only [List.take_succ_cons, List.take_zero, List.drop_succ_cons, List.drop_zero]
  repeat still_step
  try refine wpStill_nil ?_
  go_upto_region 1 with fail
  generalize (w.setCell ⟨g, a, none⟩ (.int .u32 (s : Int))).drew = Z0 at *
  obtain ⟨hs0, hg0⟩ := HS.out
  clear d0 d1 e0 f0 HS
  have d0 := (hs0.cell d).trans (vx_at u0 rest d (by rw [hV0.len]; omega))
  have d1 := (hs0.cell a).trans (vx_at u0 rest a (by rw [hV0.len]; omega))
  have e0 := hs0.free d
  have x0 := hV0.lt d
  have x1 := hV0.lt a
  have l0 := hV0.len
  have f0 := u32_xor_nat (u0.getD d 0) (u0.getD a 0) x0 x1
  have TT := Lib.hid (fun W => rTurns 16 (by decide) (u0.getD d 0 ^^^ u0.getD a 0) W (u32_xor_lt x0 x1))
  generalize u0.getD d 0 ^^^ u0.getD a 0 = q at *
  generalize u0.getD d 0 = y0 at *
  generalize u0.getD a 0 = y1 at *
  generalize rotl q 16 = r at *
  have HS := Lib.hid (show Blk (Z0.setCell ⟨g, d, none⟩ (.int .u32 (r : Int))).drew g 26 (vx v1 rest) ∧ w.grownBy (Z0.setCell ⟨g, d, none⟩ (.int .u32 (r : Int))).drew (some g) from ⟨by rw [HM0.out, ← vx_set _ _ _ _ (by rw [l0]; omega)]; exact hs0.set_ _ _, g1_drew (g1_set hg0 _ _)⟩)
  clear hs0 hg0 x0 x1 l0
  refine wp_region_still_tail 13 (by kernel_rfl) (by kernel_rfl) ?_
  simp only [List.take_succ_cons, List.take_zero, List.drop_succ_cons, List.drop_zero]
  iterate 11 still_step
  still_call ((TT.out _).mono fun _ _ h => ⟨h.1, h.2.symm⟩)
  repeat still_step
  try refine wpStill_nil ?_
  go_upto_region 2 with fail
  generalize (Z0.setCell ⟨g, d, none⟩ (.int .u32 (r : Int))).drew = Z1 at *
  obtain ⟨hs0, hg0⟩ := HS.out
  clear d0 d1 e0 f0 HS TT
  have d0 := (hs0.cell c).trans (vx_at v1 rest c (by rw [hW1.len]; omega))
  have d1 := (hs0.cell d).trans (vx_at v1 rest d (by rw [hW1.len]; omega))
  have e0 := hs0.free c
  have x0 := hW1.lt c
  have x1 := hW1.lt d
  have l0 := hW1.len
  obtain ⟨s, hs⟩ : ∃ s, s = (v1.getD c 0 + v1.getD d 0) % 4294967296 := ⟨_, rfl⟩
  have f0 : IntKind.u32.wrap (((v1.getD c 0 : Nat) : Int) + ((v1.getD d 0 : Nat) : Int)) = (s : Int) := by rw [wrap32]; omega
  rw [← hs] at hu1
  have HS := Lib.hid (show Blk (Z1.setCell ⟨g, c, none⟩ (.int .u32 (s : Int))).drew g 26 (vx u1 rest) ∧ w.grownBy (Z1.setCell ⟨g, c, none⟩ (.int .u32 (s : Int))).drew (some g) from ⟨by rw [hu1, ← vx_set _ _ _ _ (by rw [l0]; omega)]; exact hs0.set_ _ _, g1_drew (g1_set hg0 _ _)⟩)
  clear hs hu1 hs0 hg0 x0 x1 l0
  generalize v1.getD c 0 = y0 at *
  generalize v1.getD d 0 = y1 at *
  go_wp2_with fail
  refine wp_region_still_tail 12 (by kernel_rfl) (by kernel_rfl) ?_
  simp only [List.take_succ_cons, List.take_zero, List.drop_succ_cons, List.drop_zero]
  repeat still_step
  try refine wpStill_nil ?_
  go_upto_region 3 with fail
  generalize (Z1.setCell ⟨g, c, none⟩ (.int .u32 (s : Int))).drew = Z2 at *
  obtain ⟨hs0, hg0⟩ := HS.out
  clear d0 d1 e0 f0 HS
  have d0 := (hs0.cell b).trans (vx_at u1 rest b (by rw [hV1.len]; omega))
  have d1 := (hs0.cell c).trans (vx_at u1 rest c (by rw [hV1.len]; omega))
  have e0 := hs0.free b
  have x0 := hV1.lt b
  have x1 := hV1.lt c
  have l0 := hV1.len
  have f0 := u32_xor_nat (u1.getD b 0) (u1.getD c 0) x0 x1
  have TT := Lib.hid (fun W => rTurns 12 (by decide) (u1.getD b 0 ^^^ u1.getD c 0) W (u32_xor_lt x0 x1))
  generalize u1.getD b 0 ^^^ u1.getD c 0 = q at *
  generalize u1.getD b 0 = y0 at *
  generalize u1.getD c 0 = y1 at *
  generalize rotl q 12 = r at *
  have HS := Lib.hid (show Blk (Z2.setCell ⟨g, b, none⟩ (.int .u32 (r : Int))).drew g 26 (vx v2 rest) ∧ w.grownBy (Z2.setCell ⟨g, b, none⟩ (.int .u32 (r : Int))).drew (some g) from ⟨by rw [HM1.out, ← vx_set _ _ _ _ (by rw [l0]; omega)]; exact hs0.set_ _ _, g1_drew (g1_set hg0 _ _)⟩)
  clear hs0 hg0 x0 x1 l0
  refine wp_region_still_tail 13 (by kernel_rfl) (by kernel_rfl) ?_
  simp only [List.take_succ_cons, List.take_zero, List.drop_succ_cons, List.drop_zero]
  iterate 11 still_step
  still_call ((TT.out _).mono fun _ _ h => ⟨h.1, h.2.symm⟩)
  repeat still_step
  try refine wpStill_nil ?_
  go_upto_region 4 with fail
  generalize (Z2.setCell ⟨g, b, none⟩ (.int .u32 (r : Int))).drew = Z3 at *
  obtain ⟨hs0, hg0⟩ := HS.out
  clear d0 d1 e0 f0 HS TT
  have d0 := (hs0.cell a).trans (vx_at v2 rest a (by rw [hW2.len]; omega))
  have d1 := (hs0.cell b).trans (vx_at v2 rest b (by rw [hW2.len]; omega))
  have e0 := hs0.free a
  have x0 := hW2.lt a
  have x1 := hW2.lt b
  have l0 := hW2.len
  obtain ⟨s, hs⟩ : ∃ s, s = (v2.getD a 0 + v2.getD b 0) % 4294967296 := ⟨_, rfl⟩
  have f0 : IntKind.u32.wrap (((v2.getD a 0 : Nat) : Int) + ((v2.getD b 0 : Nat) : Int)) = (s : Int) := by rw [wrap32]; omega
  rw [← hs] at hu2
  have HS := Lib.hid (show Blk (Z3.setCell ⟨g, a, none⟩ (.int .u32 (s : Int))).drew g 26 (vx u2 rest) ∧ w.grownBy (Z3.setCell ⟨g, a, none⟩ (.int .u32 (s : Int))).drew (some g) from ⟨by rw [hu2, ← vx_set _ _ _ _ (by rw [l0]; omega)]; exact hs0.set_ _ _, g1_drew (g1_set hg0 _ _)⟩)
  clear hs hu2 hs0 hg0 x0 x1 l0
  generalize v2.getD a 0 = y0 at *
  generalize v2.getD b 0 = y1 at *
  go_wp2_with fail
  refine wp_region_still_tail 12 (by kernel_rfl) (by kernel_rfl) ?_
  simp only [List.take_succ_cons, List.take_zero, List.drop_succ_cons, List.drop_zero]
  repeat still_step
  try refine wpStill_nil ?_
  go_upto_region 5 with fail
  generalize (Z3.setCell ⟨g, a, none⟩ (.int .u32 (s : Int))).drew = Z4 at *
  obtain ⟨hs0, hg0⟩ := HS.out
  clear d0 d1 e0 f0 HS
  have d0 := (hs0.cell d).trans (vx_at u2 rest d (by rw [hV2.len]; omega))
  have d1 := (hs0.cell a).trans (vx_at u2 rest a (by rw [hV2.len]; omega))
  have e0 := hs0.free d
  have x0 := hV2.lt d
  have x1 := hV2.lt a
  have l0 := hV2.len
  have f0 := u32_xor_nat (u2.getD d 0) (u2.getD a 0) x0 x1
  have TT := Lib.hid (fun W => rTurns 8 (by decide) (u2.getD d 0 ^^^ u2.getD a 0) W (u32_xor_lt x0 x1))
  generalize u2.getD d 0 ^^^ u2.getD a 0 = q at *
  generalize u2.getD d 0 = y0 at *
  generalize u2.getD a 0 = y1 at *
  generalize rotl q 8 = r at *
  have HS := Lib.hid (show Blk (Z4.setCell ⟨g, d, none⟩ (.int .u32 (r : Int))).drew g 26 (vx v3 rest) ∧ w.grownBy (Z4.setCell ⟨g, d, none⟩ (.int .u32 (r : Int))).drew (some g) from ⟨by rw [HM2.out, ← vx_set _ _ _ _ (by rw [l0]; omega)]; exact hs0.set_ _ _, g1_drew (g1_set hg0 _ _)⟩)
  clear hs0 hg0 x0 x1 l0
  refine wp_region_still_tail 13 (by kernel_rfl) (by kernel_rfl) ?_
  simp only [List.take_succ_cons, List.take_zero, List.drop_succ_cons, List.drop_zero]
  iterate 11 still_step
  still_call ((TT.out _).mono fun _ _ h => ⟨h.1, h.2.symm⟩)
  repeat still_step
  try refine wpStill_nil ?_
  go_upto_region 6 with fail
  generalize (Z4.setCell ⟨g, d, none⟩ (.int .u32 (r : Int))).drew = Z5 at *
  obtain ⟨hs0, hg0⟩ := HS.out
  clear d0 d1 e0 f0 HS TT
  have d0 := (hs0.cell c).trans (vx_at v3 rest c (by rw [hW3.len]; omega))
  have d1 := (hs0.cell d).trans (vx_at v3 rest d (by rw [hW3.len]; omega))
  have e0 := hs0.free c
  have x0 := hW3.lt c
  have x1 := hW3.lt d
  have l0 := hW3.len
  obtain ⟨s, hs⟩ : ∃ s, s = (v3.getD c 0 + v3.getD d 0) % 4294967296 := ⟨_, rfl⟩
  have f0 : IntKind.u32.wrap (((v3.getD c 0 : Nat) : Int) + ((v3.getD d 0 : Nat) : Int)) = (s : Int) := by rw [wrap32]; omega
  rw [← hs] at hu3
  have HS := Lib.hid (show Blk (Z5.setCell ⟨g, c, none⟩ (.int .u32 (s : Int))).drew g 26 (vx u3 rest) ∧ w.grownBy (Z5.setCell ⟨g, c, none⟩ (.int .u32 (s : Int))).drew (some g) from ⟨by rw [hu3, ← vx_set _ _ _ _ (by rw [l0]; omega)]; exact hs0.set_ _ _, g1_drew (g1_set hg0 _ _)⟩)
  clear hs hu3 hs0 hg0 x0 x1 l0
  generalize v3.getD c 0 = y0 at *
  generalize v3.getD d 0 = y1 at *
  go_wp2_with fail
  refine wp_region_still_tail 12 (by kernel_rfl) (by kernel_rfl) ?_
  simp only [List.take_succ_cons, List.take_zero, List.drop_succ_cons, List.drop_zero]
  repeat still_step
  try refine wpStill_nil ?_
  go_upto_region 7 with fail
  generalize (Z5.setCell ⟨g, c, none⟩ (.int .u32 (s : Int))).drew = Z6 at *
  obtain ⟨hs0, hg0⟩ := HS.out
  clear d0 d1 e0 f0 HS
  have d0 := (hs0.cell b).trans (vx_at u3 rest b (by rw [hV3.len]; omega))
  have d1 := (hs0.cell c).trans (vx_at u3 rest c (by rw [hV3.len]; omega))
  have e0 := hs0.free b
  have x0 := hV3.lt b
  have x1 := hV3.lt c
  have l0 := hV3.len
  have f0 := u32_xor_nat (u3.getD b 0) (u3.getD c 0) x0 x1
  have TT := Lib.hid (fun W => rTurns 7 (by decide) (u3.getD b 0 ^^^ u3.getD c 0) W (u32_xor_lt x0 x1))
  generalize u3.getD b 0 ^^^ u3.getD c 0 = q at *
  generalize u3.getD b 0 = y0 at *
  generalize u3.getD c 0 = y1 at *
  generalize rotl q 7 = r at *
  have HS := Lib.hid (show Blk (Z6.setCell ⟨g, b, none⟩ (.int .u32 (r : Int))).drew g 26 (vx v4 rest) ∧ w.grownBy (Z6.setCell ⟨g, b, none⟩ (.int .u32 (r : Int))).drew (some g) from ⟨by rw [HM3.out, ← vx_set _ _ _ _ (by rw [l0]; omega)]; exact hs0.set_ _ _, g1_drew (g1_set hg0 _ _)⟩)
  clear hs0 hg0 x0 x1 l0
  refine wp_region_still_tail 13 (by kernel_rfl) (by kernel_rfl) ?_
  simp only [List.take_succ_cons, List.take_zero, List.drop_succ_cons, List.drop_zero]
  iterate 11 still_step
  still_call ((TT.out _).mono fun _ _ h => ⟨h.1, h.2.symm⟩)
  repeat still_step
  try refine wpStill_nil ?_
  go_wp2_with fail
  refine bodyPost_end (results_none rfl _ _ _) rfl ?_
  exact ⟨rfl, by rw [HQ.out]; exact HS.out.1, HS.out.2⟩
end Go.Proofs.YtaikejlcpnelpaaDoor
/- The document's block: plain; a word; rows of words of the call's own. -/
namespace Go.Proofs.YtaikejlcpnelpaaDoor
set_option maxRecDepth 100000
open Go.RowKit
set_option linter.unusedVariables false
set_option linter.unusedSimpArgs false
theorem wordInfo : (Tryd.prog.info? 26).map (fun i => (i.zero, i.size, i.bytes)) = some (some (.int .u32 0), 1, 4) := by kernel_rfl
def OwnW (w : World) (base : Nat) (v : Value) (l : List Nat) : Prop := w.ownsRow base 26 1 v l.length (w32 l)
theorem OwnW.nil_ (w : World) (base : Nat) : OwnW w base (.slice none 0 0) [] := ⟨rfl, .inl ⟨rfl, rfl⟩⟩
theorem OwnW.rd {w : World} {base : Nat} {v : Value} {l : List Nat} (h : OwnW w base v l) : ∃ A cap, v = .slice A l.length cap ∧ l.length ≤ cap ∧ cap ≤ maxLen ∧ Rd w w.heap.size A (w32 l) := own_rd h
theorem OwnW.alloc {w : World} {base : Nat} {v : Value} {l : List Nat} (h : OwnW w base v l) (o : Obj) : OwnW (w.alloc o) base v l := World.ownsRow.alloc h o
theorem OwnW.drewN {w : World} {base : Nat} {v : Value} {l : List Nat} (h : OwnW w base v l) (n : Nat) : OwnW (w.drewN n) base v l := h
theorem OwnW.snoc {w w' : World} {base : Nat} {v v' : Value} {l : List Nat} {c : Nat} (h : Apped w base 26 1 v w' v' (l.length + 1) (w32 l ++ [.int .u32 (c : Int)])) : OwnW w' base v' (l ++ [c]) := by
  have := h.own
  simpa [OwnW, w32] using this
theorem w32_one (l : List Nat) : ∀ u ∈ w32 l, u.oneCell' = true := by
  intro u hu
  obtain ⟨n, _, rfl⟩ := List.mem_map.1 hu
  rfl
theorem w32_at {l : List Nat} {i : Nat} (h : i < l.length) : (w32 l)[i]? = some (.int .u32 (l.getD i 0 : Nat)) := by
  simp [w32, List.getD_eq_getElem?_getD, h]
theorem Rd.wordAt {w : World} {B : Nat} {A : Option Addr} {l : List Nat} (h : Rd w B A (w32 l)) (hn : 0 < l.length) :
    ∃ ad, A = some ad ∧ ad.block < B ∧ ∀ k, k < l.length → w.cell? (ad.add k) = some (.int .u32 (l.getD k 0 : Nat)) := by
  obtain ⟨ad, e, hb, hc⟩ := h (fun h0 => by have := w32_len l; rw [h0] at this; simp at this; omega)
  exact ⟨ad, e, hb, fun k hk => hc k _ (w32_at hk)⟩
theorem rd_oneW (w : World) (v : Value) : Rd (w.alloc (.cells #[v] 26)) (w.heap.size + 1) (some ⟨w.heap.size, 0, none⟩) [v] := rd_new w [v] _ (0, 0)
theorem OwnW.next {w w' : World} {base : Nat} {v : Value} {l : List Nat} (h : OwnW w base v l) (hb : Below w.heap.size w w') : OwnW w' base v l := own_keep (S := fun _ => False) h (Only.of_below hb) (fun _ _ h => h)
theorem Rd.drop_ {w : World} {B : Nat} {ad : Addr} {l : List Nat} (h : Rd w B (some ad) (byt l)) (k : Nat) : Rd w B (some (ad.add k)) (byt (l.drop k)) := fun hn => by
  have e : byt (l.drop k) = (byt l).drop k := by simp [byt, List.map_drop]
  obtain ⟨a1, e1, hb, hc⟩ := h (fun h0 => hn (by rw [e, h0]; simp))
  injection e1 with e1
  subst e1
  refine ⟨_, rfl, by rw [add_block]; exact hb, fun j u hu => ?_⟩
  rw [Addr.add_add]
  rw [e, List.getElem?_drop] at hu
  exact hc _ u hu
theorem Rd.take_ {w : World} {B : Nat} {A : Option Addr} {l : List Nat} (h : Rd w B A (byt l)) (n : Nat) : Rd w B A (byt (l.take n)) := fun hn => by
  obtain ⟨ad, e, hb, hc⟩ := h (fun h0 => hn (by
    have : l = [] := List.eq_nil_of_length_eq_zero (by rw [← byt_len l, h0]; rfl)
    rw [this]; simp [byt]))
  refine ⟨ad, e, hb, fun j u hu => hc j u ?_⟩
  have e2 : byt (l.take n) = (byt l).take n := by simp [byt, List.map_take]
  rw [e2, List.getElem?_take] at hu
  split at hu
  · exact hu
  · cases hu
def expL : List Nat := [101, 120, 112, 97, 110, 100, 32, 51, 50, 45, 98, 121, 116, 101, 32, 107]
def fullB (k : List Nat) (n : Nat) (nonce : List Nat) : List Nat := ((expL ++ k) ++ form n 4) ++ nonce
theorem fullB_len {k nonce : List Nat} {n : Nat} (hk : k.length = 32) (hc : nonce.length = 12) : (fullB k n nonce).length = 64 := by
  simp only [fullB, List.length_append, hk, hc, form_len]; rfl
theorem fullB_lt {k nonce : List Nat} {n : Nat} (hk : ∀ c ∈ k, c < 256) (hc : ∀ c ∈ nonce, c < 256) : ∀ c ∈ fullB k n nonce, c < 256 := fun c h => by
  rcases List.mem_append.1 h with h | h
  · rcases List.mem_append.1 h with h | h
    · rcases List.mem_append.1 h with h | h
      · exact (show ∀ c ∈ expL, c < 256 by decide) c h
      · exact hk c h
    · exact form_lt _ _ c h
  · exact hc c h
theorem le4_right (a b : List Nat) (j : Nat) (h : a.length ≤ j) : le4 ((a ++ b).drop j) = le4 (b.drop (j - a.length)) := by
  rw [List.drop_append, List.drop_eq_nil_of_le h, List.nil_append]
theorem le4_left (a b : List Nat) (j : Nat) (h : j + 4 ≤ a.length) : le4 ((a ++ b).drop j) = le4 (a.drop j) := by
  unfold le4
  rw [List.drop_append, List.take_append_of_le_length (by rw [List.length_drop]; omega)]
def wordAt (k : List Nat) (n : Nat) (nonce : List Nat) (i : Nat) : Nat := le4 ((fullB k n nonce).drop (4 * i))
theorem words_eq (k : List Nat) (n : Nat) (nonce : List Nat) (hk : k.length = 32) (hn : n < 4294967296) : (List.range 16).map (wordAt k n nonce) = startL k n nonce := by
  have l1 : (expL ++ k).length = 48 := by rw [List.length_append, hk]; rfl
  have l2 : ((expL ++ k) ++ form n 4).length = 52 := by rw [List.length_append, l1, form_len]
  have c0 : ∀ i, i < 4 → wordAt k n nonce i = le4 (expL.drop (4 * i)) := fun i hi => by
    unfold wordAt fullB
    rw [le4_left _ _ _ (by rw [l2]; omega), le4_left _ _ _ (by rw [l1]; omega), le4_left _ _ _ (by show _ ≤ 16; omega)]
  have c1 : ∀ i, 4 ≤ i → i < 12 → wordAt k n nonce i = le4 (k.drop (4 * i - 16)) := fun i h1 hi => by
    unfold wordAt fullB
    rw [le4_left _ _ _ (by rw [l2]; omega), le4_left _ _ _ (by rw [l1]; omega), le4_right _ _ _ (by show 16 ≤ _; omega)]
    rfl
  have c2 : wordAt k n nonce 12 = n := by
    unfold wordAt fullB
    rw [le4_left _ _ _ (by rw [l2]; decide), le4_right _ _ _ (by rw [l1]; decide), l1]
    show number (((form n 4).drop 0).take 4) = n
    rw [List.drop_zero, List.take_of_length_le (by rw [form_len]; decide)]
    exact number_form n 4 hn
  have c3 : ∀ i, 13 ≤ i → i < 16 → wordAt k n nonce i = le4 (nonce.drop (4 * i - 52)) := fun i h1 hi => by
    unfold wordAt fullB
    rw [le4_right _ _ _ (by rw [l2]; omega), l2]
  rw [startL_eq]
  show [wordAt k n nonce 0, wordAt k n nonce 1, wordAt k n nonce 2, wordAt k n nonce 3, wordAt k n nonce 4, wordAt k n nonce 5, wordAt k n nonce 6, wordAt k n nonce 7, wordAt k n nonce 8, wordAt k n nonce 9, wordAt k n nonce 10, wordAt k n nonce 11, wordAt k n nonce 12, wordAt k n nonce 13, wordAt k n nonce 14, wordAt k n nonce 15] = _
  rw [c0 0 (by decide), c0 1 (by decide), c0 2 (by decide), c0 3 (by decide), c1 4 (by decide) (by decide), c1 5 (by decide) (by decide), c1 6 (by decide) (by decide), c1 7 (by decide) (by decide), c1 8 (by decide) (by decide), c1 9 (by decide) (by decide), c1 10 (by decide) (by decide), c1 11 (by decide) (by decide), c2, c3 13 (by decide) (by decide), c3 14 (by decide) (by decide), c3 15 (by decide) (by decide)]
  rfl
theorem out_step (us fr : List Nat) (i : Nat) : (List.range (4 * (i + 1))).map (outB us fr) = (List.range (4 * i)).map (outB us fr) ++ form ((us.getD i 0 + fr.getD i 0) % 4294967296) 4 := by
  have e : ∀ r, r < 4 → outB us fr (4 * i + r) = (us.getD i 0 + fr.getD i 0) % 4294967296 / 256 ^ r % 256 := fun r hr => by
    unfold outB
    rw [show (4 * i + r) / 4 = i by omega, show (4 * i + r) % 4 = r by omega]
  rw [show 4 * (i + 1) = 4 * i + 3 + 1 by omega, List.range_succ, List.range_succ, List.range_succ, List.range_succ]
  simp only [List.map_append, List.map_cons, List.map_nil, List.append_assoc, List.cons_append, List.nil_append]
  rw [show outB us fr (4 * i) = _ from e 0 (by decide), e 1 (by decide), e 2 (by decide), e 3 (by decide)]
  simp only [form, Nat.div_div_eq_div_mul, Nat.pow_zero, Nat.div_one, Nat.reducePow, Nat.reduceMul]
/-- two rows of words of the call's own, apart -/
structure Two (w : World) (base : Nat) (vx vy : Value) (xs ys : List Nat) : Prop where
  ox : OwnW w base vx xs
  oy : OwnW w base vy ys
  ne : ∀ g, vx.ownBlock = some g → vy.ownBlock ≠ some g
theorem Two.next {w w' : World} {base : Nat} {vx vy : Value} {xs ys : List Nat} (h : Two w base vx vy xs ys) (hb : Below w.heap.size w w') : Two w' base vx vy xs ys := ⟨h.ox.next hb, h.oy.next hb, h.ne⟩
theorem Two.symm {w : World} {base : Nat} {vx vy : Value} {xs ys : List Nat} (h : Two w base vx vy xs ys) : Two w base vy vx ys xs := ⟨h.oy, h.ox, fun g h1 h2 => h.ne g h2 h1⟩
theorem Two.app {w w' : World} {base : Nat} {vx vy v' : Value} {xs ys : List Nat} {c : Nat} (h : Two w base vx vy xs ys) (hap : Apped w base 26 1 vx w' v' (xs.length + 1) (w32 xs ++ [.int .u32 (c : Int)])) : Two w' base v' vy (xs ++ [c]) ys :=
  ⟨OwnW.snoc hap, own_keep h.oy (hap.only (S := fun k => vx.ownBlock = some k) (fun g hg => hg)) (fun g hg hs => h.ne g hs hg), fun g h1 h2 => by
    rcases hap.lies with e | e
    · rw [e] at h1; exact h.ne g h1 h2
    · rw [e] at h1
      injection h1 with h1
      have := own_lt h.oy g h2
      omega⟩
theorem OwnW.open_ {w : World} {base : Nat} {v : Value} {l : List Nat} (h : OwnW w base v l) (hne : l ≠ []) : ∃ g cap rest, v = .slice (some ⟨g, 0, none⟩) l.length cap ∧ base ≤ g ∧ Blk w g 26 (vx l rest) ∧ l.length ≤ cap ∧ cap ≤ maxLen ∧ rest.length + l.length = cap := by
  rcases h.2 with ⟨_, h0⟩ | ⟨g, cap, cur, rfl, hb, hh, hn, hm, hc, ht⟩
  · exact absurd (List.eq_nil_of_length_eq_zero h0) hne
  · refine ⟨g, cap, cur.toList.drop l.length, rfl, hb, ?_, hn, hm, ?_⟩
    · rw [Nat.mul_one] at ht
      unfold Blk vx
      rw [hh, ← ht, List.take_append_drop]
    · rw [List.length_drop, Array.length_toList, hc]; omega
set_option maxRecDepth 100000 in
set_option maxHeartbeats 1000000 in
theorem rword_c (B : Nat) (ad : Addr) (N ca : Nat) (l : List Nat) (w : World) (hl : ∀ c ∈ l, c < 256) (hr : Rd w B (some ad) (byt l)) (h4 : 4 ≤ l.length) (hn : N = l.length) (hca : 4 ≤ ca) :
    Calls Tryd.prog 59 #[.slice (some ad) N ca] w fun e w' => e = .returned (.int .u32 (le4 l : Nat)) ∧ w = w' := by
  have hlen : (l.take 4).length = 4 := by rw [List.length_take]; omega
  have h := rnumber_c B (some ad) ca (l.take 4) w (hr.take_ 4) (fun c hc => hl c (List.mem_of_mem_take hc)) (by omega)
  rw [hlen] at h
  have HN := Lib.hid h
  have hv := le4_lt hl
  have HE := Lib.hid (show le4 l = number (l.take 4) from rfl)
  rw [HE.out] at hv ⊢
  clear HE h hl hr
  generalize number (l.take 4) = v at *
  have f0 : IntKind.u32.wrap (v : Int) = (v : Int) := by rw [wrap32]; omega
  have p1 : (4 : Int) ≤ (ca : Int) := by omega
  go_enter Tryd.func59, Tryd.ntmps59
  go_wp2_with (go_at_call 74; (refine HN.out.mono ?_); rintro e w1 ⟨rfl, rfl⟩)
  refine bodyPost_ret (results_tmp rfl _ _ _) rfl ?_
  exact ⟨rfl, rfl⟩
end Go.Proofs.YtaikejlcpnelpaaDoor
/- Rows whose last place but one is marked; more bytes. -/
namespace Go.Proofs.YtaikejlcpnelpaaDoor
set_option maxRecDepth 100000
open Go.RowKit
set_option linter.unusedVariables false
set_option linter.unusedSimpArgs false
/-- a row that a text was turned into: its last place but one is marked -/
def MarkAt (w : World) (g cap : Nat) (s : List Nat) : Prop := ∃ cur : Array Value, w.heap[g]? = some (.cells cur 5 (cur.size, cur.size + 1)) ∧ cur.size = cap ∧ s.length ≤ cap ∧ cap ≤ maxLen ∧ ∀ j, j < s.length → cur[j]? = some (.int .u8 (s.getD j 0 : Nat))
theorem MarkAt.next {w w' : World} {g cap : Nat} {s : List Nat} (h : MarkAt w g cap s) (hb : Below w.heap.size w w') : MarkAt w' g cap s := by
  obtain ⟨cur, hg, r⟩ := h
  refine ⟨cur, ?_, r⟩
  have hlt : g < w.heap.size := (Array.getElem?_eq_some_iff.1 hg).1
  rw [hb.block g hlt]; exact hg
theorem setCells_row (g : Nat) (t : TypeId) (fr : Nat × Nat) : ∀ (vs : List Value) (o : Nat) (w : World) (cur : Array Value), w.heap[g]? = some (.cells cur t fr) → o + vs.length ≤ cur.size →
    ∃ cur', (w.setCells g o vs).heap[g]? = some (.cells cur' t fr) ∧ cur'.size = cur.size ∧ (∀ j, j < o → cur'[j]? = cur[j]?) ∧ ∀ j, j < vs.length → cur'[o + j]? = vs[j]?
  | [], o, w, cur, hg, _ => ⟨cur, hg, rfl, fun _ _ => rfl, fun j hj => by cases hj⟩
  | v :: r, o, w, cur, hg, hl => by
    simp only [List.length_cons] at hl
    have h1 : (w.setCell ⟨g, o, none⟩ v).heap[g]? = some (.cells (cur.setIfInBounds o v) t fr) := by
      rw [setCell_eq_setRow w g o cur t fr v hg]
      exact setRow_heap w g _ _ t _ hg
    obtain ⟨cur', a, b, c, d⟩ := setCells_row g t fr r (o + 1) (w.setCell ⟨g, o, none⟩ v) (cur.setIfInBounds o v) h1 (by rw [Array.size_setIfInBounds]; omega)
    refine ⟨cur', a, by rw [b, Array.size_setIfInBounds], fun j hj => ?_, fun j hj => ?_⟩
    · rw [c j (by omega), Array.getElem?_setIfInBounds_ne (by omega)]
    · cases j with
      | zero =>
        rw [Nat.add_zero, c o (by omega), Array.getElem?_setIfInBounds_self_of_lt (by omega)]
        rfl
      | succ j =>
        have := d j (by simp only [List.length_cons] at hj; omega)
        rw [show o + (j + 1) = o + 1 + j by omega, this]
        rfl
theorem below_setCells (B g : Nat) (hB : B ≤ g) : ∀ (vs : List Value) (o : Nat) (a w : World), Below B a w → Below B a (w.setCells g o vs)
  | [], _, _, _, h => h
  | v :: r, o, a, w, h => below_setCells B g hB r (o + 1) a _ (h.setCell hB v)
theorem only_below {S : Nat → Prop} {w w' : World} (h : Below w.heap.size w w') : Only S w w' := ⟨h.os, h.tape, h.output, h.size, fun k hk _ => h.block k hk⟩
theorem only_setCells (g : Nat) : ∀ (vs : List Value) (o : Nat) (a w : World), Only (fun k => g = k) a w → Only (fun k => g = k) a (w.setCells g o vs)
  | [], _, _, _, h => h
  | v :: r, o, a, w, h => by
    refine only_setCells g r (o + 1) a _ ⟨h.os, h.tape, h.output, by simpa [World.setCell] using h.size, fun k hk hne => ?_⟩
    rw [← h.block k hk hne]
    exact Below.heap_setCell _ _ _ _ (fun e => hne e.symm)
/-- bytes of a text's row, or of the call's own -/
def MarkOwn (w : World) (B : Nat) (v : Value) (l : List Nat) : Prop := (∃ g cap, v = .slice (some ⟨g, 0, none⟩) l.length cap ∧ B ≤ g ∧ MarkAt w g cap l) ∨ OwnB w B v l
theorem MarkOwn.next {w w' : World} {B : Nat} {v : Value} {l : List Nat} (h : MarkOwn w B v l) (hb : Below w.heap.size w w') : MarkOwn w' B v l := by
  rcases h with ⟨g, cap, e, hB, h⟩ | h
  · exact .inl ⟨g, cap, e, hB, h.next hb⟩
  · exact .inr (h.next hb)
theorem MarkOwn.rd {w : World} {B : Nat} {v : Value} {l : List Nat} (h : MarkOwn w B v l) : ∃ A cap, v = .slice A l.length cap ∧ Rd w w.heap.size A (byt l) := by
  rcases h with ⟨g, cap, rfl, hB, cur, hg, hcs, hle, hmx, hcur⟩ | h
  · have hlt : g < w.heap.size := (Array.getElem?_eq_some_iff.1 hg).1
    refine ⟨_, _, rfl, fun _ => ⟨_, rfl, hlt, fun j u hu => ?_⟩⟩
    have hj : j < l.length := by
      rcases Nat.lt_or_ge j l.length with h1 | h1
      · exact h1
      · rw [List.getElem?_eq_none (by rw [byt_len]; exact h1)] at hu; cases hu
    rw [Addr.add_mid, Nat.zero_add]
    simp only [World.cell?, hg]
    rw [hcur j hj, ← hu, byt_at hj]
    rfl
  · obtain ⟨A, cap, e, _, _, hr⟩ := h.rd
    exact ⟨A, cap, e, hr⟩
theorem MarkOwn.lt {w : World} {B : Nat} {v : Value} {l : List Nat} (h : MarkOwn w B v l) : ∀ g, v.ownBlock = some g → g < w.heap.size := by
  rcases h with ⟨g, cap, rfl, hB, cur, hg, _⟩ | h
  · intro g' hg'
    injection hg' with hg'
    subst hg'
    exact (Array.getElem?_eq_some_iff.1 hg).1
  · exact own_lt h
theorem app_marks (w : World) (B : Nat) (v : Value) (s m : List Nat) (ty : TypeId) (A : Option Addr) (ca : Nat) (Bs : Nat) (hm : MarkOwn w B v s) (hBw : B ≤ w.heap.size) (hs : s.length ≤ 10000) (hmn : m.length ≤ 10000) (hne : m ≠ []) (hr : Rd w Bs A (byt m)) :
    ∃ v' w', (Builtin.append_ #[30, 30] ty #[v, .slice A m.length ca]).run Tryd.prog w = .ok v' w' ∧ MarkOwn w' B v' (s ++ m) ∧ Below B w w' ∧ Only (fun k => v.ownBlock = some k) w w' := by
  obtain ⟨i0, hi, hz0, hz1, hz2⟩ := info_parts byteInfo
  rcases hm with ⟨g, cap, rfl, hB, hm⟩ | ho
  · obtain ⟨ad, rfl, _, hc⟩ := hr (by intro h0; have := congrArg List.length h0; rw [byt_len] at this; exact hne (List.eq_nil_of_length_eq_zero this))
    obtain ⟨cur, hg, hcs, hle, hmx, hcur⟩ := hm
    have hlt : g < w.heap.size := (Array.getElem?_eq_some_iff.1 hg).1
    have hcell : ∀ j, j < s.length → w.cell? ⟨g, j, none⟩ = some (.int .u8 (s.getD j 0 : Nat)) := fun j hj => by
      simp only [World.cell?, hg]
      exact hcur j hj
    by_cases hroom : s.length + m.length ≤ cap
    · have hf := run_firstCells_some (P := Tryd.prog) w i0.size m.length ad m.length ca (byt m) (by rw [hz1, byt_len, Nat.mul_one]) hc
      have hst := run_storeCells_cells (P := Tryd.prog) g s.length (byt m) 0 w (fun j hj => by
        rw [byt_len] at hj
        simp only [World.cell?, hg, Nat.add_zero]
        rw [Array.getElem?_eq_getElem (by omega)]
        rfl) (fun j hj => by
        rw [byt_len] at hj
        simp [World.frozen?, hg]
        omega) (byt_one m)
      rw [Nat.add_zero] at hst
      rw [hz1] at hf
      obtain ⟨cur', ha, hb, hcc, hd⟩ := setCells_row g 5 _ (byt m) s.length w cur hg (by rw [byt_len]; omega)
      refine ⟨.slice (some ⟨g, 0, none⟩) (s.length + m.length) cap, w.setCells g s.length (byt m), ?_, .inl ⟨g, cap, by rw [List.length_append], hB, cur', by rw [ha, hb], by rw [hb, hcs], by rw [List.length_append]; exact hroom, hmx, fun j hj => ?_⟩, below_setCells B g hB _ _ _ _ (Below.refl _ _), ?_⟩
      · simp [Builtin.append_, run_underlying Tryd.underlying30, sizeOf, typeInfo, hi, Builtin.lenOf, hroom, hf, Addr.add_lit, hst, hz1]
      · rw [List.length_append] at hj
        rcases Nat.lt_or_ge j s.length with h1 | h1
        · rw [hcc j h1, hcur j h1]
          rw [List.getD_eq_getElem?_getD, List.getD_eq_getElem?_getD, List.getElem?_append_left h1]
        · obtain ⟨i, rfl⟩ : ∃ i, j = s.length + i := ⟨j - s.length, by omega⟩
          rw [hd i (by rw [byt_len]; omega), byt_at (by omega)]
          rw [List.getD_eq_getElem?_getD, List.getD_eq_getElem?_getD, List.getElem?_append_right (by omega), Nat.add_sub_cancel_left]
      · have h1 := only_setCells g (byt m) s.length w w ⟨rfl, rfl, rfl, Nat.le_refl _, fun _ _ _ => rfl⟩
        exact ⟨h1.os, h1.tape, h1.output, h1.size, fun k hk hne => h1.block k hk (fun e => hne (by rw [← e]; rfl))⟩
    · have h1 := run_append_grow (P := Tryd.prog) w 30 ty 5 i0 _ Tryd.underlying30 hi hz0 ⟨g, 0, none⟩ s.length cap (byt s) (by rw [hz1, byt_len, Nat.mul_one]) (fun j v hv => by
          have hj : j < s.length := by
            rcases Nat.lt_or_ge j s.length with h1 | h1
            · exact h1
            · rw [List.getElem?_eq_none (by rw [byt_len]; exact h1)] at hv; cases hv
          rw [Addr.add_mid, Nat.zero_add, hcell j hj, ← hv, byt_at hj]) ad m.length ca (byt m) (by rw [hz1, byt_len, Nat.mul_one]) hc (by omega) (by omega) (growslice_fits (by omega) (by rw [hz2]; omega))
      have hge := grownCap_ge w (s.length + m.length) cap 5
      have hgm := grownCap_le_maxLen w (s.length + m.length) cap 5 (by simp [maxLen]; omega)
      refine ⟨_, _, h1, .inr ⟨by rw [byt_len, Nat.mul_one], .inr ⟨w.heap.size, grownCap w (s.length + m.length) cap 5, _, by rw [List.length_append], hBw, (Blk.new w.drew 5 _), by rw [List.length_append]; exact hge, hgm, ?_, ?_⟩⟩, (Below.refl _ _).drew.alloc (Nat.le_trans hB (Nat.le_of_lt hlt)) _, ?_⟩
      · rw [Array.size_append, Array.size_append, List.size_toArray, List.size_toArray, byt_len, byt_len]
        simp [Builtin.zeroCells, Value.cells]
        omega
      · rw [Nat.mul_one, Array.toList_append, Array.toList_append, List.toList_toArray, List.toList_toArray, List.length_append, List.take_append_of_le_length (by simp [byt]), byt_app, List.take_of_length_le (by simp [byt])]
      · exact only_below ((Below.refl _ _).drew.alloc (Nat.le_refl _) _)
  · obtain ⟨v', w', hrun, hap⟩ := run_app (P := Tryd.prog) w B 30 ty 5 i0 (.int .u8 0) 1 1 Tryd.underlying30 hi hz0 hz1 hz2 rfl (by decide) v s.length (byt s) ho Bs A m.length ca (byt m) (by rw [byt_len, Nat.mul_one]) hr (byt_one m) (by omega) (by omega) hBw
    exact ⟨v', w', hrun, .inr (OwnB.app hap), hap.below ho hBw, hap.only (fun g h => h)⟩
theorem op_appendM {o : Oper} {a : Act} {w w' : World} {t : TypeId} {s x : Operand} {v u r : Value} (ho : o.op = .call { callee := .builtin .append, args := #[s, x], argTypes := #[t, t] }) (hs : a.eval s = v) (hx : a.eval x = u) (hrun : (Builtin.append_ #[t, t] o.type #[v, u]).run Tryd.prog w = .ok r w') : (execOp a.eval o).run Tryd.prog w = .ok (.value r) w' := by
  unfold execOp
  simp only [ho, resolve, invoke, builtin, Sem.run_bind, Sem.run_pure, Result.andThen_ok, List.map_toArray, List.map_cons, List.map_nil, hs, hx, hrun]
end Go.Proofs.YtaikejlcpnelpaaDoor
/- Contract: the document's block. -/
namespace Go.Proofs.YtaikejlcpnelpaaDoor
set_option maxRecDepth 100000
open Go.RowKit
set_option linter.unusedVariables false
set_option linter.unusedSimpArgs false
/-- the boxes of the two arrays -/
structure Rbx (w W : World) (k nonce : List Nat) : Prop where
  bel : Below w.heap.size w W
  kA : Blk W w.heap.size 22 (vb k)
  nA : Blk W (w.heap.size + 1) 24 (vb nonce)
  sz : w.heap.size + 1 + 1 ≤ W.heap.size
theorem Rbx.next {w W W' : World} {k nonce : List Nat} (s : Rbx w W k nonce) (hb : Below (w.heap.size + 1 + 1) W W') : Rbx w W' k nonce :=
  ⟨s.bel.trans (hb.mono (by omega)), s.kA.below hb (by omega), s.nA.below hb (by omega), Nat.le_trans s.sz hb.size⟩
theorem Rbx.begin (w : World) (k nonce : List Nat) (o : Obj) : Rbx w (((w.alloc (Obj.cells (vb k) 22)).alloc (Obj.cells (vb nonce) 24)).alloc o) k nonce :=
  ⟨(((Below.refl _ _).alloc (Nat.le_refl _) _).alloc (by simp) _).alloc (by simp; omega) _, ((Blk.new w _ _).alloc _).alloc _, (show Blk _ (w.heap.size + 1) _ _ from heap2 w _ _).alloc _, by simp⟩
theorem Two.alloc {w : World} {base : Nat} {vx vy : Value} {xs ys : List Nat} (h : Two w base vx vy xs ys) (o : Obj) : Two (w.alloc o) base vx vy xs ys := ⟨h.ox.alloc o, h.oy.alloc o, h.ne⟩
theorem Two.nil_ (w : World) (base : Nat) : Two w base (.slice none 0 0) (.slice none 0 0) [] [] := ⟨OwnW.nil_ _ _, OwnW.nil_ _ _, fun g h => by cases h⟩
theorem rd_all {w : World} {g : Nat} {T : TypeId} {l : List Nat} (h : Blk w g T (vb l)) : Rd w (g + 1) (some ⟨g, 0, none⟩) (byt l) := by
  have := blk_rdAt h 0
  rwa [List.drop_zero] at this
def eC : Array Value := #[.int .u8 101, .int .u8 120, .int .u8 112, .int .u8 97, .int .u8 110, .int .u8 100, .int .u8 32, .int .u8 51, .int .u8 50, .int .u8 45, .int .u8 98, .int .u8 121, .int .u8 116, .int .u8 101, .int .u8 32, .int .u8 107]
theorem conv_lit (w : World) (a b : Obj) : (convert 30 30 (.slice (some ⟨w.heap.size + 1 + 1, 0, none⟩) 16 16)).run Tryd.prog (((w.alloc a).alloc b).alloc (.cells eC 5)) = .ok (.slice (some ⟨w.heap.size + 1 + 1, 0, none⟩) 16 16) (((w.alloc a).alloc b).alloc (.cells eC 5 (16, 17))) := by
  have h := Lib.run_convert_bytes_const (P := Tryd.prog) ((w.alloc a).alloc b) 30 5 eC 16 16 Tryd.underlying30 Tryd.underlying5
  rw [show ((w.alloc a).alloc b).heap.size = w.heap.size + 1 + 1 by simp] at h
  exact h
theorem mark_lit (w : World) (a b : Obj) : MarkAt (((w.alloc a).alloc b).alloc (.cells eC 5 (16, 17))) (w.heap.size + 1 + 1) 16 expL :=
  ⟨eC, heap3 w _ _ _, rfl, Nat.le_refl _, by decide, fun j hj => (show ∀ j, j < 16 → eC[j]? = some (.int .u8 (expL.getD j 0 : Nat)) from fun j hj => by
    have h : j = 0 ∨ j = 1 ∨ j = 2 ∨ j = 3 ∨ j = 4 ∨ j = 5 ∨ j = 6 ∨ j = 7 ∨ j = 8 ∨ j = 9 ∨ j = 10 ∨ j = 11 ∨ j = 12 ∨ j = 13 ∨ j = 14 ∨ j = 15 := by omega
    rcases h with rfl | rfl | rfl | rfl | rfl | rfl | rfl | rfl | rfl | rfl | rfl | rfl | rfl | rfl | rfl | rfl <;> rfl) j hj⟩
theorem col_eq : ∀ j, j < 4 → qs.getD j [] = [j, 4 + j, 8 + j, 12 + j] := by decide
theorem diag_eq : ∀ j, j < 4 → qs.getD (4 + j) [] = [j, 4 + (j + 1) % 4, 8 + (j + 2) % 4, 12 + (j + 3) % 4] := by decide
set_option maxRecDepth 100000 in
set_option maxHeartbeats 8000000 in
theorem rblock_c (k : List Nat) (n : Nat) (nonce : List Nat) (w : World) (hk : k.length = 32) (hkl : ∀ c ∈ k, c < 256) (hn : n < 4294967296) (hc : nonce.length = 12) (hcl : ∀ c ∈ nonce, c < 256) :
    Calls Tryd.prog 43 #[.agg (vb k), .int .u32 n, .agg (vb nonce)] w (Gives (blkL k n nonce) w) := by
  obtain ⟨i0, hib, hz0, hz1, hz2⟩ := info_parts byteInfo
  obtain ⟨i4, hi4, hy0, hy1, hy2⟩ := info_parts wordInfo
  have HFL := Lib.hid (fullB_lt (n := n) hkl hcl)
  have HWE := Lib.hid (words_eq k n nonce hk hn)
  have H16 := Lib.hid (startL_16 hkl hn hcl)
  have HBK := Lib.hid (show blkL k n nonce = (List.range 64).map (outB (rnds (startL k n nonce) 10) (startL k n nonce)) from rfl)
  have hf4 := form_len n 4
  have hel : expL.length = 16 := rfl
  have L1 : (expL ++ k).length = 48 := by rw [List.length_append, hk]; rfl
  have L2 : (expL ++ k ++ form n 4).length = 52 := by rw [List.length_append, L1, form_len]
  have L3 : (expL ++ k ++ form n 4 ++ nonce).length = 64 := by rw [List.length_append, L2, hc]
  have HFU := Lib.hid (show fullB k n nonce = expL ++ k ++ form n 4 ++ nonce from rfl)
  have cn : IntKind.u64.wrap (n : Int) = (n : Int) := by simp [IntKind.wrap, IntKind.signed, IntKind.bits]; omega
  have HFO := Lib.hid (fun W => rform_c n 4 W (by omega) (by decide))
  clear hkl hcl
  generalize form n 4 = f4 at *
  have hcv := conv_lit w (Obj.cells (vb k) 22) (Obj.cells (vb nonce) 24)
  unfold eC at hcv
  go_enter Tryd.func43, Tryd.ntmps43
  go_upto_region 2 with (first
    | (refine Go.Great.wpList_boxTo rfl 22 (.tmp 0) rfl (some 3) rfl w.heap.size rfl (vb k) rfl ?_)
    | (refine Go.Great.wpList_boxTo rfl 24 (.tmp 2) rfl (some 5) rfl (w.heap.size + 1) (by simp) (vb nonce) rfl ?_))
  have hbx := Rbx.begin w k nonce (.cells eC 5 (16, 17))
  have hmk := mark_lit w (Obj.cells (vb k) 22) (Obj.cells (vb nonce) 24)
  change Code.wp _ _ _ _ (((w.alloc (Obj.cells (vb k) 22)).alloc (Obj.cells (vb nonce) 24)).alloc (.cells eC 5 (16, 17)))
  generalize ((w.alloc (Obj.cells (vb k) 22)).alloc (Obj.cells (vb nonce) 24)).alloc (.cells eC 5 (16, 17)) = Z at *
  clear hcv
  obtain ⟨v1, W1, hrun, hm1, hb1, _⟩ := app_marks Z (w.heap.size + 1 + 1) (.slice (some ⟨w.heap.size + 1 + 1, 0, none⟩) 16 16) expL k 30 (some ⟨w.heap.size, 0, none⟩) 32 (w.heap.size + 1) (.inl ⟨_, _, rfl, Nat.le_refl _, hmk⟩) hbx.sz (by decide) (by omega) (by intro h; rw [h] at hk; cases hk) (rd_all hbx.kA)
  rw [hk] at hrun
  obtain ⟨A1, c1, rfl, hr1⟩ := hm1.rd
  rw [L1] at hrun hm1
  have HM1 := Lib.hid hm1
  have HX1 := Lib.hid (hbx.next hb1)
  have HR1 := Lib.hid hrun
  clear hrun hbx hmk hb1 hm1 hr1
  go_upto_region 3 with (at_builtin; refine wpList_valM rfl (.slice A1 48 c1) W1 (op_appendM rfl rfl rfl HR1.out) ?_)
  go_upto_region 4 with (first
    | (go_at_call 38; (refine (HFO.out W1).mono ?_); rintro e W2 ⟨v2, rfl, ho2, hb2⟩; obtain ⟨A2, c2, rfl, _, _, r2⟩ := ho2.rd; obtain ⟨v3, W3, hrun, hm3, hb3, _⟩ := app_marks W2 (w.heap.size + 1 + 1) (.slice A1 48 c1) (expL ++ k) f4 30 A2 c2 W2.heap.size (HM1.out.next hb2) (Nat.le_trans HX1.out.sz hb2.size) (by rw [L1]; decide) (by rw [hf4]; decide) (by intro h; rw [h] at hf4; cases hf4) r2; obtain ⟨A3, c3, rfl, hr3⟩ := hm3.rd; rw [hf4] at hrun ⊢; rw [L2] at hrun hm3; have HX3 := Lib.hid ((HX1.out.next (hb2.mono HX1.out.sz)).next hb3); have HM3 := Lib.hid hm3; have HR3 := Lib.hid hrun; clear hrun hm3 hb3 hr3 hb2 ho2 r2)
    | (at_builtin; refine wpList_valM rfl (.slice A3 52 c3) W3 (op_appendM rfl rfl rfl HR3.out) ?_))
  obtain ⟨v4, W4, hrun, hm4, hb4, _⟩ := app_marks W3 (w.heap.size + 1 + 1) (.slice A3 52 c3) (expL ++ k ++ f4) nonce 30 (some ⟨w.heap.size + 1, 0, none⟩) 12 (w.heap.size + 1 + 1) HM3.out HX3.out.sz (by rw [L2]; decide) (by omega) (by intro h; rw [h] at hc; cases hc) (rd_all HX3.out.nA)
  rw [hc] at hrun
  obtain ⟨A4, c4, rfl, hr4⟩ := hm4.rd
  rw [L3] at hrun
  rw [← HFU.out] at hr4
  have HR4 := Lib.hid hrun
  have HRD := Lib.hid hr4
  have HB4 := Lib.hid (HX3.out.next hb4).bel
  have hcap : 64 ≤ c4 := by
    rcases hm4 with ⟨g, cap, h1, _, cur, _, _, h2, _⟩ | h
    · injection h1 with _ _ h3
      rw [L3] at h2; omega
    · obtain ⟨A5, c5, h1, h2, _, _⟩ := h.rd
      injection h1 with _ _ h3
      rw [L3] at h2; omega
  clear hrun hm4 hb4 hr4
  go_upto_region 5 with (at_builtin; refine wpList_valM rfl (.slice A4 64 c4) W4 (op_appendM rfl rfl rfl HR4.out) ?_)
  clear HM1 HX1 HR1 HX3 HM3 HR3 HR4 HFU hel L1 L2 L3
  have hfl4 : (fullB k n nonce).length = 64 := fullB_len hk hc
  obtain ⟨ad, rfl, hadb, _⟩ := HRD.out.byte (k := 0) (by rw [hfl4]; decide)
  have HWD := Lib.hid (fun i (hi : i < 16) W (hW : Below W4.heap.size W4 W) => rword_c W4.heap.size (ad.add (4 * i)) (64 - 4 * i) (c4 - 4 * i) ((fullB k n nonce).drop (4 * i)) W (drop_lt HFL.out _) ((HRD.out.below hW).drop_ (4 * i)) (by rw [List.length_drop, hfl4]; omega) (by rw [List.length_drop, hfl4]) (by omega))
  have HWA := Lib.hid (show ∀ i, le4 ((fullB k n nonce).drop (4 * i)) = wordAt k n nonce i from fun i => rfl)
  have HW32 := Lib.hid (show ∀ i, wordAt k n nonce i < 4294967296 from fun i => le4_lt (drop_lt HFL.out _))
  clear hfl4 hadb
  go_wp2_with fail
  go_loopw [8, 9, 10] (fun vx vy vi wr => ∃ i : Nat, i ≤ 16 ∧ vi = .int .i64 i ∧ Two wr W4.heap.size vx vy ((List.range i).map (wordAt k n nonce)) ((List.range i).map (wordAt k n nonce)) ∧ Below W4.heap.size W4 wr) (fun _ _ vi _ => 16 - (intOf vi).toNat)
  case atStart => exact ⟨0, by omega, rfl, Two.nil_ _ _, Below.refl _ _⟩
  case round =>
    rename World => wr
    obtain ⟨i, hi, rfl, htw, hbw⟩ := hrel
    have HTW := Lib.hid htw
    have HBW := Lib.hid hbw
    clear htw hbw
    by_cases hlt : i < 16
    · have p1 : (i : Int) < 16 := by omega
      have HW := Lib.hid (HWD.out i hlt)
      have HSN := Lib.hid (show (List.range (i + 1)).map (wordAt k n nonce) = (List.range i).map (wordAt k n nonce) ++ [wordAt k n nonce i] by rw [List.range_succ, List.map_append]; rfl)
      have HLT := Lib.hid (show ((List.range i).map (wordAt k n nonce)).length = i by simp)
      rw [HWA.out i] at HW
      generalize (List.range i).map (wordAt k n nonce) = L at *
      generalize wordAt k n nonce i = y at *
      obtain ⟨b, hb⟩ : ∃ b, b = 4 * i := ⟨_, rfl⟩
      have p2 : (4 : Int) * (i : Int) = (b : Int) := by omega
      have p3 : (b : Int) ≤ 64 := by omega
      have p4 : b ≤ 64 := by omega
      have p5 : b ≤ c4 := by omega
      have p6 : (64 : Int) ≤ (c4 : Int) := by omega
      rw [← hb] at HW
      clear hb
      have hsz := HBW.out.size
      go_wp2_with (first
        | (go_at_call 59; (refine (HW.out _ (by first | exact HB8.out | exact HBW.out)).mono ?_); rintro e wn ⟨rfl, rfl⟩)
        | (at_builtin; refine wpList_app _ rfl (.tmp 33) (.tmp 39) _ rfl W4.heap.size 26 i4 (.int .u32 0) 1 4 Tryd.underlying100 hi4 hy0 hy1 hy2 rfl (by decide) _ L.length (w32 L) rfl (HTW.out.ox.alloc _) _ _ 1 1 [.int .u32 (y : Nat)] rfl rfl (by exact rd_oneW _ _) (w32_one [_]) (by rw [HLT.out]; omega) (by rw [HLT.out]; omega) (by simp; omega) ?_; intro v8 w8 hap; have HT8 := Lib.hid (Two.app (HTW.out.alloc _) hap); have HB8 := Lib.hid (show Below W4.heap.size W4 w8 from (HBW.out.alloc HBW.out.size _).trans (hap.below (HTW.out.ox.alloc _) (by simp; omega))); clear hap)
        | (at_builtin; refine wpList_app _ rfl (.tmp 41) (.tmp 47) _ rfl W4.heap.size 26 i4 (.int .u32 0) 1 4 Tryd.underlying100 hi4 hy0 hy1 hy2 rfl (by decide) _ L.length (w32 L) rfl (HT8.out.oy.alloc _) _ _ 1 1 [.int .u32 (y : Nat)] rfl rfl (by exact rd_oneW _ _) (w32_one [_]) (by rw [HLT.out]; omega) (by rw [HLT.out]; omega) (by have := HB8.out.size; simp; omega) ?_; intro v9 w9 hap; have HT9 := Lib.hid (Two.app (HT8.out.symm.alloc _) hap).symm; have HB9 := Lib.hid (show Below W4.heap.size W4 w9 from (HB8.out.alloc HB8.out.size _).trans (hap.below (HT8.out.oy.alloc _) (by have := HB8.out.size; simp; omega))); clear hap))
      go_roundw
      case rel => exact ⟨i + 1, by omega, by go_num, by rw [HSN.out]; exact HT9.out, HB9.out⟩
      case measure => simp only [intOf]; omega
    · obtain rfl : i = 16 := by omega
      rw [show ((16 : Nat) : Int) = 16 from rfl]
      rw [HWE.out] at HTW
      clear HWD HWA HW32 HRD HWE HFO HFL
      obtain ⟨fr, hfr⟩ : ∃ fr, fr = startL k n nonce := ⟨_, rfl⟩
      rw [← hfr] at HTW H16 HBK
      clear hfr
      obtain ⟨gx, cx, rx, rfl, hgx, hbx, hcx, _, _⟩ := HTW.out.ox.open_ (by intro h; have := H16.out.len; rw [h] at this; cases this)
      obtain ⟨gy, cy, ry, rfl, hgy, hby, hcy, _, _⟩ := HTW.out.oy.open_ (by intro h; have := H16.out.len; rw [h] at this; cases this)
      have hxy : gx ≠ gy := fun h => HTW.out.ne gx rfl (by rw [h]; rfl)
      have HX := Lib.hid hbx
      have HY := Lib.hid hby
      rw [H16.out.len]
      clear hbx hby HTW
      go_wp2_with fail
      have HQC := Lib.hid (fun (a b c d : Nat) ha hb hc hd vs W (h16 : W16 vs) (hB : Blk W gy 26 (vx vs ry)) => rquarter_c gy cy a b c d vs ry W h16 hB ha hb hc hd)
      go_loopw [11] (fun mi wb => ∃ m : Nat, m ≤ 10 ∧ mi = .int .i64 m ∧ Blk wb gy 26 (vx (rnds fr m) ry) ∧ wr.grownBy wb (some gy)) (fun mi _ => 10 - (intOf mi).toNat)
      case atStart => exact ⟨0, by omega, rfl, HY.out, g1_refl _ _⟩
      case round =>
        rename World => wb
        obtain ⟨m, hm, rfl, hb, hg⟩ := hrel
        have HT := Lib.hid hb
        have GR := Lib.hid hg
        clear hb hg HY
        by_cases hlt : m < 10
        · have p1 : (m : Int) < 10 := by omega
          have HNX := Lib.hid (show rnds fr (m + 1) = qrt (rnds fr m) 8 from rfl)
          have HW := Lib.hid (H16.out.rnds m)
          have HT0 := Lib.hid (show Blk wb gy 26 (vx (qrt (rnds fr m) 0) ry) from HT.out)
          clear HT
          generalize rnds fr m = us at *
          go_wp2_with fail
          go_loopw [12] (fun ji wc => ∃ j : Nat, j ≤ 4 ∧ ji = .int .i64 j ∧ Blk wc gy 26 (vx (qrt us j) ry) ∧ wr.grownBy wc (some gy)) (fun ji _ => 4 - (intOf ji).toNat)
          case atStart => exact ⟨0, by omega, rfl, HT0.out, GR.out⟩
          case round =>
            clear HT0 GR
            rename World => wc
            obtain ⟨j, hj, rfl, hb, hg⟩ := hrel
            have HT := Lib.hid hb
            have GR := Lib.hid hg
            clear hb hg
            by_cases hlt : j < 4
            · rcases (show j = 0 ∨ j = 1 ∨ j = 2 ∨ j = 3 by omega) with rfl | rfl | rfl | rfl
              · go_wp2_with (go_at_call 60; (refine (HQC.out 0 4 8 12 (by decide) (by decide) (by decide) (by decide) _ _ (HW.out.qrt 0 (by decide)) HT.out).mono ?_); rintro e w2 ⟨rfl, hv, hg⟩; have HV := Lib.hid (show Blk w2 gy 26 (vx (qrt us 1) ry) from hv); have HG := Lib.hid (GR.out.trans hg); clear hv hg)
                go_roundw
                case rel => exact ⟨1, by decide, by first | rfl | go_num, HV.out, HG.out⟩
                case measure => simp only [intOf]; omega
              · go_wp2_with (go_at_call 60; (refine (HQC.out 1 5 9 13 (by decide) (by decide) (by decide) (by decide) _ _ (HW.out.qrt 1 (by decide)) HT.out).mono ?_); rintro e w2 ⟨rfl, hv, hg⟩; have HV := Lib.hid (show Blk w2 gy 26 (vx (qrt us 2) ry) from hv); have HG := Lib.hid (GR.out.trans hg); clear hv hg)
                go_roundw
                case rel => exact ⟨2, by decide, by first | rfl | go_num, HV.out, HG.out⟩
                case measure => simp only [intOf]; omega
              · go_wp2_with (go_at_call 60; (refine (HQC.out 2 6 10 14 (by decide) (by decide) (by decide) (by decide) _ _ (HW.out.qrt 2 (by decide)) HT.out).mono ?_); rintro e w2 ⟨rfl, hv, hg⟩; have HV := Lib.hid (show Blk w2 gy 26 (vx (qrt us 3) ry) from hv); have HG := Lib.hid (GR.out.trans hg); clear hv hg)
                go_roundw
                case rel => exact ⟨3, by decide, by first | rfl | go_num, HV.out, HG.out⟩
                case measure => simp only [intOf]; omega
              · go_wp2_with (go_at_call 60; (refine (HQC.out 3 7 11 15 (by decide) (by decide) (by decide) (by decide) _ _ (HW.out.qrt 3 (by decide)) HT.out).mono ?_); rintro e w2 ⟨rfl, hv, hg⟩; have HV := Lib.hid (show Blk w2 gy 26 (vx (qrt us 4) ry) from hv); have HG := Lib.hid (GR.out.trans hg); clear hv hg)
                go_roundw
                case rel => exact ⟨4, by decide, by first | rfl | go_num, HV.out, HG.out⟩
                case measure => simp only [intOf]; omega
            · obtain rfl : j = 4 := by omega
              rw [show ((4 : Nat) : Int) = 4 from rfl]
              go_wp2_with fail
              have HT0 := Lib.hid (show Blk wc gy 26 (vx (qrt us (4 + 0)) ry) from HT.out)
              clear HT
              go_loopw [13] (fun ji wd => ∃ j : Nat, j ≤ 4 ∧ ji = .int .i64 j ∧ Blk wd gy 26 (vx (qrt us (4 + j)) ry) ∧ wr.grownBy wd (some gy)) (fun ji _ => 4 - (intOf ji).toNat)
              case atStart => exact ⟨0, by omega, rfl, HT0.out, GR.out⟩
              case round =>
                clear HT0 GR
                rename World => wd
                obtain ⟨j, hj, rfl, hb, hg⟩ := hrel
                have HT := Lib.hid hb
                have GR := Lib.hid hg
                clear hb hg
                by_cases hlt : j < 4
                · rcases (show j = 0 ∨ j = 1 ∨ j = 2 ∨ j = 3 by omega) with rfl | rfl | rfl | rfl
                  · go_wp2_with (go_at_call 60; (refine (HQC.out 0 5 10 15 (by decide) (by decide) (by decide) (by decide) _ _ (HW.out.qrt 4 (by decide)) HT.out).mono ?_); rintro e w2 ⟨rfl, hv, hg⟩; have HV := Lib.hid (show Blk w2 gy 26 (vx (qrt us 5) ry) from hv); have HG := Lib.hid (GR.out.trans hg); clear hv hg)
                    go_roundw
                    case rel => exact ⟨1, by decide, by first | rfl | go_num, HV.out, HG.out⟩
                    case measure => simp only [intOf]; omega
                  · go_wp2_with (go_at_call 60; (refine (HQC.out 1 6 11 12 (by decide) (by decide) (by decide) (by decide) _ _ (HW.out.qrt 5 (by decide)) HT.out).mono ?_); rintro e w2 ⟨rfl, hv, hg⟩; have HV := Lib.hid (show Blk w2 gy 26 (vx (qrt us 6) ry) from hv); have HG := Lib.hid (GR.out.trans hg); clear hv hg)
                    go_roundw
                    case rel => exact ⟨2, by decide, by first | rfl | go_num, HV.out, HG.out⟩
                    case measure => simp only [intOf]; omega
                  · go_wp2_with (go_at_call 60; (refine (HQC.out 2 7 8 13 (by decide) (by decide) (by decide) (by decide) _ _ (HW.out.qrt 6 (by decide)) HT.out).mono ?_); rintro e w2 ⟨rfl, hv, hg⟩; have HV := Lib.hid (show Blk w2 gy 26 (vx (qrt us 7) ry) from hv); have HG := Lib.hid (GR.out.trans hg); clear hv hg)
                    go_roundw
                    case rel => exact ⟨3, by decide, by first | rfl | go_num, HV.out, HG.out⟩
                    case measure => simp only [intOf]; omega
                  · go_wp2_with (go_at_call 60; (refine (HQC.out 3 4 9 14 (by decide) (by decide) (by decide) (by decide) _ _ (HW.out.qrt 7 (by decide)) HT.out).mono ?_); rintro e w2 ⟨rfl, hv, hg⟩; have HV := Lib.hid (show Blk w2 gy 26 (vx (qrt us 8) ry) from hv); have HG := Lib.hid (GR.out.trans hg); clear hv hg)
                    go_roundw
                    case rel => exact ⟨4, by decide, by first | rfl | go_num, HV.out, HG.out⟩
                    case measure => simp only [intOf]; omega
                · obtain rfl : j = 4 := by omega
                  go_wp2_with fail
                  go_roundw
                  case rel => exact ⟨m + 1, by omega, by go_num, by rw [HNX.out]; exact HT.out, GR.out⟩
                  case measure => simp only [intOf]; omega
        · obtain rfl : m = 10 := by omega
          rw [show ((10 : Nat) : Int) = 10 from rfl]
          have HW := Lib.hid (H16.out.rnds 10)
          generalize rnds fr 10 = us at *
          have HX2 := Lib.hid (g1_blk GR.out HX.out hxy)
          have HB2 := Lib.hid (HBW.out.trans (g1_below GR.out hgy HBW.out.size))
          clear HX HBW GR HQC
          go_wp2_with fail
          go_loopw [14, 15, 100] (fun vo vi vt ws => ∃ i : Nat, i ≤ 16 ∧ vi = .int .i64 i ∧ OwnB ws wb.heap.size vo ((List.range (4 * i)).map (outB us fr)) ∧ Below wb.heap.size wb ws ∧ isTok vt = false) (fun _ vi _ _ => 16 - (intOf vi).toNat)
          case atStart => exact ⟨0, by omega, rfl, OwnB.nil_ _ _, Below.refl _ _, by rfl⟩
          case round =>
            rename World => ws
            obtain ⟨i, hi, rfl, how, hbw, htk⟩ := hrel
            have HOW := Lib.hid how
            have HBS := Lib.hid hbw
            have HTK := Lib.hid htk
            clear how hbw htk
            by_cases hlt : i < 16
            · have p1 : (i : Int) < 16 := by omega
              have c0 := cell_ext (((HT.out.below HBS.out HT.out.lt).cell i).trans (vx_at us ry i (by rw [HW.out.len]; exact hlt)))
              have c1 := cell_ext (((HX2.out.below HBS.out HX2.out.lt).cell i).trans (vx_at fr rx i (by rw [H16.out.len]; exact hlt)))
              have HNS := Lib.hid (out_step us fr i)
              have HLO := Lib.hid (show ((List.range (4 * i)).map (outB us fr)).length = 4 * i by simp)
              have x0 := HW.out.lt i
              have x1 := H16.out.lt i
              obtain ⟨s, hs⟩ : ∃ s, s = (us.getD i 0 + fr.getD i 0) % 4294967296 := ⟨_, rfl⟩
              have f0 : IntKind.u32.wrap (((us.getD i 0 : Nat) : Int) + ((fr.getD i 0 : Nat) : Int)) = (s : Int) := by rw [wrap32]; omega
              have f1 : IntKind.u64.wrap (s : Int) = (s : Int) := by simp [IntKind.wrap, IntKind.signed, IntKind.bits]; omega
              rw [← hs] at HNS
              have hs32 : s < 4294967296 := by omega
              have hf4' := form_len s 4
              clear hs
              generalize us.getD i 0 = a at *
              generalize fr.getD i 0 = b at *
              generalize (List.range (4 * i)).map (outB us fr) = O at *
              go_wp2_with fail
              refine wp_region_loudTail 12 ws [100] (fun _ u W => OwnB W ws.heap.size u (form s 4)) (by kernel_rfl) (by kernel_rfl) (by kernel_rfl) (by have h := HTK.out; exact congrArg (fun b => !b && true) h) (fun _ _ _ _ h hb => OwnB.next h hb) (Below.refl _ _).drew ?_
              simp only [List.take_succ_cons, List.take_zero, List.drop_succ_cons, List.drop_zero]
              repeat (first
                | (refine wpLoud_plain rfl rfl rfl ?_; intro K hK; go_big_quiet_op; go_big_quiet_on)
                | (refine wpLoud_call 100 rfl [] tok 38 (fun g => #[.int .u64 (s : Nat), .int .i64 4]) (by kernel_rfl) (fun _ _ h => by cases h) (by kernel_rfl) (fun g w => by kernel_rfl) (fun g y hg => by
                    refine (rform_c s 4 _ (by omega) (by decide)).mono ?_
                    rintro e w' ⟨u, rfl, ho, hb⟩
                    exact ⟨u, rfl, hb, own_base_le ho y.2.size⟩) _ (by simp only [Act.put, List.setIfInBounds_toArray, List.set_cons_succ, List.set_cons_zero]; rfl) ?_))
              refine wpLoud_end [100] (by rfl) ?_
              intro g z hg
              have h9 : OwnB z.wd ws.heap.size (g 100) (form s 4) := hg 100 (by simp)
              obtain ⟨A9, k9, e9, _, _, r9⟩ := h9.rd
              rw [hf4'] at e9
              have HR9 := Lib.hid r9
              have HOZ := Lib.hid (HOW.out.next z.bel)
              have HBZ := Lib.hid (HBS.out.trans (z.bel.mono HBS.out.size))
              generalize z.wd = Y2 at *
              simp only [fill, Act.put, List.setIfInBounds_toArray, List.set_cons_succ, List.set_cons_zero]
              rw [e9]
              clear hg h9 r9 e9 HOW HBS c0 c1
              go_wp2_with (at_builtin; refine wpList_app _ rfl (.tmp 89) (.tmp 100) _ rfl wb.heap.size 5 i0 (.int .u8 0) 1 1 Tryd.underlying30 hib hz0 hz1 hz2 rfl (by decide) _ O.length (byt O) rfl HOZ.out _ A9 4 k9 (byt (form s 4)) rfl (by simp [byt_len, hf4']) HR9.out (byt_one _) (by rw [HLO.out]; omega) (by rw [HLO.out]; omega) (by have := HBZ.out.size; omega) ?_; intro v9 w9 hap; have HO9 := Lib.hid (show OwnB w9 wb.heap.size v9 ((List.range (4 * (i + 1))).map (outB us fr)) from by rw [HNS.out]; exact OwnB.app (by rw [hf4']; exact hap)); have HB9 := Lib.hid (show Below wb.heap.size wb w9 from HBZ.out.trans (hap.below HOZ.out (by have := HBZ.out.size; omega))); clear hap)
              go_roundw
              case rel => exact ⟨i + 1, by omega, by go_num, HO9.out, HB9.out, by rfl⟩
              case measure => simp only [intOf]; omega
            · obtain rfl : i = 16 := by omega
              go_wp2_with fail
              refine bodyPost_ret (results_tmp rfl _ _ _) rfl ?_
              exact ⟨_, rfl, by rw [HBK.out]; exact own_base_le HOW.out (Nat.le_trans HB4.out.size HB2.out.size), HB4.out.trans ((HB2.out.trans (HBS.out.mono HB2.out.size)).mono HB4.out.size)⟩
end Go.Proofs.YtaikejlcpnelpaaDoor
