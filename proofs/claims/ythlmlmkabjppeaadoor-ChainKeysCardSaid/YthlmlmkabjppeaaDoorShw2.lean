/- Contract: schedule. -/
import Derived.Test.YthlmlmkabjppeaaDoorShw1
import Derived.StillTailTactics
import Derived.Laws.ResultCell
import Derived.Laws.Rows
import Derived.Great.BuildSlice
namespace Go.Proofs.YthlmlmkabjppeaaDoor
open Go.RowKit
set_option linter.unusedVariables false
/-- words as cells -/
def w32 (l : List Nat) : List Value := l.map fun (n : Nat) => Value.int .u32 (n : Int)
def vw (l : List Nat) : Array Value := (w32 l).toArray
theorem w32_len (l : List Nat) : (w32 l).length = l.length := by simp [w32]
theorem vw_size (l : List Nat) : (vw l).size = l.length := by simp [vw, w32]
theorem vw_at (l : List Nat) (i : Nat) (h : i < l.length) : (vw l)[i]? = some (.int .u32 (l.getD i 0 : Nat)) := by
  simp [vw, w32, h, List.getD_eq_getElem?_getD]
theorem vw_set (l : List Nat) (i n : Nat) : (vw l).setIfInBounds i (.int .u32 (n : Nat)) = vw (l.set i n) := by
  unfold vw w32
  rw [List.setIfInBounds_toArray, List.map_set]
theorem vw_one (l : List Nat) : (vw l).all (·.oneCell') = true := by
  rw [Array.all_eq_true_iff_forall_mem]
  intro v hv
  simp only [vw, w32, List.mem_toArray, List.mem_map] at hv
  obtain ⟨n, _, rfl⟩ := hv
  rfl
/-- the schedule as far as it is laid -/
def schZ (l : List Nat) (k : Nat) : List Nat := sch l k ++ List.replicate (64 - k) 0
theorem schZ_len (l : List Nat) (k : Nat) (h : k ≤ 64) : (schZ l k).length = 64 := by simp [schZ, sch_len]; omega
theorem schZ_zero (l : List Nat) : schZ l 0 = List.replicate 64 0 := by simp [schZ, sch]
theorem schZ_end (l : List Nat) : schZ l 64 = sch l 64 := by simp [schZ]
theorem schZ_at (l : List Nat) (k i : Nat) (h : i < k) : (schZ l k).getD i 0 = (sch l k).getD i 0 := by
  unfold schZ
  rw [List.getD_eq_getElem?_getD, List.getElem?_append_left (by rw [sch_len]; exact h), List.getD_eq_getElem?_getD]
theorem schZ_set (l : List Nat) (k : Nat) (h : k < 64) : (schZ l k).set k (nxt l (sch l k) k) = schZ l (k + 1) := by
  unfold schZ
  rw [List.set_append_right _ _ (by rw [sch_len]; exact Nat.le_refl _), sch_len, Nat.sub_self, show 64 - k = (64 - (k + 1)) + 1 by omega, List.replicate_succ, List.set_cons_zero, sch]
  simp
theorem sch_at_lt {l : List Nat} (hl : ∀ c ∈ l, c < 256) (k i : Nat) : (sch l k).getD i 0 < 4294967296 := by
  rw [List.getD_eq_getElem?_getD]
  rcases Nat.lt_or_ge i (sch l k).length with h | h
  · rw [List.getElem?_eq_getElem h]; exact sch_lt hl k _ (List.getElem_mem _)
  · rw [List.getElem?_eq_none h]; decide
def z64w : Array Value := vw (List.replicate 64 0)
theorem zero_64 (w : World) : (zeroValue 86).run Tryd.prog w = .ok (.agg z64w) w := by kernel_rfl
theorem or_put {i a b n m : Nat} (h : b < 2 ^ i) (hn : n = 2 ^ i * a) (hm : n + b = m) : n ||| b = m := by
  rw [← hm, hn]
  exact (Nat.two_pow_add_eq_or_of_lt h a).symm
theorem be4_or (a b c d : Nat) (ha : a < 256) (hb : b < 256) (hc : c < 256) (hd : d < 256) : a * 16777216 ||| b * 65536 = a * 16777216 + b * 65536 ∧ (a * 16777216 + b * 65536) ||| c * 256 = a * 16777216 + b * 65536 + c * 256 ∧ (a * 16777216 + b * 65536 + c * 256) ||| d = ((a * 256 + b) * 256 + c) * 256 + d :=
  ⟨or_put (i := 24) (a := a) (by omega) (by omega) rfl, or_put (i := 16) (a := a * 256 + b) (by omega) (by omega) rfl, or_put (i := 8) (a := (a * 256 + b) * 256 + c) (by omega) (by omega) (by omega)⟩
theorem be_facts (y0 y1 y2 y3 : Nat) (x0 : y0 < 256) (x1 : y1 < 256) (x2 : y2 < 256) (x3 : y3 < 256) :
    ∃ z0 z1 z2 s2 s3 be : Nat, (y0 : Int) * 16777216 = (z0 : Int) ∧ (y1 : Int) * 65536 = (z1 : Int) ∧ (y2 : Int) * 256 = (z2 : Int) ∧ be = ((y0 * 256 + y1) * 256 + y2) * 256 + y3 ∧ IntKind.u32.wrap ((y0 : Int) * 16777216) = (z0 : Int) ∧ IntKind.u32.wrap ((y1 : Int) * 65536) = (z1 : Int) ∧ IntKind.u32.wrap ((y2 : Int) * 256) = (z2 : Int) ∧
      bits BinOp.or .u32 (z0 : Int) (z1 : Int) = (s2 : Int) ∧ bits BinOp.or .u32 (s2 : Int) (z2 : Int) = (s3 : Int) ∧ bits BinOp.or .u32 (s3 : Int) (y3 : Int) = (be : Int) := by
  obtain ⟨ob1, ob2, ob3⟩ := be4_or y0 y1 y2 y3 x0 x1 x2 x3
  refine ⟨y0 * 16777216, y1 * 65536, y2 * 256, y0 * 16777216 + y1 * 65536, y0 * 16777216 + y1 * 65536 + y2 * 256, _, by omega, by omega, by omega, rfl, by rw [wrap32]; omega, by rw [wrap32]; omega, by rw [wrap32]; omega, ?_, ?_, ?_⟩
  · rw [u32_or_nat _ _ (by omega) (by omega), ob1]
  · rw [u32_or_nat _ _ (by omega) (by omega), ob2]
  · rw [u32_or_nat _ _ (by omega) (by omega), ob3]
set_option maxRecDepth 100000 in
set_option maxHeartbeats 2000000 in
theorem schedule_c (B : Nat) (ad0 : Addr) (ca : Nat) (l : List Nat) (w : World) (hl : ∀ c ∈ l, c < 256) (hr : Rd w B (some ad0) (byt l)) (hB : B ≤ w.heap.size) (h64 : l.length = 64) (hca : 64 ≤ ca) :
    Calls Tryd.prog 55 #[.slice (some ad0) 64 ca] w fun e w' => e = .returned (.agg (vw (sch l 64))) ∧ Below w.heap.size w w' := by
  have zf := zero_64
  have zs1 : z64w.size = 64 := by rfl
  have zs2 : ¬ z64w = #[] := by intro h; have := congrArg Array.size h; rw [zs1] at this; cases this
  have HL := Lib.hid hl
  have HR := Lib.hid hr
  clear hl hr
  go_enter Tryd.func55, Tryd.ntmps55
  go_upto_region 2 with fail
  obtain ⟨Z, hZ⟩ : ∃ Z, Z = (w.alloc (Obj.cells z64w 86)).alloc (Obj.cells z64w 86) := ⟨_, rfl⟩
  have hb2 : Blk Z w.heap.size 86 z64w := by rw [hZ]; exact (Blk.new w _ _).alloc _
  have hb3 : Blk Z (w.heap.size + 1) 86 (vw (schZ l 0)) := by
    rw [hZ, schZ_zero]
    have h := Blk.new (w.alloc (Obj.cells z64w 86)) 86 z64w
    rw [show (w.alloc (Obj.cells z64w 86)).heap.size = w.heap.size + 1 by simp] at h
    exact h
  have hbz : Below w.heap.size w Z := by rw [hZ]; exact ((Below.refl _ _).alloc (Nat.le_refl _) _).alloc (Nat.le_trans (Nat.le_refl _) (by simp)) _
  rw [← hZ]
  clear hZ
  have H2 := Lib.hid hb2
  have H3 := Lib.hid hb3
  have HZ := Lib.hid hbz
  clear hb2 hb3 hbz zf zs1 zs2
  go_wp2_with fail
  go_loopw [6] (fun i wr => ∃ k : Nat, k ≤ 64 ∧ i = .int .i64 k ∧ Blk wr (w.heap.size + 1) 86 (vw (schZ l k)) ∧ Blk wr w.heap.size 86 z64w ∧ Below w.heap.size w wr) (fun i _ => 64 - (intOf i).toNat)
  case atStart => exact ⟨0, by omega, rfl, H3.out, H2.out, HZ.out⟩
  case round =>
    rename World => wr
    obtain ⟨k, hk, rfl, hb3, hb2, hbw⟩ := hrel
    have HK := Lib.hid hb3
    have HK2 := Lib.hid hb2
    have HKW := Lib.hid hbw
    clear hb3 hb2 hbw H2 H3
    by_cases hlt : k < 64
    · by_cases h16 : k < 16
      · have hnx : nxt l (sch l k) k = ((l.getD (4 * k) 0 * 256 + l.getD (4 * k + 1) 0) * 256 + l.getD (4 * k + 2) 0) * 256 + l.getD (4 * k + 3) 0 := by unfold nxt; rw [if_pos h16]; rfl
        have hset := schZ_set l k hlt
        rw [hnx] at hset
        have HSET := Lib.hid hset
        have hcell : ∀ j, j < 4 → wr.cell? ((ad0.add (4 * k)).add j) = some (.int .u8 (l.getD (4 * k + j) 0 : Nat)) := fun j hj => by
          obtain ⟨a1, e1, _, hc⟩ := (HR.out.below (HKW.out.mono hB)).byte (k := 4 * k + j) (by omega)
          injection e1 with e1
          subst e1
          rw [Addr.add_add]
          exact hc
        have q0 := hcell 0 (by decide)
        have q1 := hcell 1 (by decide)
        have q2 := hcell 2 (by decide)
        have q3 := hcell 3 (by decide)
        have x0 := getD_lt HL.out (4 * k)
        have x1 := getD_lt HL.out (4 * k + 1)
        have x2 := getD_lt HL.out (4 * k + 2)
        have x3 := getD_lt HL.out (4 * k + 3)
        simp only [Nat.add_zero] at q0
        rw [show ∀ a : Addr, a.add 0 = a from fun a => by simp [Addr.add]] at q0
        rw [show ∀ a : Addr, a.add 1 = ⟨a.block, a.off + 1, none⟩ from fun a => by simp [Addr.add]] at q1
        rw [show ∀ a : Addr, a.add 2 = ⟨a.block, a.off + 2, none⟩ from fun a => by simp [Addr.add]] at q2
        rw [show ∀ a : Addr, a.add 3 = ⟨a.block, a.off + 3, none⟩ from fun a => by simp [Addr.add]] at q3
        have d4 : wr.cell? ⟨w.heap.size + 1, k, none⟩ = some (.int .u32 ((schZ l k).getD k 0 : Nat)) := (HK.out.cell k).trans (vw_at _ k (by rw [schZ_len l k hk]; exact hlt))
        have f4 : wr.frozen? ⟨w.heap.size + 1, k, none⟩ = false := HK.out.free k
        clear hnx hset hcell
        generalize l.getD (4 * k) 0 = y0 at *
        generalize l.getD (4 * k + 1) 0 = y1 at *
        generalize l.getD (4 * k + 2) 0 = y2 at *
        generalize l.getD (4 * k + 3) 0 = y3 at *
        obtain ⟨z0, z1, z2, s2, s3, be, e0, e1, e2, hbe, r0, r1, r2, o1, o2, o3⟩ := be_facts y0 y1 y2 y3 x0 x1 x2 x3
        rw [← hbe] at HSET
        clear hbe
        have HB4 := Lib.hid (show 4 * k + 4 ≤ 64 by omega)
        go_wp2_with fail
        generalize ad0.add (4 * k) = adk at *
        have m0 : 0 < 64 - 4 * k := by omega
        have m1 : 1 < 64 - 4 * k := by omega
        have m2 : 2 < 64 - 4 * k := by omega
        have m3 : 3 < 64 - 4 * k := by omega
        generalize 64 - 4 * k = mm at *
        have n1 : (1 : Int) < (mm : Int) := by omega
        have n2 : (2 : Int) < (mm : Int) := by omega
        have n3 : (3 : Int) < (mm : Int) := by omega
        have c0 : IntKind.u32.wrap (y0 : Int) = (y0 : Int) := by rw [wrap32]; omega
        have c1 : IntKind.u32.wrap (y1 : Int) = (y1 : Int) := by rw [wrap32]; omega
        have c2 : IntKind.u32.wrap (y2 : Int) = (y2 : Int) := by rw [wrap32]; omega
        have c3 : IntKind.u32.wrap (y3 : Int) = (y3 : Int) := by rw [wrap32]; omega
        refine wp_region_still_tail 24 (by kernel_rfl) (by kernel_rfl) ?_
        simp only [List.take_succ_cons, List.take_zero, List.drop_succ_cons, List.drop_zero]
        repeat still_step
        try refine wpStill_nil ?_
        change wpList _ _ _ _ _ wr.drew
        go_wp2_with fail
        go_roundw
        case rel => exact ⟨k + 1, by omega, by go_num, by rw [← HSET.out, ← vw_set]; exact (show Blk wr.drew _ _ _ from HK.out).set_ k _, (show Blk wr.drew _ _ _ from HK2.out).far (p := ⟨w.heap.size + 1, k, none⟩) (by simp) _, (HKW.out.setCell (p := ⟨w.heap.size + 1, k, none⟩) (Nat.le_succ _) _).drew⟩
        case measure => simp [intOf]; omega
      · have hnx : nxt l (sch l k) k = ad (ad (ad ((sch l k).getD (k - 16) 0) (s0 ((sch l k).getD (k - 15) 0))) ((sch l k).getD (k - 7) 0)) (s1 ((sch l k).getD (k - 2) 0)) := by unfold nxt; rw [if_neg h16]
        have hset := schZ_set l k hlt
        rw [hnx] at hset
        have HSET := Lib.hid hset
        have hq : ∀ j, 0 < j → j ≤ 16 → wr.cell? ⟨w.heap.size + 1, k - j, none⟩ = some (.int .u32 ((sch l k).getD (k - j) 0 : Nat)) := fun j h0 hj => by
          rw [← schZ_at l k (k - j) (by omega)]
          exact (HK.out.cell (k - j)).trans (vw_at _ _ (by rw [schZ_len l k hk]; omega))
        have q0 := hq 16 (by decide) (by decide)
        have q1 := hq 15 (by decide) (by decide)
        have q2 := hq 7 (by decide) (by decide)
        have q3 := hq 2 (by decide) (by decide)
        have d4 : wr.cell? ⟨w.heap.size + 1, k, none⟩ = some (.int .u32 ((schZ l k).getD k 0 : Nat)) := (HK.out.cell k).trans (vw_at _ k (by rw [schZ_len l k hk]; exact hlt))
        have f4 : wr.frozen? ⟨w.heap.size + 1, k, none⟩ = false := HK.out.free k
        have x0 := sch_at_lt HL.out k (k - 16)
        have x1 := sch_at_lt HL.out k (k - 15)
        have x2 := sch_at_lt HL.out k (k - 7)
        have x3 := sch_at_lt HL.out k (k - 2)
        clear hnx hset hq
        generalize (sch l k).getD (k - 16) 0 = y0 at *
        generalize (sch l k).getD (k - 15) 0 = y1 at *
        generalize (sch l k).getD (k - 7) 0 = y2 at *
        generalize (sch l k).getD (k - 2) 0 = y3 at *
        have T0 := Lib.hid (fun W => turn0_c y1 W x1)
        have T1 := Lib.hid (fun W => turn1_c y3 W x3)
        have a1 := wrap32_add y0 (s0 y1)
        have a2 := wrap32_add (ad y0 (s0 y1)) y2
        have a3 := wrap32_add (ad (ad y0 (s0 y1)) y2) (s1 y3)
        generalize ad (ad (ad y0 (s0 y1)) y2) (s1 y3) = r3 at *
        generalize ad (ad y0 (s0 y1)) y2 = r2 at *
        generalize ad y0 (s0 y1) = r1 at *
        generalize s0 y1 = t0 at *
        generalize s1 y3 = t1 at *
        have i1 : IntKind.i64.wrap ((k : Int) - 16) = ((k - 16 : Nat) : Int) := by simp [IntKind.wrap, IntKind.signed, IntKind.bits]; omega
        have i2 : IntKind.i64.wrap ((k : Int) - 15) = ((k - 15 : Nat) : Int) := by simp [IntKind.wrap, IntKind.signed, IntKind.bits]; omega
        have i3 : IntKind.i64.wrap ((k : Int) - 7) = ((k - 7 : Nat) : Int) := by simp [IntKind.wrap, IntKind.signed, IntKind.bits]; omega
        have i4 : IntKind.i64.wrap ((k : Int) - 2) = ((k - 2 : Nat) : Int) := by simp [IntKind.wrap, IntKind.signed, IntKind.bits]; omega
        have g1 : k - 16 < 64 := by omega
        have g2 : k - 15 < 64 := by omega
        have g3 : k - 7 < 64 := by omega
        have g4 : k - 2 < 64 := by omega
        generalize k - 16 = j0 at *
        generalize k - 15 = j1 at *
        generalize k - 7 = j2 at *
        generalize k - 2 = j3 at *
        have gg1 : (j0 : Int) < 64 := by omega
        have gg2 : (j1 : Int) < 64 := by omega
        have gg3 : (j2 : Int) < 64 := by omega
        have gg4 : (j3 : Int) < 64 := by omega
        go_wp2_with fail
        refine wp_region_still_tail 23 (by kernel_rfl) (by kernel_rfl) ?_
        simp only [List.take_succ_cons, List.take_zero, List.drop_succ_cons, List.drop_zero]
        iterate 9 still_step
        still_call ((T0.out _).mono fun _ _ h => ⟨h.1, h.2.symm⟩)
        iterate 10 still_step
        still_call ((T1.out _).mono fun _ _ h => ⟨h.1, h.2.symm⟩)
        repeat still_step
        try refine wpStill_nil ?_
        change wpList _ _ _ _ _ wr.drew
        go_wp2_with fail
        go_roundw
        case rel => exact ⟨k + 1, by omega, by go_num, by rw [← HSET.out, ← vw_set]; exact (show Blk wr.drew _ _ _ from HK.out).set_ k _, (show Blk wr.drew _ _ _ from HK2.out).far (p := ⟨w.heap.size + 1, k, none⟩) (by simp) _, (HKW.out.setCell (p := ⟨w.heap.size + 1, k, none⟩) (Nat.le_succ _) _).drew⟩
        case measure => simp [intOf]; omega
    · obtain rfl : k = 64 := by omega
      have hb3 := HK.out
      rw [schZ_end] at hb3
      have HE := Lib.hid hb3
      have hlen : (w32 (sch l 64)).length = 64 := by rw [w32_len, sch_len]
      have HI := Lib.hid (show (Tryd.prog.info? 86).map (·.size) = some (vw (sch l 64)).size by rw [vw_size, sch_len]; kernel_rfl)
      have HV := Lib.hid (show z64w.size = (vw (sch l 64)).size by rw [vw_size, sch_len]; rfl)
      clear hb3 HK
      go_wp2_with (first
        | (refine wpList_load_row rfl 86 (.tmp 3) rfl (w.heap.size + 1) rfl 86 (vw (sch l 64)) (0, 0) _ HE.out Tryd.underlying86 rfl HI.out ?_)
        | (refine wpList_store_rowTo rfl 86 (.tmp 2) (.tmp 63) rfl rfl w.heap.size (vw (sch l 64)) rfl rfl 86 z64w HK2.out HI.out HV.out (vw_one _) ?_))
      refine bodyPost_ret (results_cell_row rfl _ _ w.heap.size 86 (vw (sch l 64)) (0, 0) _ rfl (setRow_heap wr w.heap.size z64w _ 86 (0, 0) HK2.out) Tryd.underlying86 rfl HI.out) rfl ?_
      exact ⟨rfl, HKW.out.trans ⟨rfl, rfl, rfl, by simp [World.setRow], fun i hi => setRow_other wr w.heap.size i _ (by omega)⟩⟩
end Go.Proofs.YthlmlmkabjppeaaDoor
