/- Parts, one behind the other: Dh1 Dh2 Di1 Di2 OwP Bx2 Cb1 Cb2 Mk2 Cb3. -/
import Derived.Test.YtfnhmnbcponkfaaGreatDoorZ05
import Derived.Lib.AppendStr
import Derived.Lib.AppendZerosOnto
import Derived.Lib.ConvBytes
import Derived.Laws.IdiomCopy
import Derived.OrdersHeld
import Derived.Laws.Rows
import Derived.Great.BuildSlice
import Derived.Lib.SlBytesConst
set_option maxRecDepth 100000
set_option linter.unusedVariables false
set_option linter.unusedSimpArgs false
set_option maxHeartbeats 8000000
namespace Go.Proofs.YtfnhmnbcponkfaaGreatDoor
open Go.RowKit
section
variable {P : Program} {ops : Array Oper} {Z : World} {ls : List Tmp} {V : Tmp → Value → World → Prop} {Q : Act → Prop} {rest : List Oper} {o : Oper} {b : Act}
theorem wpLoud_valDP (d : Tmp) (hd : o.dst = some d) (hw : Region.wanted o (yielded ops b.tmps) = true) (hq : quietB ops ls o = true) (hsel : ∀ cs t, o.op ≠ .select cs t) (v : Value) (hr : ∀ x : Ext Z, (execOp b.eval o).run P x.wd = .ok (.value v) x.wd)
  (b' : Act) (hb : b.put o.dst v = b') (h : wpLoud P ops Z ls V Q rest b') : wpLoud P ops Z ls V Q (o :: rest) b := wpLoud_val hw hq hsel v hr b' hb h
end
theorem OwnB.rdAtP {w : World} {base : Nat} {A : Option Addr} {n c : Nat} {l : List Nat} (h : OwnB w base (.slice A n c) l) : Rd w w.heap.size A (byt l) := by
 obtain ⟨A', c', e, _, _, h3⟩ := h.rd
 injection e with e1 e2 e3
 rw [e1]; exact h3
theorem tailOf2P (n : Nat) : tailOf n 2 = form n 2 := rfl
theorem strCells_sby (s : ByteArray) : Lib.strCells s = byt (sby s) := by
 unfold Lib.strCells byt sby
 cases s with
 | mk d => rw [ByteArray.toList_mk, List.map_map]; rfl
theorem own_str {w5 : World} {base : Nat} {v5 : Value} {l : List Nat} {s : ByteArray} (h : w5.ownsRow base 5 1 v5 (l.length + s.size) (byt l ++ Lib.strCells s)) : OwnB w5 base v5 (l ++ sby s) := by
 unfold OwnB
 rw [jC, sby_len, ← byt_app, ← strCells_sby]
 exact h
theorem below_grown {w w' : World} {base : Nat} {v : Value} {l : List Nat} (h : OwnB w base v l) (hg : w.grownBy w' v.ownBlock) (hb : base ≤ w.heap.size) : Below base w w' :=
 (jE _ _).grown hg hb (fun k hk => own_base h k hk)
theorem wrap_w (x : Int) : wrap64 x = w64 x := by unfold wrap64 w64; rfl
theorem rows_cons (t step v : Int) (p : Pc) (l : List Pc) : rowsL t step v (p :: l) = (((sh (zig (wrap64 (wrap64 (p.t - t) - step))) ++ sh (zig (wrap64 (p.v - v)))) ++ sh p.n) ++ form p.d 2) ++ rowsL p.t (wrap64 (p.t - t)) p.v l := by simp only [wrap_w]; rfl
theorem wrap64_lo (x : Int) : -9223372036854775808 ≤ wrap64 x := by rw [wrap_w]; exact w64_lo x
theorem wrap64_hi (x : Int) : wrap64 x ≤ 9223372036854775807 := by rw [wrap_w]; exact w64_hi x
theorem idle2 {x y : Value} (h1 : isTok x = false) (h2 : isTok y = false) : (!isTok x && (!isTok y && true)) = true := by rw [h1, h2]; rfl
structure PcBlk (W : World) (g : Nat) (p : Pc) : Prop where
 b : Blk W g 77 (pcV p)
theorem PcBlk.next {W W' : World} {g : Nat} {p : Pc} (h : PcBlk W g p) (hb : Below W.heap.size W W') : PcBlk W' g p := ⟨h.b.below hb h.b.lt⟩
theorem PcBlk.c1 {W : World} {g : Nat} {p : Pc} (h : PcBlk W g p) : W.cell? ⟨g, 1, none⟩ = some (.int .i64 p.t) := (h.b.cell 1).trans rfl
theorem PcBlk.c2 {W : World} {g : Nat} {p : Pc} (h : PcBlk W g p) : W.cell? ⟨g, 2, none⟩ = some (.int .i64 p.v) := (h.b.cell 2).trans rfl
theorem PcBlk.c3 {W : World} {g : Nat} {p : Pc} (h : PcBlk W g p) : W.cell? ⟨g, 3, none⟩ = some (.int .u64 (p.n : Int)) := (h.b.cell 3).trans rfl
theorem PcBlk.c4 {W : World} {g : Nat} {p : Pc} (h : PcBlk W g p) : W.cell? ⟨g, 4, none⟩ = some (.int .u16 (p.d : Int)) := (h.b.cell 4).trans rfl
theorem putG_c (B : Nat) (A : Option Addr) (ca c : Nat) (b : List Nat) (ad : Addr) (g : List Pc) (w : World) (hr : Rd w B A (byt b)) (hB : B ≤ w.heap.size) (hbl : b.length ≤ 100000) (hat : AtA w ad (pcs g)) (hab : ad.block < w.heap.size) (h0 : 0 < g.length) (h1 : g.length ≤ 100000) (hk : ∀ p ∈ g, PcOk p ∧ p.s.size ≤ 1000000) :
  Calls Tryz.prog 95 #[.slice A b.length ca, .slice (some ad) g.length c] w (Gives (b ++ putL g) w) := by
 obtain ⟨i0, hib, hz0, hz1, hz2⟩ := info_parts byteInfo
 have zf := zero_pc
 have zs1 : zPc.size = 5 := by rfl
 have zs2 : ¬ zPc = #[] := by intro h; have := congrArg Array.size h; rw [zs1] at this; cases this
 have HR := Li hr
 have HAT := Li hat
 have HAB := Li hab
 have HOKP := Li (show ∀ k, k < g.length → PcOk (g.getD k pc0) from fun k h => (hk _ (by simp [jA, h])).1)
 have hp0 := (hk (g.getD 0 pc0) (by simp [jA, h0])).2
 have HPUT := Li (show b ++ putL g = (((b ++ sh (g.getD 0 pc0).s.size) ++ sby (g.getD 0 pc0).s) ++ sh g.length) ++ rowsL 0 0 0 g by
  cases g with
  | nil => simp at h0
  | cons p g => unfold putL; simp only [List.getD_cons_zero, List.append_assoc])
 have e0 := cell_ext ((hat.piece 0 h0).ser)
 have hps := sh64 (g.getD 0 pc0).s.size (by omega)
 have HP1 := Li (fun W A c (h : Rd W W.heap.size A (byt b)) => putSh_c W.heap.size A c b (g.getD 0 pc0).s.size W h (by omega) (by omega))
 have hgs := sh64 g.length (by omega)
 obtain ⟨b1, hb1⟩ : ∃ b1, b1 = b ++ sh (g.getD 0 pc0).s.size := ⟨_, rfl⟩
 have hb1n : b1.length ≤ 100010 := by rw [hb1, jC]; omega
 rw [← hb1] at HPUT HP1
 have HPZ := Li (putSh_c B A ca b (g.getD 0 pc0).s.size)
 rw [← hb1] at HPZ
 clear hat hab hk hb1 hr
 generalize g.getD 0 pc0 = p0 at *
 have f1 : IntKind.u64.wrap (p0.s.size : Int) = (p0.s.size : Int) := by rw [IntKind.wrap_u64]; omega
 have f2 : IntKind.u64.wrap (g.length : Int) = (g.length : Int) := by rw [IntKind.wrap_u64]; omega
 have q0 : (0 : Int) < (g.length : Int) := by omega
 have hT : ∃ Tg, Tg = b ++ putL g := ⟨_, rfl⟩
 obtain ⟨Tg, hTg⟩ := hT
 rw [← hTg] at HPUT ⊢
 clear hTg
 rw [show ad.add (0 * 5) = ad by simp [Addr.add]] at e0
 go_enter Tryz.func95, Tryz.ntmps95
 go_upto_region 1 with fail
 refine wp_region_loudTail 12 w [17] (fun _ u W => OwnB W w.heap.size u b1) (by kernel_rfl) (by kernel_rfl) (by kernel_rfl) (by kernel_rfl) (fun _ _ _ _ h hb => OwnB.next h hb) (jE _ _).drew ?_
 simp only [List.take_succ_cons, List.take_zero, List.drop_succ_cons, List.drop_zero]
 repeat (first
  | (refine wpLoud_call 17 rfl [] tok 94 (fun g => #[.slice A b.length ca, .int .u64 (p0.s.size : Nat)]) rfl (fun _ _ h => by cases h) rfl (fun g w => by kernel_rfl) (fun g y hg => by
    refine (HPZ.out y.wd (HR.out.ext y.bel) (by omega) (by omega)).mono ?_
    rintro e w' ⟨u, rfl, ho, hb⟩
    exact ⟨u, rfl, hb, own_base_le ho y.2.size⟩) _ (by simp only [Act.put, sI, sS, sZ]; rfl) ?_)
  | (refine wpLoud_valDP 15 rfl rfl (by kernel_rfl) (fun _ _ h => by cases h) (.int .i64 (p0.s.size : Nat)) (fun x => by kernel_rfl) _ (by simp only [Act.put, sI, sS, sZ]; rfl) ?_)
  | (refine wpLoud_plain rfl rfl rfl ?_; intro K hK; go_big_quiet_op; go_big_quiet_on))
 refine wpLoud_end [17] (by rfl) ?_
 intro gg z hg
 have h9 : OwnB z.wd w.heap.size (gg 17) b1 := hg 17 (by simp)
 have HO9 := Li h9
 have HB9 := Li z.bel
 generalize z.wd = Y at *
 simp only [fill, Act.put, sI, sS, sZ]
 generalize gg 17 = v17 at *
 clear hg h9 e0 HPZ HP1
 have H63 := Li (show b1.length + p0.s.size ≤ maxLen by simp only [maxLen]; omega)
 have HBY := Li (show b1.length + p0.s.size ≤ 140737488355328 by omega)
 refine Lib.wpList_append_own_string _ rfl (.tmp 17) (.tmp 21) 23 9 rfl w.heap.size 5 i0 Tryz.underlying23 Tryz.underlying9 hib hz0 hz1 hz2 v17 b1.length (byt b1) rfl HO9.out p0.s rfl H63.out HBY.out HB9.out.size ?_
 intro v5 w5 ho hgr _
 have HO5 := Li (own_str ho)
 have HB5 := Li (HB9.out.trans (below_grown HO9.out hgr HB9.out.size))
 clear ho hgr
 go_upto_region 2 with fail
 obtain ⟨b2, hb2⟩ : ∃ b2, b2 = b1 ++ sby p0.s := ⟨_, rfl⟩
 have hb2n : b2.length ≤ 1100010 := by rw [hb2, jC, sby_len]; omega
 rw [← hb2] at HO5 HPUT
 obtain ⟨A5, c5, rfl, _, _, r5⟩ := HO5.out.rd
 have HPN := Li (putSh_c w5.heap.size A5 c5 b2 g.length w5 r5 (by omega) (by omega))
 clear hb2 r5 HO9 HB9
 go_upto_region 3 with (go_at_call 94; (refine HPN.out.mono ?_); rintro e W6 ⟨v6, rfl, ho, hb⟩; have HO6 := Li (show OwnB W6 w.heap.size v6 (b2 ++ sh g.length) from own_base_le ho HB5.out.size); have HB6 := Li (HB5.out.trans (hb.mono HB5.out.size)); clear ho hb)
 obtain ⟨b3, hb3⟩ : ∃ b3, b3 = b2 ++ sh g.length := ⟨_, rfl⟩
 have hb3n : b3.length ≤ 1100020 := by rw [hb3, jC]; omega
 rw [← hb3] at HO6 HPUT
 clear hb3 HPN HO5 HB5 f1 f2
 go_wp2_with fail
 go_loopw [0, 5, 6, 7, 30, 54, 59] (fun bv tv sv vv i v54 v59 wr => isTok v54 = false ∧ isTok v59 = false ∧ ∃ (k : Nat) (pre : List Nat) (t step v : Int), k ≤ g.length ∧ i = .int .i64 k ∧ tv = .int .i64 t ∧ sv = .int .i64 step ∧ vv = .int .i64 v ∧ Tg = pre ++ rowsL t step v (g.drop k) ∧ pre.length ≤ b3.length + 32 * k ∧ OwnB wr w.heap.size bv pre ∧ Below w.heap.size w wr ∧ (-9223372036854775808 ≤ t ∧ t ≤ 9223372036854775807) ∧ (-9223372036854775808 ≤ step ∧ step ≤ 9223372036854775807) ∧ (-9223372036854775808 ≤ v ∧ v ≤ 9223372036854775807)) (fun _ _ _ _ i _ _ _ => g.length - (intOf i).toNat)
 case atStart => exact ⟨by rfl, by rfl, 0, b3, 0, 0, 0, Nat.zero_le _, rfl, rfl, rfl, rfl, HPUT.out, by omega, HO6.out, HB6.out, by omega, by omega, by omega⟩
 case round =>
  rename World => wr
  rename_i v54 v59 _
  obtain ⟨htk1, htk2, k, pre, t, step, v, hk, rfl, rfl, rfl, rfl, htg, hpn, ho, hb, ht, hst, hv⟩ := hrel
  have HTK1 := Li htk1
  have HTK2 := Li htk2
  clear htk1 htk2
  have HTG := Li htg
  have HO := Li ho
  have HB := Li hb
  clear htg ho hb HPUT HO6 HB6
  by_cases hlt : k < g.length
  ·have q1 : (k : Int) < (g.length : Int) := by omega
   have HPA := Li ((HAT.out.below HB.out HAB.out).piece k hlt)
   have HPI := Li (pcLn (g.getD k pc0))
   have HPS := Li (pcInfo (g.getD k pc0))
   have HKP := Li (HOKP.out k hlt)
   have HDR := Li (show g.drop k = g.getD k pc0 :: g.drop (k + 1) by rw [List.drop_eq_getElem_cons hlt]; simp [jA, hlt])
   generalize g.getD k pc0 = p at *
   have HRW := Li (rows_cons t step v p (g.drop (k + 1)))
   have hzl1 := sh64 _ (zig_lt (wrap64 (wrap64 (p.t - t) - step)) (wrap64_lo _) (wrap64_hi _))
   have hzl2 := sh64 _ (zig_lt (wrap64 (p.v - v)) (wrap64_lo _) (wrap64_hi _))
   have hzl3 := sh64 _ HKP.out.n1
   have HL1 := Li hzl1
   have HL2 := Li hzl2
   have HL3 := Li hzl3
   clear hzl1 hzl2 hzl3
   obtain ⟨A7, c7, rfl, _, _, _⟩ := HO.out.rd
   have hpt := HKP.out.t0
   have hpt1 := HKP.out.t1
   have hpv := HKP.out.v0
   have hpv1 := HKP.out.v1
   go_upto_region 7 with (first
    | (refine wpList_loadA rfl 77 (.tmp 32) rfl (ad.add (k * 5)) rfl (pcL p) _ HPA.out Tryz.underlying77 rfl HPI.out ?_)
    | (refine wpList_store_rowTo rfl 77 (.tmp 9) (.tmp 33) rfl rfl wr.heap.size (pcV p) rfl rfl 77 zPc (by exact Blk.new wr _ _) HPS.out rfl (pcV_one _) ?_))
   have hnr := new_rowP wr 77 zPc (pcV p)
   have HX := Li (show PcBlk _ wr.heap.size p from ⟨hnr.1⟩)
   have HOX := Li (HO.out.next hnr.2)
   have HBX := Li (HB.out.trans (hnr.2.mono HB.out.size))
   generalize (wr.alloc (Obj.cells zPc 77)).setRow wr.heap.size (pcV p) = X at *
   generalize wr.heap.size = gp at *
   clear hnr
   have c1 := HX.out.c1
   have hnl : pre.length ≤ 9000000 := by omega
   obtain ⟨z1, hz1'⟩ : ∃ z1, z1 = zig (wrap64 (wrap64 (p.t - t) - step)) := ⟨_, rfl⟩
   obtain ⟨z2, hz2'⟩ : ∃ z2, z2 = zig (wrap64 (p.v - v)) := ⟨_, rfl⟩
   have HZB1 := Li (show z1 < 18446744073709551616 by rw [hz1']; exact zig_lt _ (wrap64_lo _) (wrap64_hi _))
   have HZB2 := Li (show z2 < 18446744073709551616 by rw [hz2']; exact zig_lt _ (wrap64_lo _) (wrap64_hi _))
   have HZC1 := Li (show ∀ W, Calls Tryz.prog 115 #[.int .i64 (wrap64 (wrap64 (p.t - t) - step))] W fun e w' => e = .returned (.int .u64 (z1 : Nat)) ∧ W = w' from fun W => by rw [hz1']; exact zig_c _ W (wrap64_lo _) (wrap64_hi _))
   have HZC2 := Li (show ∀ W, Calls Tryz.prog 115 #[.int .i64 (wrap64 (p.v - v))] W fun e w' => e = .returned (.int .u64 (z2 : Nat)) ∧ W = w' from fun W => by rw [hz2']; exact zig_c _ W (wrap64_lo _) (wrap64_hi _))
   rw [← hz1', ← hz2'] at HRW
   rw [← hz1'] at HL1
   rw [← hz2'] at HL2
   clear hz1' hz2'
   have HPS1 := Li (putSh_c X.heap.size A7 c7 pre z1 X HOX.out.rdAtP (by have := HZB1.out; omega) (by omega))
   go_upto_region 8 with (first
    | (go_at_call 115; (refine (HZC1.out X).mono ?_); rintro e W2 ⟨rfl, rfl⟩)
    | (go_at_call 94; (refine HPS1.out.mono ?_); rintro e W2 ⟨v2, rfl, ho2, hb2⟩; have HO2 := Li (show OwnB W2 w.heap.size v2 (pre ++ sh z1) from own_base_le ho2 HBX.out.size); have HB2 := Li (HBX.out.trans (hb2.mono HBX.out.size)); have HX2 := Li (HX.out.next hb2); clear ho2 hb2))
   obtain ⟨pre1, hpre1⟩ : ∃ pre1, pre1 = pre ++ sh z1 := ⟨_, rfl⟩
   have hn1 : pre1.length ≤ pre.length + 10 := by rw [hpre1, jC]; have := HL1.out; omega
   rw [← hpre1] at HO2
   have HE1 := Li hpre1
   obtain ⟨A8, c8, rfl, _, _, _⟩ := HO2.out.rd
   have c2 := HX2.out.c2
   have HPS2 := Li (putSh_c W2.heap.size A8 c8 pre1 z2 W2 HO2.out.rdAtP (by have := HZB2.out; omega) (by omega))
   clear hpre1 c1 HPS1 HZC1 HOX HX
   go_upto_region 9 with (first
    | (go_at_call 115; (refine (HZC2.out W2).mono ?_); rintro e W3 ⟨rfl, rfl⟩)
    | (go_at_call 94; (refine HPS2.out.mono ?_); rintro e W3 ⟨v3, rfl, ho2, hb2⟩; have HO3 := Li (show OwnB W3 w.heap.size v3 (pre1 ++ sh z2) from own_base_le ho2 HB2.out.size); have HB3 := Li (HB2.out.trans (hb2.mono HB2.out.size)); have HX3 := Li (HX2.out.next hb2); clear ho2 hb2))
   obtain ⟨pre2, hpre2⟩ : ∃ pre2, pre2 = pre1 ++ sh z2 := ⟨_, rfl⟩
   have hn2 : pre2.length ≤ pre.length + 20 := by rw [hpre2, jC]; have := HL2.out; omega
   rw [← hpre2] at HO3
   have HE2 := Li hpre2
   obtain ⟨A9, c9, rfl, _, _, _⟩ := HO3.out.rd
   clear hpre2 c2 HPS2 HZC2 HO2 HX2 HB2
   have c3 := cell_ext HX3.out.c3
   have c4 := cell_ext HX3.out.c4
   have fd : IntKind.u64.wrap (p.d : Int) = (p.d : Int) := by rw [IntKind.wrap_u64]; have := HKP.out.d1; omega
   obtain ⟨pre3, hpre3⟩ : ∃ pre3, pre3 = pre2 ++ sh p.n := ⟨_, rfl⟩
   have hn3 : pre3.length ≤ pre.length + 30 := by rw [hpre3, jC]; have := HL3.out; omega
   have HE3 := Li hpre3
   have HPS3 := Li (fun W h => putSh_c W.heap.size A9 c9 pre2 p.n W h (by have := HKP.out.n1; omega) (by omega))
   rw [← hpre3] at HPS3
   have HPS4 := Li (fun W A c (h : Rd W W.heap.size A (byt pre3)) => put_c W.heap.size A c pre3 p.d 2 W h (by have := HKP.out.d1; omega) (by decide) (by decide) (by omega))
   clear hpre3
   refine wp_region_loudTail 10 W3 [54, 59] (fun k u W => if k = 54 then OwnB W W3.heap.size u pre3 else OwnB W W3.heap.size u (pre3 ++ form p.d 2)) (by kernel_rfl) (by kernel_rfl) (by kernel_rfl) (by exact idle2 HTK1.out HTK2.out) (fun k u w1 w2 h hb => by
    by_cases h54 : k = 54
    ·rw [if_pos h54] at h ⊢; exact OwnB.next h hb
    ·rw [if_neg h54] at h ⊢; exact OwnB.next h hb) (jE _ _).drew ?_
   simp only [List.take_succ_cons, List.take_zero, List.drop_succ_cons, List.drop_zero]
   repeat (first
    | (refine wpLoud_call 54 rfl [] tok 94 (fun g => #[.slice A9 pre2.length c9, .int .u64 (p.n : Int)]) rfl (fun _ _ h => by cases h) rfl (fun g w => by kernel_rfl) (fun g y hg => by
      refine (HPS3.out y.wd ((HO3.out.rdAtP.ext y.bel).more y.bel.size)).mono ?_
      rintro e w' ⟨u, rfl, ho, hb⟩
      exact ⟨u, rfl, hb, own_base_le ho y.bel.size⟩) _ (by simp only [Act.put, sI, sS, sZ]; rfl) ?_)
    | (refine wpLoud_call 59 rfl [54] tok 70 (fun g => #[g 54, .int .u64 (p.d : Int), .int .i64 2]) rfl (fun _ _ h => by cases h) rfl (fun g w => by kernel_rfl) (fun g y hg => by
      have h54 : OwnB y.wd W3.heap.size (g 54) pre3 := hg 54 (by simp)
      obtain ⟨A10, c10, e10, _, _, r10⟩ := h54.rd
      show Calls _ _ #[g 54, _, _] _ _
      rw [e10]
      refine (HPS4.out y.wd A10 c10 r10).mono ?_
      rintro e w' ⟨u, rfl, ho, hb⟩
      rw [tailOf2P] at ho
      exact ⟨u, rfl, hb, own_base_le ho y.bel.size⟩) _ (by simp only [Act.put, sI, sS, sZ]; rfl) ?_)
    | (refine wpLoud_plain rfl rfl rfl ?_; intro K hK; go_big_quiet_op; go_big_quiet_on))
   refine wpLoud_end [54, 59] (by rfl) ?_
   intro gg z hg
   have h54 : OwnB z.wd W3.heap.size (gg 54) pre3 := hg 54 (by simp)
   obtain ⟨A11, c11, e11, _, _, _⟩ := h54.rd
   have h9 : OwnB z.wd W3.heap.size (gg 59) (pre3 ++ form p.d 2) := hg 59 (by simp)
   have HO9 := Li (show OwnB z.wd w.heap.size (gg 59) (pre3 ++ form p.d 2) from own_base_le h9 HB3.out.size)
   have HB9 := Li (HB3.out.trans (z.bel.mono HB3.out.size))
   have HX9 := Li (HX3.out.next z.bel)
   generalize z.wd = Y at *
   simp only [fill, Act.put, sI, sS, sZ]
   rw [e11]
   obtain ⟨A12, c12, e12, _, _, _⟩ := HO9.out.rd
   rw [e12] at HO9 ⊢
   clear h54 e11 e12
   have c1 := HX9.out.c1
   have c2 := HX9.out.c2
   clear hg h9 c3 c4 HPS3 HPS4 HX3 HO3 HB3 fd
   go_upto_region 10 with fail
   go_quiet (fail)
   have HO10 := Li (HO9.out.drewN nq)
   have HB10 := Li (belowDrewN nq HB9.out)
   generalize Y.drewN nq = Y2 at *
   have HTN := Li (show Tg = (pre3 ++ form p.d 2) ++ rowsL p.t (wrap64 (p.t - t)) p.v (g.drop (k + 1)) by
    rw [HTG.out, HDR.out, HRW.out, HE3.out, HE2.out, HE1.out]
    simp only [List.append_assoc])
   go_wp2_with fail
   go_roundw
   case rel => exact ⟨by rfl, by rfl, k + 1, pre3 ++ form p.d 2, p.t, wrap64 (p.t - t), p.v, by omega, by go_num, rfl, rfl, rfl, HTN.out, by rw [jC, form_len]; omega, HO10.out, HB10.out, ⟨hpt, hpt1⟩, ⟨wrap64_lo _, wrap64_hi _⟩, ⟨hpv, hpv1⟩⟩
   case measure => simp only [intOf]; omega
  ·obtain rfl : k = g.length := by omega
   have HFIN := Li (show Tg = pre by rw [HTG.out, List.drop_length]; simp [rowsL])
   go_wp2_with fail
   refine bodyPost_ret (results_tmp rfl _ _ _) rfl ?_
   exact ⟨_, rfl, by rw [HFIN.out]; exact HO.out, HB.out⟩
theorem groupsAny_c (A : Option Addr) (c : Nat) (l : List Pc) (w : World) (hr : RdP w w.heap.size A l) (hc : l.length ≤ c) (h1 : l.length ≤ 100000) :
  ∃ ad, (0 < l.length → A = some ad ∧ AtA w ad (pcs l) ∧ ad.block < w.heap.size) ∧ Calls Tryz.prog 93 #[.slice A l.length c] w fun e w' => ∃ v, e = .returned v ∧ OwnG w' w.heap.size v (gv ad c 0 (gls l)) ∧ Below w.heap.size w w' := by
 rcases Nat.eq_zero_or_pos l.length with h0 | h0
 ·obtain rfl : l = [] := List.eq_nil_of_length_eq_zero h0
  refine ⟨⟨0, 0, none⟩, fun h => by simp at h, ?_⟩
  refine (groups0_c A c w).mono ?_
  rintro e w' ⟨rfl, hb⟩
  exact ⟨_, rfl, by rw [gls_nil]; exact ⟨rfl, .inl ⟨rfl, rfl⟩⟩, hb⟩
 ·obtain ⟨ad, rfl, hab, hat⟩ := hr.open_ h0
  exact ⟨ad, fun _ => ⟨rfl, hat, hab⟩, groups_c ad c l w hat hab hc h0 h1⟩
theorem gls_len_le : ∀ l : List Pc, (gls l).length ≤ l.length := grps_ind (by rw [gls_nil]; exact jD _) fun p l ih => by
 rw [gls_cons, List.length_cons, List.length_cons]
 rw [List.length_drop] at ih
 omega
theorem AtA.drop_ {w : World} {ad : Addr} {l : List Pc} (h : AtA w ad (pcs l)) (off m : Nat) : AtA w (ad.add (off * 5)) (pcs ((l.drop off).take m)) := by
 rw [pcs_take, pcs_drop]
 exact h.drop (off * 5) (m * 5)
theorem form_c (A : Option Addr) (c : Nat) (l : List Pc) (w : World) (hr : RdP w w.heap.size A l) (hc : l.length ≤ c) (h1 : l.length ≤ 100000) (hk : ∀ p ∈ l, PcOk p ∧ p.s.size ≤ 1000000) (hF : (formP l).length ≤ 100000) :
  Calls Tryz.prog 69 #[.slice A l.length c] w (Gives (formP l) w) := by
 obtain ⟨ad, had, hgc⟩ := groupsAny_c A c l w hr hc h1
 have HAD := Li had
 have HGC := Li hgc
 have hgn := gls_len_le l
 have HGV := Li (gv_len ad c 0 (gls l))
 have HGA := Li (fun k (h : k < (gls l).length) => gv_at ad c 0 (gls l) k h)
 have HLP := Li (fun k (h : k < (gls l).length) => lenG_pos l k h)
 have HOL := Li (fun k (h : k < (gls l).length) => offG_lt l k h)
 have HGR := Li (fun k (h : k < (gls l).length) => grpG l k h)
 have HK := Li hk
 have hFE : formP l = sh (gls l).length ++ ((grps l).map putL).flatten := by unfold formP; rw [grps_len]
 have HFE := Li hFE
 obtain ⟨F, hFF⟩ : ∃ F, F = formP l := ⟨_, rfl⟩
 rw [← hFF] at hF HFE ⊢
 have HFB := Li hF
 have HP0 := Li (show ∀ W, Calls Tryz.prog 94 #[.slice none 0 0, .int .u64 ((gls l).length : Nat)] W (Gives (sh (gls l).length) W) from fun W => by
  have h := putSh_c 0 none 0 [] (gls l).length W (fun h => absurd rfl h) (by omega) (by decide)
  rw [List.nil_append] at h
  exact h)
 have f2 : IntKind.u64.wrap ((gls l).length : Int) = ((gls l).length : Int) := by rw [IntKind.wrap_u64]; omega
 clear hr had hgc hk hFE hFF hF
 go_enter Tryz.func69, Tryz.ntmps69
 go_upto_region 3 with (first
  | (go_at_call 93; (refine HGC.out.mono ?_); rintro e W1 ⟨v, rfl, ho, hb⟩; obtain ⟨A2, c2, rfl, _, _, r2⟩ := gv_rd ho; have HB := Li hb; have HR2 := Li r2; rw [HGV.out]; clear ho hb r2)
  | (go_at_call 94; (refine (HP0.out W1).mono ?_); rintro e W2 ⟨v2, rfl, ho, hb⟩; have HO2 := Li (show OwnB W2 w.heap.size v2 (sh (gls l).length) from own_base_le ho HB.out.size); have HR22 := Li (HR2.out.below hb); have HB2 := Li (HB.out.trans (hb.mono HB.out.size)); have HS12 := Li hb.size; clear ho hb))
 go_wp2_with fail
 go_loopw [4, 15] (fun bv i wr => ∃ (k : Nat) (pre : List Nat), k ≤ (gls l).length ∧ i = .int .i64 k ∧ F = pre ++ (((grps l).drop k).map putL).flatten ∧ OwnB wr w.heap.size bv pre ∧ Below w.heap.size w wr ∧ Rd wr W1.heap.size A2 (gv ad c 0 (gls l)) ∧ W1.heap.size ≤ wr.heap.size) (fun _ i _ => (gls l).length - (intOf i).toNat)
 case atStart => exact ⟨0, _, Nat.zero_le _, rfl, HFE.out, HO2.out, HB2.out, HR22.out, HS12.out⟩
 case round =>
  rename World => wr
  obtain ⟨k, pre, hk, rfl, hfp, ho, hb, hrd, hsz⟩ := hrel
  have HFP := Li hfp
  have HO := Li ho
  have HBW := Li hb
  have HRD := Li hrd
  have HSZ := Li hsz
  have hpl : pre.length ≤ 100000 := by have h := congrArg List.length hfp; rw [jC] at h; have := HFB.out; omega
  clear hfp ho hb hrd hsz HO2 HB2 HR22
  by_cases hlt : k < (gls l).length
  ·have p1 : (k : Int) < ((gls l).length : Int) := by omega
   have hga := HGA.out k hlt
   rw [Nat.zero_add] at hga
   have hrr := HRD.out
   obtain ⟨a2, rfl, _, _⟩ := hrr (by intro h; rw [h] at hga; simp at hga)
   have e0r := rdG_cell HRD.out k hga
   have hol := HOL.out k hlt
   have hlp := HLP.out k hlt
   obtain ⟨rfl, hat, hab⟩ := HAD.out (by omega)
   have e0 : wr.cell? (a2.add k) = some (.slice (some (ad.add (offG l k * 5))) (lenG l k) (c - offG l k)) := e0r
   have HAW := Li ((hat.below HBW.out hab).drop_ (offG l k) (lenG l k))
   have HGK := Li (show (grps l).drop k = (l.drop (offG l k)).take (lenG l k) :: (grps l).drop (k + 1) by
    have hkl : k < (grps l).length := by rw [grps_len]; exact hlt
    rw [List.drop_eq_getElem_cons hkl, ← HGR.out k hlt]
    simp [jA, hkl])
   obtain ⟨g, hg⟩ : ∃ g, g = (l.drop (offG l k)).take (lenG l k) := ⟨_, rfl⟩
   rw [← hg] at HAW HGK
   have hgl : g.length = lenG l k := by rw [hg, List.length_take, List.length_drop]; omega
   have hgm : ∀ p ∈ g, PcOk p ∧ p.s.size ≤ 1000000 := fun p hp => HK.out p (by rw [hg] at hp; exact List.mem_of_mem_drop (List.mem_of_mem_take hp))
   have habw : (ad.add (offG l k * 5)).block < wr.heap.size := by rw [add_block]; exact jH hab HBW.out.size
   obtain ⟨A7, c7, rfl, _, _, _⟩ := HO.out.rd
   have HPG := Li (putG_c wr.heap.size A7 c7 (c - offG l k) pre (ad.add (offG l k * 5)) g wr HO.out.rdAtP (jD _) hpl HAW.out habw (by omega) (by omega) hgm)
   rw [hgl] at HPG
   clear hga e0r hat hab hgm habw hgl hg hrr hol
   generalize lenG l k = m at *
   generalize c - offG l k = cc at *
   generalize ad.add (offG l k * 5) = a' at *
   go_wp2_with (go_at_call 95; (refine HPG.out.mono ?_); rintro e W5 ⟨v5, rfl, ho5, hb5⟩; have HO5 := Li (show OwnB W5 w.heap.size v5 (pre ++ putL g) from own_base_le ho5 HBW.out.size); have HB5 := Li (HBW.out.trans (hb5.mono HBW.out.size)); have HR5 := Li (HRD.out.below (hb5.mono HSZ.out)); have HS5 := Li (Nat.le_trans HSZ.out hb5.size); clear ho5 hb5)
   have HFN := Li (show F = (pre ++ putL g) ++ (((grps l).drop (k + 1)).map putL).flatten by rw [HFP.out, HGK.out, List.map_cons, List.flatten_cons, List.append_assoc])
   go_roundw
   case rel => exact ⟨k + 1, _, by omega, by go_num, HFN.out, HO5.out, HB5.out, HR5.out, HS5.out⟩
   case measure => simp only [intOf]; omega
  ·obtain rfl : k = (gls l).length := by omega
   have HFIN := Li (show F = pre by rw [HFP.out, ← grps_len, List.drop_length]; simp)
   go_wp2_with fail
   refine bodyPost_ret (results_tmp rfl _ _ _) rfl ?_
   exact ⟨_, rfl, by rw [HFIN.out]; exact HO.out, HBW.out⟩
section
variable {P : Program} (w : World)
theorem run_room_zeros (t tn ty e : TypeId) (i : TypeInfo) (z : Value) (kn kq : IntKind) (ht : P.underlying t = some (.slice e)) (htn : P.underlying tn = some (.int kn)) (hi : P.info? e = some i) (hz : i.zero = some z) (hs : i.size = 1) (hzs : z.cells.size = 1)
  (g sLen sCap : Nat) (cur : Array Value) (hg : w.heap[g]? = some (.cells cur e (0, 0)))
  (m : Nat) (h0 : 0 < m) (hm : m ≤ 1000000000) (hb : i.bytes ≤ 1000) (news : List Value) (hn : (Builtin.zeroCells z.cells m).toList = news) (h1 : ∀ u ∈ news, u.oneCell' = true)
  (hroom : sLen + m ≤ sCap) (hfit : sLen + m ≤ cur.size) :
  (Builtin.append_ #[t, tn] ty #[.slice (some ⟨g, 0, none⟩) sLen sCap, .int kq m]).run P w =
   .ok (.slice (some ⟨g, 0, none⟩) (sLen + m) sCap) (w.setRow g (cur.toList.take sLen ++ news ++ cur.toList.drop (sLen + news.length)).toArray) := by
 have hnl : news.length = m := by rw [← hn, Array.length_toList]; simp [Builtin.zeroCells, hzs]
 have hst := run_storeCells_at P g sLen e news 0 cur w hg (by rw [hnl]; simpa using hfit) h1
 simp only [Nat.add_zero] at hst
 have hw : IntKind.i64.wrap (m : Int) = m := by rw [IntKind.wrap_i64]; omega
 have hneg : ¬ ((m : Int) < 0) := by omega
 have h48i : ¬ (281474976710656 < (m : Int) * (i.bytes : Int)) := by
  have : (m : Int) * (i.bytes : Int) ≤ 1000000000 * 1000 := by
   rw [← Int.natCast_mul]
   have := Nat.mul_le_mul hm hb
   omega
  omega
 have hmz : m ≠ 0 := by omega
 simp [Builtin.append_, run_underlying ht, run_underlying htn, sizeOf, typeInfo, zeroValue, hi, hz, hs, asInt, asIntOf, hw, hneg, h48i, hroom, hmz, Addr.add_lit, hn, hst]
theorem run_app_zeros (base : Nat) (t tn ty e : TypeId) (i : TypeInfo) (z : Value) (kn kq : IntKind) (ht : P.underlying t = some (.slice e)) (htn : P.underlying tn = some (.int kn)) (hi : P.info? e = some i) (hz : i.zero = some z) (hs : i.size = 1) (hzs : z.cells.size = 1) (hby : i.bytes = 1)
  (v : Value) (n : Nat) (xs : List Value) (hown : w.ownsRow base e 1 v n xs) (m : Nat) (hm : n + m ≤ 1000000000) (news : List Value) (hn : (Builtin.zeroCells z.cells m).toList = news) (h1 : ∀ u ∈ news, u.oneCell' = true) (hbase : base ≤ w.heap.size) :
  ∃ v' w', (Builtin.append_ #[t, tn] ty #[v, .int kq m]).run P w = .ok v' w' ∧ Apped w base e 1 v w' v' (n + m) (xs ++ news) := by
 have hnl : news.length = m := by rw [← hn, Array.length_toList]; simp [Builtin.zeroCells, hzs]
 have h63 : n + m ≤ maxLen := by simp only [maxLen]; omega
 have hlen : (xs ++ news).length = (n + m) * 1 := by rw [jC, hown.1, hnl]; omega
 have hw : IntKind.i64.wrap (m : Int) = m := by rw [IntKind.wrap_i64]; omega
 have hna : (Builtin.zeroCells z.cells m) = news.toArray := by rw [← hn, Array.toArray_toList]
 have grown : ∀ (old : Nat), old < n + m → ∀ (row : Option Nat),
   (w.drew.alloc (.cells (xs.toArray ++ Builtin.zeroCells z.cells m ++ Builtin.zeroCells z.cells (grownCap w (n + m) old e - (n + m))) e)).ownsRow base e 1
    (.slice (some ⟨w.heap.size, 0, none⟩) (n + m) (grownCap w (n + m) old e)) (n + m) (xs ++ news) ∧
   w.grownBy (w.drew.alloc (.cells (xs.toArray ++ Builtin.zeroCells z.cells m ++ Builtin.zeroCells z.cells (grownCap w (n + m) old e - (n + m))) e)) row := by
  intro old ho row
  have hge := grownCap_ge w (n + m) old e
  have hcm : grownCap w (n + m) old e ≤ maxLen := grownCap_le_maxLen w (n + m) old e h63
  rw [hna]
  refine ⟨⟨hlen, .inr ⟨w.heap.size, _, _, rfl, hbase, heap_alloc_new w.drew _, hge, hcm, ?_, ?_⟩⟩, ⟨rfl, rfl, rfl, by simp, fun k hk _ => heap_alloc_old _ _ hk⟩⟩
  ·simp only [Array.size_append, List.size_toArray, size_zeroCells, hzs, hown.1, hnl]
   omega
  ·simp only [Array.toList_append, List.append_assoc]
   rw [← List.append_assoc, ← hlen]
   exact List.take_left
 rcases Nat.eq_zero_or_pos m with hm0 | hm0
 ·subst hm0
  obtain rfl : news = [] := List.eq_nil_of_length_eq_zero hnl
  refine ⟨v, w, ?_, ⟨by simpa using hown, World.grownBy.refl w _, .inl rfl⟩⟩
  rcases hown.2 with ⟨rfl, rfl⟩ | ⟨g, cap, cur, rfl, hbg, hg, hnc, hcm, hcs, htake⟩
  ·simp [Builtin.append_, run_underlying ht, run_underlying htn, sizeOf, typeInfo, hi, asInt, asIntOf, IntKind.wrap_i64]
  ·simp [Builtin.append_, run_underlying ht, run_underlying htn, sizeOf, typeInfo, hi, asInt, asIntOf, IntKind.wrap_i64, hnc, storeCells]
 ·rcases hown.2 with ⟨rfl, rfl⟩ | ⟨g, cap, cur, rfl, hbg, hg, hnc, hcm, hcs, htake⟩
  ·obtain rfl : xs = [] := List.eq_nil_of_length_eq_zero (by simpa using hown.1)
   have hr := Lib.run_append_nil_zeros (P := P) w t tn ty e i z kq kn ht htn hi hz m hm0 (by omega) (by omega) (by rw [hby]; omega)
   have hgr := grown 0 (by omega) (Value.ownBlock (.slice none 0 0))
   simp only [Nat.zero_add, List.nil_append, Array.empty_append] at hgr ⊢
   exact ⟨_, _, hr, hgr.1, hgr.2, Or.inr rfl⟩
  ·by_cases hroom : n + m ≤ cap
   ·have hr := run_room_zeros (P := P) w t tn ty e i z kn kq ht htn hi hz hs hzs g n cap cur hg m hm0 (by omega) (by omega) news hn h1 hroom (by omega)
    refine ⟨_, _, hr, ⟨hlen, .inr ⟨g, cap, _, rfl, hbg, setRow_heap w g cur _ e _ hg, hroom, hcm, ?_, ?_⟩⟩, ⟨rfl, rfl, rfl, by simp, fun k _ hk => setRow_other w g k _ (fun e => hk (by simp [Value.ownBlock, e]))⟩, Or.inl rfl⟩
    ·simp only [List.size_toArray, jC, List.length_take, List.length_drop, Array.length_toList]
     omega
    ·rw [Nat.mul_one] at htake
     rw [htake, ← hlen]
     exact List.take_left
   ·have holds : ∀ j u, xs[j]? = some u → w.cell? ((⟨g, 0, none⟩ : Addr).add j) = some u := hown.cells (g := g) rfl
    have hold := run_firstCells_some (P := P) w.drew i.size n ⟨g, 0, none⟩ n cap xs (by rw [hs]; exact hown.1) (by simpa using holds)
    have hr := Lib.run_append_grow_zeros (P := P) w t tn ty e i z kq kn ht htn hi hz (some ⟨g, 0, none⟩) n cap xs hold m hm0 (by omega) (by omega) (by omega) (by rw [hby]; omega) (growslice_fits (by omega) (by rw [hby]; omega))
    have hgr := grown cap (by omega) (Value.ownBlock (.slice (some ⟨g, 0, none⟩) n cap))
    exact ⟨_, _, hr, hgr.1, hgr.2, Or.inr rfl⟩
end
theorem zero_bytes (n : Nat) : (Builtin.zeroCells (Value.int .u8 0).cells n).toList = byt (List.replicate n 0) := by
 unfold Builtin.zeroCells
 simp only [Value.cells, byt, Array.toList_map, Array.toList_range, List.map_replicate]
 apply List.ext_getElem
 ·simp
 ·intro i h1 h2
  simp [Nat.mod_one]
theorem run_zeros_byt (w : World) (base : Nat) (v : Value) (l : List Nat) (m : Nat) (ho : OwnB w base v l) (hb : base ≤ w.heap.size) (hm : l.length + m ≤ 1000000000) :
  ∃ v' w', (Builtin.append_ #[23, 3] 23 #[v, .int .i64 (m : Nat)]).run Tryz.prog w = .ok v' w' ∧ OwnB w' base v' (l ++ List.replicate m 0) ∧ Below base w w' := by
 have hbi := byteInfo
 obtain ⟨i, hi, hi2⟩ := Option.map_eq_some_iff.1 hbi
 simp only [Prod.mk.injEq] at hi2
 obtain ⟨v', w', hr, ha⟩ := run_app_zeros (P := Tryz.prog) w base 23 3 23 5 i (.int .u8 0) .i64 .i64 (by kernel_rfl) (by kernel_rfl) hi hi2.1 hi2.2.1 (by rfl) hi2.2.2 v l.length (byt l) ho m hm (byt (List.replicate m 0)) (zero_bytes m) (byt_one _) hb
 refine ⟨v', w', hr, ?_, ha.below ho hb⟩
 have h : OwnB w' base v' (l ++ List.replicate m 0) := OwnB.app (l := l) (m := List.replicate m 0) (by rw [List.length_replicate]; exact ha)
 exact h
def layR (l : List Pc) : List Nat := if chkL l = 0 then layL l else []
theorem Rd.ups {w : World} {B B' : Nat} {A : Option Addr} {xs : List Value} (h : Rd w B A xs) (hB : B ≤ B') : Rd w B' A xs := fun hn => by
 obtain ⟨ad, e, h1, h2⟩ := h hn
 exact ⟨ad, e, jH h1 hB, h2⟩
theorem RdP.next {w w' : World} {A : Option Addr} {l : List Pc} (h : RdP w w.heap.size A l) (hb : Below w.heap.size w w') : RdP w' w'.heap.size A l := Rd.ups (Rd.below h hb) hb.size
theorem lay_c (A : Option Addr) (c : Nat) (l : List Pc) (w : World) (hr : RdP w w.heap.size A l) (hc : l.length ≤ c) (h1 : l.length ≤ 100000) (hk : ∀ p ∈ l, PcOk p ∧ p.s.size ≤ 1000000) :
  Calls Tryz.prog 49 #[.slice A l.length c] w fun e w' => ∃ v, e = .returned (.tuple #[v, .int .i64 (chkL l : Nat)]) ∧ OwnB w' w.heap.size v (layR l) ∧ Below w.heap.size w w' := by
 obtain ⟨i0, hi, hz0, hz1, hz2⟩ := info_parts byteInfo
 have HR := Li hr
 have HCH := Li (check_c A c l w hr hc h1 (fun p hp => (hk p hp).2))
 by_cases h0 : chkL l = 0
 ·have hok := chk_ok h0
  have hsz := chk_sizes h0
  have hff := form_fits l (fun p hp => ⟨(hk p hp).1, by have := (hsz p hp).2; omega⟩) (by omega)
  have HF := Li (fun W (h : RdP W W.heap.size A l) => form_c A c l W h hc h1 hk (by omega))
  have HRM := Li (fun W (h : RdP W W.heap.size A l) => room_c A c l W h hc h1 (fun p hp => (hk p hp).2))
  have HP := Li (show ∀ W, Calls Tryz.prog 70 #[.slice none 0 0, .int .u64 ((formP l).length : Nat), .int .i64 2] W (Gives (form (formP l).length 2) W) from fun W => by
   have h := put_c 0 none 0 [] (formP l).length 2 W (fun h => absurd rfl h) (by omega) (by decide) (by decide) (by decide)
   rw [List.nil_append, tailOf2P] at h
   exact h)
  have HE := Li (show layR l = form (formP l).length 2 ++ formP l ++ List.replicate (roomL l - (2 + (formP l).length)) 0 by unfold layR layL; rw [if_pos h0])
  have HFL := Li (form_len (formP l).length 2)
  have HCH := Li (show Calls Tryz.prog 68 #[.slice A l.length c] w fun e w' => e = .returned (.int .i64 0) ∧ Below w.heap.size w w' by have h := HCH.out; rw [h0] at h; exact h)
  rw [h0]
  have hrm : roomL l ≤ 4096 := hok.2.1
  have HCV := Li (show IntKind.u64.wrap ((formP l).length : Int) = ((formP l).length : Int) by rw [IntKind.wrap_u64]; omega)
  obtain ⟨R, hR⟩ : ∃ R, R = layR l := ⟨_, rfl⟩
  rw [← hR] at HE ⊢
  generalize form (formP l).length 2 = pre at *
  generalize hrl : roomL l = rm at *
  generalize formP l = F at *
  clear hr hk h0 hok hsz hR
  have HP2 := HP
  generalize hfl : F.length = fl at *
  have HFLL := Li hfl
  have f1 := HCV.out
  have f2 : IntKind.i64.wrap ((rm : Int) - ((2 + fl : Nat) : Int)) = ((rm - (2 + fl) : Nat) : Int) := by rw [IntWalk.i64_in _ (by omega)]; omega
  have f3 : wrap64 ((rm : Int) - ((2 + fl : Nat) : Int)) = ((rm - (2 + fl) : Nat) : Int) := by rw [wrap_w, w64_in _ (by omega) (by omega)]; omega
  clear hfl hrl
  go_enter Tryz.func49, Tryz.ntmps49
  go_wp2_with (first
   | (go_at_call 68; (refine HCH.out.mono ?_); rintro e W1 ⟨rfl, hb⟩; have HB1 := Li hb; have HR1 := Li (RdP.next HR.out hb); clear hb)
   | (go_at_call 69; (refine (HF.out W1 HR1.out).mono ?_); rintro e W2 ⟨v, rfl, ho, hb⟩; obtain ⟨A2, c2, rfl, _, _, r2⟩ := ho.rd; rw [HFLL.out]; have HR2 := Li (show Rd W2 W2.heap.size A2 (byt F) from r2); have HRP2 := Li (HR1.out.next hb); have HB2 := Li (HB1.out.trans (hb.mono HB1.out.size)); clear ho hb r2)
   | (go_at_call 70; (refine (HP.out W2).mono ?_); rintro e W3 ⟨v3, rfl, ho, hb⟩; have HO3 := Li (show OwnB W3 w.heap.size v3 pre from own_base_le ho HB2.out.size); have HR23 := Li (HR2.out.below hb); have HRP3 := Li (HRP2.out.next hb); have HB3 := Li (HB2.out.trans (hb.mono HB2.out.size)); clear ho hb)
   | (at_builtin; refine wpList_app _ rfl (.tmp 17) (.tmp 18) _ rfl w.heap.size 5 i0 (.int .u8 0) 1 1 Tryz.underlying23 hi hz0 hz1 hz2 rfl (by decide) _ _ _ rfl HO3.out _ _ fl _ (byt F) rfl (by rw [byt_len, HFLL.out]; omega) HR23.out (byt_one F) (by rw [HFL.out]; omega) (by rw [HFL.out]; omega) HB3.out.size ?_; intro v4 W4 hap; have HO4 := Li (OwnB.app (l := pre) (m := F) (by rw [HFLL.out]; exact hap)); have HB4 := Li (hap.below HO3.out HB3.out.size); obtain ⟨A4, c4, rfl, _, _, r4⟩ := HO4.out.rd; rw [jC, HFL.out, HFLL.out] at HO4 ⊢; have HRP4 := Li (show RdP W4 W4.heap.size A l from Rd.ups (Rd.below (Rd.ups HR.out (jD _)) (HB3.out.trans HB4.out)) (Nat.le_trans HB3.out.size HB4.out.size)); clear hap r4)
   | (go_at_call 71; (refine (HRM.out W4 HRP4.out).mono ?_); rintro e W5 ⟨rfl, hb⟩; have HO5 := Li (show OwnB W5 w.heap.size _ (pre ++ F) from HO4.out.next hb); have HB5 := Li ((HB3.out.trans HB4.out).trans (hb.mono (Nat.le_trans HB3.out.size HB4.out.size))); clear hb)
   | (at_builtin; obtain ⟨v6, W6, hrun, ho6, hb6⟩ := run_zeros_byt W5 w.heap.size _ (pre ++ F) (rm - (2 + fl)) HO5.out HB5.out.size (by rw [jC, HFL.out, HFLL.out]; omega); rw [show ((rm - (2 + fl) : Nat) : Int) = (rm : Int) - (2 + (fl : Int)) by omega] at hrun; refine Lib.wpList_append_run _ rfl (.tmp 20) (.tmp 25) _ _ rfl _ _ rfl rfl _ _ hrun ?_; have HO6 := Li ho6; have HB6 := Li hb6; clear ho6 hb6 hrun))
  refine bodyPost_ret (results_tmp2 rfl _ _ _) rfl ?_
  exact ⟨_, rfl, by rw [HE.out]; exact HO6.out, HB5.out.trans HB6.out⟩
 ·have HE := Li (show layR l = [] by unfold layR; rw [if_neg h0])
  have hq : decide (((chkL l : Nat) : Int) = 0) = false := jG (by omega)
  obtain ⟨R, hR⟩ : ∃ R, R = layR l := ⟨_, rfl⟩
  rw [← hR] at HE ⊢
  have hch : chkL l ≤ 3 := by unfold chkL; split <;> (try split) <;> omega
  generalize chkL l = e0 at *
  have hne : ((e0 : Nat) : Int) ≠ 0 := by omega
  clear hr hk hR
  go_enter Tryz.func49, Tryz.ntmps49
  go_wp2_with (go_at_call 68; (refine HCH.out.mono ?_); rintro e W1 ⟨rfl, hb⟩; have HB1 := Li hb; clear hb)
  refine bodyPost_ret (results_tmp2 rfl _ _ _) rfl ?_
  exact ⟨_, rfl, by rw [HE.out]; exact OwnB.nil_ _ _, HB1.out⟩
theorem pieceInfo : (Tryz.prog.info? 77).map (fun i => (i.zero, i.size, i.bytes)) = some (some (.agg zPc), 5, 48) := by kernel_rfl
theorem piece_parts : ∃ i, Tryz.prog.info? 77 = some i ∧ i.zero = some (.agg zPc) ∧ i.size = 5 ∧ i.bytes = 48 := by
 obtain ⟨i, hi, hi2⟩ := Option.map_eq_some_iff.1 pieceInfo
 simp only [Prod.mk.injEq] at hi2
 exact ⟨i, hi, hi2.1, hi2.2.1, hi2.2.2⟩
theorem pcs_oneCell (l : List Pc) : ∀ u ∈ pcs l, u.oneCell' = true := by
 intro u hu
 obtain ⟨c, hc, hu⟩ := List.mem_flatten.1 hu
 obtain ⟨p, _, rfl⟩ := List.mem_map.1 hc
 simp [pcL] at hu
 rcases hu with rfl | rfl | rfl | rfl | rfl <;> rfl
def OwnP (w : World) (base : Nat) (v : Value) (l : List Pc) : Prop := w.ownsRow base 77 5 v l.length (pcs l)
theorem OwnP.rd {w : World} {base : Nat} {v : Value} {l : List Pc} (h : OwnP w base v l) : ∃ A cap, v = .slice A l.length cap ∧ l.length ≤ cap ∧ cap ≤ maxLen ∧ RdP w w.heap.size A l := own_rd h
theorem OwnP.next {w w' : World} {base : Nat} {v : Value} {l : List Pc} (h : OwnP w base v l) (hb : Below w.heap.size w w') : OwnP w' base v l := own_keep (S := fun _ => False) h (Only.of_below hb) (fun _ _ h => h)
theorem OwnP.open_ {w : World} {base : Nat} {A : Option Addr} {n cap : Nat} {l : List Pc} (h : OwnP w base (.slice A n cap) l) (hne : 0 < l.length) : ∃ g rest, A = some ⟨g, 0, none⟩ ∧ base ≤ g ∧ Blk w g 77 (pcs l ++ rest).toArray ∧ l.length ≤ cap ∧ cap ≤ maxLen ∧ rest.length + l.length * 5 = cap * 5 := by
 rcases h.2 with ⟨_, h0⟩ | ⟨g, cap', cur, e, hb, hh, hn, hm, hc, ht⟩
 ·omega
 ·injection e with e1 e2 e3
  subst e1 e3
  refine ⟨g, cur.toList.drop (l.length * 5), rfl, hb, ?_, hn, hm, ?_⟩
  ·unfold Blk
   rw [hh, ← ht, List.take_append_drop]
  ·rw [List.length_drop, Array.length_toList, hc]; omega
theorem OwnP.ofBlk {w : World} {base g cap : Nat} {l : List Pc} {rest : List Value} (hg : base ≤ g) (h : Blk w g 77 (pcs l ++ rest).toArray) (hn : l.length ≤ cap) (hm : cap ≤ maxLen) (hr : rest.length + l.length * 5 = cap * 5) : OwnP w base (.slice (some ⟨g, 0, none⟩) l.length cap) l :=
 ⟨pcs_len l, .inr ⟨g, cap, _, rfl, hg, h, hn, hm, by rw [List.size_toArray, jC, pcs_len]; omega, by rw [← pcs_len l]; exact List.take_left⟩⟩
theorem layR_le {l : List Pc} (hl : ∀ p ∈ l, PcOk p) : (layR l).length ≤ 4096 := by
 unfold layR
 split
 ·rename_i h0; rw [layL_len h0 hl]; exact (chk_ok h0).2.1
 ·simp
def besideL (kd : Nat) (s : ByteArray) (ep : Nat) : List Nat := ([kd] ++ form ep 4) ++ sby s
theorem beside_len (kd : Nat) (s : ByteArray) (ep : Nat) : (besideL kd s ep).length = 5 + s.size := by unfold besideL; simp only [jC, List.length_cons, List.length_nil, form_len, sby_size]
theorem beside_lt (kd : Nat) (s : ByteArray) (ep : Nat) (hk : kd < 256) : ∀ c ∈ besideL kd s ep, c < 256 := fun c hc => by
 unfold besideL at hc
 rcases List.mem_append.1 hc with h | h
 ·rcases List.mem_append.1 h with h | h
  ·rw [List.mem_singleton.1 h]; exact hk
  ·exact form_lt _ _ c h
 ·exact sby_lt _ c h
theorem tailOf4 (n : Nat) : tailOf n 4 = form n 4 := rfl
theorem beside_c (kd : Nat) (s : ByteArray) (ep : Nat) (w : World) (he : ep < 4294967296) (hs : s.size ≤ 1000000) :
  Calls Tryz.prog 51 #[.int .u8 (kd : Nat), .string s, .int .u32 (ep : Nat)] w (Gives (besideL kd s ep) w) := by
 obtain ⟨i0, hi, hz0, hz1, hz2⟩ := info_parts byteInfo
 obtain ⟨Z, hZ⟩ : ∃ Z, Z = w.alloc (Obj.cells #[Value.int .u8 (kd : Int)] 5) := ⟨_, rfl⟩
 have HBZ := Li (show Below w.heap.size w Z by rw [hZ]; exact (jE _ _).alloc (jD _) _)
 have HP := Li (show Calls Tryz.prog 70 #[.slice (some ⟨w.heap.size, 0, none⟩) 1 1, .int .u64 (ep : Nat), .int .i64 4] Z (Gives ([kd] ++ form ep 4) Z) by
  have h := put_c (w.heap.size + 1) (some ⟨w.heap.size, 0, none⟩) 1 [kd] ep 4 Z (by rw [hZ]; exact rd_new w (byt [kd]) 5 (0, 0)) (by omega) (by decide) (by decide) (by simp)
  rw [tailOf4] at h
  exact h)
 obtain ⟨m, hm⟩ : ∃ m, m = [kd] ++ form ep 4 := ⟨_, rfl⟩
 have hml : m.length = 5 := by rw [hm, jC, form_len]; rfl
 rw [← hm] at HP
 have HE := Li (show besideL kd s ep = m ++ sby s by unfold besideL; rw [hm])
 have fe : IntKind.u64.wrap (ep : Int) = (ep : Int) := by rw [IntKind.wrap_u64]; omega
 have H63 := Li (show m.length + s.size ≤ maxLen by simp only [maxLen]; omega)
 have HBY := Li (show m.length + s.size ≤ 140737488355328 by omega)
 clear hm hml
 go_enter Tryz.func51, Tryz.ntmps51
 go_wp2_with (first
  | (go_at_call 70; (refine (show Calls _ _ _ (w.alloc (Obj.cells #[Value.int .u8 (kd : Int)] 5)) _ from ?_)); rw [← hZ]; (refine HP.out.mono ?_); rintro e W1 ⟨v1, rfl, ho, hb⟩; have HO1 := Li (show OwnB W1 w.heap.size v1 m from own_base_le ho HBZ.out.size); have HB1 := Li (HBZ.out.trans (hb.mono HBZ.out.size)); clear ho hb)
  | (refine Lib.wpList_append_own_string _ rfl (.tmp 11) (.tmp 12) 23 9 rfl w.heap.size 5 i0 Tryz.underlying23 Tryz.underlying9 hi hz0 hz1 hz2 v1 m.length (byt m) rfl HO1.out s rfl H63.out HBY.out HB1.out.size ?_; intro v9 w9 ho hgr _; have HO9 := Li (own_str ho); have HB9 := Li (HB1.out.trans (below_grown HO1.out hgr HB1.out.size)); clear ho hgr))
 go_ret
 exact ⟨_, rfl, by rw [HE.out]; exact HO9.out, HB9.out⟩
theorem rbeside_c (kd : Nat) (s : ByteArray) (ep : Nat) (w : World) (he : ep < 4294967296) (hs : s.size ≤ 1000000) :
  Calls Tryz.prog 33 #[.int .u8 (kd : Nat), .string s, .int .u32 (ep : Nat)] w (Gives (besideL kd s ep) w) := by
 obtain ⟨i0, hi, hz0, hz1, hz2⟩ := info_parts byteInfo
 obtain ⟨Z, hZ⟩ : ∃ Z, Z = w.alloc (Obj.cells #[Value.int .u8 (kd : Int)] 5) := ⟨_, rfl⟩
 have HBZ := Li (show Below w.heap.size w Z by rw [hZ]; exact (jE _ _).alloc (jD _) _)
 have HOZ := Li (show OwnB Z w.heap.size (.slice (some ⟨w.heap.size, 0, none⟩) 1 1) [kd] by rw [hZ]; exact OwnB.new w w.heap.size [kd] (jD _) (by simp [maxLen]))
 obtain ⟨f4, hf4⟩ : ∃ f4, f4 = form ep 4 := ⟨_, rfl⟩
 have hfl : f4.length = 4 := by rw [hf4, form_len]
 have HFM := Li (show Calls Tryz.prog 54 #[.int .u64 (ep : Nat), .int .i64 4] Z (Gives f4 Z) by rw [hf4]; exact rform_c ep 4 Z (by omega) (by decide))
 obtain ⟨m, hm⟩ : ∃ m, m = [kd] ++ f4 := ⟨_, rfl⟩
 have hml : m.length = 5 := by rw [hm, jC, hfl]; rfl
 have HE := Li (show besideL kd s ep = m ++ sby s by unfold besideL; rw [hm, hf4])
 have fe : IntKind.u64.wrap (ep : Int) = (ep : Int) := by rw [IntKind.wrap_u64]; omega
 have H63 := Li (show m.length + s.size ≤ maxLen by simp only [maxLen]; omega)
 have HBY := Li (show m.length + s.size ≤ 140737488355328 by omega)
 have hfl4 : f4.length ≤ 4 := by omega
 have HM := Li hm
 have HFL := Li hfl
 clear hm hml hf4 hfl
 go_enter Tryz.func33, Tryz.ntmps33
 go_upto_region 2 with (first
  | (go_at_call 54; (refine (show Calls _ _ _ (w.alloc (Obj.cells #[Value.int .u8 (kd : Int)] 5)) _ from ?_)); rw [← hZ]; (refine HFM.out.mono ?_); rintro e W1 ⟨v1, rfl, ho, hb⟩; obtain ⟨A1, c1, rfl, _, _, r9⟩ := ho.rd; have HR1 := Li r9; have HO1 := Li (HOZ.out.next hb); have HB1 := Li (HBZ.out.trans (hb.mono HBZ.out.size)); clear ho hb r9)
  | (at_builtin; refine wpList_app _ rfl (.tmp 9) (.tmp 12) _ rfl w.heap.size 5 i0 (.int .u8 0) 1 1 Tryz.underlying23 hi hz0 hz1 hz2 rfl (by decide) _ 1 (byt [kd]) rfl HO1.out _ _ f4.length _ (byt f4) rfl (by rw [byt_len]; omega) HR1.out (byt_one f4) (by omega) (by omega) HB1.out.size ?_; intro v2 W2 hap; have HO2 := Li (OwnB.app (l := [kd]) (m := f4) hap); have HB2 := Li (HB1.out.trans (hap.below HO1.out HB1.out.size)); clear hap))
 rw [← HM.out] at HO2
 go_wp2_with (refine Lib.wpList_append_own_string _ rfl (.tmp 14) (.tmp 15) 23 9 rfl w.heap.size 5 i0 Tryz.underlying23 Tryz.underlying9 hi hz0 hz1 hz2 v2 m.length (byt m) rfl HO2.out s rfl H63.out HBY.out HB2.out.size ?_; intro v9 w9 ho hgr _; have HO9 := Li (own_str ho); have HB9 := Li (HB2.out.trans (below_grown HO2.out hgr HB2.out.size)); clear ho hgr)
 go_ret
 exact ⟨_, rfl, by rw [HE.out]; exact HO9.out, HB9.out⟩
def bxL (t : ByteArray) (ep : Nat) (nn : List Nat) (A : Option Addr) (n c : Nat) : List Value := [.string t, .int .u32 (ep : Int)] ++ byt nn ++ [.slice A n c]
def bxV (t : ByteArray) (ep : Nat) (nn : List Nat) (A : Option Addr) (n c : Nat) : Array Value := (bxL t ep nn A n c).toArray
theorem bxL_len (t : ByteArray) (ep : Nat) {nn : List Nat} (A : Option Addr) (n c : Nat) (h : nn.length = 12) : (bxL t ep nn A n c).length = 15 := by unfold bxL; simp only [jC, List.length_cons, List.length_nil, byt_len, h]
theorem bxLn (t : ByteArray) (ep : Nat) {nn : List Nat} (A : Option Addr) (n c : Nat) (h : nn.length = 12) : (Tryz.prog.info? 61).map (·.size) = some (bxL t ep nn A n c).length := by rw [bxL_len t ep A n c h]; kernel_rfl
theorem bxSz (t : ByteArray) (ep : Nat) {nn : List Nat} (A : Option Addr) (n c : Nat) (h : nn.length = 12) : (Tryz.prog.info? 61).map (·.size) = some (bxV t ep nn A n c).size := by unfold bxV; rw [List.size_toArray]; exact bxLn t ep A n c h
theorem bx_c0 (t : ByteArray) (ep : Nat) (nn : List Nat) (A : Option Addr) (n c : Nat) : (bxV t ep nn A n c)[0]? = some (.string t) := rfl
theorem bx_c1 (t : ByteArray) (ep : Nat) (nn : List Nat) (A : Option Addr) (n c : Nat) : (bxV t ep nn A n c)[1]? = some (.int .u32 (ep : Int)) := rfl
theorem bx_c14 (t : ByteArray) (ep : Nat) {nn : List Nat} (A : Option Addr) (n c : Nat) (h : nn.length = 12) : (bxV t ep nn A n c)[14]? = some (.slice A n c) := by
 unfold bxV bxL
 rw [List.getElem?_toArray, List.getElem?_append_right (by simp [byt_len, h])]
 simp [byt_len, h]
theorem bx_one (t : ByteArray) (ep : Nat) (nn : List Nat) (A : Option Addr) (n c : Nat) : ∀ u ∈ (bxV t ep nn A n c).toList, u.oneCell' = true := by
 intro u hu
 simp only [bxV, bxL, List.mem_append, List.mem_cons, List.not_mem_nil, or_false] at hu
 rcases hu with ((rfl | rfl) | hu) | rfl
 ·rfl
 ·rfl
 ·exact byt_one nn u hu
 ·rfl
theorem bx_nonce {w : World} {g : Nat} {T : TypeId} {t : ByteArray} {ep : Nat} {nn : List Nat} {A : Option Addr} {n c : Nat} (h : Blk w g T (bxV t ep nn A n c)) : w.rangeAt g 2 (byt nn) := fun i u hu => by
 refine (h.cell (2 + i)).trans ?_
 have hi : i < (byt nn).length := (List.getElem?_eq_some_iff.1 hu).1
 unfold bxV bxL
 rw [List.getElem?_toArray, List.append_assoc, List.getElem?_append_right (by simp), List.getElem?_append_left (by simp at hi ⊢; omega)]
 simpa using hu
def okE (b : Bool) : Int := if b then 0 else 1
def checkB (t : ByteArray) (n : Nat) : Bool := nameB t && (decide (16 ≤ n) && decide (n ≤ 4112))
theorem check16_c (t : ByteArray) (ep : Nat) (nn : List Nat) (A : Option Addr) (n c : Nat) (w : World) (hn : nn.length = 12) (hs : t.size ≤ 1000000) (hb : n ≤ 1000000000) :
  Calls Tryz.prog 57 #[.agg (bxV t ep nn A n c)] w fun e w' => e = .returned (.int .i64 (okE (checkB t n))) ∧ Below w.heap.size w w' := by
 have HN := Li (fun W => name_c t W (by omega))
 have HC := Li (show checkB t n = (nameB t && (decide (16 ≤ n) && decide (n ≤ 4112))) from rfl)
 obtain ⟨r, hr⟩ : ∃ r, r = checkB t n := ⟨_, rfl⟩
 rw [← hr] at HC ⊢
 clear hr
 obtain ⟨Z, hZ⟩ : ∃ Z, Z = w.alloc (Obj.cells (bxV t ep nn A n c) 61) := ⟨_, rfl⟩
 have h1 := show Blk Z w.heap.size 61 (bxV t ep nn A n c) by rw [hZ]; exact Blk.new w _ _
 have HB := Li (show Below w.heap.size w Z by rw [hZ]; exact (jE _ _).alloc (jD _) _)
 have c0 : Z.cell? ⟨w.heap.size, 0, none⟩ = some (.string t) := (h1.cell 0).trans (bx_c0 ..)
 have c14 : Z.cell? ⟨w.heap.size, 14, none⟩ = some (.slice A n c) := (h1.cell 14).trans (bx_c14 _ _ _ _ _ hn)
 clear h1
 go_enter Tryz.func57, Tryz.ntmps57
 go_upto_region 1 with (refine Go.Great.wpList_boxTo rfl 61 (.tmp 0) rfl (some 1) rfl w.heap.size rfl (bxV t ep nn A n c) rfl ?_)
 rw [← hZ]
 cases hnm : nameB t with
 | false =>
  rw [hnm] at HN HC
  have HV := Li (show r = false by rw [HC.out]; rfl)
  clear hZ hnm
  go_wp2_with (go_at_call 48; (refine (HN.out Z).mono ?_); rintro e W1 ⟨rfl, rfl⟩)
  go_ret
  exact ⟨by rw [HV.out]; rfl, HB.out⟩
 | true =>
  rw [hnm] at HN HC
  clear hZ hnm
  rcases (show n < 16 ∨ (16 ≤ n ∧ n ≤ 4112) ∨ 4112 < n by omega) with hz | hz | hz
  ·have HV := Li (show r = false by rw [HC.out]; simp; omega)
   have q1 : (n : Int) < 16 ∨ ¬ (n : Int) < 16 := by omega
   clear q1
   have q2 : decide ((n : Int) < 16) = true := jF (by omega)
   have q3 : decide ((4112 : Int) < (n : Int)) = false := jG (by omega)
   have q4 : decide ((16 : Int) ≤ (n : Int)) = false := jG (by omega)
   have q5 : decide ((n : Int) ≤ 4112) = true := jF (by omega)
   clear hz
   go_wp2_with (go_at_call 48; (refine (HN.out Z).mono ?_); rintro e W1 ⟨rfl, rfl⟩)
   go_ret
   exact ⟨by rw [HV.out]; rfl, HB.out⟩
  ·have HV := Li (show r = true by rw [HC.out]; simp; omega)
   have q1 : (n : Int) < 16 ∨ ¬ (n : Int) < 16 := by omega
   clear q1
   have q2 : decide ((n : Int) < 16) = false := jG (by omega)
   have q3 : decide ((4112 : Int) < (n : Int)) = false := jG (by omega)
   have q4 : decide ((16 : Int) ≤ (n : Int)) = true := jF (by omega)
   have q5 : decide ((n : Int) ≤ 4112) = true := jF (by omega)
   clear hz
   go_wp2_with (go_at_call 48; (refine (HN.out Z).mono ?_); rintro e W1 ⟨rfl, rfl⟩)
   go_ret
   exact ⟨by rw [HV.out]; rfl, HB.out⟩
  ·have HV := Li (show r = false by rw [HC.out]; simp; omega)
   have q1 : (n : Int) < 16 ∨ ¬ (n : Int) < 16 := by omega
   clear q1
   have q2 : decide ((n : Int) < 16) = false := jG (by omega)
   have q3 : decide ((4112 : Int) < (n : Int)) = true := jF (by omega)
   have q4 : decide ((16 : Int) ≤ (n : Int)) = true := jF (by omega)
   have q5 : decide ((n : Int) ≤ 4112) = false := jG (by omega)
   clear hz
   go_wp2_with (go_at_call 48; (refine (HN.out Z).mono ?_); rintro e W1 ⟨rfl, rfl⟩)
   go_ret
   exact ⟨by rw [HV.out]; rfl, HB.out⟩
theorem rturn_c (x n : Nat) (w : World) (hx : x < 4294967296) (hn : n ≤ 32) : Calls Tryz.prog 100 #[.int .u32 x, .int .i64 n] w fun e w' => e = .returned (.int .u32 (rotl x n : Nat)) ∧ w = w' := by
 have HZ := Li (rotl_zero x hx)
 go_enter Tryz.func100, Tryz.ntmps100
 go_wp2_with fail
 go_loopw [0, 5] (fun xv i wr => ∃ m : Nat, m ≤ n ∧ i = .int .i64 m ∧ xv = .int .u32 (rotl x m : Nat) ∧ wr = w) (fun _ i _ => n - (intOf i).toNat)
 case atStart => exact ⟨0, by omega, rfl, by rw [HZ.out], rfl⟩
 case round =>
  rename World => wr
  obtain ⟨m, hm, rfl, rfl, rfl⟩ := hrel
  by_cases hlt : m < n
  ·have p1 : (m : Int) < (n : Int) := by omega
   have HS := Li (rotl_succ x m hx (by omega))
   have hy := rotl_lt x m hx (by omega)
   have hz := rotl_lt x (m + 1) hx (by omega)
   obtain ⟨z, hzz⟩ : ∃ z, z = rotl x (m + 1) := ⟨_, rfl⟩
   have HZZ := Li hzz
   rw [← hzz] at HS hz
   clear hzz
   generalize rotl x m = y at *
   obtain ⟨t, ht⟩ : ∃ t, t = y / 2147483648 := ⟨_, rfl⟩
   obtain ⟨u, hu⟩ : ∃ u, u = y * 2 % 4294967296 := ⟨_, rfl⟩
   have hs := HS.out
   have f0 : (y : Int) / 2147483648 = (t : Int) := by omega
   have f1 : IntKind.u32.wrap ((y : Int) * 2) = (u : Int) := by rw [wrap32]; omega
   have f2 : IntKind.u32.wrap ((u : Int) + (t : Int)) = (z : Int) := by rw [wrap32]; omega
   clear hs HS ht hu HZ
   go_wp2_with fail
   go_roundw
   case rel => exact ⟨m + 1, by omega, by go_num, by rw [← HZZ.out], by first | trivial | rfl⟩
   case measure => simp only [intOf]; omega
  ·obtain rfl : m = n := by omega
   go_wp2_with fail
   refine bodyPost_ret (results_tmp rfl _ _ _) rfl ?_
   exact ⟨rfl, rfl⟩
theorem rTurns (n : Nat) (hn : n ≤ 32) (x : Nat) (w : World) (hx : x < 4294967296) : Calls Tryz.prog 100 #[.int .u32 x, .int .i64 n] w fun e w' => e = .returned (.int .u32 (rotl x n : Nat)) ∧ w = w' := rturn_c x n w hx hn
def vx (l : List Nat) (rest : List Value) : Array Value := (w32 l ++ rest).toArray
theorem vx_at (l : List Nat) (rest : List Value) (i : Nat) (h : i < l.length) : (vx l rest)[i]? = some (.int .u32 (l.getD i 0 : Nat)) := by
 unfold vx
 rw [List.getElem?_toArray, List.getElem?_append_left (by rw [w32_len]; exact h)]
 have := vw_at l i h
 simpa only [vw, List.getElem?_toArray] using this
theorem vx_set (l : List Nat) (rest : List Value) (i n : Nat) (h : i < l.length) : (vx l rest).setIfInBounds i (.int .u32 (n : Nat)) = vx (l.set i n) rest := by
 unfold vx
 rw [sI, List.set_append_left _ _ (by rw [w32_len]; exact h)]
 simp [w32, List.map_set]
theorem rquarter_c (g ca a b c d : Nat) (ws : List Nat) (rest : List Value) (w : World) (hW0 : W16 ws) (hb : Blk w g 29 (vx ws rest)) (ha : a < 16) (hbb : b < 16) (hc : c < 16) (hd : d < 16) :
  Calls Tryz.prog 75 #[.slice (some ⟨g, 0, none⟩) 16 ca, .int .i64 a, .int .i64 b, .int .i64 c, .int .i64 d] w fun e w' => e = .returned (.tuple #[]) ∧ Blk w' g 29 (vx (qtrL ws [a, b, c, d]) rest) ∧ w.grownBy w' (some g) := by
 have pa : (a : Int) < 16 := by omega
 have pb : (b : Int) < 16 := by omega
 have pc : (c : Int) < 16 := by omega
 have pd : (d : Int) < 16 := by omega
 have HQ := Li (show qtrL ws [a, b, c, d] = mixL (mixL (mixL (mixL ws a b d 16) c d b 12) a b d 8) c d b 7 from rfl)
 have hW1 := hW0.mix a b d 16 (by omega) (by omega) (by decide)
 have hV0 := hW0.set a ((ws.getD a 0 + ws.getD b 0) % 4294967296) (by omega) (Nat.mod_lt _ (by decide))
 obtain ⟨u0, hu0⟩ : ∃ u, u = ws.set a ((ws.getD a 0 + ws.getD b 0) % 4294967296) := ⟨_, rfl⟩
 have HM0 := Li (show mixL ws a b d 16 = u0.set d (rotl (u0.getD d 0 ^^^ u0.getD a 0) 16) by rw [hu0]; rfl)
 rw [← hu0] at hV0
 generalize mixL ws a b d 16 = v1 at *
 have hW2 := hW1.mix c d b 12 (by omega) (by omega) (by decide)
 have hV1 := hW1.set c ((v1.getD c 0 + v1.getD d 0) % 4294967296) (by omega) (Nat.mod_lt _ (by decide))
 obtain ⟨u1, hu1⟩ : ∃ u, u = v1.set c ((v1.getD c 0 + v1.getD d 0) % 4294967296) := ⟨_, rfl⟩
 have HM1 := Li (show mixL v1 c d b 12 = u1.set b (rotl (u1.getD b 0 ^^^ u1.getD c 0) 12) by rw [hu1]; rfl)
 rw [← hu1] at hV1
 generalize mixL v1 c d b 12 = v2 at *
 have hW3 := hW2.mix a b d 8 (by omega) (by omega) (by decide)
 have hV2 := hW2.set a ((v2.getD a 0 + v2.getD b 0) % 4294967296) (by omega) (Nat.mod_lt _ (by decide))
 obtain ⟨u2, hu2⟩ : ∃ u, u = v2.set a ((v2.getD a 0 + v2.getD b 0) % 4294967296) := ⟨_, rfl⟩
 have HM2 := Li (show mixL v2 a b d 8 = u2.set d (rotl (u2.getD d 0 ^^^ u2.getD a 0) 8) by rw [hu2]; rfl)
 rw [← hu2] at hV2
 generalize mixL v2 a b d 8 = v3 at *
 have hW4 := hW3.mix c d b 7 (by omega) (by omega) (by decide)
 have hV3 := hW3.set c ((v3.getD c 0 + v3.getD d 0) % 4294967296) (by omega) (Nat.mod_lt _ (by decide))
 obtain ⟨u3, hu3⟩ : ∃ u, u = v3.set c ((v3.getD c 0 + v3.getD d 0) % 4294967296) := ⟨_, rfl⟩
 have HM3 := Li (show mixL v3 c d b 7 = u3.set b (rotl (u3.getD b 0 ^^^ u3.getD c 0) 7) by rw [hu3]; rfl)
 rw [← hu3] at hV3
 obtain ⟨v4, hv4⟩ : ∃ v, v = mixL v3 c d b 7 := ⟨_, rfl⟩
 rw [← hv4] at HM3 hW4 HQ
 clear hv4
 have hg0 := g1_refl w g
 have hs0 := hb
 clear hb
 go_enter Tryz.func75, Tryz.ntmps75
 have d0 := (hs0.cell a).trans (vx_at ws rest a (by rw [hW0.len]; omega))
 have d1 := (hs0.cell b).trans (vx_at ws rest b (by rw [hW0.len]; omega))
 have e0 := hs0.free a
 have x0 := hW0.lt a
 have x1 := hW0.lt b
 have l0 := hW0.len
 obtain ⟨s, hs⟩ : ∃ s, s = (ws.getD a 0 + ws.getD b 0) % 4294967296 := ⟨_, rfl⟩
 have f0 : IntKind.u32.wrap (((ws.getD a 0 : Nat) : Int) + ((ws.getD b 0 : Nat) : Int)) = (s : Int) := by rw [wrap32]; omega
 rw [← hs] at hu0
 have HS := Li (show Blk (w.setCell ⟨g, a, none⟩ (.int .u32 (s : Int))).drew g 29 (vx u0 rest) ∧ w.grownBy (w.setCell ⟨g, a, none⟩ (.int .u32 (s : Int))).drew (some g) from ⟨by rw [hu0, ← vx_set _ _ _ _ (by rw [l0]; omega)]; exact hs0.set_ _ _, g1_drew (g1_set hg0 _ _)⟩)
 clear hs hu0 hs0 hg0 x0 x1 l0
 generalize ws.getD a 0 = y0 at *
 generalize ws.getD b 0 = y1 at *
 go_wp2_with fail
 refine wp_region_still_tail 12 (by kernel_rfl) (by kernel_rfl) ?_
 simp only [List.take_succ_cons, List.take_zero, List.drop_succ_cons, List.drop_zero]
 repeat still_step
 try refine wpStill_nil ?_
 go_upto_region 1 with fail
 generalize (w.setCell ⟨g, a, none⟩ (.int .u32 (s : Int))).drew = Z0 at *
 obtain ⟨hs0, hg0⟩ := HS.out
 clear d0 d1 e0 f0 HS
 have d0 := (hs0.cell d).trans (vx_at u0 rest d (by rw [hV0.len]; omega))
 have d1 := (hs0.cell a).trans (vx_at u0 rest a (by rw [hV0.len]; omega))
 have e0 := hs0.free d
 have x0 := hV0.lt d
 have x1 := hV0.lt a
 have l0 := hV0.len
 have f0 := u32_xor_nat (u0.getD d 0) (u0.getD a 0) x0 x1
 have TT := Li (fun W => rTurns 16 (by decide) (u0.getD d 0 ^^^ u0.getD a 0) W (u32_xor_lt x0 x1))
 generalize u0.getD d 0 ^^^ u0.getD a 0 = q at *
 generalize u0.getD d 0 = y0 at *
 generalize u0.getD a 0 = y1 at *
 generalize rotl q 16 = r at *
 have HS := Li (show Blk (Z0.setCell ⟨g, d, none⟩ (.int .u32 (r : Int))).drew g 29 (vx v1 rest) ∧ w.grownBy (Z0.setCell ⟨g, d, none⟩ (.int .u32 (r : Int))).drew (some g) from ⟨by rw [HM0.out, ← vx_set _ _ _ _ (by rw [l0]; omega)]; exact hs0.set_ _ _, g1_drew (g1_set hg0 _ _)⟩)
 clear hs0 hg0 x0 x1 l0
 refine wp_region_still_tail 13 (by kernel_rfl) (by kernel_rfl) ?_
 simp only [List.take_succ_cons, List.take_zero, List.drop_succ_cons, List.drop_zero]
 iterate 11 still_step
 still_call ((TT.out _).mono fun _ _ h => ⟨h.1, h.2.symm⟩)
 repeat still_step
 try refine wpStill_nil ?_
 go_upto_region 2 with fail
 generalize (Z0.setCell ⟨g, d, none⟩ (.int .u32 (r : Int))).drew = Z1 at *
 obtain ⟨hs0, hg0⟩ := HS.out
 clear d0 d1 e0 f0 HS TT
 have d0 := (hs0.cell c).trans (vx_at v1 rest c (by rw [hW1.len]; omega))
 have d1 := (hs0.cell d).trans (vx_at v1 rest d (by rw [hW1.len]; omega))
 have e0 := hs0.free c
 have x0 := hW1.lt c
 have x1 := hW1.lt d
 have l0 := hW1.len
 obtain ⟨s, hs⟩ : ∃ s, s = (v1.getD c 0 + v1.getD d 0) % 4294967296 := ⟨_, rfl⟩
 have f0 : IntKind.u32.wrap (((v1.getD c 0 : Nat) : Int) + ((v1.getD d 0 : Nat) : Int)) = (s : Int) := by rw [wrap32]; omega
 rw [← hs] at hu1
 have HS := Li (show Blk (Z1.setCell ⟨g, c, none⟩ (.int .u32 (s : Int))).drew g 29 (vx u1 rest) ∧ w.grownBy (Z1.setCell ⟨g, c, none⟩ (.int .u32 (s : Int))).drew (some g) from ⟨by rw [hu1, ← vx_set _ _ _ _ (by rw [l0]; omega)]; exact hs0.set_ _ _, g1_drew (g1_set hg0 _ _)⟩)
 clear hs hu1 hs0 hg0 x0 x1 l0
 generalize v1.getD c 0 = y0 at *
 generalize v1.getD d 0 = y1 at *
 go_wp2_with fail
 refine wp_region_still_tail 12 (by kernel_rfl) (by kernel_rfl) ?_
 simp only [List.take_succ_cons, List.take_zero, List.drop_succ_cons, List.drop_zero]
 repeat still_step
 try refine wpStill_nil ?_
 go_upto_region 3 with fail
 generalize (Z1.setCell ⟨g, c, none⟩ (.int .u32 (s : Int))).drew = Z2 at *
 obtain ⟨hs0, hg0⟩ := HS.out
 clear d0 d1 e0 f0 HS
 have d0 := (hs0.cell b).trans (vx_at u1 rest b (by rw [hV1.len]; omega))
 have d1 := (hs0.cell c).trans (vx_at u1 rest c (by rw [hV1.len]; omega))
 have e0 := hs0.free b
 have x0 := hV1.lt b
 have x1 := hV1.lt c
 have l0 := hV1.len
 have f0 := u32_xor_nat (u1.getD b 0) (u1.getD c 0) x0 x1
 have TT := Li (fun W => rTurns 12 (by decide) (u1.getD b 0 ^^^ u1.getD c 0) W (u32_xor_lt x0 x1))
 generalize u1.getD b 0 ^^^ u1.getD c 0 = q at *
 generalize u1.getD b 0 = y0 at *
 generalize u1.getD c 0 = y1 at *
 generalize rotl q 12 = r at *
 have HS := Li (show Blk (Z2.setCell ⟨g, b, none⟩ (.int .u32 (r : Int))).drew g 29 (vx v2 rest) ∧ w.grownBy (Z2.setCell ⟨g, b, none⟩ (.int .u32 (r : Int))).drew (some g) from ⟨by rw [HM1.out, ← vx_set _ _ _ _ (by rw [l0]; omega)]; exact hs0.set_ _ _, g1_drew (g1_set hg0 _ _)⟩)
 clear hs0 hg0 x0 x1 l0
 refine wp_region_still_tail 13 (by kernel_rfl) (by kernel_rfl) ?_
 simp only [List.take_succ_cons, List.take_zero, List.drop_succ_cons, List.drop_zero]
 iterate 11 still_step
 still_call ((TT.out _).mono fun _ _ h => ⟨h.1, h.2.symm⟩)
 repeat still_step
 try refine wpStill_nil ?_
 go_upto_region 4 with fail
 generalize (Z2.setCell ⟨g, b, none⟩ (.int .u32 (r : Int))).drew = Z3 at *
 obtain ⟨hs0, hg0⟩ := HS.out
 clear d0 d1 e0 f0 HS TT
 have d0 := (hs0.cell a).trans (vx_at v2 rest a (by rw [hW2.len]; omega))
 have d1 := (hs0.cell b).trans (vx_at v2 rest b (by rw [hW2.len]; omega))
 have e0 := hs0.free a
 have x0 := hW2.lt a
 have x1 := hW2.lt b
 have l0 := hW2.len
 obtain ⟨s, hs⟩ : ∃ s, s = (v2.getD a 0 + v2.getD b 0) % 4294967296 := ⟨_, rfl⟩
 have f0 : IntKind.u32.wrap (((v2.getD a 0 : Nat) : Int) + ((v2.getD b 0 : Nat) : Int)) = (s : Int) := by rw [wrap32]; omega
 rw [← hs] at hu2
 have HS := Li (show Blk (Z3.setCell ⟨g, a, none⟩ (.int .u32 (s : Int))).drew g 29 (vx u2 rest) ∧ w.grownBy (Z3.setCell ⟨g, a, none⟩ (.int .u32 (s : Int))).drew (some g) from ⟨by rw [hu2, ← vx_set _ _ _ _ (by rw [l0]; omega)]; exact hs0.set_ _ _, g1_drew (g1_set hg0 _ _)⟩)
 clear hs hu2 hs0 hg0 x0 x1 l0
 generalize v2.getD a 0 = y0 at *
 generalize v2.getD b 0 = y1 at *
 go_wp2_with fail
 refine wp_region_still_tail 12 (by kernel_rfl) (by kernel_rfl) ?_
 simp only [List.take_succ_cons, List.take_zero, List.drop_succ_cons, List.drop_zero]
 repeat still_step
 try refine wpStill_nil ?_
 go_upto_region 5 with fail
 generalize (Z3.setCell ⟨g, a, none⟩ (.int .u32 (s : Int))).drew = Z4 at *
 obtain ⟨hs0, hg0⟩ := HS.out
 clear d0 d1 e0 f0 HS
 have d0 := (hs0.cell d).trans (vx_at u2 rest d (by rw [hV2.len]; omega))
 have d1 := (hs0.cell a).trans (vx_at u2 rest a (by rw [hV2.len]; omega))
 have e0 := hs0.free d
 have x0 := hV2.lt d
 have x1 := hV2.lt a
 have l0 := hV2.len
 have f0 := u32_xor_nat (u2.getD d 0) (u2.getD a 0) x0 x1
 have TT := Li (fun W => rTurns 8 (by decide) (u2.getD d 0 ^^^ u2.getD a 0) W (u32_xor_lt x0 x1))
 generalize u2.getD d 0 ^^^ u2.getD a 0 = q at *
 generalize u2.getD d 0 = y0 at *
 generalize u2.getD a 0 = y1 at *
 generalize rotl q 8 = r at *
 have HS := Li (show Blk (Z4.setCell ⟨g, d, none⟩ (.int .u32 (r : Int))).drew g 29 (vx v3 rest) ∧ w.grownBy (Z4.setCell ⟨g, d, none⟩ (.int .u32 (r : Int))).drew (some g) from ⟨by rw [HM2.out, ← vx_set _ _ _ _ (by rw [l0]; omega)]; exact hs0.set_ _ _, g1_drew (g1_set hg0 _ _)⟩)
 clear hs0 hg0 x0 x1 l0
 refine wp_region_still_tail 13 (by kernel_rfl) (by kernel_rfl) ?_
 simp only [List.take_succ_cons, List.take_zero, List.drop_succ_cons, List.drop_zero]
 iterate 11 still_step
 still_call ((TT.out _).mono fun _ _ h => ⟨h.1, h.2.symm⟩)
 repeat still_step
 try refine wpStill_nil ?_
 go_upto_region 6 with fail
 generalize (Z4.setCell ⟨g, d, none⟩ (.int .u32 (r : Int))).drew = Z5 at *
 obtain ⟨hs0, hg0⟩ := HS.out
 clear d0 d1 e0 f0 HS TT
 have d0 := (hs0.cell c).trans (vx_at v3 rest c (by rw [hW3.len]; omega))
 have d1 := (hs0.cell d).trans (vx_at v3 rest d (by rw [hW3.len]; omega))
 have e0 := hs0.free c
 have x0 := hW3.lt c
 have x1 := hW3.lt d
 have l0 := hW3.len
 obtain ⟨s, hs⟩ : ∃ s, s = (v3.getD c 0 + v3.getD d 0) % 4294967296 := ⟨_, rfl⟩
 have f0 : IntKind.u32.wrap (((v3.getD c 0 : Nat) : Int) + ((v3.getD d 0 : Nat) : Int)) = (s : Int) := by rw [wrap32]; omega
 rw [← hs] at hu3
 have HS := Li (show Blk (Z5.setCell ⟨g, c, none⟩ (.int .u32 (s : Int))).drew g 29 (vx u3 rest) ∧ w.grownBy (Z5.setCell ⟨g, c, none⟩ (.int .u32 (s : Int))).drew (some g) from ⟨by rw [hu3, ← vx_set _ _ _ _ (by rw [l0]; omega)]; exact hs0.set_ _ _, g1_drew (g1_set hg0 _ _)⟩)
 clear hs hu3 hs0 hg0 x0 x1 l0
 generalize v3.getD c 0 = y0 at *
 generalize v3.getD d 0 = y1 at *
 go_wp2_with fail
 refine wp_region_still_tail 12 (by kernel_rfl) (by kernel_rfl) ?_
 simp only [List.take_succ_cons, List.take_zero, List.drop_succ_cons, List.drop_zero]
 repeat still_step
 try refine wpStill_nil ?_
 go_upto_region 7 with fail
 generalize (Z5.setCell ⟨g, c, none⟩ (.int .u32 (s : Int))).drew = Z6 at *
 obtain ⟨hs0, hg0⟩ := HS.out
 clear d0 d1 e0 f0 HS
 have d0 := (hs0.cell b).trans (vx_at u3 rest b (by rw [hV3.len]; omega))
 have d1 := (hs0.cell c).trans (vx_at u3 rest c (by rw [hV3.len]; omega))
 have e0 := hs0.free b
 have x0 := hV3.lt b
 have x1 := hV3.lt c
 have l0 := hV3.len
 have f0 := u32_xor_nat (u3.getD b 0) (u3.getD c 0) x0 x1
 have TT := Li (fun W => rTurns 7 (by decide) (u3.getD b 0 ^^^ u3.getD c 0) W (u32_xor_lt x0 x1))
 generalize u3.getD b 0 ^^^ u3.getD c 0 = q at *
 generalize u3.getD b 0 = y0 at *
 generalize u3.getD c 0 = y1 at *
 generalize rotl q 7 = r at *
 have HS := Li (show Blk (Z6.setCell ⟨g, b, none⟩ (.int .u32 (r : Int))).drew g 29 (vx v4 rest) ∧ w.grownBy (Z6.setCell ⟨g, b, none⟩ (.int .u32 (r : Int))).drew (some g) from ⟨by rw [HM3.out, ← vx_set _ _ _ _ (by rw [l0]; omega)]; exact hs0.set_ _ _, g1_drew (g1_set hg0 _ _)⟩)
 clear hs0 hg0 x0 x1 l0
 refine wp_region_still_tail 13 (by kernel_rfl) (by kernel_rfl) ?_
 simp only [List.take_succ_cons, List.take_zero, List.drop_succ_cons, List.drop_zero]
 iterate 11 still_step
 still_call ((TT.out _).mono fun _ _ h => ⟨h.1, h.2.symm⟩)
 repeat still_step
 try refine wpStill_nil ?_
 go_wp2_with fail
 refine bodyPost_end (results_none rfl _ _ _) rfl ?_
 exact ⟨rfl, by rw [HQ.out]; exact HS.out.1, HS.out.2⟩
theorem wordInfo : (Tryz.prog.info? 29).map (fun i => (i.zero, i.size, i.bytes)) = some (some (.int .u32 0), 1, 4) := by kernel_rfl
def OwnW (w : World) (base : Nat) (v : Value) (l : List Nat) : Prop := w.ownsRow base 29 1 v l.length (w32 l)
theorem OwnW.nil_ (w : World) (base : Nat) : OwnW w base (.slice none 0 0) [] := ⟨rfl, .inl ⟨rfl, rfl⟩⟩
theorem OwnW.rd {w : World} {base : Nat} {v : Value} {l : List Nat} (h : OwnW w base v l) : ∃ A cap, v = .slice A l.length cap ∧ l.length ≤ cap ∧ cap ≤ maxLen ∧ Rd w w.heap.size A (w32 l) := own_rd h
theorem OwnW.alloc {w : World} {base : Nat} {v : Value} {l : List Nat} (h : OwnW w base v l) (o : Obj) : OwnW (w.alloc o) base v l := World.ownsRow.alloc h o
theorem OwnW.drewN {w : World} {base : Nat} {v : Value} {l : List Nat} (h : OwnW w base v l) (n : Nat) : OwnW (w.drewN n) base v l := h
theorem OwnW.snoc {w w' : World} {base : Nat} {v v' : Value} {l : List Nat} {c : Nat} (h : Apped w base 29 1 v w' v' (l.length + 1) (w32 l ++ [.int .u32 (c : Int)])) : OwnW w' base v' (l ++ [c]) := by
 have := h.own
 simpa [OwnW, w32] using this
theorem w32_one (l : List Nat) : ∀ u ∈ w32 l, u.oneCell' = true := by
 intro u hu
 obtain ⟨n, _, rfl⟩ := List.mem_map.1 hu
 rfl
theorem w32_at {l : List Nat} {i : Nat} (h : i < l.length) : (w32 l)[i]? = some (.int .u32 (l.getD i 0 : Nat)) := by
 simp [w32, jA, h]
theorem Rd.wordAt {w : World} {B : Nat} {A : Option Addr} {l : List Nat} (h : Rd w B A (w32 l)) (hn : 0 < l.length) :
  ∃ ad, A = some ad ∧ ad.block < B ∧ ∀ k, k < l.length → w.cell? (ad.add k) = some (.int .u32 (l.getD k 0 : Nat)) := by
 obtain ⟨ad, e, hb, hc⟩ := h (fun h0 => by have := w32_len l; rw [h0] at this; simp at this; omega)
 exact ⟨ad, e, hb, fun k hk => hc k _ (w32_at hk)⟩
theorem rd_oneW (w : World) (v : Value) : Rd (w.alloc (.cells #[v] 29)) (w.heap.size + 1) (some ⟨w.heap.size, 0, none⟩) [v] := rd_new w [v] _ (0, 0)
theorem OwnW.next {w w' : World} {base : Nat} {v : Value} {l : List Nat} (h : OwnW w base v l) (hb : Below w.heap.size w w') : OwnW w' base v l := own_keep (S := fun _ => False) h (Only.of_below hb) (fun _ _ h => h)
theorem Rd.drop_ {w : World} {B : Nat} {ad : Addr} {l : List Nat} (h : Rd w B (some ad) (byt l)) (k : Nat) : Rd w B (some (ad.add k)) (byt (l.drop k)) := fun hn => by
 have e : byt (l.drop k) = (byt l).drop k := by simp [byt, List.map_drop]
 obtain ⟨a1, e1, hb, hc⟩ := h (fun h0 => hn (by rw [e, h0]; simp))
 injection e1 with e1
 subst e1
 refine ⟨_, rfl, by rw [add_block]; exact hb, fun j u hu => ?_⟩
 rw [Addr.add_add]
 rw [e, List.getElem?_drop] at hu
 exact hc _ u hu
theorem Rd.take_ {w : World} {B : Nat} {A : Option Addr} {l : List Nat} (h : Rd w B A (byt l)) (n : Nat) : Rd w B A (byt (l.take n)) := fun hn => by
 obtain ⟨ad, e, hb, hc⟩ := h (fun h0 => hn (by
  have : l = [] := List.eq_nil_of_length_eq_zero (by rw [← byt_len l, h0]; rfl)
  rw [this]; simp [byt]))
 refine ⟨ad, e, hb, fun j u hu => hc j u ?_⟩
 have e2 : byt (l.take n) = (byt l).take n := by simp [byt, List.map_take]
 rw [e2, List.getElem?_take] at hu
 split at hu
 ·exact hu
 ·cases hu
def expL : List Nat := [101, 120, 112, 97, 110, 100, 32, 51, 50, 45, 98, 121, 116, 101, 32, 107]
def fullB (k : List Nat) (n : Nat) (nonce : List Nat) : List Nat := ((expL ++ k) ++ form n 4) ++ nonce
theorem fullB_len {k nonce : List Nat} {n : Nat} (hk : k.length = 32) (hc : nonce.length = 12) : (fullB k n nonce).length = 64 := by
 simp only [fullB, jC, hk, hc, form_len]; rfl
theorem fullB_lt {k nonce : List Nat} {n : Nat} (hk : ∀ c ∈ k, c < 256) (hc : ∀ c ∈ nonce, c < 256) : ∀ c ∈ fullB k n nonce, c < 256 := fun c h => by
 rcases List.mem_append.1 h with h | h
 ·rcases List.mem_append.1 h with h | h
  ·rcases List.mem_append.1 h with h | h
   ·exact (show ∀ c ∈ expL, c < 256 by decide) c h
   ·exact hk c h
  ·exact form_lt _ _ c h
 ·exact hc c h
theorem le4_right (a b : List Nat) (j : Nat) (h : a.length ≤ j) : le4 ((a ++ b).drop j) = le4 (b.drop (j - a.length)) := by
 rw [List.drop_append, List.drop_eq_nil_of_le h, List.nil_append]
theorem le4_left (a b : List Nat) (j : Nat) (h : j + 4 ≤ a.length) : le4 ((a ++ b).drop j) = le4 (a.drop j) := by
 unfold le4
 rw [List.drop_append, List.take_append_of_le_length (by rw [List.length_drop]; omega)]
def wordAt (k : List Nat) (n : Nat) (nonce : List Nat) (i : Nat) : Nat := le4 ((fullB k n nonce).drop (4 * i))
theorem words_eq (k : List Nat) (n : Nat) (nonce : List Nat) (hk : k.length = 32) (hn : n < 4294967296) : (List.range 16).map (wordAt k n nonce) = startL k n nonce := by
 have l1 : (expL ++ k).length = 48 := by rw [jC, hk]; rfl
 have l2 : ((expL ++ k) ++ form n 4).length = 52 := by rw [jC, l1, form_len]
 have c0 : ∀ i, i < 4 → wordAt k n nonce i = le4 (expL.drop (4 * i)) := fun i hi => by
  unfold wordAt fullB
  rw [le4_left _ _ _ (by rw [l2]; omega), le4_left _ _ _ (by rw [l1]; omega), le4_left _ _ _ (by show _ ≤ 16; omega)]
 have c1 : ∀ i, 4 ≤ i → i < 12 → wordAt k n nonce i = le4 (k.drop (4 * i - 16)) := fun i h1 hi => by
  unfold wordAt fullB
  rw [le4_left _ _ _ (by rw [l2]; omega), le4_left _ _ _ (by rw [l1]; omega), le4_right _ _ _ (by show 16 ≤ _; omega)]
  rfl
 have c2 : wordAt k n nonce 12 = n := by
  unfold wordAt fullB
  rw [le4_left _ _ _ (by rw [l2]; decide), le4_right _ _ _ (by rw [l1]; decide), l1]
  show number (((form n 4).drop 0).take 4) = n
  rw [List.drop_zero, List.take_of_length_le (by rw [form_len]; decide)]
  exact number_form n 4 hn
 have c3 : ∀ i, 13 ≤ i → i < 16 → wordAt k n nonce i = le4 (nonce.drop (4 * i - 52)) := fun i h1 hi => by
  unfold wordAt fullB
  rw [le4_right _ _ _ (by rw [l2]; omega), l2]
 rw [startL_eq]
 show [wordAt k n nonce 0, wordAt k n nonce 1, wordAt k n nonce 2, wordAt k n nonce 3, wordAt k n nonce 4, wordAt k n nonce 5, wordAt k n nonce 6, wordAt k n nonce 7, wordAt k n nonce 8, wordAt k n nonce 9, wordAt k n nonce 10, wordAt k n nonce 11, wordAt k n nonce 12, wordAt k n nonce 13, wordAt k n nonce 14, wordAt k n nonce 15] = _
 rw [c0 0 (by decide), c0 1 (by decide), c0 2 (by decide), c0 3 (by decide), c1 4 (by decide) (by decide), c1 5 (by decide) (by decide), c1 6 (by decide) (by decide), c1 7 (by decide) (by decide), c1 8 (by decide) (by decide), c1 9 (by decide) (by decide), c1 10 (by decide) (by decide), c1 11 (by decide) (by decide), c2, c3 13 (by decide) (by decide), c3 14 (by decide) (by decide), c3 15 (by decide) (by decide)]
 rfl
theorem out_step (us fr : List Nat) (i : Nat) : (List.range (4 * (i + 1))).map (outB us fr) = (List.range (4 * i)).map (outB us fr) ++ form ((us.getD i 0 + fr.getD i 0) % 4294967296) 4 := by
 have e : ∀ r, r < 4 → outB us fr (4 * i + r) = (us.getD i 0 + fr.getD i 0) % 4294967296 / 256 ^ r % 256 := fun r hr => by
  unfold outB
  rw [show (4 * i + r) / 4 = i by omega, show (4 * i + r) % 4 = r by omega]
 rw [show 4 * (i + 1) = 4 * i + 3 + 1 by omega, List.range_succ, List.range_succ, List.range_succ, List.range_succ]
 simp only [List.map_append, List.map_cons, List.map_nil, List.append_assoc, List.cons_append, List.nil_append]
 rw [show outB us fr (4 * i) = _ from e 0 (by decide), e 1 (by decide), e 2 (by decide), e 3 (by decide)]
 simp only [form, Nat.div_div_eq_div_mul, Nat.pow_zero, Nat.div_one, Nat.reducePow, Nat.reduceMul]
structure Two (w : World) (base : Nat) (vx vy : Value) (xs ys : List Nat) : Prop where
 ox : OwnW w base vx xs
 oy : OwnW w base vy ys
 ne : ∀ g, vx.ownBlock = some g → vy.ownBlock ≠ some g
theorem Two.next {w w' : World} {base : Nat} {vx vy : Value} {xs ys : List Nat} (h : Two w base vx vy xs ys) (hb : Below w.heap.size w w') : Two w' base vx vy xs ys := ⟨h.ox.next hb, h.oy.next hb, h.ne⟩
theorem Two.symm {w : World} {base : Nat} {vx vy : Value} {xs ys : List Nat} (h : Two w base vx vy xs ys) : Two w base vy vx ys xs := ⟨h.oy, h.ox, fun g h1 h2 => h.ne g h2 h1⟩
theorem Two.app {w w' : World} {base : Nat} {vx vy v' : Value} {xs ys : List Nat} {c : Nat} (h : Two w base vx vy xs ys) (hap : Apped w base 29 1 vx w' v' (xs.length + 1) (w32 xs ++ [.int .u32 (c : Int)])) : Two w' base v' vy (xs ++ [c]) ys :=
 ⟨OwnW.snoc hap, own_keep h.oy (hap.only (S := fun k => vx.ownBlock = some k) (fun g hg => hg)) (fun g hg hs => h.ne g hs hg), fun g h1 h2 => by
  rcases hap.lies with e | e
  ·rw [e] at h1; exact h.ne g h1 h2
  ·rw [e] at h1
   injection h1 with h1
   have := own_lt h.oy g h2
   omega⟩
theorem OwnW.open_ {w : World} {base : Nat} {v : Value} {l : List Nat} (h : OwnW w base v l) (hne : l ≠ []) : ∃ g cap rest, v = .slice (some ⟨g, 0, none⟩) l.length cap ∧ base ≤ g ∧ Blk w g 29 (vx l rest) ∧ l.length ≤ cap ∧ cap ≤ maxLen ∧ rest.length + l.length = cap := by
 rcases h.2 with ⟨_, h0⟩ | ⟨g, cap, cur, rfl, hb, hh, hn, hm, hc, ht⟩
 ·exact absurd (List.eq_nil_of_length_eq_zero h0) hne
 ·refine ⟨g, cap, cur.toList.drop l.length, rfl, hb, ?_, hn, hm, ?_⟩
  ·rw [Nat.mul_one] at ht
   unfold Blk vx
   rw [hh, ← ht, List.take_append_drop]
  ·rw [List.length_drop, Array.length_toList, hc]; omega
theorem rword_c (B : Nat) (ad : Addr) (N ca : Nat) (l : List Nat) (w : World) (hl : ∀ c ∈ l, c < 256) (hr : Rd w B (some ad) (byt l)) (h4 : 4 ≤ l.length) (hn : N = l.length) (hca : 4 ≤ ca) :
  Calls Tryz.prog 74 #[.slice (some ad) N ca] w fun e w' => e = .returned (.int .u32 (le4 l : Nat)) ∧ w = w' := by
 have hlen : (l.take 4).length = 4 := by rw [List.length_take]; omega
 have h := rnumber_c B (some ad) ca (l.take 4) w (hr.take_ 4) (fun c hc => hl c (List.mem_of_mem_take hc)) (by omega)
 rw [hlen] at h
 have HN := Li h
 have hv := le4_lt hl
 have HE := Li (show le4 l = number (l.take 4) from rfl)
 rw [HE.out] at hv ⊢
 clear HE h hl hr
 generalize number (l.take 4) = v at *
 have f0 : IntKind.u32.wrap (v : Int) = (v : Int) := by rw [wrap32]; omega
 have p1 : (4 : Int) ≤ (ca : Int) := by omega
 go_enter Tryz.func74, Tryz.ntmps74
 go_wp2_with (go_at_call 99; (refine HN.out.mono ?_); rintro e w1 ⟨rfl, rfl⟩)
 refine bodyPost_ret (results_tmp rfl _ _ _) rfl ?_
 exact ⟨rfl, rfl⟩
def MarkAt (w : World) (g cap : Nat) (s : List Nat) : Prop := ∃ cur : Array Value, w.heap[g]? = some (.cells cur 5 (cur.size, cur.size + 1)) ∧ cur.size = cap ∧ s.length ≤ cap ∧ cap ≤ maxLen ∧ ∀ j, j < s.length → cur[j]? = some (.int .u8 (s.getD j 0 : Nat))
theorem MarkAt.next {w w' : World} {g cap : Nat} {s : List Nat} (h : MarkAt w g cap s) (hb : Below w.heap.size w w') : MarkAt w' g cap s := by
 obtain ⟨cur, hg, r⟩ := h
 refine ⟨cur, ?_, r⟩
 have hlt : g < w.heap.size := (Array.getElem?_eq_some_iff.1 hg).1
 rw [hb.block g hlt]; exact hg
theorem setCells_row (g : Nat) (t : TypeId) (fr : Nat × Nat) : ∀ (vs : List Value) (o : Nat) (w : World) (cur : Array Value), w.heap[g]? = some (.cells cur t fr) → o + vs.length ≤ cur.size →
  ∃ cur', (w.setCells g o vs).heap[g]? = some (.cells cur' t fr) ∧ cur'.size = cur.size ∧ (∀ j, j < o → cur'[j]? = cur[j]?) ∧ ∀ j, j < vs.length → cur'[o + j]? = vs[j]?
 | [], o, w, cur, hg, _ => ⟨cur, hg, rfl, fun _ _ => rfl, fun j hj => by cases hj⟩
 | v :: r, o, w, cur, hg, hl => by
  simp only [List.length_cons] at hl
  have h1 : (w.setCell ⟨g, o, none⟩ v).heap[g]? = some (.cells (cur.setIfInBounds o v) t fr) := by
   rw [setCell_eq_setRow w g o cur t fr v hg]
   exact setRow_heap w g _ _ t _ hg
  obtain ⟨cur', a, b, c, d⟩ := setCells_row g t fr r (o + 1) (w.setCell ⟨g, o, none⟩ v) (cur.setIfInBounds o v) h1 (by rw [Array.size_setIfInBounds]; omega)
  refine ⟨cur', a, by rw [b, Array.size_setIfInBounds], fun j hj => ?_, fun j hj => ?_⟩
  ·rw [c j (by omega), Array.getElem?_setIfInBounds_ne (by omega)]
  ·cases j with
   | zero =>
    rw [Nat.add_zero, c o (by omega), Array.getElem?_setIfInBounds_self_of_lt (by omega)]
    rfl
   | succ j =>
    have := d j (by simp only [List.length_cons] at hj; omega)
    rw [show o + (j + 1) = o + 1 + j by omega, this]
    rfl
theorem below_setCells (B g : Nat) (hB : B ≤ g) : ∀ (vs : List Value) (o : Nat) (a w : World), Below B a w → Below B a (w.setCells g o vs)
 | [], _, _, _, h => h
 | v :: r, o, a, w, h => below_setCells B g hB r (o + 1) a _ (h.setCell hB v)
theorem only_below {S : Nat → Prop} {w w' : World} (h : Below w.heap.size w w') : Only S w w' := ⟨h.os, h.tape, h.output, h.size, fun k hk _ => h.block k hk⟩
theorem only_setCells (g : Nat) : ∀ (vs : List Value) (o : Nat) (a w : World), Only (fun k => g = k) a w → Only (fun k => g = k) a (w.setCells g o vs)
 | [], _, _, _, h => h
 | v :: r, o, a, w, h => by
  refine only_setCells g r (o + 1) a _ ⟨h.os, h.tape, h.output, by simpa [World.setCell] using h.size, fun k hk hne => ?_⟩
  rw [← h.block k hk hne]
  exact Below.heap_setCell _ _ _ _ (fun e => hne e.symm)
def MarkOwn (w : World) (B : Nat) (v : Value) (l : List Nat) : Prop := (∃ g cap, v = .slice (some ⟨g, 0, none⟩) l.length cap ∧ B ≤ g ∧ MarkAt w g cap l) ∨ OwnB w B v l
theorem MarkOwn.next {w w' : World} {B : Nat} {v : Value} {l : List Nat} (h : MarkOwn w B v l) (hb : Below w.heap.size w w') : MarkOwn w' B v l := by
 rcases h with ⟨g, cap, e, hB, h⟩ | h
 ·exact .inl ⟨g, cap, e, hB, h.next hb⟩
 ·exact .inr (h.next hb)
theorem MarkOwn.rd {w : World} {B : Nat} {v : Value} {l : List Nat} (h : MarkOwn w B v l) : ∃ A cap, v = .slice A l.length cap ∧ Rd w w.heap.size A (byt l) := by
 rcases h with ⟨g, cap, rfl, hB, cur, hg, hcs, hle, hmx, hcur⟩ | h
 ·have hlt : g < w.heap.size := (Array.getElem?_eq_some_iff.1 hg).1
  refine ⟨_, _, rfl, fun _ => ⟨_, rfl, hlt, fun j u hu => ?_⟩⟩
  have hj : j < l.length := by
   rcases Nat.lt_or_ge j l.length with h1 | h1
   ·exact h1
   ·rw [List.getElem?_eq_none (by rw [byt_len]; exact h1)] at hu; cases hu
  rw [Addr.add_mid, Nat.zero_add]
  simp only [World.cell?, hg]
  rw [hcur j hj, ← hu, byt_at hj]
  rfl
 ·obtain ⟨A, cap, e, _, _, hr⟩ := h.rd
  exact ⟨A, cap, e, hr⟩
theorem MarkOwn.lt {w : World} {B : Nat} {v : Value} {l : List Nat} (h : MarkOwn w B v l) : ∀ g, v.ownBlock = some g → g < w.heap.size := by
 rcases h with ⟨g, cap, rfl, hB, cur, hg, _⟩ | h
 ·intro g' hg'
  injection hg' with hg'
  subst hg'
  exact (Array.getElem?_eq_some_iff.1 hg).1
 ·exact own_lt h
theorem app_marks (w : World) (B : Nat) (v : Value) (s m : List Nat) (ty : TypeId) (A : Option Addr) (ca : Nat) (Bs : Nat) (hm : MarkOwn w B v s) (hBw : B ≤ w.heap.size) (hs : s.length ≤ 10000) (hmn : m.length ≤ 10000) (hne : m ≠ []) (hr : Rd w Bs A (byt m)) :
  ∃ v' w', (Builtin.append_ #[23, 23] ty #[v, .slice A m.length ca]).run Tryz.prog w = .ok v' w' ∧ MarkOwn w' B v' (s ++ m) ∧ Below B w w' ∧ Only (fun k => v.ownBlock = some k) w w' := by
 obtain ⟨i0, hi, hz0, hz1, hz2⟩ := info_parts byteInfo
 rcases hm with ⟨g, cap, rfl, hB, hm⟩ | ho
 ·obtain ⟨ad, rfl, _, hc⟩ := hr (by intro h0; have := congrArg List.length h0; rw [byt_len] at this; exact hne (List.eq_nil_of_length_eq_zero this))
  obtain ⟨cur, hg, hcs, hle, hmx, hcur⟩ := hm
  have hlt : g < w.heap.size := (Array.getElem?_eq_some_iff.1 hg).1
  have hcell : ∀ j, j < s.length → w.cell? ⟨g, j, none⟩ = some (.int .u8 (s.getD j 0 : Nat)) := fun j hj => by
   simp only [World.cell?, hg]
   exact hcur j hj
  by_cases hroom : s.length + m.length ≤ cap
  ·have hf := run_firstCells_some (P := Tryz.prog) w i0.size m.length ad m.length ca (byt m) (by rw [hz1, byt_len, Nat.mul_one]) hc
   have hst := run_storeCells_cells (P := Tryz.prog) g s.length (byt m) 0 w (fun j hj => by
    rw [byt_len] at hj
    simp only [World.cell?, hg, Nat.add_zero]
    rw [Array.getElem?_eq_getElem (by omega)]
    rfl) (fun j hj => by
    rw [byt_len] at hj
    simp [World.frozen?, hg]
    omega) (byt_one m)
   rw [Nat.add_zero] at hst
   rw [hz1] at hf
   obtain ⟨cur', ha, hb, hcc, hd⟩ := setCells_row g 5 _ (byt m) s.length w cur hg (by rw [byt_len]; omega)
   refine ⟨.slice (some ⟨g, 0, none⟩) (s.length + m.length) cap, w.setCells g s.length (byt m), ?_, .inl ⟨g, cap, by rw [jC], hB, cur', by rw [ha, hb], by rw [hb, hcs], by rw [jC]; exact hroom, hmx, fun j hj => ?_⟩, below_setCells B g hB _ _ _ _ (jE _ _), ?_⟩
   ·simp [Builtin.append_, run_underlying Tryz.underlying23, sizeOf, typeInfo, hi, Builtin.lenOf, hroom, hf, Addr.add_lit, hst, hz1]
   ·rw [jC] at hj
    rcases Nat.lt_or_ge j s.length with h1 | h1
    ·rw [hcc j h1, hcur j h1]
     rw [jA, jA, List.getElem?_append_left h1]
    ·obtain ⟨i, rfl⟩ : ∃ i, j = s.length + i := ⟨j - s.length, by omega⟩
     rw [hd i (by rw [byt_len]; omega), byt_at (by omega)]
     rw [jA, jA, List.getElem?_append_right (by omega), Nat.add_sub_cancel_left]
   ·have h1 := only_setCells g (byt m) s.length w w ⟨rfl, rfl, rfl, jD _, fun _ _ _ => rfl⟩
    exact ⟨h1.os, h1.tape, h1.output, h1.size, fun k hk hne => h1.block k hk (fun e => hne (by rw [← e]; rfl))⟩
  ·have h1 := run_append_grow (P := Tryz.prog) w 23 ty 5 i0 _ Tryz.underlying23 hi hz0 ⟨g, 0, none⟩ s.length cap (byt s) (by rw [hz1, byt_len, Nat.mul_one]) (fun j v hv => by
    have hj : j < s.length := by
     rcases Nat.lt_or_ge j s.length with h1 | h1
     ·exact h1
     ·rw [List.getElem?_eq_none (by rw [byt_len]; exact h1)] at hv; cases hv
    rw [Addr.add_mid, Nat.zero_add, hcell j hj, ← hv, byt_at hj]) ad m.length ca (byt m) (by rw [hz1, byt_len, Nat.mul_one]) hc (by omega) (by omega) (growslice_fits (by omega) (by rw [hz2]; omega))
   have hge := grownCap_ge w (s.length + m.length) cap 5
   have hgm := grownCap_le_maxLen w (s.length + m.length) cap 5 (by simp [maxLen]; omega)
   refine ⟨_, _, h1, .inr ⟨by rw [byt_len, Nat.mul_one], .inr ⟨w.heap.size, grownCap w (s.length + m.length) cap 5, _, by rw [jC], hBw, (Blk.new w.drew 5 _), by rw [jC]; exact hge, hgm, ?_, ?_⟩⟩, (jE _ _).drew.alloc (Nat.le_trans hB (Nat.le_of_lt hlt)) _, ?_⟩
   ·rw [Array.size_append, Array.size_append, List.size_toArray, List.size_toArray, byt_len, byt_len]
    simp [Builtin.zeroCells, Value.cells]
    omega
   ·rw [Nat.mul_one, Array.toList_append, Array.toList_append, List.toList_toArray, List.toList_toArray, jC, List.take_append_of_le_length (by simp [byt]), byt_app, List.take_of_length_le (by simp [byt])]
   ·exact only_below ((jE _ _).drew.alloc (jD _) _)
 ·obtain ⟨v', w', hrun, hap⟩ := run_app (P := Tryz.prog) w B 23 ty 5 i0 (.int .u8 0) 1 1 Tryz.underlying23 hi hz0 hz1 hz2 rfl (by decide) v s.length (byt s) ho Bs A m.length ca (byt m) (by rw [byt_len, Nat.mul_one]) hr (byt_one m) (by omega) (by omega) hBw
  exact ⟨v', w', hrun, .inr (OwnB.app hap), hap.below ho hBw, hap.only (fun g h => h)⟩
theorem op_appendM {o : Oper} {a : Act} {w w' : World} {t : TypeId} {s x : Operand} {v u r : Value} (ho : o.op = .call { callee := .builtin .append, args := #[s, x], argTypes := #[t, t] }) (hs : a.eval s = v) (hx : a.eval x = u) (hrun : (Builtin.append_ #[t, t] o.type #[v, u]).run Tryz.prog w = .ok r w') : (execOp a.eval o).run Tryz.prog w = .ok (.value r) w' := by
 unfold execOp
 simp only [ho, resolve, invoke, builtin, Sem.run_bind, Sem.run_pure, Result.andThen_ok, List.map_toArray, List.map_cons, List.map_nil, hs, hx, hrun]
structure Rbx (w W : World) (k nonce : List Nat) : Prop where
 bel : Below w.heap.size w W
 kA : Blk W w.heap.size 44 (vb k)
 nA : Blk W (w.heap.size + 1) 56 (vb nonce)
 sz : w.heap.size + 1 + 1 ≤ W.heap.size
theorem Rbx.next {w W W' : World} {k nonce : List Nat} (s : Rbx w W k nonce) (hb : Below (w.heap.size + 1 + 1) W W') : Rbx w W' k nonce :=
 ⟨s.bel.trans (hb.mono (by omega)), s.kA.below hb (by omega), s.nA.below hb (by omega), Nat.le_trans s.sz hb.size⟩
theorem Rbx.begin (w : World) (k nonce : List Nat) (o : Obj) : Rbx w (((w.alloc (Obj.cells (vb k) 44)).alloc (Obj.cells (vb nonce) 56)).alloc o) k nonce :=
 ⟨(((jE _ _).alloc (jD _) _).alloc (by simp) _).alloc (by simp; omega) _, ((Blk.new w _ _).alloc _).alloc _, (show Blk _ (w.heap.size + 1) _ _ from heap2 w _ _).alloc _, by simp⟩
theorem Two.alloc {w : World} {base : Nat} {vx vy : Value} {xs ys : List Nat} (h : Two w base vx vy xs ys) (o : Obj) : Two (w.alloc o) base vx vy xs ys := ⟨h.ox.alloc o, h.oy.alloc o, h.ne⟩
theorem Two.nil_ (w : World) (base : Nat) : Two w base (.slice none 0 0) (.slice none 0 0) [] [] := ⟨OwnW.nil_ _ _, OwnW.nil_ _ _, fun g h => by cases h⟩
theorem rd_all {w : World} {g : Nat} {T : TypeId} {l : List Nat} (h : Blk w g T (vb l)) : Rd w (g + 1) (some ⟨g, 0, none⟩) (byt l) := by
 have := blk_rdAt h 0
 rwa [List.drop_zero] at this
def eC : Array Value := #[.int .u8 101, .int .u8 120, .int .u8 112, .int .u8 97, .int .u8 110, .int .u8 100, .int .u8 32, .int .u8 51, .int .u8 50, .int .u8 45, .int .u8 98, .int .u8 121, .int .u8 116, .int .u8 101, .int .u8 32, .int .u8 107]
theorem conv_lit (w : World) (a b : Obj) : (convert 23 23 (.slice (some ⟨w.heap.size + 1 + 1, 0, none⟩) 16 16)).run Tryz.prog (((w.alloc a).alloc b).alloc (.cells eC 5)) = .ok (.slice (some ⟨w.heap.size + 1 + 1, 0, none⟩) 16 16) (((w.alloc a).alloc b).alloc (.cells eC 5 (16, 17))) := by
 have h := Lib.run_convert_bytes_const (P := Tryz.prog) ((w.alloc a).alloc b) 23 5 eC 16 16 Tryz.underlying23 Tryz.underlying5
 rw [show ((w.alloc a).alloc b).heap.size = w.heap.size + 1 + 1 by simp] at h
 exact h
theorem mark_lit (w : World) (a b : Obj) : MarkAt (((w.alloc a).alloc b).alloc (.cells eC 5 (16, 17))) (w.heap.size + 1 + 1) 16 expL :=
 ⟨eC, heap3 w _ _ _, rfl, jD _, by decide, fun j hj => (show ∀ j, j < 16 → eC[j]? = some (.int .u8 (expL.getD j 0 : Nat)) from fun j hj => by
  have h : j = 0 ∨ j = 1 ∨ j = 2 ∨ j = 3 ∨ j = 4 ∨ j = 5 ∨ j = 6 ∨ j = 7 ∨ j = 8 ∨ j = 9 ∨ j = 10 ∨ j = 11 ∨ j = 12 ∨ j = 13 ∨ j = 14 ∨ j = 15 := by omega
  rcases h with rfl | rfl | rfl | rfl | rfl | rfl | rfl | rfl | rfl | rfl | rfl | rfl | rfl | rfl | rfl | rfl <;> rfl) j hj⟩
theorem rblock_c (k : List Nat) (n : Nat) (nonce : List Nat) (w : World) (hk : k.length = 32) (hkl : ∀ c ∈ k, c < 256) (hn : n < 4294967296) (hc : nonce.length = 12) (hcl : ∀ c ∈ nonce, c < 256) :
  Calls Tryz.prog 53 #[.agg (vb k), .int .u32 n, .agg (vb nonce)] w (Gives (blkL k n nonce) w) := by
 obtain ⟨i0, hib, hz0, hz1, hz2⟩ := info_parts byteInfo
 obtain ⟨i4, hi4, hy0, hy1, hy2⟩ := info_parts wordInfo
 have HFL := Li (fullB_lt (n := n) hkl hcl)
 have HWE := Li (words_eq k n nonce hk hn)
 have H16 := Li (startL_16 hkl hn hcl)
 have HBK := Li (show blkL k n nonce = (List.range 64).map (outB (rnds (startL k n nonce) 10) (startL k n nonce)) from rfl)
 have hf4 := form_len n 4
 have hel : expL.length = 16 := rfl
 have L1 : (expL ++ k).length = 48 := by rw [jC, hk]; rfl
 have L2 : (expL ++ k ++ form n 4).length = 52 := by rw [jC, L1, form_len]
 have L3 : (expL ++ k ++ form n 4 ++ nonce).length = 64 := by rw [jC, L2, hc]
 have HFU := Li (show fullB k n nonce = expL ++ k ++ form n 4 ++ nonce from rfl)
 have cn : IntKind.u64.wrap (n : Int) = (n : Int) := by simp [IntKind.wrap, IntKind.signed, IntKind.bits]; omega
 have HFO := Li (fun W => rform_c n 4 W (by omega) (by decide))
 clear hkl hcl
 generalize form n 4 = f4 at *
 have hcv := conv_lit w (Obj.cells (vb k) 44) (Obj.cells (vb nonce) 56)
 unfold eC at hcv
 go_enter Tryz.func53, Tryz.ntmps53
 go_upto_region 2 with (first
  | (refine Go.Great.wpList_boxTo rfl 44 (.tmp 0) rfl (some 3) rfl w.heap.size rfl (vb k) rfl ?_)
  | (refine Go.Great.wpList_boxTo rfl 56 (.tmp 2) rfl (some 5) rfl (w.heap.size + 1) (by simp) (vb nonce) rfl ?_))
 have hbx := Rbx.begin w k nonce (.cells eC 5 (16, 17))
 have hmk := mark_lit w (Obj.cells (vb k) 44) (Obj.cells (vb nonce) 56)
 change Code.wp _ _ _ _ (((w.alloc (Obj.cells (vb k) 44)).alloc (Obj.cells (vb nonce) 56)).alloc (.cells eC 5 (16, 17)))
 generalize ((w.alloc (Obj.cells (vb k) 44)).alloc (Obj.cells (vb nonce) 56)).alloc (.cells eC 5 (16, 17)) = Z at *
 clear hcv
 obtain ⟨v1, W1, hrun, hm1, hb1, _⟩ := app_marks Z (w.heap.size + 1 + 1) (.slice (some ⟨w.heap.size + 1 + 1, 0, none⟩) 16 16) expL k 23 (some ⟨w.heap.size, 0, none⟩) 32 (w.heap.size + 1) (.inl ⟨_, _, rfl, jD _, hmk⟩) hbx.sz (by decide) (by omega) (by intro h; rw [h] at hk; cases hk) (rd_all hbx.kA)
 rw [hk] at hrun
 obtain ⟨A1, c1, rfl, hr1⟩ := hm1.rd
 rw [L1] at hrun hm1
 have HM1 := Li hm1
 have HX1 := Li (hbx.next hb1)
 have HR1 := Li hrun
 clear hrun hbx hmk hb1 hm1 hr1
 go_upto_region 3 with (at_builtin; refine wpList_valM rfl (.slice A1 48 c1) W1 (op_appendM rfl rfl rfl HR1.out) ?_)
 go_upto_region 4 with (first
  | (go_at_call 54; (refine (HFO.out W1).mono ?_); rintro e W2 ⟨v2, rfl, ho2, hb2⟩; obtain ⟨A2, c2, rfl, _, _, r2⟩ := ho2.rd; obtain ⟨v3, W3, hrun, hm3, hb3, _⟩ := app_marks W2 (w.heap.size + 1 + 1) (.slice A1 48 c1) (expL ++ k) f4 23 A2 c2 W2.heap.size (HM1.out.next hb2) (Nat.le_trans HX1.out.sz hb2.size) (by rw [L1]; decide) (by rw [hf4]; decide) (by intro h; rw [h] at hf4; cases hf4) r2; obtain ⟨A3, c3, rfl, hr3⟩ := hm3.rd; rw [hf4] at hrun ⊢; rw [L2] at hrun hm3; have HX3 := Li ((HX1.out.next (hb2.mono HX1.out.sz)).next hb3); have HM3 := Li hm3; have HR3 := Li hrun; clear hrun hm3 hb3 hr3 hb2 ho2 r2)
  | (at_builtin; refine wpList_valM rfl (.slice A3 52 c3) W3 (op_appendM rfl rfl rfl HR3.out) ?_))
 obtain ⟨v4, W4, hrun, hm4, hb4, _⟩ := app_marks W3 (w.heap.size + 1 + 1) (.slice A3 52 c3) (expL ++ k ++ f4) nonce 23 (some ⟨w.heap.size + 1, 0, none⟩) 12 (w.heap.size + 1 + 1) HM3.out HX3.out.sz (by rw [L2]; decide) (by omega) (by intro h; rw [h] at hc; cases hc) (rd_all HX3.out.nA)
 rw [hc] at hrun
 obtain ⟨A4, c4, rfl, hr4⟩ := hm4.rd
 rw [L3] at hrun
 rw [← HFU.out] at hr4
 have HR4 := Li hrun
 have HRD := Li hr4
 have HB4 := Li (HX3.out.next hb4).bel
 have hcap : 64 ≤ c4 := by
  rcases hm4 with ⟨g, cap, h1, _, cur, _, _, h2, _⟩ | h
  ·injection h1 with _ _ h3
   rw [L3] at h2; omega
  ·obtain ⟨A5, c5, h1, h2, _, _⟩ := h.rd
   injection h1 with _ _ h3
   rw [L3] at h2; omega
 clear hrun hm4 hb4 hr4
 go_upto_region 5 with (at_builtin; refine wpList_valM rfl (.slice A4 64 c4) W4 (op_appendM rfl rfl rfl HR4.out) ?_)
 clear HM1 HX1 HR1 HX3 HM3 HR3 HR4 HFU hel L1 L2 L3
 have hfl4 : (fullB k n nonce).length = 64 := fullB_len hk hc
 obtain ⟨ad, rfl, hadb, _⟩ := HRD.out.byte (k := 0) (by rw [hfl4]; decide)
 have HWD := Li (fun i (hi : i < 16) W (hW : Below W4.heap.size W4 W) => rword_c W4.heap.size (ad.add (4 * i)) (64 - 4 * i) (c4 - 4 * i) ((fullB k n nonce).drop (4 * i)) W (drop_lt HFL.out _) ((HRD.out.below hW).drop_ (4 * i)) (by rw [List.length_drop, hfl4]; omega) (by rw [List.length_drop, hfl4]) (by omega))
 have HWA := Li (show ∀ i, le4 ((fullB k n nonce).drop (4 * i)) = wordAt k n nonce i from fun i => rfl)
 have HW32 := Li (show ∀ i, wordAt k n nonce i < 4294967296 from fun i => le4_lt (drop_lt HFL.out _))
 clear hfl4 hadb
 go_wp2_with fail
 go_loopw [8, 9, 10] (fun vx vy vi wr => ∃ i : Nat, i ≤ 16 ∧ vi = .int .i64 i ∧ Two wr W4.heap.size vx vy ((List.range i).map (wordAt k n nonce)) ((List.range i).map (wordAt k n nonce)) ∧ Below W4.heap.size W4 wr) (fun _ _ vi _ => 16 - (intOf vi).toNat)
 case atStart => exact ⟨0, by omega, rfl, Two.nil_ _ _, jE _ _⟩
 case round =>
  rename World => wr
  obtain ⟨i, hi, rfl, htw, hbw⟩ := hrel
  have HTW := Li htw
  have HBW := Li hbw
  clear htw hbw
  by_cases hlt : i < 16
  ·have p1 : (i : Int) < 16 := by omega
   have HW := Li (HWD.out i hlt)
   have HSN := Li (show (List.range (i + 1)).map (wordAt k n nonce) = (List.range i).map (wordAt k n nonce) ++ [wordAt k n nonce i] by rw [List.range_succ, List.map_append]; rfl)
   have HLT := Li (show ((List.range i).map (wordAt k n nonce)).length = i by simp)
   rw [HWA.out i] at HW
   generalize (List.range i).map (wordAt k n nonce) = L at *
   generalize wordAt k n nonce i = y at *
   obtain ⟨b, hb⟩ : ∃ b, b = 4 * i := ⟨_, rfl⟩
   have p2 : (4 : Int) * (i : Int) = (b : Int) := by omega
   have p3 : (b : Int) ≤ 64 := by omega
   have p4 : b ≤ 64 := by omega
   have p5 : b ≤ c4 := by omega
   have p6 : (64 : Int) ≤ (c4 : Int) := by omega
   rw [← hb] at HW
   clear hb
   have hsz := HBW.out.size
   go_wp2_with (first
    | (go_at_call 74; (refine (HW.out _ (by first | exact HB8.out | exact HBW.out)).mono ?_); rintro e wn ⟨rfl, rfl⟩)
    | (at_builtin; refine wpList_app _ rfl (.tmp 33) (.tmp 39) _ rfl W4.heap.size 29 i4 (.int .u32 0) 1 4 Tryz.underlying134 hi4 hy0 hy1 hy2 rfl (by decide) _ L.length (w32 L) rfl (HTW.out.ox.alloc _) _ _ 1 1 [.int .u32 (y : Nat)] rfl rfl (by exact rd_oneW _ _) (w32_one [_]) (by rw [HLT.out]; omega) (by rw [HLT.out]; omega) (by simp; omega) ?_; intro v8 w8 hap; have HT8 := Li (Two.app (HTW.out.alloc _) hap); have HB8 := Li (show Below W4.heap.size W4 w8 from (HBW.out.alloc HBW.out.size _).trans (hap.below (HTW.out.ox.alloc _) (by simp; omega))); clear hap)
    | (at_builtin; refine wpList_app _ rfl (.tmp 41) (.tmp 47) _ rfl W4.heap.size 29 i4 (.int .u32 0) 1 4 Tryz.underlying134 hi4 hy0 hy1 hy2 rfl (by decide) _ L.length (w32 L) rfl (HT8.out.oy.alloc _) _ _ 1 1 [.int .u32 (y : Nat)] rfl rfl (by exact rd_oneW _ _) (w32_one [_]) (by rw [HLT.out]; omega) (by rw [HLT.out]; omega) (by have := HB8.out.size; simp; omega) ?_; intro v9 w9 hap; have HT9 := Li (Two.app (HT8.out.symm.alloc _) hap).symm; have HB9 := Li (show Below W4.heap.size W4 w9 from (HB8.out.alloc HB8.out.size _).trans (hap.below (HT8.out.oy.alloc _) (by have := HB8.out.size; simp; omega))); clear hap))
   go_roundw
   case rel => exact ⟨i + 1, by omega, by go_num, by rw [HSN.out]; exact HT9.out, HB9.out⟩
   case measure => simp only [intOf]; omega
  ·obtain rfl : i = 16 := by omega
   rw [show ((16 : Nat) : Int) = 16 from rfl]
   rw [HWE.out] at HTW
   clear HWD HWA HW32 HRD HWE HFO HFL
   obtain ⟨fr, hfr⟩ : ∃ fr, fr = startL k n nonce := ⟨_, rfl⟩
   rw [← hfr] at HTW H16 HBK
   clear hfr
   obtain ⟨gx, cx, rx, rfl, hgx, hbx, hcx, _, _⟩ := HTW.out.ox.open_ (by intro h; have := H16.out.len; rw [h] at this; cases this)
   obtain ⟨gy, cy, ry, rfl, hgy, hby, hcy, _, _⟩ := HTW.out.oy.open_ (by intro h; have := H16.out.len; rw [h] at this; cases this)
   have hxy : gx ≠ gy := fun h => HTW.out.ne gx rfl (by rw [h]; rfl)
   have HX := Li hbx
   have HY := Li hby
   rw [H16.out.len]
   clear hbx hby HTW
   go_wp2_with fail
   have HQC := Li (fun (a b c d : Nat) ha hb hc hd vs W (h16 : W16 vs) (hB : Blk W gy 29 (vx vs ry)) => rquarter_c gy cy a b c d vs ry W h16 hB ha hb hc hd)
   go_loopw [11] (fun mi wb => ∃ m : Nat, m ≤ 10 ∧ mi = .int .i64 m ∧ Blk wb gy 29 (vx (rnds fr m) ry) ∧ wr.grownBy wb (some gy)) (fun mi _ => 10 - (intOf mi).toNat)
   case atStart => exact ⟨0, by omega, rfl, HY.out, g1_refl _ _⟩
   case round =>
    rename World => wb
    obtain ⟨m, hm, rfl, hb, hg⟩ := hrel
    have HT := Li hb
    have GR := Li hg
    clear hb hg HY
    by_cases hlt : m < 10
    ·have p1 : (m : Int) < 10 := by omega
     have HNX := Li (show rnds fr (m + 1) = qrt (rnds fr m) 8 from rfl)
     have HW := Li (H16.out.rnds m)
     have HT0 := Li (show Blk wb gy 29 (vx (qrt (rnds fr m) 0) ry) from HT.out)
     clear HT
     generalize rnds fr m = us at *
     go_wp2_with fail
     go_loopw [12] (fun ji wc => ∃ j : Nat, j ≤ 4 ∧ ji = .int .i64 j ∧ Blk wc gy 29 (vx (qrt us j) ry) ∧ wr.grownBy wc (some gy)) (fun ji _ => 4 - (intOf ji).toNat)
     case atStart => exact ⟨0, by omega, rfl, HT0.out, GR.out⟩
     case round =>
      clear HT0 GR
      rename World => wc
      obtain ⟨j, hj, rfl, hb, hg⟩ := hrel
      have HT := Li hb
      have GR := Li hg
      clear hb hg
      by_cases hlt : j < 4
      ·rcases (show j = 0 ∨ j = 1 ∨ j = 2 ∨ j = 3 by omega) with rfl | rfl | rfl | rfl
       ·go_wp2_with (go_at_call 75; (refine (HQC.out 0 4 8 12 (by decide) (by decide) (by decide) (by decide) _ _ (HW.out.qrt 0 (by decide)) HT.out).mono ?_); rintro e w2 ⟨rfl, hv, hg⟩; have HV := Li (show Blk w2 gy 29 (vx (qrt us 1) ry) from hv); have HG := Li (GR.out.trans hg); clear hv hg)
        go_roundw
        case rel => exact ⟨1, by decide, by first | rfl | go_num, HV.out, HG.out⟩
        case measure => simp only [intOf]; omega
       ·go_wp2_with (go_at_call 75; (refine (HQC.out 1 5 9 13 (by decide) (by decide) (by decide) (by decide) _ _ (HW.out.qrt 1 (by decide)) HT.out).mono ?_); rintro e w2 ⟨rfl, hv, hg⟩; have HV := Li (show Blk w2 gy 29 (vx (qrt us 2) ry) from hv); have HG := Li (GR.out.trans hg); clear hv hg)
        go_roundw
        case rel => exact ⟨2, by decide, by first | rfl | go_num, HV.out, HG.out⟩
        case measure => simp only [intOf]; omega
       ·go_wp2_with (go_at_call 75; (refine (HQC.out 2 6 10 14 (by decide) (by decide) (by decide) (by decide) _ _ (HW.out.qrt 2 (by decide)) HT.out).mono ?_); rintro e w2 ⟨rfl, hv, hg⟩; have HV := Li (show Blk w2 gy 29 (vx (qrt us 3) ry) from hv); have HG := Li (GR.out.trans hg); clear hv hg)
        go_roundw
        case rel => exact ⟨3, by decide, by first | rfl | go_num, HV.out, HG.out⟩
        case measure => simp only [intOf]; omega
       ·go_wp2_with (go_at_call 75; (refine (HQC.out 3 7 11 15 (by decide) (by decide) (by decide) (by decide) _ _ (HW.out.qrt 3 (by decide)) HT.out).mono ?_); rintro e w2 ⟨rfl, hv, hg⟩; have HV := Li (show Blk w2 gy 29 (vx (qrt us 4) ry) from hv); have HG := Li (GR.out.trans hg); clear hv hg)
        go_roundw
        case rel => exact ⟨4, by decide, by first | rfl | go_num, HV.out, HG.out⟩
        case measure => simp only [intOf]; omega
      ·obtain rfl : j = 4 := by omega
       rw [show ((4 : Nat) : Int) = 4 from rfl]
       go_wp2_with fail
       have HT0 := Li (show Blk wc gy 29 (vx (qrt us (4 + 0)) ry) from HT.out)
       clear HT
       go_loopw [13] (fun ji wd => ∃ j : Nat, j ≤ 4 ∧ ji = .int .i64 j ∧ Blk wd gy 29 (vx (qrt us (4 + j)) ry) ∧ wr.grownBy wd (some gy)) (fun ji _ => 4 - (intOf ji).toNat)
       case atStart => exact ⟨0, by omega, rfl, HT0.out, GR.out⟩
       case round =>
        clear HT0 GR
        rename World => wd
        obtain ⟨j, hj, rfl, hb, hg⟩ := hrel
        have HT := Li hb
        have GR := Li hg
        clear hb hg
        by_cases hlt : j < 4
        ·rcases (show j = 0 ∨ j = 1 ∨ j = 2 ∨ j = 3 by omega) with rfl | rfl | rfl | rfl
         ·go_wp2_with (go_at_call 75; (refine (HQC.out 0 5 10 15 (by decide) (by decide) (by decide) (by decide) _ _ (HW.out.qrt 4 (by decide)) HT.out).mono ?_); rintro e w2 ⟨rfl, hv, hg⟩; have HV := Li (show Blk w2 gy 29 (vx (qrt us 5) ry) from hv); have HG := Li (GR.out.trans hg); clear hv hg)
          go_roundw
          case rel => exact ⟨1, by decide, by first | rfl | go_num, HV.out, HG.out⟩
          case measure => simp only [intOf]; omega
         ·go_wp2_with (go_at_call 75; (refine (HQC.out 1 6 11 12 (by decide) (by decide) (by decide) (by decide) _ _ (HW.out.qrt 5 (by decide)) HT.out).mono ?_); rintro e w2 ⟨rfl, hv, hg⟩; have HV := Li (show Blk w2 gy 29 (vx (qrt us 6) ry) from hv); have HG := Li (GR.out.trans hg); clear hv hg)
          go_roundw
          case rel => exact ⟨2, by decide, by first | rfl | go_num, HV.out, HG.out⟩
          case measure => simp only [intOf]; omega
         ·go_wp2_with (go_at_call 75; (refine (HQC.out 2 7 8 13 (by decide) (by decide) (by decide) (by decide) _ _ (HW.out.qrt 6 (by decide)) HT.out).mono ?_); rintro e w2 ⟨rfl, hv, hg⟩; have HV := Li (show Blk w2 gy 29 (vx (qrt us 7) ry) from hv); have HG := Li (GR.out.trans hg); clear hv hg)
          go_roundw
          case rel => exact ⟨3, by decide, by first | rfl | go_num, HV.out, HG.out⟩
          case measure => simp only [intOf]; omega
         ·go_wp2_with (go_at_call 75; (refine (HQC.out 3 4 9 14 (by decide) (by decide) (by decide) (by decide) _ _ (HW.out.qrt 7 (by decide)) HT.out).mono ?_); rintro e w2 ⟨rfl, hv, hg⟩; have HV := Li (show Blk w2 gy 29 (vx (qrt us 8) ry) from hv); have HG := Li (GR.out.trans hg); clear hv hg)
          go_roundw
          case rel => exact ⟨4, by decide, by first | rfl | go_num, HV.out, HG.out⟩
          case measure => simp only [intOf]; omega
        ·obtain rfl : j = 4 := by omega
         go_wp2_with fail
         go_roundw
         case rel => exact ⟨m + 1, by omega, by go_num, by rw [HNX.out]; exact HT.out, GR.out⟩
         case measure => simp only [intOf]; omega
    ·obtain rfl : m = 10 := by omega
     rw [show ((10 : Nat) : Int) = 10 from rfl]
     have HW := Li (H16.out.rnds 10)
     generalize rnds fr 10 = us at *
     have HX2 := Li (g1_blk GR.out HX.out hxy)
     have HB2 := Li (HBW.out.trans (g1_below GR.out hgy HBW.out.size))
     clear HX HBW GR HQC
     go_wp2_with fail
     go_loopw [14, 15, 100] (fun vo vi vt ws => ∃ i : Nat, i ≤ 16 ∧ vi = .int .i64 i ∧ OwnB ws wb.heap.size vo ((List.range (4 * i)).map (outB us fr)) ∧ Below wb.heap.size wb ws ∧ isTok vt = false) (fun _ vi _ _ => 16 - (intOf vi).toNat)
     case atStart => exact ⟨0, by omega, rfl, OwnB.nil_ _ _, jE _ _, by rfl⟩
     case round =>
      rename World => ws
      obtain ⟨i, hi, rfl, how, hbw, htk⟩ := hrel
      have HOW := Li how
      have HBS := Li hbw
      have HTK := Li htk
      clear how hbw htk
      by_cases hlt : i < 16
      ·have p1 : (i : Int) < 16 := by omega
       have c0 := cell_ext (((HT.out.below HBS.out HT.out.lt).cell i).trans (vx_at us ry i (by rw [HW.out.len]; exact hlt)))
       have c1 := cell_ext (((HX2.out.below HBS.out HX2.out.lt).cell i).trans (vx_at fr rx i (by rw [H16.out.len]; exact hlt)))
       have HNS := Li (out_step us fr i)
       have HLO := Li (show ((List.range (4 * i)).map (outB us fr)).length = 4 * i by simp)
       have x0 := HW.out.lt i
       have x1 := H16.out.lt i
       obtain ⟨s, hs⟩ : ∃ s, s = (us.getD i 0 + fr.getD i 0) % 4294967296 := ⟨_, rfl⟩
       have f0 : IntKind.u32.wrap (((us.getD i 0 : Nat) : Int) + ((fr.getD i 0 : Nat) : Int)) = (s : Int) := by rw [wrap32]; omega
       have f1 : IntKind.u64.wrap (s : Int) = (s : Int) := by simp [IntKind.wrap, IntKind.signed, IntKind.bits]; omega
       rw [← hs] at HNS
       have hs32 : s < 4294967296 := by omega
       have hf4' := form_len s 4
       clear hs
       generalize us.getD i 0 = a at *
       generalize fr.getD i 0 = b at *
       generalize (List.range (4 * i)).map (outB us fr) = O at *
       go_wp2_with fail
       refine wp_region_loudTail 12 ws [100] (fun _ u W => OwnB W ws.heap.size u (form s 4)) (by kernel_rfl) (by kernel_rfl) (by kernel_rfl) (by have h := HTK.out; exact congrArg (fun b => !b && true) h) (fun _ _ _ _ h hb => OwnB.next h hb) (jE _ _).drew ?_
       simp only [List.take_succ_cons, List.take_zero, List.drop_succ_cons, List.drop_zero]
       repeat (first
        | (refine wpLoud_plain rfl rfl rfl ?_; intro K hK; go_big_quiet_op; go_big_quiet_on)
        | (refine wpLoud_call 100 rfl [] tok 54 (fun g => #[.int .u64 (s : Nat), .int .i64 4]) (by kernel_rfl) (fun _ _ h => by cases h) (by kernel_rfl) (fun g w => by kernel_rfl) (fun g y hg => by
          refine (rform_c s 4 _ (by omega) (by decide)).mono ?_
          rintro e w' ⟨u, rfl, ho, hb⟩
          exact ⟨u, rfl, hb, own_base_le ho y.2.size⟩) _ (by simp only [Act.put, sI, sS, sZ]; rfl) ?_))
       refine wpLoud_end [100] (by rfl) ?_
       intro g z hg
       have h9 : OwnB z.wd ws.heap.size (g 100) (form s 4) := hg 100 (by simp)
       obtain ⟨A9, k9, e9, _, _, r9⟩ := h9.rd
       rw [hf4'] at e9
       have HR9 := Li r9
       have HOZ := Li (HOW.out.next z.bel)
       have HBZ := Li (HBS.out.trans (z.bel.mono HBS.out.size))
       generalize z.wd = Y2 at *
       simp only [fill, Act.put, sI, sS, sZ]
       rw [e9]
       clear hg h9 r9 e9 HOW HBS c0 c1
       go_wp2_with (at_builtin; refine wpList_app _ rfl (.tmp 89) (.tmp 100) _ rfl wb.heap.size 5 i0 (.int .u8 0) 1 1 Tryz.underlying23 hib hz0 hz1 hz2 rfl (by decide) _ O.length (byt O) rfl HOZ.out _ A9 4 k9 (byt (form s 4)) rfl (by simp [byt_len, hf4']) HR9.out (byt_one _) (by rw [HLO.out]; omega) (by rw [HLO.out]; omega) (by have := HBZ.out.size; omega) ?_; intro v9 w9 hap; have HO9 := Li (show OwnB w9 wb.heap.size v9 ((List.range (4 * (i + 1))).map (outB us fr)) from by rw [HNS.out]; exact OwnB.app (by rw [hf4']; exact hap)); have HB9 := Li (show Below wb.heap.size wb w9 from HBZ.out.trans (hap.below HOZ.out (by have := HBZ.out.size; omega))); clear hap)
       go_roundw
       case rel => exact ⟨i + 1, by omega, by go_num, HO9.out, HB9.out, by rfl⟩
       case measure => simp only [intOf]; omega
      ·obtain rfl : i = 16 := by omega
       go_wp2_with fail
       refine bodyPost_ret (results_tmp rfl _ _ _) rfl ?_
       exact ⟨_, rfl, by rw [HBK.out]; exact own_base_le HOW.out (Nat.le_trans HB4.out.size HB2.out.size), HB4.out.trans ((HB2.out.trans (HBS.out.mono HB2.out.size)).mono HB4.out.size)⟩
end Go.Proofs.YtfnhmnbcponkfaaGreatDoor
