/- Contract: the pieces of a series are laid. -/
import Derived.Test.YtlidfmbmlhaacaaDf8
import Derived.Test.YtlidfmbmlhaacaaDg4
import Derived.Lib.AppendStr
namespace Go.Proofs.Ytlidfmbmlhaacaa
open Go.RowKit
set_option linter.unusedVariables false
set_option linter.unusedSimpArgs false
section
variable {P : Program} {ops : Array Oper} {Z : World} {ls : List Tmp} {V : Tmp → Value → World → Prop} {Q : Act → Prop} {rest : List Oper} {o : Oper} {b : Act}
theorem wpLoud_valD (d : Tmp) (hd : o.dst = some d) (hw : Region.wanted o (yielded ops b.tmps) = true) (hq : quietB ops ls o = true) (hsel : ∀ cs t, o.op ≠ .select cs t) (v : Value) (hr : ∀ x : Ext Z, (execOp b.eval o).run P x.wd = .ok (.value v) x.wd)
    (b' : Act) (hb : b.put o.dst v = b') (h : wpLoud P ops Z ls V Q rest b') : wpLoud P ops Z ls V Q (o :: rest) b := wpLoud_val hw hq hsel v hr b' hb h
end
theorem OwnB.rdAt {w : World} {base : Nat} {A : Option Addr} {n c : Nat} {l : List Nat} (h : OwnB w base (.slice A n c) l) : Rd w w.heap.size A (byt l) := by
  obtain ⟨A', c', e, _, _, h3⟩ := h.rd
  injection e with e1 e2 e3
  rw [e1]; exact h3
theorem tailOf2 (n : Nat) : tailOf n 2 = form n 2 := rfl
theorem strCells_sby (s : ByteArray) : Lib.strCells s = byt (sby s) := by
  unfold Lib.strCells byt sby
  cases s with
  | mk d => rw [ByteArray.toList_mk, List.map_map]; rfl
theorem own_str {w5 : World} {base : Nat} {v5 : Value} {l : List Nat} {s : ByteArray} (h : w5.ownsRow base 5 1 v5 (l.length + s.size) (byt l ++ Lib.strCells s)) : OwnB w5 base v5 (l ++ sby s) := by
  unfold OwnB
  rw [List.length_append, sby_len, ← byt_app, ← strCells_sby]
  exact h
theorem below_grown {w w' : World} {base : Nat} {v : Value} {l : List Nat} (h : OwnB w base v l) (hg : w.grownBy w' v.ownBlock) (hb : base ≤ w.heap.size) : Below base w w' :=
  (Below.refl _ _).grown hg hb (fun k hk => own_base h k hk)
theorem wrap_w (x : Int) : wrap64 x = w64 x := by unfold wrap64 w64; rfl
/-- a row, and then the others -/
theorem rows_cons (t step v : Int) (p : Pc) (l : List Pc) : rowsL t step v (p :: l) = (((sh (zig (wrap64 (wrap64 (p.t - t) - step))) ++ sh (zig (wrap64 (p.v - v)))) ++ sh p.n) ++ form p.d 2) ++ rowsL p.t (wrap64 (p.t - t)) p.v l := by simp only [wrap_w]; rfl
theorem wrap64_lo (x : Int) : -9223372036854775808 ≤ wrap64 x := by rw [wrap_w]; exact w64_lo x
theorem wrap64_hi (x : Int) : wrap64 x ≤ 9223372036854775807 := by rw [wrap_w]; exact w64_hi x
theorem idle2 {x y : Value} (h1 : isTok x = false) (h2 : isTok y = false) : (!isTok x && (!isTok y && true)) = true := by rw [h1, h2]; rfl
structure PcBlk (W : World) (g : Nat) (p : Pc) : Prop where
  b : Blk W g 31 (pcV p)
theorem PcBlk.next {W W' : World} {g : Nat} {p : Pc} (h : PcBlk W g p) (hb : Below W.heap.size W W') : PcBlk W' g p := ⟨h.b.below hb h.b.lt⟩
theorem PcBlk.c1 {W : World} {g : Nat} {p : Pc} (h : PcBlk W g p) : W.cell? ⟨g, 1, none⟩ = some (.int .i64 p.t) := (h.b.cell 1).trans rfl
theorem PcBlk.c2 {W : World} {g : Nat} {p : Pc} (h : PcBlk W g p) : W.cell? ⟨g, 2, none⟩ = some (.int .i64 p.v) := (h.b.cell 2).trans rfl
theorem PcBlk.c3 {W : World} {g : Nat} {p : Pc} (h : PcBlk W g p) : W.cell? ⟨g, 3, none⟩ = some (.int .u64 (p.n : Int)) := (h.b.cell 3).trans rfl
theorem PcBlk.c4 {W : World} {g : Nat} {p : Pc} (h : PcBlk W g p) : W.cell? ⟨g, 4, none⟩ = some (.int .u16 (p.d : Int)) := (h.b.cell 4).trans rfl
set_option maxRecDepth 100000 in
set_option maxHeartbeats 8000000 in
theorem putG_c (B : Nat) (A : Option Addr) (ca c : Nat) (b : List Nat) (ad : Addr) (g : List Pc) (w : World) (hr : Rd w B A (byt b)) (hB : B ≤ w.heap.size) (hbl : b.length ≤ 100000) (hat : AtA w ad (pcs g)) (hab : ad.block < w.heap.size) (h0 : 0 < g.length) (h1 : g.length ≤ 100000) (hk : ∀ p ∈ g, PcOk p ∧ p.s.size ≤ 1000000) :
    Calls Try.prog 47 #[.slice A b.length ca, .slice (some ad) g.length c] w (Gives (b ++ putL g) w) := by
  obtain ⟨i0, hib, hz0, hz1, hz2⟩ := info_parts byteInfo
  have zf := zero_pc
  have zs1 : zPc.size = 5 := by rfl
  have zs2 : ¬ zPc = #[] := by intro h; have := congrArg Array.size h; rw [zs1] at this; cases this
  have HR := Lib.hid hr
  have HAT := Lib.hid hat
  have HAB := Lib.hid hab
  have HOKP := Lib.hid (show ∀ k, k < g.length → PcOk (g.getD k pc0) from fun k h => (hk _ (by simp [List.getD_eq_getElem?_getD, h])).1)
  have hp0 := (hk (g.getD 0 pc0) (by simp [List.getD_eq_getElem?_getD, h0])).2
  have HPUT := Lib.hid (show b ++ putL g = (((b ++ sh (g.getD 0 pc0).s.size) ++ sby (g.getD 0 pc0).s) ++ sh g.length) ++ rowsL 0 0 0 g by
    cases g with
    | nil => simp at h0
    | cons p g => unfold putL; simp only [List.getD_cons_zero, List.append_assoc])
  have e0 := cell_ext ((hat.piece 0 h0).ser)
  have hps := sh64 (g.getD 0 pc0).s.size (by omega)
  have HP1 := Lib.hid (fun W A c (h : Rd W W.heap.size A (byt b)) => putSh_c W.heap.size A c b (g.getD 0 pc0).s.size W h (by omega) (by omega))
  have hgs := sh64 g.length (by omega)
  obtain ⟨b1, hb1⟩ : ∃ b1, b1 = b ++ sh (g.getD 0 pc0).s.size := ⟨_, rfl⟩
  have hb1n : b1.length ≤ 100010 := by rw [hb1, List.length_append]; omega
  rw [← hb1] at HPUT HP1
  have HPZ := Lib.hid (putSh_c B A ca b (g.getD 0 pc0).s.size)
  rw [← hb1] at HPZ
  clear hat hab hk hb1 hr
  generalize g.getD 0 pc0 = p0 at *
  have f1 : IntKind.u64.wrap (p0.s.size : Int) = (p0.s.size : Int) := by rw [IntKind.wrap_u64]; omega
  have f2 : IntKind.u64.wrap (g.length : Int) = (g.length : Int) := by rw [IntKind.wrap_u64]; omega
  have q0 : (0 : Int) < (g.length : Int) := by omega
  have hT : ∃ Tg, Tg = b ++ putL g := ⟨_, rfl⟩
  obtain ⟨Tg, hTg⟩ := hT
  rw [← hTg] at HPUT ⊢
  clear hTg
  rw [show ad.add (0 * 5) = ad by simp [Addr.add]] at e0
  go_enter Try.func47, Try.ntmps47
  go_upto_region 1 with fail
  refine wp_region_loudTail 12 w [17] (fun _ u W => OwnB W w.heap.size u b1) (by kernel_rfl) (by kernel_rfl) (by kernel_rfl) (by kernel_rfl) (fun _ _ _ _ h hb => OwnB.next h hb) (Below.refl _ _).drew ?_
  simp only [List.take_succ_cons, List.take_zero, List.drop_succ_cons, List.drop_zero]
  repeat (first
    | (refine wpLoud_call 17 rfl [] tok 46 (fun g => #[.slice A b.length ca, .int .u64 (p0.s.size : Nat)]) rfl (fun _ _ h => by cases h) rfl (fun g w => by kernel_rfl) (fun g y hg => by
        refine (HPZ.out y.wd (HR.out.ext y.bel) (by omega) (by omega)).mono ?_
        rintro e w' ⟨u, rfl, ho, hb⟩
        exact ⟨u, rfl, hb, own_base_le ho y.2.size⟩) _ (by simp only [Act.put, List.setIfInBounds_toArray, List.set_cons_succ, List.set_cons_zero]; rfl) ?_)
    | (refine wpLoud_valD 15 rfl rfl (by kernel_rfl) (fun _ _ h => by cases h) (.int .i64 (p0.s.size : Nat)) (fun x => by kernel_rfl) _ (by simp only [Act.put, List.setIfInBounds_toArray, List.set_cons_succ, List.set_cons_zero]; rfl) ?_)
    | (refine wpLoud_plain rfl rfl rfl ?_; intro K hK; go_big_quiet_op; go_big_quiet_on))
  refine wpLoud_end [17] (by rfl) ?_
  intro gg z hg
  have h9 : OwnB z.wd w.heap.size (gg 17) b1 := hg 17 (by simp)
  have HO9 := Lib.hid h9
  have HB9 := Lib.hid z.bel
  generalize z.wd = Y at *
  simp only [fill, Act.put, List.setIfInBounds_toArray, List.set_cons_succ, List.set_cons_zero]
  generalize gg 17 = v17 at *
  clear hg h9 e0 HPZ HP1
  have H63 := Lib.hid (show b1.length + p0.s.size ≤ maxLen by simp only [maxLen]; omega)
  have HBY := Lib.hid (show b1.length + p0.s.size ≤ 140737488355328 by omega)
  refine Lib.wpList_append_own_string _ rfl (.tmp 17) (.tmp 21) 32 9 rfl w.heap.size 5 i0 Try.underlying32 Try.underlying9 hib hz0 hz1 hz2 v17 b1.length (byt b1) rfl HO9.out p0.s rfl H63.out HBY.out HB9.out.size ?_
  intro v5 w5 ho hgr _
  have HO5 := Lib.hid (own_str ho)
  have HB5 := Lib.hid (HB9.out.trans (below_grown HO9.out hgr HB9.out.size))
  clear ho hgr
  go_upto_region 2 with fail
  obtain ⟨b2, hb2⟩ : ∃ b2, b2 = b1 ++ sby p0.s := ⟨_, rfl⟩
  have hb2n : b2.length ≤ 1100010 := by rw [hb2, List.length_append, sby_len]; omega
  rw [← hb2] at HO5 HPUT
  obtain ⟨A5, c5, rfl, _, _, r5⟩ := HO5.out.rd
  have HPN := Lib.hid (putSh_c w5.heap.size A5 c5 b2 g.length w5 r5 (by omega) (by omega))
  clear hb2 r5 HO9 HB9
  go_upto_region 3 with (go_at_call 46; (refine HPN.out.mono ?_); rintro e W6 ⟨v6, rfl, ho, hb⟩; have HO6 := Lib.hid (show OwnB W6 w.heap.size v6 (b2 ++ sh g.length) from own_base_le ho HB5.out.size); have HB6 := Lib.hid (HB5.out.trans (hb.mono HB5.out.size)); clear ho hb)
  obtain ⟨b3, hb3⟩ : ∃ b3, b3 = b2 ++ sh g.length := ⟨_, rfl⟩
  have hb3n : b3.length ≤ 1100020 := by rw [hb3, List.length_append]; omega
  rw [← hb3] at HO6 HPUT
  clear hb3 HPN HO5 HB5 f1 f2
  go_wp2_with fail
  go_loopw [0, 5, 6, 7, 30, 54, 59] (fun bv tv sv vv i v54 v59 wr => isTok v54 = false ∧ isTok v59 = false ∧ ∃ (k : Nat) (pre : List Nat) (t step v : Int), k ≤ g.length ∧ i = .int .i64 k ∧ tv = .int .i64 t ∧ sv = .int .i64 step ∧ vv = .int .i64 v ∧ Tg = pre ++ rowsL t step v (g.drop k) ∧ pre.length ≤ b3.length + 32 * k ∧ OwnB wr w.heap.size bv pre ∧ Below w.heap.size w wr ∧ (-9223372036854775808 ≤ t ∧ t ≤ 9223372036854775807) ∧ (-9223372036854775808 ≤ step ∧ step ≤ 9223372036854775807) ∧ (-9223372036854775808 ≤ v ∧ v ≤ 9223372036854775807)) (fun _ _ _ _ i _ _ _ => g.length - (intOf i).toNat)
  case atStart => exact ⟨by rfl, by rfl, 0, b3, 0, 0, 0, Nat.zero_le _, rfl, rfl, rfl, rfl, HPUT.out, by omega, HO6.out, HB6.out, by omega, by omega, by omega⟩
  case round =>
    rename World => wr
    rename_i v54 v59 _
    obtain ⟨htk1, htk2, k, pre, t, step, v, hk, rfl, rfl, rfl, rfl, htg, hpn, ho, hb, ht, hst, hv⟩ := hrel
    have HTK1 := Lib.hid htk1
    have HTK2 := Lib.hid htk2
    clear htk1 htk2
    have HTG := Lib.hid htg
    have HO := Lib.hid ho
    have HB := Lib.hid hb
    clear htg ho hb HPUT HO6 HB6
    by_cases hlt : k < g.length
    · have q1 : (k : Int) < (g.length : Int) := by omega
      have HPA := Lib.hid ((HAT.out.below HB.out HAB.out).piece k hlt)
      have HPI := Lib.hid (pcLn (g.getD k pc0))
      have HPS := Lib.hid (pcInfo (g.getD k pc0))
      have HKP := Lib.hid (HOKP.out k hlt)
      have HDR := Lib.hid (show g.drop k = g.getD k pc0 :: g.drop (k + 1) by rw [List.drop_eq_getElem_cons hlt]; simp [List.getD_eq_getElem?_getD, hlt])
      generalize g.getD k pc0 = p at *
      have HRW := Lib.hid (rows_cons t step v p (g.drop (k + 1)))
      have hzl1 := sh64 _ (zig_lt (wrap64 (wrap64 (p.t - t) - step)) (wrap64_lo _) (wrap64_hi _))
      have hzl2 := sh64 _ (zig_lt (wrap64 (p.v - v)) (wrap64_lo _) (wrap64_hi _))
      have hzl3 := sh64 _ HKP.out.n1
      have HL1 := Lib.hid hzl1
      have HL2 := Lib.hid hzl2
      have HL3 := Lib.hid hzl3
      clear hzl1 hzl2 hzl3
      obtain ⟨A7, c7, rfl, _, _, _⟩ := HO.out.rd
      have hpt := HKP.out.t0
      have hpt1 := HKP.out.t1
      have hpv := HKP.out.v0
      have hpv1 := HKP.out.v1
      go_upto_region 7 with (first
        | (refine wpList_loadA rfl 31 (.tmp 32) rfl (ad.add (k * 5)) rfl (pcL p) _ HPA.out Try.underlying31 rfl HPI.out ?_)
        | (refine wpList_store_rowTo rfl 31 (.tmp 9) (.tmp 33) rfl rfl wr.heap.size (pcV p) rfl rfl 31 zPc (by exact Blk.new wr _ _) HPS.out rfl (pcV_one _) ?_))
      have hnr := new_row wr 31 zPc (pcV p)
      have HX := Lib.hid (show PcBlk _ wr.heap.size p from ⟨hnr.1⟩)
      have HOX := Lib.hid (HO.out.next hnr.2)
      have HBX := Lib.hid (HB.out.trans (hnr.2.mono HB.out.size))
      generalize (wr.alloc (Obj.cells zPc 31)).setRow wr.heap.size (pcV p) = X at *
      generalize wr.heap.size = gp at *
      clear hnr
      have c1 := HX.out.c1
      have hnl : pre.length ≤ 9000000 := by omega
      obtain ⟨z1, hz1'⟩ : ∃ z1, z1 = zig (wrap64 (wrap64 (p.t - t) - step)) := ⟨_, rfl⟩
      obtain ⟨z2, hz2'⟩ : ∃ z2, z2 = zig (wrap64 (p.v - v)) := ⟨_, rfl⟩
      have HZB1 := Lib.hid (show z1 < 18446744073709551616 by rw [hz1']; exact zig_lt _ (wrap64_lo _) (wrap64_hi _))
      have HZB2 := Lib.hid (show z2 < 18446744073709551616 by rw [hz2']; exact zig_lt _ (wrap64_lo _) (wrap64_hi _))
      have HZC1 := Lib.hid (show ∀ W, Calls Try.prog 63 #[.int .i64 (wrap64 (wrap64 (p.t - t) - step))] W fun e w' => e = .returned (.int .u64 (z1 : Nat)) ∧ W = w' from fun W => by rw [hz1']; exact zig_c _ W (wrap64_lo _) (wrap64_hi _))
      have HZC2 := Lib.hid (show ∀ W, Calls Try.prog 63 #[.int .i64 (wrap64 (p.v - v))] W fun e w' => e = .returned (.int .u64 (z2 : Nat)) ∧ W = w' from fun W => by rw [hz2']; exact zig_c _ W (wrap64_lo _) (wrap64_hi _))
      rw [← hz1', ← hz2'] at HRW
      rw [← hz1'] at HL1
      rw [← hz2'] at HL2
      clear hz1' hz2'
      have HPS1 := Lib.hid (putSh_c X.heap.size A7 c7 pre z1 X HOX.out.rdAt (by have := HZB1.out; omega) (by omega))
      go_upto_region 8 with (first
        | (go_at_call 63; (refine (HZC1.out X).mono ?_); rintro e W2 ⟨rfl, rfl⟩)
        | (go_at_call 46; (refine HPS1.out.mono ?_); rintro e W2 ⟨v2, rfl, ho2, hb2⟩; have HO2 := Lib.hid (show OwnB W2 w.heap.size v2 (pre ++ sh z1) from own_base_le ho2 HBX.out.size); have HB2 := Lib.hid (HBX.out.trans (hb2.mono HBX.out.size)); have HX2 := Lib.hid (HX.out.next hb2); clear ho2 hb2))
      obtain ⟨pre1, hpre1⟩ : ∃ pre1, pre1 = pre ++ sh z1 := ⟨_, rfl⟩
      have hn1 : pre1.length ≤ pre.length + 10 := by rw [hpre1, List.length_append]; have := HL1.out; omega
      rw [← hpre1] at HO2
      have HE1 := Lib.hid hpre1
      obtain ⟨A8, c8, rfl, _, _, _⟩ := HO2.out.rd
      have c2 := HX2.out.c2
      have HPS2 := Lib.hid (putSh_c W2.heap.size A8 c8 pre1 z2 W2 HO2.out.rdAt (by have := HZB2.out; omega) (by omega))
      clear hpre1 c1 HPS1 HZC1 HOX HX
      go_upto_region 9 with (first
        | (go_at_call 63; (refine (HZC2.out W2).mono ?_); rintro e W3 ⟨rfl, rfl⟩)
        | (go_at_call 46; (refine HPS2.out.mono ?_); rintro e W3 ⟨v3, rfl, ho2, hb2⟩; have HO3 := Lib.hid (show OwnB W3 w.heap.size v3 (pre1 ++ sh z2) from own_base_le ho2 HB2.out.size); have HB3 := Lib.hid (HB2.out.trans (hb2.mono HB2.out.size)); have HX3 := Lib.hid (HX2.out.next hb2); clear ho2 hb2))
      obtain ⟨pre2, hpre2⟩ : ∃ pre2, pre2 = pre1 ++ sh z2 := ⟨_, rfl⟩
      have hn2 : pre2.length ≤ pre.length + 20 := by rw [hpre2, List.length_append]; have := HL2.out; omega
      rw [← hpre2] at HO3
      have HE2 := Lib.hid hpre2
      obtain ⟨A9, c9, rfl, _, _, _⟩ := HO3.out.rd
      clear hpre2 c2 HPS2 HZC2 HO2 HX2 HB2
      have c3 := cell_ext HX3.out.c3
      have c4 := cell_ext HX3.out.c4
      have fd : IntKind.u64.wrap (p.d : Int) = (p.d : Int) := by rw [IntKind.wrap_u64]; have := HKP.out.d1; omega
      obtain ⟨pre3, hpre3⟩ : ∃ pre3, pre3 = pre2 ++ sh p.n := ⟨_, rfl⟩
      have hn3 : pre3.length ≤ pre.length + 30 := by rw [hpre3, List.length_append]; have := HL3.out; omega
      have HE3 := Lib.hid hpre3
      have HPS3 := Lib.hid (fun W h => putSh_c W.heap.size A9 c9 pre2 p.n W h (by have := HKP.out.n1; omega) (by omega))
      rw [← hpre3] at HPS3
      have HPS4 := Lib.hid (fun W A c (h : Rd W W.heap.size A (byt pre3)) => put_c W.heap.size A c pre3 p.d 2 W h (by have := HKP.out.d1; omega) (by decide) (by decide) (by omega))
      clear hpre3
      refine wp_region_loudTail 10 W3 [54, 59] (fun k u W => if k = 54 then OwnB W W3.heap.size u pre3 else OwnB W W3.heap.size u (pre3 ++ form p.d 2)) (by kernel_rfl) (by kernel_rfl) (by kernel_rfl) (by exact idle2 HTK1.out HTK2.out) (fun k u w1 w2 h hb => by
        by_cases h54 : k = 54
        · rw [if_pos h54] at h ⊢; exact OwnB.next h hb
        · rw [if_neg h54] at h ⊢; exact OwnB.next h hb) (Below.refl _ _).drew ?_
      simp only [List.take_succ_cons, List.take_zero, List.drop_succ_cons, List.drop_zero]
      repeat (first
        | (refine wpLoud_call 54 rfl [] tok 46 (fun g => #[.slice A9 pre2.length c9, .int .u64 (p.n : Int)]) rfl (fun _ _ h => by cases h) rfl (fun g w => by kernel_rfl) (fun g y hg => by
            refine (HPS3.out y.wd ((HO3.out.rdAt.ext y.bel).more y.bel.size)).mono ?_
            rintro e w' ⟨u, rfl, ho, hb⟩
            exact ⟨u, rfl, hb, own_base_le ho y.bel.size⟩) _ (by simp only [Act.put, List.setIfInBounds_toArray, List.set_cons_succ, List.set_cons_zero]; rfl) ?_)
        | (refine wpLoud_call 59 rfl [54] tok 32 (fun g => #[g 54, .int .u64 (p.d : Int), .int .i64 2]) rfl (fun _ _ h => by cases h) rfl (fun g w => by kernel_rfl) (fun g y hg => by
            have h54 : OwnB y.wd W3.heap.size (g 54) pre3 := hg 54 (by simp)
            obtain ⟨A10, c10, e10, _, _, r10⟩ := h54.rd
            show Calls _ _ #[g 54, _, _] _ _
            rw [e10]
            refine (HPS4.out y.wd A10 c10 r10).mono ?_
            rintro e w' ⟨u, rfl, ho, hb⟩
            rw [tailOf2] at ho
            exact ⟨u, rfl, hb, own_base_le ho y.bel.size⟩) _ (by simp only [Act.put, List.setIfInBounds_toArray, List.set_cons_succ, List.set_cons_zero]; rfl) ?_)
        | (refine wpLoud_plain rfl rfl rfl ?_; intro K hK; go_big_quiet_op; go_big_quiet_on))
      refine wpLoud_end [54, 59] (by rfl) ?_
      intro gg z hg
      have h54 : OwnB z.wd W3.heap.size (gg 54) pre3 := hg 54 (by simp)
      obtain ⟨A11, c11, e11, _, _, _⟩ := h54.rd
      have h9 : OwnB z.wd W3.heap.size (gg 59) (pre3 ++ form p.d 2) := hg 59 (by simp)
      have HO9 := Lib.hid (show OwnB z.wd w.heap.size (gg 59) (pre3 ++ form p.d 2) from own_base_le h9 HB3.out.size)
      have HB9 := Lib.hid (HB3.out.trans (z.bel.mono HB3.out.size))
      have HX9 := Lib.hid (HX3.out.next z.bel)
      generalize z.wd = Y at *
      simp only [fill, Act.put, List.setIfInBounds_toArray, List.set_cons_succ, List.set_cons_zero]
      rw [e11]
      obtain ⟨A12, c12, e12, _, _, _⟩ := HO9.out.rd
      rw [e12] at HO9 ⊢
      clear h54 e11 e12
      have c1 := HX9.out.c1
      have c2 := HX9.out.c2
      clear hg h9 c3 c4 HPS3 HPS4 HX3 HO3 HB3 fd
      go_upto_region 10 with fail
      go_quiet (fail)
      have HO10 := Lib.hid (HO9.out.drewN nq)
      have HB10 := Lib.hid (belowDrewN nq HB9.out)
      generalize Y.drewN nq = Y2 at *
      have HTN := Lib.hid (show Tg = (pre3 ++ form p.d 2) ++ rowsL p.t (wrap64 (p.t - t)) p.v (g.drop (k + 1)) by
        rw [HTG.out, HDR.out, HRW.out, HE3.out, HE2.out, HE1.out]
        simp only [List.append_assoc])
      go_wp2_with fail
      go_roundw
      case rel => exact ⟨by rfl, by rfl, k + 1, pre3 ++ form p.d 2, p.t, wrap64 (p.t - t), p.v, by omega, by go_num, rfl, rfl, rfl, HTN.out, by rw [List.length_append, form_len]; omega, HO10.out, HB10.out, ⟨hpt, hpt1⟩, ⟨wrap64_lo _, wrap64_hi _⟩, ⟨hpv, hpv1⟩⟩
      case measure => simp only [intOf]; omega
    · obtain rfl : k = g.length := by omega
      have HFIN := Lib.hid (show Tg = pre by rw [HTG.out, List.drop_length]; simp [rowsL])
      go_wp2_with fail
      refine bodyPost_ret (results_tmp rfl _ _ _) rfl ?_
      exact ⟨_, rfl, by rw [HFIN.out]; exact HO.out, HB.out⟩
end Go.Proofs.Ytlidfmbmlhaacaa
