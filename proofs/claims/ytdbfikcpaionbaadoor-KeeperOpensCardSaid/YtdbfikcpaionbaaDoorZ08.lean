/- Parts, one behind the other: Kq9 Kqa Kqb Kqc Kqd Bck0. -/
import Derived.Test.YtdbfikcpaionbaaDoorZ07
import Derived.Deep.CutRange
/- Contract: the document's keeper is offered a share. -/
namespace Go.Proofs.YtdbfikcpaionbaaDoor
open Go.RowKit
set_option linter.unusedVariables false
set_option linter.unusedSimpArgs false
def RRet (w : World) (g : Nat) (st : Kst) (v : Value) (e : Ending) (w' : World) : Prop := e = .returned (.bool st.o) ∧ KGo w g 44 100 st v w'
set_option maxRecDepth 100000 in
set_option maxHeartbeats 2000000 in
theorem roffer_open (w : World) (g : Nat) (st : Kst) (v : Value) (s : List Nat) (hok : KOK st) (h : KAt w g 44 100 st v) (hop : st.o = true) :
    Calls Tryd.prog 15 #[.pointer (some ⟨g, 0, none⟩), .agg (vb s)] w (RRet w g st v) := by
  have hzb : Below w.heap.size w (w.alloc (Obj.cells (vb s) 31)) := (Below.refl _ _).alloc (Nat.le_refl _) _
  have h1 := h.next hzb
  have hco := h1.co
  rw [hop] at hco
  have H1 := Lib.hid h1
  have HZB := Lib.hid hzb
  have HOP := Lib.hid hop
  clear h h1 hzb hop
  go_enter Tryd.func15, Tryd.ntmps15
  go_upto_region 1 with (refine Go.Great.wpList_boxTo rfl 31 (.tmp 1) rfl (some 3) rfl w.heap.size rfl (vb s) rfl ?_)
  generalize w.alloc (Obj.cells (vb s) 31) = Z at *
  go_wp2_with fail
  go_ret
  exact ⟨by rw [HOP.out]; rfl, v, H1.out, Only.of_below HZB.out, .inl rfl⟩
set_option maxRecDepth 100000 in
set_option maxHeartbeats 8000000 in
theorem roffer_z (w : World) (g : Nat) (st : Kst) (v : Value) (s : List Nat) (hs : s.length = 33) (hsl : ∀ c ∈ s, c < 256) (hn : st.n ≤ 800) (hok : KOK st) (h : KAt w g 44 100 st v) (hop : st.o = false) (hg0 : 0 < g) (hz : s.getD 0 0 = 0) :
    Calls Tryd.prog 15 #[.pointer (some ⟨g, 0, none⟩), .agg (vb s)] w (RRet w g (kTry st) v) := by
  have HOPF := Lib.hid hop
  have hzb : Below w.heap.size w (w.alloc (Obj.cells (vb s) 31)) := (Below.refl _ _).alloc (Nat.le_refl _) _
  have h1 := h.next hzb
  have hco := h1.co
  rw [hop] at hco
  have hct := h1.ct
  have hcv := h1.cv
  obtain ⟨x, hx⟩ : ∃ x, x = s.getD 0 0 := ⟨_, rfl⟩
  have hx256 : x < 256 := by rw [hx]; exact getD_lt hsl 0
  have hsb : Blk (w.alloc (Obj.cells (vb s) 31)) w.heap.size 31 (vb s) := Blk.new w _ _
  have hcx : (w.alloc (Obj.cells (vb s) 31)).cell? ⟨w.heap.size, 0, none⟩ = some (.int .u8 x) := by rw [hx]; exact (hsb.cell 0).trans (vb_atF s 0 (by omega))
  obtain ⟨A, c, rfl, hc1, hc2, hrd⟩ := own_rd h1.own
  have HAT := Lib.hid (fun (hn0 : 0 < st.n) => (show RdS (w.alloc (Obj.cells (vb s) 31)) _ A st.n st.L from ⟨hok.r.len, hrd⟩).open_ hn0)
  have hc2' : (c : Int) ≤ 9223372036854775807 := by simp only [maxLen] at hc2; omega
  have H1 := Lib.hid h1
  have HZB := Lib.hid hzb
  have HSB := Lib.hid hsb
  have HOK := Lib.hid hok
  have HX := Lib.hid hx
  have HRD := Lib.hid hrd
  have HCC := Lib.hid (And.intro hc1 hc2)
  have hx0 : x = 0 := by rw [hx]; exact hz
  have HX0 := Lib.hid hx0
  clear hz hx0
  clear h h1 hzb hsb hop hx hrd hok
  go_enter Tryd.func15, Tryd.ntmps15
  go_upto_region 1 with (refine Go.Great.wpList_boxTo rfl 31 (.tmp 1) rfl (some 3) rfl w.heap.size rfl (vb s) rfl ?_)
  generalize w.alloc (Obj.cells (vb s) 31) = Z at *
  have HW0 := Lib.hid HSB.out.lt
  go_wp2_with fail
  go_loopw [5, 6, 7] (fun a b i wr => ∃ j q : Nat, j ≤ st.n ∧ a = .int .i64 (posX st.L x j : Nat) ∧ b = .bool (hasV st.L x j) ∧ i = .int .i64 j ∧ wr = Z.drewN q) (fun _ _ i _ => st.n - (intOf i).toNat)
  case atStart => exact ⟨0, 0, Nat.zero_le _, rfl, rfl, rfl, rfl⟩
  case round =>
    obtain ⟨j, q, hj, rfl, rfl, rfl, rfl⟩ := hrel
    by_cases hlt : j < st.n
    · have q1 : (j : Int) < (st.n : Int) := by omega
      obtain ⟨ad, rfl, had, hat⟩ := HAT.out (by omega)
      have cj : Z.cell? (ad.add (j * 33)) = some (.int .u8 (shX st.L j : Nat)) := hat.x HOK.out.r.len hlt
      have hxj := shX_lt HOK.out.r.lt j
      have HPS := Lib.hid (show posX st.L x (j + 1) = if shX st.L j < x then j + 1 else posX st.L x j from rfl)
      have HHS := Lib.hid (show hasV st.L x (j + 1) = (hasV st.L x j || (shX st.L j == x)) from rfl)
      clear hat
      generalize shX st.L j = y at *
      generalize hasV st.L x j = hv at *
      generalize posX st.L x j = px at *
      have HCS := Lib.hid (Nat.lt_trichotomy y x)
      cases hv
      all_goals
        rcases HCS.out with hc | hc | hc
        · have t1 : decide ((y : Int) < (x : Int)) = true := decide_eq_true (by omega)
          have t2 : ((y : Int) == (x : Int)) = false := beq_eq_false_iff_ne.2 (by omega)
          have e1 : posX st.L x (j + 1) = j + 1 := by rw [HPS.out, if_pos hc]
          have e2 := HHS.out
          rw [beq_eq_false_iff_ne.2 (show y ≠ x by omega)] at e2
          have E1 := Lib.hid e1
          have E2 := Lib.hid e2
          clear e1 e2
          go_upto_region 7 with fail
          refine wp_region_class (fun z => Z.drewN z) (by kernel_rfl) (by kernel_rfl) ⟨q + 1, rfl⟩ ?_
          repeat (go_big_quiet_step (fail))
          refine wpQuiet_nil ?_
          rintro _ ⟨q, rfl⟩
          go_upto_region 8 with fail
          refine wp_region_class (fun z => Z.drewN z) (by kernel_rfl) (by kernel_rfl) ⟨q + 1, rfl⟩ ?_
          repeat (go_big_quiet_step (fail))
          refine wpQuiet_nil ?_
          rintro _ ⟨q, rfl⟩
          go_wp2_with fail
          go_roundw
          case rel => exact ⟨j + 1, q, by omega, by rw [E1.out]; go_num, by rw [E2.out]; rfl, by go_num, rfl⟩
          case measure => simp [intOf]; omega
        · have t1 : decide ((y : Int) < (x : Int)) = false := decide_eq_false (by omega)
          have t2 : ((y : Int) == (x : Int)) = true := by rw [hc]; simp
          have e1 : posX st.L x (j + 1) = px := by rw [HPS.out, if_neg (by omega)]
          have e2 := HHS.out
          rw [show (y == x) = true by rw [hc]; simp] at e2
          have E1 := Lib.hid e1
          have E2 := Lib.hid e2
          have n1 : ¬ y < x := by omega
          clear hc e1 e2
          go_upto_region 7 with fail
          refine wp_region_class (fun z => Z.drewN z) (by kernel_rfl) (by kernel_rfl) ⟨q + 1, rfl⟩ ?_
          repeat (go_big_quiet_step (fail))
          refine wpQuiet_nil ?_
          rintro _ ⟨q, rfl⟩
          go_upto_region 8 with fail
          refine wp_region_class (fun z => Z.drewN z) (by kernel_rfl) (by kernel_rfl) ⟨q + 1, rfl⟩ ?_
          repeat (go_big_quiet_step (fail))
          refine wpQuiet_nil ?_
          rintro _ ⟨q, rfl⟩
          go_wp2_with fail
          go_roundw
          case rel => exact ⟨j + 1, q, by omega, by rw [E1.out], by rw [E2.out]; rfl, by go_num, rfl⟩
          case measure => simp [intOf]; omega
        · have t1 : decide ((y : Int) < (x : Int)) = false := decide_eq_false (by omega)
          have t2 : ((y : Int) == (x : Int)) = false := beq_eq_false_iff_ne.2 (by omega)
          have e1 : posX st.L x (j + 1) = px := by rw [HPS.out, if_neg (by omega)]
          have e2 := HHS.out
          rw [beq_eq_false_iff_ne.2 (show y ≠ x by omega)] at e2
          have E1 := Lib.hid e1
          have E2 := Lib.hid e2
          have n1 : ¬ y < x := by omega
          clear hc e1 e2
          go_upto_region 7 with fail
          refine wp_region_class (fun z => Z.drewN z) (by kernel_rfl) (by kernel_rfl) ⟨q + 1, rfl⟩ ?_
          repeat (go_big_quiet_step (fail))
          refine wpQuiet_nil ?_
          rintro _ ⟨q, rfl⟩
          go_upto_region 8 with fail
          refine wp_region_class (fun z => Z.drewN z) (by kernel_rfl) (by kernel_rfl) ⟨q + 1, rfl⟩ ?_
          repeat (go_big_quiet_step (fail))
          refine wpQuiet_nil ?_
          rintro _ ⟨q, rfl⟩
          go_wp2_with fail
          go_roundw
          case rel => exact ⟨j + 1, q, by omega, by rw [E1.out], by rw [E2.out]; rfl, by go_num, rfl⟩
          case measure => simp [intOf]; omega
    · obtain rfl : j = st.n := by omega
      have q1 : ¬ (st.n : Int) < (st.n : Int) := by omega
      have HKY := Lib.hid (H1.out.next (belowDrewN q (Below.refl Z.heap.size Z)))
      have HBY := Lib.hid (((Only.of_below (S := fun i => i = g ∨ (Value.slice A st.n c).ownBlock = some i) HZB.out)).drewN q)
      have HFY := Lib.hid (show KFr w (.slice A st.n c) (.slice A st.n c) from .inl rfl)
      have hcx2 : (Z.drewN q).cell? ⟨w.heap.size, 0, none⟩ = some (.int .u8 x) := hcx
      clear hcx
      generalize Z.drewN q = Y at *
      have hx0 := HX0.out
      rw [hx0] at hcx2
      clear hx0
      have hct2 := HKY.out.ct
      have hcv2 := HKY.out.cv
      have ht0 := HOK.out.t0
      have ht1 := HOK.out.t1
      clear hct hcv hco
      by_cases hc1 : st.t < 1
      · have t1 : decide (st.t < 1) = true := decide_eq_true hc1
        have HC1 := Lib.hid hc1
        have hkt : kTry st = st := by unfold kTry; rw [if_pos (.inl hc1)]
        have HKT := Lib.hid hkt
        clear hc1 hkt ht0 ht1
        go_upto_region 14 with fail
        refine wp_region_class (fun z => Y.drewN z) (by kernel_rfl) (by kernel_rfl) ⟨1, rfl⟩ ?_
        repeat (go_big_quiet_step (fail))
        refine wpQuiet_nil ?_
        rintro _ ⟨q3, rfl⟩
        go_wp2_with fail
        go_ret
        refine ⟨by rw [HKT.out, HOPF.out]; rfl, .slice A st.n c, (by rw [HKT.out]; exact HKY.out.next (belowDrewN q3 (Below.refl _ _))), HBY.out.drewN q3, HFY.out⟩
      have t1 : decide (st.t < 1) = false := decide_eq_false hc1
      by_cases hc2 : (st.n : Int) < st.t
      · have t2 : decide ((st.n : Int) < st.t) = true := decide_eq_true hc2
        have hkt : kTry st = st := by unfold kTry; rw [if_pos (.inr hc2)]
        have HKT := Lib.hid hkt
        clear hc1 hkt hc2 ht0 ht1
        go_upto_region 14 with fail
        refine wp_region_class (fun z => Y.drewN z) (by kernel_rfl) (by kernel_rfl) ⟨1, rfl⟩ ?_
        repeat (go_big_quiet_step (fail))
        refine wpQuiet_nil ?_
        rintro _ ⟨q3, rfl⟩
        go_wp2_with fail
        go_ret
        refine ⟨by rw [HKT.out, HOPF.out]; rfl, .slice A st.n c, (by rw [HKT.out]; exact HKY.out.next (belowDrewN q3 (Below.refl _ _))), HBY.out.drewN q3, HFY.out⟩
      have t2 : decide ((st.n : Int) < st.t) = false := decide_eq_false hc2
      obtain ⟨T, hT⟩ : ∃ T : Nat, st.t = (T : Int) := ⟨st.t.toNat, by omega⟩
      have hT1 : 1 ≤ T := by omega
      have hT2 : T ≤ st.n := by omega
      have hkt : kTry st = if prfL (kCom st.L T) = st.p then { st with m := kCom st.L T, o := true } else kAlone st := by
        unfold kTry
        rw [if_neg (by omega), show st.t.toNat = T by omega]
        rfl
      rw [hT] at t1 t2 hct2
      have HKT0 := Lib.hid hkt
      have HTT := Lib.hid hT
      have hrt := HOK.out.r.take hT2
      have hown := HKY.out.own
      obtain ⟨A', c', e2', hcq1, hcq2, hrd2⟩ := own_rd hown
      injection e2' with e2a e2b e2c
      subst e2a
      subst e2c
      have hcm : (T : Int) ≤ (c : Int) := by omega
      have hcm2 : (c : Int) ≤ 9223372036854775807 := by simp only [maxLen] at hcq2; omega
      obtain ⟨ad2, hA2, had2, hat2⟩ := (show RdS Y Y.heap.size A st.n st.L from ⟨HOK.out.r.len, hrd2⟩).open_ (by omega)
      subst hA2
      have hatT : AtA Y ad2 (byt (st.L.take (T * 33))) := fun j u hu => by
        refine hat2 j u ?_
        simp only [byt, List.map_take] at hu ⊢
        have hj : j < T * 33 := by
          rcases Nat.lt_or_ge j (T * 33) with h3 | h3
          · exact h3
          · rw [List.getElem?_eq_none (by rw [List.length_take]; omega)] at hu; cases hu
        rwa [List.getElem?_take_of_lt hj] at hu
      have HCB := Lib.hid (fun W (hb : Below Y.heap.size Y W) => rcombine_c T c ad2 (st.L.take (T * 33)) W hT1 (by omega) (by omega) (by omega) hrt.len hrt.lt (Nat.lt_of_lt_of_le had2 hb.size) (hatT.below hb had2) hrt.plc)
      rw [show cmbTo (st.L.take (T * 33)) T T 0 = kCom st.L T from rfl] at HCB
      have hCl := kCom_len st.L T
      have hCb := kCom_lt st.L T
      obtain ⟨C, hC⟩ : ∃ C, C = kCom st.L T := ⟨_, rfl⟩
      rw [← hC] at HCB hCl hCb HKT0
      have HCL := Lib.hid hCl
      have HCbb := Lib.hid hCb
      have zf := zero_arr
      have zn := z32_size
      have ze := z32_ne
      clear hkt hT hrt hown hcq1 hcq2 hrd2 had2 hat2 hatT hC hCl hCb hc1 hc2 ht0 ht1
      go_upto_region 14 with fail
      refine wp_region_class (fun z => Y.drewN z) (by kernel_rfl) (by kernel_rfl) ⟨1, rfl⟩ ?_
      repeat (go_big_quiet_step (fail))
      refine wpQuiet_nil ?_
      rintro _ ⟨q3, rfl⟩
      go_upto_region 16 with fail
      have hyb : Below Y.heap.size Y (Y.drewN q3) := belowDrewN q3 (Below.refl _ _)
      have HY3 := Lib.hid hyb
      have k0 := cell_ext ((HKY.out.next hyb).ct)
      have k1 := cell_ext ((HKY.out.next hyb).cv)
      rw [HTT.out] at k0
      clear hyb hct2 hcv2
      generalize Y.drewN q3 = Y3 at *
      refine wp_region_loudTail 11 Y3 [9] (fun _ u W => ∃ b, u = .pointer (some ⟨b, 0, none⟩) ∧ Blk W b 22 z32 ∧ Y3.heap.size ≤ b) (by kernel_rfl) (by kernel_rfl) (by kernel_rfl) (by kernel_rfl) (fun k u w1 w2 h hb => by
        obtain ⟨b, h1, h2, h3⟩ := h
        exact ⟨b, h1, h2.below hb h2.lt, h3⟩) (Below.refl _ _).drew ?_
      repeat (first
        | (refine wpLoud_nilK (.tmp 97) rfl ⟨g, 0, none⟩ rfl rfl rfl _ (by simp only [Act.put, List.setIfInBounds_toArray, List.set_cons_succ, List.set_cons_zero]; rfl) ?_)
        | (refine wpLoud_nilK (.tmp 101) rfl ⟨g, 0, none⟩ rfl rfl rfl _ (by simp only [Act.put, List.setIfInBounds_toArray, List.set_cons_succ, List.set_cons_zero]; rfl) ?_)
        | (refine wpLoud_make rfl (fun _ _ h => by cases h) rfl 9 rfl rfl (fun y => ⟨_, _, op_alloc rfl zf ze, (Below.refl _ _).alloc (Nat.le_refl _) _, ⟨_, rfl, Blk.new _ _ _, y.bel.size⟩⟩) _ (by simp only [Act.put, List.setIfInBounds_toArray, List.set_cons_succ, List.set_cons_zero]; rfl) ?_)
        | (refine wpLoud_call 106 rfl [] (.agg (vb C)) 26 (fun g => #[.slice (some ad2) T c]) rfl (fun _ _ h => by cases h) rfl (fun g w => by kernel_rfl) (fun g y hg => by
            refine (HCB.out y.wd (HY3.out.trans (y.bel.mono HY3.out.size))).mono ?_
            rintro e w' ⟨rfl, hb⟩
            exact ⟨_, rfl, hb, rfl⟩) _ (by simp only [Act.put, List.setIfInBounds_toArray, List.set_cons_succ, List.set_cons_zero]; rfl) ?_)
        | (refine wpLoud_plain rfl rfl rfl ?_; intro K hK; go_big_quiet_op; go_big_quiet_on))
      refine wpLoud_end [9] (by rfl) ?_
      intro gg z hg
      obtain ⟨b, g9, hblk, hle⟩ := hg 9 (by simp)
      have hzb5 := z.bel
      generalize z.wd = Y4 at *
      simp only [fill, Act.put, List.setIfInBounds_toArray, List.set_cons_succ, List.set_cons_zero]
      rw [g9]
      clear hg g9 k0 k1
      have HBK := Lib.hid (show Blk (Y4.setRow b (vb C)) b 22 (vb C) from setRow_heap _ _ z32 _ 22 (0, 0) hblk)
      have hY5 : Below Y.heap.size Y (Y4.setRow b (vb C)) := Below.setRow (HY3.out.trans (hzb5.mono HY3.out.size)) (Nat.le_trans HY3.out.size hle) _
      have HK5 := Lib.hid (HKY.out.next hY5)
      have HY5 := Lib.hid hY5
      have HBL := Lib.hid hblk
      have HASZ := Lib.hid (show (Tryd.prog.info? 22).map (·.size) = some (vb C).size by rw [vb_size, HCL.out]; kernel_rfl)
      clear hblk hle hzb5 hY5 HCB zf zn ze HY3
      go_upto_region 17 with (first
        | (refine wpList_store_rowTo rfl 22 (.tmp 9) (.tmp 106) rfl rfl b (vb C) rfl rfl 22 z32 HBL.out HASZ.out (by rw [vb_size, HCL.out]; rfl) (vb_one _) ?_))
      generalize Y4.setRow b (vb C) = Y5 at *
      have HPR := Lib.hid (fun W => rproof_c C W HCL.out HCbb.out)
      have HPB := Lib.hid (prfL_lt C)
      have HPL := Lib.hid (prfL_len C)
      have HPE := Lib.hid (Classical.em (prfL C = st.p))
      have HSM := Lib.hid (fun W A1 c1 (hr : Rd W W.heap.size A1 (byt (prfL C))) (hr2 : Rd W W.heap.size (some ⟨g, 1, none⟩) (byt st.p)) => same_c W.heap.size W.heap.size A1 (some ⟨g, 1, none⟩) c1 32 (prfL C) st.p W (prfL_lt C) HOK.out.pb hr hr2 (by rw [prfL_len]; decide) (by rw [HOK.out.pl]; decide))
      rw [prfL_len, HOK.out.pl] at HSM
      have HRP := Lib.hid (fun (W : World) (hb : Below Y5.heap.size Y5 W) => (show Rd W W.heap.size (some ⟨g, 1, none⟩) (byt st.p) from fun _ => ⟨_, rfl, Nat.lt_of_lt_of_le HK5.out.lt hb.size, fun j u hu => by rw [Addr.add_mid]; exact (HK5.out.next hb).rp j u hu⟩))
      have HKSL := Lib.hid (show (Tryd.prog.info? 22).map (·.size) = some (vb C).toList.length by rw [Array.length_toList]; exact HASZ.out)
      generalize prfL C = PC at *
      have HBQ := Lib.hid (show (PC == st.p) = decide (PC = st.p) by by_cases h : PC = st.p <;> simp [h])
      obtain ⟨bq, hbq⟩ : ∃ bq, bq = (PC == st.p) := ⟨_, rfl⟩
      rw [← hbq] at HSM HBQ
      have HBE := Lib.hid hbq
      clear hbq
      refine wp_region_loud Y5 [108] (fun _ u W => OwnB W Y5.heap.size u PC) (by kernel_rfl) (by kernel_rfl) (by kernel_rfl) (by kernel_rfl) (fun k u w1 w2 h hb => OwnB.next h hb) (Below.refl _ _).drew ?_
      repeat (first
        | (refine wpLoud_nilK (.tmp 109) rfl ⟨g, 0, none⟩ rfl rfl rfl _ (by simp only [Act.put, List.setIfInBounds_toArray, List.set_cons_succ, List.set_cons_zero]; rfl) ?_)
        | (refine wpLoud_loadB rfl rfl 22 (.tmp 9) rfl b 0 rfl (vb C) _ (fun z => rangeAt_blk (HBK.out.below z.bel HBK.out.lt)) Tryd.underlying22 rfl HKSL.out _ (by simp only [Act.put, List.setIfInBounds_toArray, List.set_cons_succ, List.set_cons_zero]; rfl) ?_)
        | (refine wpLoud_call 108 rfl [] tok 18 (fun g => #[.agg (vb C)]) rfl (fun _ _ h => by cases h) rfl (fun g w => by kernel_rfl) (fun g y hg => by
            refine (HPR.out y.wd).mono ?_
            rintro e w' ⟨u, rfl, ho, hb⟩
            exact ⟨u, rfl, hb, own_base_le ho y.bel.size⟩) _ (by simp only [Act.put, List.setIfInBounds_toArray, List.set_cons_succ, List.set_cons_zero]; rfl) ?_)
        | (refine wpLoud_call 113 rfl [108] (.bool bq) 27 (fun l => #[l 108, .slice (some ⟨g, 1, none⟩) 32 32]) rfl (fun _ _ h => by cases h) rfl (fun g w => by kernel_rfl) (fun l y hg => by
            have h108 : OwnB y.wd Y5.heap.size (l 108) PC := hg 108 (by simp)
            obtain ⟨A3, c3, e3, _, _, r3⟩ := h108.rd
            show Calls _ _ #[l 108, _] _ _
            rw [e3, HPL.out]
            refine (HSM.out y.wd A3 c3 r3 (HRP.out y.wd y.bel)).mono ?_
            rintro e w' ⟨rfl, q, rfl⟩
            exact ⟨_, rfl, belowDrewN q (Below.refl _ _), rfl⟩) _ (by simp only [Act.put, List.setIfInBounds_toArray, List.set_cons_succ, List.set_cons_zero]; rfl) ?_)
        | (refine wpLoud_plain rfl rfl rfl ?_; intro K hK; go_big_quiet_op; go_big_quiet_on))
      refine wpLoud_end [108] (by rfl) ?_
      intro gg z hg
      have HK6 := Lib.hid (HK5.out.next z.bel)
      have HBK6 := Lib.hid (HBK.out.below z.bel HBK.out.lt)
      have HY6 := Lib.hid (HY5.out.trans (z.bel.mono HY5.out.size))
      generalize z.wd = Y6 at *
      simp only [fill, Act.put, List.setIfInBounds_toArray, List.set_cons_succ, List.set_cons_zero]
      generalize gg 108 = x108 at *
      clear hg HK5 HBK HY5 HSM HRP HPR
      rcases HPE.out with he | he
      · have hbt : bq = true := by rw [HBE.out, he]; exact beq_self_eq_true _
        subst hbt
        have hkt := HKT0.out
        rw [if_pos he] at hkt
        have HKT := Lib.hid hkt
        clear he hkt
        have hts : Y6.there g 67 (vb C).size := by rw [vb_size, HCL.out]; exact HK6.out.there 67 32 (by decide)
        have hM := HK6.out.setM (by decide) HOK.out.pl HOK.out.ml C HCL.out
        have hMO := hM.setO (by decide) HOK.out.pl HOK.out.ml HCL.out true
        have hco := hM.co
        have hfo := (hM.there 99 1 (by decide) 0 (by decide)).2
        have HTS := Lib.hid hts
        have HMO := Lib.hid hMO
        have HON := Lib.hid ((only_setCellsG g (byt C) 67 Y6 Y6 (Only.refl _ Y6)).setCell (p := ⟨g, 99, none⟩) (fun _ => rfl) (.bool true))
        clear hts hM hMO
        go_wp2_with (first
          | (refine wpList_load_row rfl 22 (.tmp 9) rfl b rfl 22 (vb C) (0, 0) _ HBK6.out Tryd.underlying22 rfl HASZ.out ?_)
          | (refine wpList_store_mid rfl 22 (.tmp 137) (.tmp 135) rfl g 67 (vb C) rfl rfl HTS.out HASZ.out (vb_one _) ?_; rw [show (vb C).toList = byt C from rfl]))
        go_ret
        refine ⟨by rw [HKT.out]; rfl, .slice (some ad2) st.n c, (by rw [HKT.out]; exact HMO.out), ?_, HFY.out⟩
        exact (HBY.out.trans (Only.of_below HY6.out |>.mono (fun i hi h => h))).then_ HON.out (fun i hi h => .inl h)
      · have hbt : bq = false := by rw [HBE.out]; exact beq_eq_false_iff_ne.2 he
        subst hbt
        have hkt := HKT0.out
        rw [if_neg he] at hkt
        have HKT := Lib.hid hkt
        clear he hkt
        have k0 := cell_ext (HK6.out.ct)
        have HNW := Lib.hid (fun W => rnew_c st.t st.p st.mine W HOK.out.pl HOK.out.pb HOK.out.ml HOK.out.mb HOK.out.t0 HOK.out.t1)
        have HPSL := Lib.hid (show (Tryd.prog.info? 28).map (·.size) = some (vb st.p).toList.length by rw [Array.length_toList]; exact sum_sz HOK.out.pl)
        have HMSL := Lib.hid (show (Tryd.prog.info? 31).map (·.size) = some (vb st.mine).toList.length by rw [Array.length_toList]; exact share_size st.mine HOK.out.ml)
        have HLTK := Lib.hid HK6.out.lt
        go_upto_region 18 with fail
        refine wp_region_loudTail 17 Y6 [128, 129, 130, 131] (fun k u W => if k = 131 then OwnS W Y6.heap.size u (aloN st.mine) (aloL st.mine) else ∃ g' v', u = .pointer (some ⟨g', if k = 130 then 66 else 0, none⟩) ∧ KAt W g' 44 100 (kNew st.t st.p st.mine) v' ∧ Y6.heap.size ≤ g') (by kernel_rfl) (by kernel_rfl) (by kernel_rfl) (by kernel_rfl) (fun k u w1 w2 h hb => by
          by_cases hk : k = 131
          · rw [if_pos hk] at h ⊢; exact own_keep (S := fun _ => False) h (Only.of_below hb) (fun _ _ h => h)
          · rw [if_neg hk] at h ⊢
            obtain ⟨g', v', h1, h2, h3⟩ := h
            exact ⟨g', v', h1, h2.next hb, h3⟩) (Below.refl _ _).drew ?_
        repeat (first
          | (refine wpLoud_nilK (.tmp 116) rfl ⟨g, 0, none⟩ rfl rfl rfl _ (by simp only [Act.put, List.setIfInBounds_toArray, List.set_cons_succ, List.set_cons_zero]; rfl) ?_)
          | (refine wpLoud_nilK (.tmp 120) rfl ⟨g, 0, none⟩ rfl rfl rfl _ (by simp only [Act.put, List.setIfInBounds_toArray, List.set_cons_succ, List.set_cons_zero]; rfl) ?_)
          | (refine wpLoud_nilK (.tmp 124) rfl ⟨g, 0, none⟩ rfl rfl rfl _ (by simp only [Act.put, List.setIfInBounds_toArray, List.set_cons_succ, List.set_cons_zero]; rfl) ?_)
          | (refine wpLoud_loadB rfl rfl 28 (.tmp 122) rfl g 1 rfl (vb st.p) _ (fun z => (HK6.out.next z.bel).rp) Tryd.underlying28 rfl HPSL.out _ (by simp only [Act.put, List.setIfInBounds_toArray, List.set_cons_succ, List.set_cons_zero]; rfl) ?_)
          | (refine wpLoud_loadB rfl rfl 31 (.tmp 126) rfl g 33 rfl (vb st.mine) _ (fun z => (HK6.out.next z.bel).rm) Tryd.underlying31 rfl HMSL.out _ (by simp only [Act.put, List.setIfInBounds_toArray, List.set_cons_succ, List.set_cons_zero]; rfl) ?_)
          | (refine wpLoud_call 128 rfl [] tok 14 (fun l => #[.int .i64 st.t, .agg (vb st.p), .agg (vb st.mine)]) rfl (fun _ _ h => by cases h) rfl (fun g w => by kernel_rfl) (fun l y hg => by
              refine (HNW.out y.wd).mono ?_
              rintro e w' ⟨g', v', rfl, hg', hk', hb, _⟩
              exact ⟨_, rfl, hb, ⟨g', v', rfl, hk', Nat.le_trans y.bel.size hg'⟩⟩) _ (by simp only [Act.put, List.setIfInBounds_toArray, List.set_cons_succ, List.set_cons_zero]; rfl) ?_)
          | (refine wpLoud_makeG 129 rfl rfl [128] rfl (fun _ _ h => by cases h) rfl (fun l y h => by
              obtain ⟨g', v', h1, h2, h3⟩ : ∃ g' v', l 128 = .pointer (some ⟨g', 0, none⟩) ∧ KAt y.wd g' 44 100 (kNew st.t st.p st.mine) v' ∧ Y6.heap.size ≤ g' := h 128 (by simp)
              exact ⟨_, y.wd, run_nilO (.tmp 128) rfl ⟨g', 0, none⟩ h1, Below.refl _ _, ⟨g', v', rfl, h2, h3⟩⟩) _ (by simp only [Act.put, List.setIfInBounds_toArray, List.set_cons_succ, List.set_cons_zero]; rfl) ?_)
          | (refine wpLoud_makeG 130 rfl rfl [129] rfl (fun _ _ h => by cases h) rfl (fun l y h => by
              obtain ⟨g', v', h1, h2, h3⟩ : ∃ g' v', l 129 = .pointer (some ⟨g', 0, none⟩) ∧ KAt y.wd g' 44 100 (kNew st.t st.p st.mine) v' ∧ Y6.heap.size ≤ g' := h 129 (by simp)
              exact ⟨_, y.wd, run_fa66 _ _ (.tmp 129) rfl g' h1, Below.refl _ _, ⟨g', v', rfl, h2, h3⟩⟩) _ (by simp only [Act.put, List.setIfInBounds_toArray, List.set_cons_succ, List.set_cons_zero]; rfl) ?_)
          | (refine wpLoud_makeG 131 rfl rfl [130] rfl (fun _ _ h => by cases h) rfl (fun l y h => by
              obtain ⟨g', v', h1, h2, h3⟩ : ∃ g' v', l 130 = .pointer (some ⟨g', 66, none⟩) ∧ KAt y.wd g' 44 100 (kNew st.t st.p st.mine) v' ∧ Y6.heap.size ≤ g' := h 130 (by simp)
              exact ⟨v', y.wd, run_loadO rfl h1 (run_load_slice y.wd _ _ h2.cv), Below.refl _ _, own_base_leF h2.own (Nat.le_succ_of_le h3)⟩) _ (by simp only [Act.put, List.setIfInBounds_toArray, List.set_cons_succ, List.set_cons_zero]; rfl) ?_)
          | (refine wpLoud_plain rfl rfl rfl ?_; intro K hK; go_big_quiet_op; go_big_quiet_on))
        refine wpLoud_end [131] (by rfl) ?_
        intro gg z hg
        have h131 : OwnS z.wd Y6.heap.size (gg 131) (aloN st.mine) (aloL st.mine) := hg 131 (by simp)
        have HBZ := Lib.hid z.bel
        have h7 := HK6.out.next z.bel
        generalize z.wd = Y7 at *
        obtain ⟨A7, c7, e7, _, _, _⟩ := own_rd h131
        rw [e7] at h131
        have ho7 : OwnS Y7 (g + 1) (.slice A7 (aloN st.mine) c7) (aloN st.mine) (aloL st.mine) := own_base_leF h131 HLTK.out
        have h8 := h7.setV (by decide) HOK.out.pl HOK.out.ml (.slice A7 (aloN st.mine) c7) _ _ ho7
        have HB7 := Lib.hid (fun i (hi : (Value.slice A7 (aloN st.mine) c7).ownBlock = some i) => own_base h131 i hi)
        have hcv7 := h7.cv
        have hf7 := (h7.there 66 1 (by decide) 0 (by decide)).2
        have H8 := Lib.hid h8
        have HO8 := Lib.hid ((Only.of_below HBZ.out).setCell (S := fun i => i = g) (p := ⟨g, 66, none⟩) (fun _ => rfl) (.slice A7 (aloN st.mine) c7))
        simp only [fill, Act.put, List.setIfInBounds_toArray, List.set_cons_succ, List.set_cons_zero]
        rw [e7]
        generalize gg 128 = x128 at *
        generalize gg 129 = x129 at *
        generalize gg 130 = x130 at *
        clear hg h131 h7 h8 ho7 k0 e7
        go_wp2_with fail
        go_ret
        refine ⟨by rw [HKT.out]; exact congrArg (fun o => Ending.returned (.bool o)) HOPF.out.symm, _, (by rw [HKT.out]; exact H8.out), ?_, ?_⟩
        · exact (HBY.out.trans ((Only.of_below HY6.out).mono (fun i hi h => h))).then_ HO8.out (fun i hi h => .inl h)
        · exact .inr fun i hi => Nat.le_trans HBY.out.size (Nat.le_trans HY6.out.size (HB7.out i hi))
end Go.Proofs.YtdbfikcpaionbaaDoor
/- Contract: the document's keeper is offered a share, which is laid in. -/
namespace Go.Proofs.YtdbfikcpaionbaaDoor
open Go.RowKit
set_option linter.unusedVariables false
set_option linter.unusedSimpArgs false
set_option maxRecDepth 100000 in
set_option maxHeartbeats 8000000 in
theorem roffer_nz (w : World) (g : Nat) (st : Kst) (v : Value) (s : List Nat) (hs : s.length = 33) (hsl : ∀ c ∈ s, c < 256) (hn : st.n ≤ 800) (hok : KOK st) (h : KAt w g 44 100 st v) (hop : st.o = false) (hg0 : 0 < g) (hnz : s.getD 0 0 ≠ 0) :
    Calls Tryd.prog 15 #[.pointer (some ⟨g, 0, none⟩), .agg (vb s)] w (RRet w g (kTry (kIns st s)) v) := by
  obtain ⟨st2, hst2⟩ : ∃ st2, st2 = kIns st s := ⟨_, rfl⟩
  rw [← hst2]
  have HSTI := Lib.hid hst2
  clear hst2
  have HOPF := Lib.hid hop
  have hzb : Below w.heap.size w (w.alloc (Obj.cells (vb s) 31)) := (Below.refl _ _).alloc (Nat.le_refl _) _
  have h1 := h.next hzb
  have hco := h1.co
  rw [hop] at hco
  have hct := h1.ct
  have hcv := h1.cv
  obtain ⟨x, hx⟩ : ∃ x, x = s.getD 0 0 := ⟨_, rfl⟩
  have hx256 : x < 256 := by rw [hx]; exact getD_lt hsl 0
  have hsb : Blk (w.alloc (Obj.cells (vb s) 31)) w.heap.size 31 (vb s) := Blk.new w _ _
  have hcx : (w.alloc (Obj.cells (vb s) 31)).cell? ⟨w.heap.size, 0, none⟩ = some (.int .u8 x) := by rw [hx]; exact (hsb.cell 0).trans (vb_atF s 0 (by omega))
  obtain ⟨A, c, rfl, hc1, hc2, hrd⟩ := own_rd h1.own
  have HAT := Lib.hid (fun (hn0 : 0 < st.n) => (show RdS (w.alloc (Obj.cells (vb s) 31)) _ A st.n st.L from ⟨hok.r.len, hrd⟩).open_ hn0)
  have hc2' : (c : Int) ≤ 9223372036854775807 := by simp only [maxLen] at hc2; omega
  have H1 := Lib.hid h1
  have HZB := Lib.hid hzb
  have HSB := Lib.hid hsb
  have HOK := Lib.hid hok
  have HX := Lib.hid hx
  have HRD := Lib.hid hrd
  have HCC := Lib.hid (And.intro hc1 hc2)
  have hx0 : x ≠ 0 := by rw [hx]; exact hnz
  have HX0 := Lib.hid hx0
  clear hnz hx0
  clear h h1 hzb hsb hop hx hrd hok
  go_enter Tryd.func15, Tryd.ntmps15
  go_upto_region 1 with (refine Go.Great.wpList_boxTo rfl 31 (.tmp 1) rfl (some 3) rfl w.heap.size rfl (vb s) rfl ?_)
  generalize w.alloc (Obj.cells (vb s) 31) = Z at *
  have HW0 := Lib.hid HSB.out.lt
  go_wp2_with fail
  go_loopw [5, 6, 7] (fun a b i wr => ∃ j q : Nat, j ≤ st.n ∧ a = .int .i64 (posX st.L x j : Nat) ∧ b = .bool (hasV st.L x j) ∧ i = .int .i64 j ∧ wr = Z.drewN q) (fun _ _ i _ => st.n - (intOf i).toNat)
  case atStart => exact ⟨0, 0, Nat.zero_le _, rfl, rfl, rfl, rfl⟩
  case round =>
    obtain ⟨j, q, hj, rfl, rfl, rfl, rfl⟩ := hrel
    by_cases hlt : j < st.n
    · have q1 : (j : Int) < (st.n : Int) := by omega
      obtain ⟨ad, rfl, had, hat⟩ := HAT.out (by omega)
      have cj : Z.cell? (ad.add (j * 33)) = some (.int .u8 (shX st.L j : Nat)) := hat.x HOK.out.r.len hlt
      have hxj := shX_lt HOK.out.r.lt j
      have HPS := Lib.hid (show posX st.L x (j + 1) = if shX st.L j < x then j + 1 else posX st.L x j from rfl)
      have HHS := Lib.hid (show hasV st.L x (j + 1) = (hasV st.L x j || (shX st.L j == x)) from rfl)
      clear hat
      generalize shX st.L j = y at *
      generalize hasV st.L x j = hv at *
      generalize posX st.L x j = px at *
      have HCS := Lib.hid (Nat.lt_trichotomy y x)
      cases hv
      all_goals
        rcases HCS.out with hc | hc | hc
        · have t1 : decide ((y : Int) < (x : Int)) = true := decide_eq_true (by omega)
          have t2 : ((y : Int) == (x : Int)) = false := beq_eq_false_iff_ne.2 (by omega)
          have e1 : posX st.L x (j + 1) = j + 1 := by rw [HPS.out, if_pos hc]
          have e2 := HHS.out
          rw [beq_eq_false_iff_ne.2 (show y ≠ x by omega)] at e2
          have E1 := Lib.hid e1
          have E2 := Lib.hid e2
          clear e1 e2
          go_upto_region 7 with fail
          refine wp_region_class (fun z => Z.drewN z) (by kernel_rfl) (by kernel_rfl) ⟨q + 1, rfl⟩ ?_
          repeat (go_big_quiet_step (fail))
          refine wpQuiet_nil ?_
          rintro _ ⟨q, rfl⟩
          go_upto_region 8 with fail
          refine wp_region_class (fun z => Z.drewN z) (by kernel_rfl) (by kernel_rfl) ⟨q + 1, rfl⟩ ?_
          repeat (go_big_quiet_step (fail))
          refine wpQuiet_nil ?_
          rintro _ ⟨q, rfl⟩
          go_wp2_with fail
          go_roundw
          case rel => exact ⟨j + 1, q, by omega, by rw [E1.out]; go_num, by rw [E2.out]; rfl, by go_num, rfl⟩
          case measure => simp [intOf]; omega
        · have t1 : decide ((y : Int) < (x : Int)) = false := decide_eq_false (by omega)
          have t2 : ((y : Int) == (x : Int)) = true := by rw [hc]; simp
          have e1 : posX st.L x (j + 1) = px := by rw [HPS.out, if_neg (by omega)]
          have e2 := HHS.out
          rw [show (y == x) = true by rw [hc]; simp] at e2
          have E1 := Lib.hid e1
          have E2 := Lib.hid e2
          have n1 : ¬ y < x := by omega
          clear hc e1 e2
          go_upto_region 7 with fail
          refine wp_region_class (fun z => Z.drewN z) (by kernel_rfl) (by kernel_rfl) ⟨q + 1, rfl⟩ ?_
          repeat (go_big_quiet_step (fail))
          refine wpQuiet_nil ?_
          rintro _ ⟨q, rfl⟩
          go_upto_region 8 with fail
          refine wp_region_class (fun z => Z.drewN z) (by kernel_rfl) (by kernel_rfl) ⟨q + 1, rfl⟩ ?_
          repeat (go_big_quiet_step (fail))
          refine wpQuiet_nil ?_
          rintro _ ⟨q, rfl⟩
          go_wp2_with fail
          go_roundw
          case rel => exact ⟨j + 1, q, by omega, by rw [E1.out], by rw [E2.out]; rfl, by go_num, rfl⟩
          case measure => simp [intOf]; omega
        · have t1 : decide ((y : Int) < (x : Int)) = false := decide_eq_false (by omega)
          have t2 : ((y : Int) == (x : Int)) = false := beq_eq_false_iff_ne.2 (by omega)
          have e1 : posX st.L x (j + 1) = px := by rw [HPS.out, if_neg (by omega)]
          have e2 := HHS.out
          rw [beq_eq_false_iff_ne.2 (show y ≠ x by omega)] at e2
          have E1 := Lib.hid e1
          have E2 := Lib.hid e2
          have n1 : ¬ y < x := by omega
          clear hc e1 e2
          go_upto_region 7 with fail
          refine wp_region_class (fun z => Z.drewN z) (by kernel_rfl) (by kernel_rfl) ⟨q + 1, rfl⟩ ?_
          repeat (go_big_quiet_step (fail))
          refine wpQuiet_nil ?_
          rintro _ ⟨q, rfl⟩
          go_upto_region 8 with fail
          refine wp_region_class (fun z => Z.drewN z) (by kernel_rfl) (by kernel_rfl) ⟨q + 1, rfl⟩ ?_
          repeat (go_big_quiet_step (fail))
          refine wpQuiet_nil ?_
          rintro _ ⟨q, rfl⟩
          go_wp2_with fail
          go_roundw
          case rel => exact ⟨j + 1, q, by omega, by rw [E1.out], by rw [E2.out]; rfl, by go_num, rfl⟩
          case measure => simp [intOf]; omega
    · obtain rfl : j = st.n := by omega
      have q1 : ¬ (st.n : Int) < (st.n : Int) := by omega
      have HKY := Lib.hid (H1.out.next (belowDrewN q (Below.refl Z.heap.size Z)))
      have HBY := Lib.hid (((Only.of_below (S := fun i => i = g ∨ (Value.slice A st.n c).ownBlock = some i) HZB.out)).drewN q)
      have HFY := Lib.hid (show KFr w (.slice A st.n c) (.slice A st.n c) from .inl rfl)
      have hcx2 : (Z.drewN q).cell? ⟨w.heap.size, 0, none⟩ = some (.int .u8 x) := hcx
      clear hcx
      have HSBQ := Lib.hid (show Blk (Z.drewN q) w.heap.size 31 (vb s) from HSB.out)
      generalize Z.drewN q = Y at *
      have hx0 := HX0.out
      have hgt : (x : Int) > 0 := by omega
      obtain ⟨hv, hhv⟩ : ∃ hv, hv = hasV st.L x st.n := ⟨_, rfl⟩
      rw [← hhv]
      have HHV := Lib.hid hhv
      clear hhv
      obtain ⟨k, hk⟩ : ∃ k, k = posX st.L x st.n := ⟨_, rfl⟩
      rw [← hk]
      have hkn : k ≤ st.n := by rw [hk]; exact posX_le _ _ _
      have HKX := Lib.hid hk
      clear hk
      have HS2 := Lib.hid (show st2 = if hv = false then { st with n := st.n + 1, L := insL st.L k s } else st by
        rw [HSTI.out, HKX.out, HHV.out, HX.out]
        unfold kIns
        by_cases h : hasV st.L (s.getD 0 0) st.n = false
        · rw [if_pos h, if_pos ⟨by rw [← HX.out]; exact hx0, h⟩]
        · rw [if_neg h, if_neg (fun hc => h hc.2)])
      have HSBY := Lib.hid (show Blk Y w.heap.size 31 (vb s) from HSBQ.out)
      have hcvY := HKY.out.cv
      go_upto_if 56 with fail
      go_cut [5, 7, 8, 14, 18, 19] from 57 to 80 (fun a5 a7 a8 a14 a18 a19 wx => (a5 = .int .i64 k ∧ a7 = .int .i64 st.n ∧ a14 = .int .i64 st.n ∧ a18 = .slice A st.n c ∧ a19 = .int .i64 st.n) ∧ ∃ A2 c2, KAt wx g 44 100 st2 (.slice A2 st2.n c2) ∧ Only (fun i => i = g ∨ (Value.slice A st.n c).ownBlock = some i) w wx ∧ KFr w (.slice A st.n c) (.slice A2 st2.n c2))
      case first =>
        cases hv
        · have hs2 := HS2.out
          rw [if_pos rfl] at hs2
          have HS3 := Lib.hid hs2
          clear hs2
          obtain ⟨i0, hi0, hi1, hi2, hi3⟩ := info_parts shInfo
          have HI := Lib.hid (And.intro hi0 (And.intro hi1 (And.intro hi2 hi3)))
          clear hi0 hi1 hi2 hi3
          have hLn := HOK.out.r.len
          have hl1 : (byt (st.L.take (k * 33))).length = k * 33 := by rw [byt_len, List.length_take, hLn]; omega
          have hl2 : (byt (st.L.drop (k * 33))).length = (st.n - k) * 33 := by rw [byt_len, List.length_drop, hLn]; omega
          have HL1 := Lib.hid hl1
          have HL2 := Lib.hid hl2
          have HVS := Lib.hid (show (vb s).size = 33 by rw [vb_size, hs])
          have HSS := Lib.hid (share_size s hs)
          have HSL := Lib.hid (show (byt s).length = 1 * 33 by rw [byt_len, hs])
          have hown := HKY.out.own
          obtain ⟨Aq, cq, eq, hq1, hq2, hrq⟩ := own_rd hown
          injection eq with eq1 _ eq3
          subst eq1
          subst eq3
          have HRT := Lib.hid (show Rd Y Y.heap.size A (byt (st.L.take (k * 33))) from fun hne => by
            have hne2 : byt st.L ≠ [] := fun h0 => hne (by simp only [byt, List.map_eq_nil_iff] at h0; rw [h0]; simp [byt])
            obtain ⟨ad, e, hb1, hc⟩ := hrq hne2
            refine ⟨ad, e, hb1, fun j u hu => hc j u ?_⟩
            simp only [byt, List.map_take] at hu ⊢
            have hj : j < k * 33 := by
              rcases Nat.lt_or_ge j (k * 33) with h3 | h3
              · exact h3
              · rw [List.getElem?_eq_none (by rw [List.length_take]; omega)] at hu; cases hu
            rwa [List.getElem?_take_of_lt hj] at hu)
          have hA : A = none ∨ ∃ b, A = some ⟨b, 0, none⟩ := by
            rcases hown.2 with ⟨h, _⟩ | ⟨g', _, _, h, _⟩
            · injection h with h; exact .inl h
            · injection h with h; exact .inr ⟨g', h⟩
          have hA0 : A = none → st.n = 0 ∧ c = 0 := by
            intro hA
            rcases hown.2 with ⟨h, _⟩ | ⟨g', _, _, h, _⟩
            · injection h with _ h1 h2; exact ⟨h1, h2⟩
            · injection h with h; rw [hA] at h; cases h
          have HRD2 := Lib.hid (fun (b : Nat) (hb : A = some ⟨b, 0, none⟩) => (show Rd Y Y.heap.size (some ⟨b, k * 33, none⟩) (byt (st.L.drop (k * 33))) from fun hne => by
            have hne2 : byt st.L ≠ [] := fun h0 => hne (by simp only [byt, List.map_eq_nil_iff] at h0; rw [h0]; simp [byt])
            obtain ⟨ad, e, hb1, hc⟩ := hrq hne2
            rw [hb] at e
            injection e with e
            subst e
            refine ⟨_, rfl, hb1, fun j u hu => ?_⟩
            rw [Addr.add_mid]
            have h := hc (k * 33 + j) u (by simp only [byt, List.map_drop, List.getElem?_drop] at hu ⊢; exact hu)
            rwa [Addr.add_mid, Nat.zero_add] at h))
          have HE0 := Lib.hid (show (Y.alloc (.cells #[] 31)).ownsRow Y.heap.size 31 33 (.slice (some ⟨Y.heap.size, 0, none⟩) 0 0) 0 [] from own_row (l := []) (cur := #[]) (Nat.le_refl _) (heapNew Y _) rfl (Nat.le_refl _) (by decide) rfl [] rfl)
          have HRT0 := Lib.hid (show Rd (Y.alloc (.cells #[] 31)) Y.heap.size A (byt (st.L.take (k * 33))) from HRT.out.below ((Below.refl _ _).alloc (Nat.le_refl _) _))
          have HB0 := Lib.hid (show Below Y.heap.size Y (Y.alloc (.cells #[] 31)) from (Below.refl _ _).alloc (Nat.le_refl _) _)
          have HWY := Lib.hid HSBY.out.lt
          have hcv0 := (HKY.out.next HB0.out).cv
          clear hrq hq1 hq2 hl1 hl2 hLn
          have hkn2 : (k : Int) ≤ (st.n : Int) := by omega
          have hkc : (k : Int) ≤ (c : Int) := by omega
          rcases hA with rfl | ⟨b, rfl⟩
          · obtain ⟨hn0, hc0⟩ := hA0 rfl
            have hk0 : k = 0 := by omega
            clear hA0 hown
            subst hk0
            subst hc0
            have HN0 := Lib.hid hn0
            rw [hn0] at hcv0 hcvY ⊢
            clear hn0
            go_wp2_with (first
              | (at_builtin; go_loud (refine wpList_app _ rfl (.tmp 57) (.tmp 63) _ rfl Y.heap.size 31 i0 (.agg z33) 33 33 Tryd.underlying38 HI.out.1 HI.out.2.1 HI.out.2.2.1 HI.out.2.2.2 rfl (by decide) (.slice (some ⟨Y.heap.size, 0, none⟩) 0 0) 0 [] rfl HE0.out Y.heap.size _ 0 _ (byt (st.L.take (0 * 33))) rfl HL1.out HRT0.out (byt_one _) (by omega) (by omega) HB0.out.size ?_; intro v1 w1 hap1; have hb1 := HB0.out.trans (hap1.below HE0.out HB0.out.size); have ho1 := hap1.own; rw [List.nil_append, Nat.zero_add] at ho1; have HO1 := Lib.hid (own_alloc ho1 (.cells (vb s) 31)); have HB1 := Lib.hid (hb1.alloc hb1.size (.cells (vb s) 31)); have HS1 := Lib.hid (HSBY.out.below hb1 HWY.out); have HR1 := Lib.hid (show Rd (w1.alloc (.cells (vb s) 31)) (w1.heap.size + 1) (some ⟨w1.heap.size, 0, none⟩) (byt s) from rd_new _ _ _ _); clear hap1 hb1 ho1))
              | (refine wpList_load_row rfl 31 (.tmp 3) rfl w.heap.size rfl 31 (vb s) (0, 0) _ HS1.out Tryd.underlying31 rfl HSS.out ?_)
              | (refine wpList_buildOne rfl 38 31 (.tmp 66) rfl (vb s) rfl i0 (.agg z33) 33 Tryd.underlying38 HI.out.1 HI.out.2.1 HI.out.2.2.1 HVS.out (by decide) (by decide) ?_)
              | (at_builtin; go_loud (refine wpList_app _ rfl (.tmp 65) (.tmp 67) _ rfl Y.heap.size 31 i0 (.agg z33) 33 33 Tryd.underlying38 HI.out.1 HI.out.2.1 HI.out.2.2.1 HI.out.2.2.2 rfl (by decide) v1 0 (byt (st.L.take (0 * 33))) rfl HO1.out _ _ 1 1 (byt s) rfl HSL.out HR1.out (byt_one _) (by omega) (by omega) HB1.out.size ?_; intro v2 w2 hap2; have hb2 := HB1.out.trans (hap2.below HO1.out HB1.out.size); have HO2 := Lib.hid hap2.own; have HB2 := Lib.hid hb2; have hcv2 := (HKY.out.next hb2).cv; clear hap2 hb2))
              | (at_builtin; go_loud (refine wpList_app _ rfl (.tmp 70) (.tmp 76) _ rfl Y.heap.size 31 i0 (.agg z33) 33 33 Tryd.underlying38 HI.out.1 HI.out.2.1 HI.out.2.2.1 HI.out.2.2.2 rfl (by decide) v2 (0 + 1) (byt (st.L.take (0 * 33)) ++ byt s) rfl HO2.out Y.heap.size _ 0 _ (byt (st.L.drop (0 * 33))) rfl (by rw [HL2.out, HN0.out]) (show Rd w2 Y.heap.size _ (byt (st.L.drop (0 * 33))) from fun hne => absurd (List.eq_nil_of_length_eq_zero (by rw [HL2.out, HN0.out])) hne) (byt_one _) (by omega) (by omega) HB2.out.size ?_; intro v3 w3 hap3; have hb3 := HB2.out.trans (hap3.below HO2.out HB2.out.size); have ho3 := hap3.own; rw [byt_app, byt_app, show 0 + 1 + 0 = st.n + 1 by rw [HN0.out]] at ho3; obtain ⟨A3, c3, rfl, _, _, _⟩ := own_rd ho3; have h3 := HKY.out.next hb3; have hcv3 := h3.cv; have hf3 := (h3.there 66 1 (by decide) 0 (by decide)).2; have H3 := Lib.hid (h3.setV (by decide) HOK.out.pl HOK.out.ml (.slice A3 (st.n + 1) c3) (st.n + 1) (insL st.L 0 s) (own_base_leF ho3 HKY.out.lt)); have HF3 := Lib.hid (fun b (hb : (Value.slice A3 (st.n + 1) c3).ownBlock = some b) => own_base ho3 b hb); have HB3 := Lib.hid hb3; clear hap3 hb3 ho3 h3)))
            go_meet
            refine ⟨⟨rfl, (by rw [HN0.out]; rfl), (by rw [HN0.out]; rfl), (by rw [HN0.out]), (by rw [HN0.out]; rfl)⟩, A3, c3, ?_⟩
            rw [HS3.out]
            refine ⟨H3.out, ?_, .inr fun b hb => Nat.le_trans HBY.out.size (HF3.out b hb)⟩
            exact (HBY.out.trans ((Only.of_below HB3.out).mono (fun i hi h => h))).setCell (p := ⟨g, 66, none⟩) (fun _ => .inl rfl) _

          · clear hA0 hown
            by_cases hck : c = k
            · have hnk : st.n = k := by have := HCC.out.1; omega
              subst hck
              have HNK := Lib.hid hnk
              clear hnk
              go_wp2_with (first
                | (at_builtin; go_loud (refine wpList_app _ rfl (.tmp 57) (.tmp 63) _ rfl Y.heap.size 31 i0 (.agg z33) 33 33 Tryd.underlying38 HI.out.1 HI.out.2.1 HI.out.2.2.1 HI.out.2.2.2 rfl (by decide) (.slice (some ⟨Y.heap.size, 0, none⟩) 0 0) 0 [] rfl HE0.out Y.heap.size _ c _ (byt (st.L.take (c * 33))) rfl HL1.out HRT0.out (byt_one _) (by omega) (by omega) HB0.out.size ?_; intro v1 w1 hap1; have hb1 := HB0.out.trans (hap1.below HE0.out HB0.out.size); have ho1 := hap1.own; rw [List.nil_append, Nat.zero_add] at ho1; have HO1 := Lib.hid (own_alloc ho1 (.cells (vb s) 31)); have HB1 := Lib.hid (hb1.alloc hb1.size (.cells (vb s) 31)); have HS1 := Lib.hid (HSBY.out.below hb1 HWY.out); have HR1 := Lib.hid (show Rd (w1.alloc (.cells (vb s) 31)) (w1.heap.size + 1) (some ⟨w1.heap.size, 0, none⟩) (byt s) from rd_new _ _ _ _); clear hap1 hb1 ho1))
                | (refine wpList_load_row rfl 31 (.tmp 3) rfl w.heap.size rfl 31 (vb s) (0, 0) _ HS1.out Tryd.underlying31 rfl HSS.out ?_)
                | (refine wpList_buildOne rfl 38 31 (.tmp 66) rfl (vb s) rfl i0 (.agg z33) 33 Tryd.underlying38 HI.out.1 HI.out.2.1 HI.out.2.2.1 HVS.out (by decide) (by decide) ?_)
                | (at_builtin; go_loud (refine wpList_app _ rfl (.tmp 65) (.tmp 67) _ rfl Y.heap.size 31 i0 (.agg z33) 33 33 Tryd.underlying38 HI.out.1 HI.out.2.1 HI.out.2.2.1 HI.out.2.2.2 rfl (by decide) v1 c (byt (st.L.take (c * 33))) rfl HO1.out _ _ 1 1 (byt s) rfl HSL.out HR1.out (byt_one _) (by omega) (by omega) HB1.out.size ?_; intro v2 w2 hap2; have hb2 := HB1.out.trans (hap2.below HO1.out HB1.out.size); have HO2 := Lib.hid hap2.own; have HB2 := Lib.hid hb2; have hcv2 := (HKY.out.next hb2).cv; clear hap2 hb2))
                | (at_builtin; go_loud (refine wpList_app _ rfl (.tmp 70) (.tmp 76) _ rfl Y.heap.size 31 i0 (.agg z33) 33 33 Tryd.underlying38 HI.out.1 HI.out.2.1 HI.out.2.2.1 HI.out.2.2.2 rfl (by decide) v2 (c + 1) (byt (st.L.take (c * 33)) ++ byt s) rfl HO2.out Y.heap.size _ 0 _ (byt (st.L.drop (c * 33))) rfl (by rw [HL2.out, HNK.out, Nat.sub_self]) (show Rd w2 Y.heap.size _ (byt (st.L.drop (c * 33))) from fun hne => absurd (List.eq_nil_of_length_eq_zero (by rw [HL2.out, HNK.out, Nat.sub_self, Nat.zero_mul])) hne) (byt_one _) (by omega) (by omega) HB2.out.size ?_; intro v3 w3 hap3; have hb3 := HB2.out.trans (hap3.below HO2.out HB2.out.size); have ho3 := hap3.own; rw [byt_app, byt_app, show c + 1 + 0 = st.n + 1 by rw [HNK.out]] at ho3; obtain ⟨A3, c3, rfl, _, _, _⟩ := own_rd ho3; have h3 := HKY.out.next hb3; have hcv3 := h3.cv; have hf3 := (h3.there 66 1 (by decide) 0 (by decide)).2; have H3 := Lib.hid (h3.setV (by decide) HOK.out.pl HOK.out.ml (.slice A3 (st.n + 1) c3) (st.n + 1) (insL st.L c s) (own_base_leF ho3 HKY.out.lt)); have HF3 := Lib.hid (fun b (hb : (Value.slice A3 (st.n + 1) c3).ownBlock = some b) => own_base ho3 b hb); have HB3 := Lib.hid hb3; clear hap3 hb3 ho3 h3)))
              go_meet
              refine ⟨⟨rfl, rfl, rfl, rfl, rfl⟩, A3, c3, ?_⟩
              rw [HS3.out]
              refine ⟨H3.out, ?_, .inr fun b hb => Nat.le_trans HBY.out.size (HF3.out b hb)⟩
              exact (HBY.out.trans ((Only.of_below HB3.out).mono (fun i hi h => h))).setCell (p := ⟨g, 66, none⟩) (fun _ => .inl rfl) _

            · have hck2 : ¬ k = c := fun h => hck h.symm
              go_wp2_with (first
                | (at_builtin; go_loud (refine wpList_app _ rfl (.tmp 57) (.tmp 63) _ rfl Y.heap.size 31 i0 (.agg z33) 33 33 Tryd.underlying38 HI.out.1 HI.out.2.1 HI.out.2.2.1 HI.out.2.2.2 rfl (by decide) (.slice (some ⟨Y.heap.size, 0, none⟩) 0 0) 0 [] rfl HE0.out Y.heap.size _ k _ (byt (st.L.take (k * 33))) rfl HL1.out HRT0.out (byt_one _) (by omega) (by omega) HB0.out.size ?_; intro v1 w1 hap1; have hb1 := HB0.out.trans (hap1.below HE0.out HB0.out.size); have ho1 := hap1.own; rw [List.nil_append, Nat.zero_add] at ho1; have HO1 := Lib.hid (own_alloc ho1 (.cells (vb s) 31)); have HB1 := Lib.hid (hb1.alloc hb1.size (.cells (vb s) 31)); have HS1 := Lib.hid (HSBY.out.below hb1 HWY.out); have HR1 := Lib.hid (show Rd (w1.alloc (.cells (vb s) 31)) (w1.heap.size + 1) (some ⟨w1.heap.size, 0, none⟩) (byt s) from rd_new _ _ _ _); clear hap1 hb1 ho1))
                | (refine wpList_load_row rfl 31 (.tmp 3) rfl w.heap.size rfl 31 (vb s) (0, 0) _ HS1.out Tryd.underlying31 rfl HSS.out ?_)
                | (refine wpList_buildOne rfl 38 31 (.tmp 66) rfl (vb s) rfl i0 (.agg z33) 33 Tryd.underlying38 HI.out.1 HI.out.2.1 HI.out.2.2.1 HVS.out (by decide) (by decide) ?_)
                | (at_builtin; go_loud (refine wpList_app _ rfl (.tmp 65) (.tmp 67) _ rfl Y.heap.size 31 i0 (.agg z33) 33 33 Tryd.underlying38 HI.out.1 HI.out.2.1 HI.out.2.2.1 HI.out.2.2.2 rfl (by decide) v1 k (byt (st.L.take (k * 33))) rfl HO1.out _ _ 1 1 (byt s) rfl HSL.out HR1.out (byt_one _) (by omega) (by omega) HB1.out.size ?_; intro v2 w2 hap2; have hb2 := HB1.out.trans (hap2.below HO1.out HB1.out.size); have HO2 := Lib.hid hap2.own; have HB2 := Lib.hid hb2; have hcv2 := (HKY.out.next hb2).cv; clear hap2 hb2))
                | (at_builtin; go_loud (refine wpList_app _ rfl (.tmp 70) (.tmp 76) _ rfl Y.heap.size 31 i0 (.agg z33) 33 33 Tryd.underlying38 HI.out.1 HI.out.2.1 HI.out.2.2.1 HI.out.2.2.2 rfl (by decide) v2 (k + 1) (byt (st.L.take (k * 33)) ++ byt s) rfl HO2.out Y.heap.size _ (st.n - k) _ (byt (st.L.drop (k * 33))) rfl HL2.out (HRD2.out b rfl |>.below HB2.out) (byt_one _) (by omega) (by omega) HB2.out.size ?_; intro v3 w3 hap3; have hb3 := HB2.out.trans (hap3.below HO2.out HB2.out.size); have ho3 := hap3.own; rw [byt_app, byt_app, show k + 1 + (st.n - k) = st.n + 1 by omega] at ho3; obtain ⟨A3, c3, rfl, _, _, _⟩ := own_rd ho3; have h3 := HKY.out.next hb3; have hcv3 := h3.cv; have hf3 := (h3.there 66 1 (by decide) 0 (by decide)).2; have H3 := Lib.hid (h3.setV (by decide) HOK.out.pl HOK.out.ml (.slice A3 (st.n + 1) c3) (st.n + 1) (insL st.L k s) (own_base_leF ho3 HKY.out.lt)); have HF3 := Lib.hid (fun b (hb : (Value.slice A3 (st.n + 1) c3).ownBlock = some b) => own_base ho3 b hb); have HB3 := Lib.hid hb3; clear hap3 hb3 ho3 h3)))
              go_meet
              refine ⟨⟨rfl, rfl, rfl, rfl, rfl⟩, A3, c3, ?_⟩
              rw [HS3.out]
              refine ⟨H3.out, ?_, .inr fun b hb => Nat.le_trans HBY.out.size (HF3.out b hb)⟩
              exact (HBY.out.trans ((Only.of_below HB3.out).mono (fun i hi h => h))).setCell (p := ⟨g, 66, none⟩) (fun _ => .inl rfl) _

        · have hs2 := HS2.out
          rw [if_neg (by decide)] at hs2
          have HS3 := Lib.hid hs2
          clear hs2
          go_wp2_with fail
          go_meet
          refine ⟨⟨rfl, rfl, rfl, rfl, rfl⟩, A, c, ?_⟩
          rw [HS3.out]
          exact ⟨HKY.out, HBY.out, HFY.out⟩
      case rest =>
        obtain ⟨⟨rfl, rfl, rfl, rfl, rfl⟩, A2, c2, hk2, ho2, hf2⟩ := hcut
        have HOK2 := Lib.hid (show KOK st2 by rw [HSTI.out]; exact kIns_ok HOK.out hs hsl)
        have hn2 : st2.n ≤ 900 := by
          have h := (kIns_t st s).2.2.2.2.2
          rw [← HSTI.out] at h
          omega
        have HOPF2 := Lib.hid (show st2.o = false by rw [HSTI.out, (kIns_t st s).2.2.2.2.1]; exact HOPF.out)
        clear HKY HBY HFY HOPF
        have HKY := Lib.hid hk2
        have HBY := Lib.hid ho2
        have HFY := Lib.hid hf2
        have HOPF := HOPF2
        clear hk2 ho2 hf2 HS2
        rename World => Y0
        have hct2 := HKY.out.ct
        have hcv2 := HKY.out.cv
        have ht0 := HOK2.out.t0
        have ht1 := HOK2.out.t1
        clear hct hcv hco
        by_cases hc1 : st2.t < 1
        · have t1 : decide (st2.t < 1) = true := decide_eq_true hc1
          have HC1 := Lib.hid hc1
          have hkt : kTry st2 = st2 := by unfold kTry; rw [if_pos (.inl hc1)]
          have HKT := Lib.hid hkt
          clear hc1 hkt ht0 ht1
          go_upto_region 14 with fail
          refine wp_region_class (fun z => Y0.drewN z) (by kernel_rfl) (by kernel_rfl) ⟨1, rfl⟩ ?_
          repeat (go_big_quiet_step (fail))
          refine wpQuiet_nil ?_
          rintro _ ⟨q3, rfl⟩
          go_wp2_with fail
          go_ret
          refine ⟨by rw [HKT.out, HOPF.out]; rfl, .slice A2 st2.n c2, (by rw [HKT.out]; exact HKY.out.next (belowDrewN q3 (Below.refl _ _))), HBY.out.drewN q3, HFY.out⟩
        have t1 : decide (st2.t < 1) = false := decide_eq_false hc1
        by_cases hc2 : (st2.n : Int) < st2.t
        · have t2 : decide ((st2.n : Int) < st2.t) = true := decide_eq_true hc2
          have hkt : kTry st2 = st2 := by unfold kTry; rw [if_pos (.inr hc2)]
          have HKT := Lib.hid hkt
          clear hc1 hkt hc2 ht0 ht1
          go_upto_region 14 with fail
          refine wp_region_class (fun z => Y0.drewN z) (by kernel_rfl) (by kernel_rfl) ⟨1, rfl⟩ ?_
          repeat (go_big_quiet_step (fail))
          refine wpQuiet_nil ?_
          rintro _ ⟨q3, rfl⟩
          go_wp2_with fail
          go_ret
          refine ⟨by rw [HKT.out, HOPF.out]; rfl, .slice A2 st2.n c2, (by rw [HKT.out]; exact HKY.out.next (belowDrewN q3 (Below.refl _ _))), HBY.out.drewN q3, HFY.out⟩
        have t2 : decide ((st2.n : Int) < st2.t) = false := decide_eq_false hc2
        obtain ⟨T, hT⟩ : ∃ T : Nat, st2.t = (T : Int) := ⟨st2.t.toNat, by omega⟩
        have hT1 : 1 ≤ T := by omega
        have hT2 : T ≤ st2.n := by omega
        have hkt : kTry st2 = if prfL (kCom st2.L T) = st2.p then { st2 with m := kCom st2.L T, o := true } else kAlone st2 := by
          unfold kTry
          rw [if_neg (by omega), show st2.t.toNat = T by omega]
          rfl
        rw [hT] at t1 t2 hct2
        have HKT0 := Lib.hid hkt
        have HTT := Lib.hid hT
        have hrt := HOK2.out.r.take hT2
        have hown := HKY.out.own
        obtain ⟨A2', c2', e2', hcc1, hcc2, hrd2⟩ := own_rd hown
        injection e2' with e2a e2b e2c
        subst e2a
        subst e2c
        have hcm : (T : Int) ≤ (c2 : Int) := by omega
        have hcm2 : (c2 : Int) ≤ 9223372036854775807 := by simp only [maxLen] at hcc2; omega
        obtain ⟨ad2, hA2, had2, hat2⟩ := (show RdS Y0 Y0.heap.size A2 st2.n st2.L from ⟨HOK2.out.r.len, hrd2⟩).open_ (by omega)
        subst hA2
        have hatT : AtA Y0 ad2 (byt (st2.L.take (T * 33))) := fun j u hu => by
          refine hat2 j u ?_
          simp only [byt, List.map_take] at hu ⊢
          have hj : j < T * 33 := by
            rcases Nat.lt_or_ge j (T * 33) with h3 | h3
            · exact h3
            · rw [List.getElem?_eq_none (by rw [List.length_take]; omega)] at hu; cases hu
          rwa [List.getElem?_take_of_lt hj] at hu
        have HCB := Lib.hid (fun W (hb : Below Y0.heap.size Y0 W) => rcombine_c T c2 ad2 (st2.L.take (T * 33)) W hT1 (by omega) (by omega) (by omega) hrt.len hrt.lt (Nat.lt_of_lt_of_le had2 hb.size) (hatT.below hb had2) hrt.plc)
        rw [show cmbTo (st2.L.take (T * 33)) T T 0 = kCom st2.L T from rfl] at HCB
        have hCl := kCom_len st2.L T
        have hCb := kCom_lt st2.L T
        obtain ⟨C, hC⟩ : ∃ C, C = kCom st2.L T := ⟨_, rfl⟩
        rw [← hC] at HCB hCl hCb HKT0
        have HCL := Lib.hid hCl
        have HCbb := Lib.hid hCb
        have zf := zero_arr
        have zn := z32_size
        have ze := z32_ne
        clear hkt hT hrt hown hcc1 hcc2 hrd2 had2 hat2 hatT hC hCl hCb hc1 hc2 ht0 ht1
        go_upto_region 14 with fail
        refine wp_region_class (fun z => Y0.drewN z) (by kernel_rfl) (by kernel_rfl) ⟨1, rfl⟩ ?_
        repeat (go_big_quiet_step (fail))
        refine wpQuiet_nil ?_
        rintro _ ⟨q3, rfl⟩
        go_upto_region 16 with fail
        have hyb : Below Y0.heap.size Y0 (Y0.drewN q3) := belowDrewN q3 (Below.refl _ _)
        have HY3 := Lib.hid hyb
        have k0 := cell_ext ((HKY.out.next hyb).ct)
        have k1 := cell_ext ((HKY.out.next hyb).cv)
        rw [HTT.out] at k0
        clear hyb hct2 hcv2
        generalize Y0.drewN q3 = Y3 at *
        refine wp_region_loudTail 11 Y3 [9] (fun _ u W => ∃ b, u = .pointer (some ⟨b, 0, none⟩) ∧ Blk W b 22 z32 ∧ Y3.heap.size ≤ b) (by kernel_rfl) (by kernel_rfl) (by kernel_rfl) (by kernel_rfl) (fun k u w1 w2 h hb => by
          obtain ⟨b, h1, h2, h3⟩ := h
          exact ⟨b, h1, h2.below hb h2.lt, h3⟩) (Below.refl _ _).drew ?_
        repeat (first
          | (refine wpLoud_nilK (.tmp 97) rfl ⟨g, 0, none⟩ rfl rfl rfl _ (by simp only [Act.put, List.setIfInBounds_toArray, List.set_cons_succ, List.set_cons_zero]; rfl) ?_)
          | (refine wpLoud_nilK (.tmp 101) rfl ⟨g, 0, none⟩ rfl rfl rfl _ (by simp only [Act.put, List.setIfInBounds_toArray, List.set_cons_succ, List.set_cons_zero]; rfl) ?_)
          | (refine wpLoud_make rfl (fun _ _ h => by cases h) rfl 9 rfl rfl (fun y => ⟨_, _, op_alloc rfl zf ze, (Below.refl _ _).alloc (Nat.le_refl _) _, ⟨_, rfl, Blk.new _ _ _, y.bel.size⟩⟩) _ (by simp only [Act.put, List.setIfInBounds_toArray, List.set_cons_succ, List.set_cons_zero]; rfl) ?_)
          | (refine wpLoud_call 106 rfl [] (.agg (vb C)) 26 (fun g => #[.slice (some ad2) T c2]) rfl (fun _ _ h => by cases h) rfl (fun g w => by kernel_rfl) (fun g y hg => by
              refine (HCB.out y.wd (HY3.out.trans (y.bel.mono HY3.out.size))).mono ?_
              rintro e w' ⟨rfl, hb⟩
              exact ⟨_, rfl, hb, rfl⟩) _ (by simp only [Act.put, List.setIfInBounds_toArray, List.set_cons_succ, List.set_cons_zero]; rfl) ?_)
          | (refine wpLoud_plain rfl rfl rfl ?_; intro K hK; go_big_quiet_op; go_big_quiet_on))
        refine wpLoud_end [9] (by rfl) ?_
        intro gg z hg
        obtain ⟨b, g9, hblk, hle⟩ := hg 9 (by simp)
        have hzb5 := z.bel
        generalize z.wd = Y4 at *
        simp only [fill, Act.put, List.setIfInBounds_toArray, List.set_cons_succ, List.set_cons_zero]
        rw [g9]
        clear hg g9 k0 k1
        have HBK := Lib.hid (show Blk (Y4.setRow b (vb C)) b 22 (vb C) from setRow_heap _ _ z32 _ 22 (0, 0) hblk)
        have hY5 : Below Y0.heap.size Y0 (Y4.setRow b (vb C)) := Below.setRow (HY3.out.trans (hzb5.mono HY3.out.size)) (Nat.le_trans HY3.out.size hle) _
        have HK5 := Lib.hid (HKY.out.next hY5)
        have HY5 := Lib.hid hY5
        have HBL := Lib.hid hblk
        have HASZ := Lib.hid (show (Tryd.prog.info? 22).map (·.size) = some (vb C).size by rw [vb_size, HCL.out]; kernel_rfl)
        clear hblk hle hzb5 hY5 HCB zf zn ze HY3
        go_upto_region 17 with (first
          | (refine wpList_store_rowTo rfl 22 (.tmp 9) (.tmp 106) rfl rfl b (vb C) rfl rfl 22 z32 HBL.out HASZ.out (by rw [vb_size, HCL.out]; rfl) (vb_one _) ?_))
        generalize Y4.setRow b (vb C) = Y5 at *
        have HPR := Lib.hid (fun W => rproof_c C W HCL.out HCbb.out)
        have HPB := Lib.hid (prfL_lt C)
        have HPL := Lib.hid (prfL_len C)
        have HPE := Lib.hid (Classical.em (prfL C = st2.p))
        have HSM := Lib.hid (fun W A1 c1 (hr : Rd W W.heap.size A1 (byt (prfL C))) (hr2 : Rd W W.heap.size (some ⟨g, 1, none⟩) (byt st2.p)) => same_c W.heap.size W.heap.size A1 (some ⟨g, 1, none⟩) c1 32 (prfL C) st2.p W (prfL_lt C) HOK2.out.pb hr hr2 (by rw [prfL_len]; decide) (by rw [HOK2.out.pl]; decide))
        rw [prfL_len, HOK2.out.pl] at HSM
        have HRP := Lib.hid (fun (W : World) (hb : Below Y5.heap.size Y5 W) => (show Rd W W.heap.size (some ⟨g, 1, none⟩) (byt st2.p) from fun _ => ⟨_, rfl, Nat.lt_of_lt_of_le HK5.out.lt hb.size, fun j u hu => by rw [Addr.add_mid]; exact (HK5.out.next hb).rp j u hu⟩))
        have HKSL := Lib.hid (show (Tryd.prog.info? 22).map (·.size) = some (vb C).toList.length by rw [Array.length_toList]; exact HASZ.out)
        generalize prfL C = PC at *
        have HBQ := Lib.hid (show (PC == st2.p) = decide (PC = st2.p) by by_cases h : PC = st2.p <;> simp [h])
        obtain ⟨bq, hbq⟩ : ∃ bq, bq = (PC == st2.p) := ⟨_, rfl⟩
        rw [← hbq] at HSM HBQ
        have HBE := Lib.hid hbq
        clear hbq
        refine wp_region_loud Y5 [108] (fun _ u W => OwnB W Y5.heap.size u PC) (by kernel_rfl) (by kernel_rfl) (by kernel_rfl) (by kernel_rfl) (fun k u w1 w2 h hb => OwnB.next h hb) (Below.refl _ _).drew ?_
        repeat (first
          | (refine wpLoud_nilK (.tmp 109) rfl ⟨g, 0, none⟩ rfl rfl rfl _ (by simp only [Act.put, List.setIfInBounds_toArray, List.set_cons_succ, List.set_cons_zero]; rfl) ?_)
          | (refine wpLoud_loadB rfl rfl 22 (.tmp 9) rfl b 0 rfl (vb C) _ (fun z => rangeAt_blk (HBK.out.below z.bel HBK.out.lt)) Tryd.underlying22 rfl HKSL.out _ (by simp only [Act.put, List.setIfInBounds_toArray, List.set_cons_succ, List.set_cons_zero]; rfl) ?_)
          | (refine wpLoud_call 108 rfl [] tok 18 (fun g => #[.agg (vb C)]) rfl (fun _ _ h => by cases h) rfl (fun g w => by kernel_rfl) (fun g y hg => by
              refine (HPR.out y.wd).mono ?_
              rintro e w' ⟨u, rfl, ho, hb⟩
              exact ⟨u, rfl, hb, own_base_le ho y.bel.size⟩) _ (by simp only [Act.put, List.setIfInBounds_toArray, List.set_cons_succ, List.set_cons_zero]; rfl) ?_)
          | (refine wpLoud_call 113 rfl [108] (.bool bq) 27 (fun l => #[l 108, .slice (some ⟨g, 1, none⟩) 32 32]) rfl (fun _ _ h => by cases h) rfl (fun g w => by kernel_rfl) (fun l y hg => by
              have h108 : OwnB y.wd Y5.heap.size (l 108) PC := hg 108 (by simp)
              obtain ⟨A3, c3, e3, _, _, r3⟩ := h108.rd
              show Calls _ _ #[l 108, _] _ _
              rw [e3, HPL.out]
              refine (HSM.out y.wd A3 c3 r3 (HRP.out y.wd y.bel)).mono ?_
              rintro e w' ⟨rfl, q, rfl⟩
              exact ⟨_, rfl, belowDrewN q (Below.refl _ _), rfl⟩) _ (by simp only [Act.put, List.setIfInBounds_toArray, List.set_cons_succ, List.set_cons_zero]; rfl) ?_)
          | (refine wpLoud_plain rfl rfl rfl ?_; intro K hK; go_big_quiet_op; go_big_quiet_on))
        refine wpLoud_end [108] (by rfl) ?_
        intro gg z hg
        have HK6 := Lib.hid (HK5.out.next z.bel)
        have HBK6 := Lib.hid (HBK.out.below z.bel HBK.out.lt)
        have HY6 := Lib.hid (HY5.out.trans (z.bel.mono HY5.out.size))
        generalize z.wd = Y6 at *
        simp only [fill, Act.put, List.setIfInBounds_toArray, List.set_cons_succ, List.set_cons_zero]
        generalize gg 108 = x108 at *
        clear hg HK5 HBK HY5 HSM HRP HPR
        rcases HPE.out with he | he
        · have hbt : bq = true := by rw [HBE.out, he]; exact beq_self_eq_true _
          subst hbt
          have hkt := HKT0.out
          rw [if_pos he] at hkt
          have HKT := Lib.hid hkt
          clear he hkt
          have hts : Y6.there g 67 (vb C).size := by rw [vb_size, HCL.out]; exact HK6.out.there 67 32 (by decide)
          have hM := HK6.out.setM (by decide) HOK2.out.pl HOK2.out.ml C HCL.out
          have hMO := hM.setO (by decide) HOK2.out.pl HOK2.out.ml HCL.out true
          have hco := hM.co
          have hfo := (hM.there 99 1 (by decide) 0 (by decide)).2
          have HTS := Lib.hid hts
          have HMO := Lib.hid hMO
          have HON := Lib.hid ((only_setCellsG g (byt C) 67 Y6 Y6 (Only.refl _ Y6)).setCell (p := ⟨g, 99, none⟩) (fun _ => rfl) (.bool true))
          clear hts hM hMO
          go_wp2_with (first
            | (refine wpList_load_row rfl 22 (.tmp 9) rfl b rfl 22 (vb C) (0, 0) _ HBK6.out Tryd.underlying22 rfl HASZ.out ?_)
            | (refine wpList_store_mid rfl 22 (.tmp 137) (.tmp 135) rfl g 67 (vb C) rfl rfl HTS.out HASZ.out (vb_one _) ?_; rw [show (vb C).toList = byt C from rfl]))
          go_ret
          refine ⟨by rw [HKT.out]; rfl, .slice (some ad2) st2.n c2, (by rw [HKT.out]; exact HMO.out), ?_, HFY.out⟩
          exact (HBY.out.trans (Only.of_below HY6.out |>.mono (fun i hi h => h))).then_ HON.out (fun i hi h => .inl h)
        · have hbt : bq = false := by rw [HBE.out]; exact beq_eq_false_iff_ne.2 he
          subst hbt
          have hkt := HKT0.out
          rw [if_neg he] at hkt
          have HKT := Lib.hid hkt
          clear he hkt
          have k0 := cell_ext (HK6.out.ct)
          have HNW := Lib.hid (fun W => rnew_c st2.t st2.p st2.mine W HOK2.out.pl HOK2.out.pb HOK2.out.ml HOK2.out.mb HOK2.out.t0 HOK2.out.t1)
          have HPSL := Lib.hid (show (Tryd.prog.info? 28).map (·.size) = some (vb st2.p).toList.length by rw [Array.length_toList]; exact sum_sz HOK2.out.pl)
          have HMSL := Lib.hid (show (Tryd.prog.info? 31).map (·.size) = some (vb st2.mine).toList.length by rw [Array.length_toList]; exact share_size st2.mine HOK2.out.ml)
          have HLTK := Lib.hid HK6.out.lt
          go_upto_region 18 with fail
          refine wp_region_loudTail 17 Y6 [128, 129, 130, 131] (fun k u W => if k = 131 then OwnS W Y6.heap.size u (aloN st2.mine) (aloL st2.mine) else ∃ g' v', u = .pointer (some ⟨g', if k = 130 then 66 else 0, none⟩) ∧ KAt W g' 44 100 (kNew st2.t st2.p st2.mine) v' ∧ Y6.heap.size ≤ g') (by kernel_rfl) (by kernel_rfl) (by kernel_rfl) (by kernel_rfl) (fun k u w1 w2 h hb => by
            by_cases hk : k = 131
            · rw [if_pos hk] at h ⊢; exact own_keep (S := fun _ => False) h (Only.of_below hb) (fun _ _ h => h)
            · rw [if_neg hk] at h ⊢
              obtain ⟨g', v', h1, h2, h3⟩ := h
              exact ⟨g', v', h1, h2.next hb, h3⟩) (Below.refl _ _).drew ?_
          repeat (first
            | (refine wpLoud_nilK (.tmp 116) rfl ⟨g, 0, none⟩ rfl rfl rfl _ (by simp only [Act.put, List.setIfInBounds_toArray, List.set_cons_succ, List.set_cons_zero]; rfl) ?_)
            | (refine wpLoud_nilK (.tmp 120) rfl ⟨g, 0, none⟩ rfl rfl rfl _ (by simp only [Act.put, List.setIfInBounds_toArray, List.set_cons_succ, List.set_cons_zero]; rfl) ?_)
            | (refine wpLoud_nilK (.tmp 124) rfl ⟨g, 0, none⟩ rfl rfl rfl _ (by simp only [Act.put, List.setIfInBounds_toArray, List.set_cons_succ, List.set_cons_zero]; rfl) ?_)
            | (refine wpLoud_loadB rfl rfl 28 (.tmp 122) rfl g 1 rfl (vb st2.p) _ (fun z => (HK6.out.next z.bel).rp) Tryd.underlying28 rfl HPSL.out _ (by simp only [Act.put, List.setIfInBounds_toArray, List.set_cons_succ, List.set_cons_zero]; rfl) ?_)
            | (refine wpLoud_loadB rfl rfl 31 (.tmp 126) rfl g 33 rfl (vb st2.mine) _ (fun z => (HK6.out.next z.bel).rm) Tryd.underlying31 rfl HMSL.out _ (by simp only [Act.put, List.setIfInBounds_toArray, List.set_cons_succ, List.set_cons_zero]; rfl) ?_)
            | (refine wpLoud_call 128 rfl [] tok 14 (fun l => #[.int .i64 st2.t, .agg (vb st2.p), .agg (vb st2.mine)]) rfl (fun _ _ h => by cases h) rfl (fun g w => by kernel_rfl) (fun l y hg => by
                refine (HNW.out y.wd).mono ?_
                rintro e w' ⟨g', v', rfl, hg', hk', hb, _⟩
                exact ⟨_, rfl, hb, ⟨g', v', rfl, hk', Nat.le_trans y.bel.size hg'⟩⟩) _ (by simp only [Act.put, List.setIfInBounds_toArray, List.set_cons_succ, List.set_cons_zero]; rfl) ?_)
            | (refine wpLoud_makeG 129 rfl rfl [128] rfl (fun _ _ h => by cases h) rfl (fun l y h => by
                obtain ⟨g', v', h1, h2, h3⟩ : ∃ g' v', l 128 = .pointer (some ⟨g', 0, none⟩) ∧ KAt y.wd g' 44 100 (kNew st2.t st2.p st2.mine) v' ∧ Y6.heap.size ≤ g' := h 128 (by simp)
                exact ⟨_, y.wd, run_nilO (.tmp 128) rfl ⟨g', 0, none⟩ h1, Below.refl _ _, ⟨g', v', rfl, h2, h3⟩⟩) _ (by simp only [Act.put, List.setIfInBounds_toArray, List.set_cons_succ, List.set_cons_zero]; rfl) ?_)
            | (refine wpLoud_makeG 130 rfl rfl [129] rfl (fun _ _ h => by cases h) rfl (fun l y h => by
                obtain ⟨g', v', h1, h2, h3⟩ : ∃ g' v', l 129 = .pointer (some ⟨g', 0, none⟩) ∧ KAt y.wd g' 44 100 (kNew st2.t st2.p st2.mine) v' ∧ Y6.heap.size ≤ g' := h 129 (by simp)
                exact ⟨_, y.wd, run_fa66 _ _ (.tmp 129) rfl g' h1, Below.refl _ _, ⟨g', v', rfl, h2, h3⟩⟩) _ (by simp only [Act.put, List.setIfInBounds_toArray, List.set_cons_succ, List.set_cons_zero]; rfl) ?_)
            | (refine wpLoud_makeG 131 rfl rfl [130] rfl (fun _ _ h => by cases h) rfl (fun l y h => by
                obtain ⟨g', v', h1, h2, h3⟩ : ∃ g' v', l 130 = .pointer (some ⟨g', 66, none⟩) ∧ KAt y.wd g' 44 100 (kNew st2.t st2.p st2.mine) v' ∧ Y6.heap.size ≤ g' := h 130 (by simp)
                exact ⟨v', y.wd, run_loadO rfl h1 (run_load_slice y.wd _ _ h2.cv), Below.refl _ _, own_base_leF h2.own (Nat.le_succ_of_le h3)⟩) _ (by simp only [Act.put, List.setIfInBounds_toArray, List.set_cons_succ, List.set_cons_zero]; rfl) ?_)
            | (refine wpLoud_plain rfl rfl rfl ?_; intro K hK; go_big_quiet_op; go_big_quiet_on))
          refine wpLoud_end [131] (by rfl) ?_
          intro gg z hg
          have h131 : OwnS z.wd Y6.heap.size (gg 131) (aloN st2.mine) (aloL st2.mine) := hg 131 (by simp)
          have HBZ := Lib.hid z.bel
          have h7 := HK6.out.next z.bel
          generalize z.wd = Y7 at *
          obtain ⟨A7, c7, e7, _, _, _⟩ := own_rd h131
          rw [e7] at h131
          have ho7 : OwnS Y7 (g + 1) (.slice A7 (aloN st2.mine) c7) (aloN st2.mine) (aloL st2.mine) := own_base_leF h131 HLTK.out
          have h8 := h7.setV (by decide) HOK2.out.pl HOK2.out.ml (.slice A7 (aloN st2.mine) c7) _ _ ho7
          have HB7 := Lib.hid (fun i (hi : (Value.slice A7 (aloN st2.mine) c7).ownBlock = some i) => own_base h131 i hi)
          have hcv7 := h7.cv
          have hf7 := (h7.there 66 1 (by decide) 0 (by decide)).2
          have H8 := Lib.hid h8
          have HO8 := Lib.hid ((Only.of_below HBZ.out).setCell (S := fun i => i = g) (p := ⟨g, 66, none⟩) (fun _ => rfl) (.slice A7 (aloN st2.mine) c7))
          simp only [fill, Act.put, List.setIfInBounds_toArray, List.set_cons_succ, List.set_cons_zero]
          rw [e7]
          generalize gg 128 = x128 at *
          generalize gg 129 = x129 at *
          generalize gg 130 = x130 at *
          clear hg h131 h7 h8 ho7 k0 e7
          go_wp2_with fail
          go_ret
          refine ⟨by rw [HKT.out]; exact congrArg (fun o => Ending.returned (.bool o)) HOPF.out.symm, _, (by rw [HKT.out]; exact H8.out), ?_, ?_⟩
          · exact (HBY.out.trans ((Only.of_below HY6.out).mono (fun i hi h => h))).then_ HO8.out (fun i hi h => .inl h)
          · exact .inr fun i hi => Nat.le_trans HBY.out.size (Nat.le_trans HY6.out.size (HB7.out i hi))
end Go.Proofs.YtdbfikcpaionbaaDoor
/- Contracts: the document's Offer in all; the document's example. -/
namespace Go.Proofs.YtdbfikcpaionbaaDoor
open Go.RowKit
set_option linter.unusedVariables false
set_option linter.unusedSimpArgs false
theorem roffer_c (w : World) (g : Nat) (st : Kst) (v : Value) (s : List Nat) (hs : s.length = 33) (hsl : ∀ c ∈ s, c < 256) (hn : st.n ≤ 800) (hok : KOK st) (h : KAt w g 44 100 st v) (hg0 : 0 < g) :
    Calls Tryd.prog 15 #[.pointer (some ⟨g, 0, none⟩), .agg (vb s)] w (RRet w g (kOffer st s) v) := by
  unfold kOffer
  cases ho : st.o with
  | true => rw [if_pos rfl]; exact roffer_open w g st v s hok h ho
  | false =>
    rw [if_neg (by decide)]
    by_cases h0 : s.getD 0 0 = 0
    · have hk : kIns st s = st := by unfold kIns; rw [if_neg (fun hc => hc.1 h0)]
      rw [hk]
      exact roffer_z w g st v s hs hsl hn hok h ho hg0 h0
    · exact roffer_nz w g st v s hs hsl hn hok h ho hg0 h0
end Go.Proofs.YtdbfikcpaionbaaDoor
/- Contract: the document's example of layer 30. -/
namespace Go.Proofs.YtdbfikcpaionbaaDoor
open Go.RowKit
set_option linter.unusedVariables false
set_option linter.unusedSimpArgs false
def aM : List Nat := 4 :: List.replicate 31 0
def aS : List Nat := 3 :: aM
def aN : List Nat := 9 :: List.replicate 32 0
theorem aCom : kCom (insL aS 1 aN) 1 = aM := by decide +kernel
set_option maxRecDepth 100000 in
theorem aSt : kOffer (kNew 1 (prfL aM) aS) aN = ⟨1, prfL aM, aS, 2, insL aS 1 aN, aM, true⟩ := by
  have h1 : kNew 1 (prfL aM) aS = ⟨1, prfL aM, aS, 1, aS, z32L, false⟩ := rfl
  have h2 : kIns ⟨1, prfL aM, aS, 1, aS, z32L, false⟩ aN = ⟨1, prfL aM, aS, 2, insL aS 1 aN, z32L, false⟩ := by
    unfold kIns
    rw [if_pos ⟨by decide, by decide⟩]
    rfl
  rw [h1]
  unfold kOffer
  rw [if_neg (by decide), h2]
  unfold kTry
  rw [if_neg (by show ¬ ((1 : Int) < 1 ∨ ((2 : Nat) : Int) < 1); omega)]
  have h3 : kCom (insL aS 1 aN) (1 : Int).toNat = aM := aCom
  simp only [h3, if_true]
set_option maxRecDepth 100000 in
set_option maxHeartbeats 4000000 in
theorem awake30_c (w : World) (hR : RoundsAt w) : Calls Tryd.prog 6 #[] w fun e w' => e = .returned (.bool true) ∧ Below w.heap.size w w' := by
  have zf := zero_key
  have zn := z32_size
  have ze := z32_ne
  have HBM := Lib.hid (show Tryd.prog.built 23 [(0, .int .u8 4)] = some (vb aM) by kernel_rfl)
  have HBS := Lib.hid (show Tryd.prog.built 31 [(0, .int .u8 3), (1, .agg (vb aM))] = some (vb aS) by kernel_rfl)
  have HBN := Lib.hid (show Tryd.prog.built 31 [(0, .int .u8 9)] = some (vb aN) by kernel_rfl)
  have HKM := Lib.hid (key_szL (l := aM) rfl)
  have HR0 := Lib.hid hR
  have hst := aSt
  have HP := Lib.hid (prfL_len aM)
  have HPb := Lib.hid (prfL_lt aM)
  have hkr : kmL ⟨1, prfL aM, aS, 2, insL aS 1 aN, aM, true⟩ = aM := rfl
  have hke : kmE ⟨1, prfL aM, aS, 2, insL aS 1 aN, aM, true⟩ = 0 := rfl
  have HKR := Lib.hid hkr
  have HKE := Lib.hid hke
  have hok : KOK (kNew 1 (prfL aM) aS) := kNew_ok HP.out HPb.out rfl (by decide) (by decide) (by decide)
  have hok2 := kOffer_ok hok (s := aN) rfl (by decide)
  rw [hst] at hok2
  have HOK2 := Lib.hid hok2
  have HOK := Lib.hid hok
  have HST := Lib.hid hst
  have HLP := Lib.hid (fun W => lproof_c aM W rfl (by decide))
  have HKP := Lib.hid (fun W hR => kproof_c aM W rfl (by decide) hR)
  have HNW := Lib.hid (fun W => knew_c 1 (prfL aM) aS W HP.out HPb.out rfl (by decide) (by decide) (by decide))
  clear hst hok hok2 hR hkr hke
  go_enter Tryd.func6, Tryd.ntmps6
  go_upto_region 2 with (first
    | (refine wpList_valK (.agg (vb aM)) (by exact run_builtK _ 23 [(0, .int .u8 4)] _ HBM.out _ rfl rfl) (by kernel_rfl) ?_)
    | (refine wpList_store_rowTo rfl 23 (.tmp 1) (.tmp 7) rfl rfl w.heap.size (vb aM) rfl rfl 23 z32 (by exact Blk.new w _ _) HKM.out rfl (vb_one _) ?_))
  have hz1 : Blk ((w.alloc (Obj.cells z32 23)).setRow w.heap.size (vb aM)) w.heap.size 23 (vb aM) := setRow_heap _ _ z32 _ 23 (0, 0) (Blk.new w _ _)
  have hzb : Below w.heap.size w ((w.alloc (Obj.cells z32 23)).setRow w.heap.size (vb aM)) := Below.setRow ((Below.refl _ _).alloc (Nat.le_refl _) _) (Nat.le_refl _) _
  generalize (w.alloc (Obj.cells z32 23)).setRow w.heap.size (vb aM) = Z at *
  have HZ1 := Lib.hid hz1
  have HZB := Lib.hid hzb
  have HKL := Lib.hid (show (Tryd.prog.info? 23).map (·.size) = some (vb aM).toList.length by rw [Array.length_toList]; exact HKM.out)
  clear hz1 hzb
  refine wp_region_loud Z [12, 2] (fun k u W => ∃ g v, u = .pointer (some ⟨g, 0, none⟩) ∧ KAt W g 48 101 (kNew 1 (prfL aM) aS) v ∧ Z.heap.size ≤ g) (by kernel_rfl) (by kernel_rfl) (by kernel_rfl) (by kernel_rfl) (fun k u w1 w2 h hb => by
    obtain ⟨g, v, h1, h2, h3⟩ := h
    exact ⟨g, v, h1, h2.next hb, h3⟩) (Below.refl _ _).drew ?_
  repeat (first
    | (refine wpLoud_loadB rfl rfl 23 (.tmp 1) rfl w.heap.size 0 rfl (vb aM) _ (fun z => rangeAt_blk (HZ1.out.below z.bel HZ1.out.lt)) Tryd.underlying23 rfl HKL.out _ (by simp only [Act.put, List.setIfInBounds_toArray, List.set_cons_succ, List.set_cons_zero]; rfl) ?_)
    | (refine wpLoud_call 9 rfl [] (.agg (vb (prfL aM))) 8 (fun l => #[.agg (vb aM)]) rfl (fun _ _ h => by cases h) rfl (fun g w => by kernel_rfl) (fun l y hg => by
        refine (HLP.out y.wd).mono ?_
        rintro e w' ⟨rfl, hb⟩
        exact ⟨_, rfl, hb, rfl⟩) _ (by simp only [Act.put, List.setIfInBounds_toArray, List.set_cons_succ, List.set_cons_zero]; rfl) ?_)
    | (refine wpLoud_val rfl rfl (fun _ _ h => by cases h) (.agg (vb aS)) (fun y => run_builtK y.wd 31 [(0, .int .u8 3), (1, .agg (vb aM))] _ HBS.out #[(0, .const (.int .u8 3)), (1, .tmp 10)] rfl (by kernel_rfl)) _ (by simp only [Act.put, List.setIfInBounds_toArray, List.set_cons_succ, List.set_cons_zero]; rfl) ?_)
    | (refine wpLoud_call 12 rfl [] tok 7 (fun l => #[.int .i64 1, .agg (vb (prfL aM)), .agg (vb aS)]) rfl (fun _ _ h => by cases h) rfl (fun g w => by kernel_rfl) (fun l y hg => by
        refine (HNW.out y.wd).mono ?_
        rintro e w' ⟨g, v, rfl, h1, h2, hb, _⟩
        exact ⟨_, rfl, hb, ⟨g, v, rfl, h2, Nat.le_trans y.bel.size h1⟩⟩) _ (by simp only [Act.put, List.setIfInBounds_toArray, List.set_cons_succ, List.set_cons_zero]; rfl) ?_)
    | (refine wpLoud_move rfl 12 2 (.inl rfl) rfl rfl rfl rfl (fun u w h => h) _ (by simp only [Act.put, List.setIfInBounds_toArray, List.set_cons_succ, List.set_cons_zero]; rfl) ?_)
    | (refine wpLoud_plain rfl rfl rfl ?_; intro K hK; go_big_quiet_op; go_big_quiet_on))
  refine wpLoud_end [2] (by rfl) ?_
  intro gg z hg
  obtain ⟨g, v, g2, hk2, hle⟩ := hg 2 (by simp)
  have HK2 := Lib.hid hk2
  have HB2 := Lib.hid (HZB.out.trans (z.bel.mono HZB.out.size))
  have HZ2 := Lib.hid (HZ1.out.below z.bel HZ1.out.lt)
  have HLE := Lib.hid hle
  have hco := hk2.co
  have HR2 := Lib.hid (HR0.out.next HB2.out)
  have hg0 : 0 < g := by have h := HR0.out.2; have h1 := HZB.out.size; omega
  have hgw : w.heap.size < g := by have h1 := HZ1.out.lt; omega
  generalize z.wd = W2 at *
  simp only [fill, Act.put, List.setIfInBounds_toArray, List.set_cons_succ, List.set_cons_zero]
  rw [g2]
  generalize gg 12 = x12 at *
  clear hg g2 hk2 hle HZB HZ1
  have HOF := Lib.hid (offer_c W2 g _ v aN rfl (by decide) (by show (1 : Nat) ≤ 800; decide) HOK.out HK2.out HR2.out hg0)
  rw [HST.out] at HOF
  have HOP := Lib.hid (kopen_c W2 g false hco)
  have HOW := Lib.hid (fun b (hb : v.ownBlock = some b) => own_base HK2.out.own b hb)
  go_upto_region 5 with (first
    | (go_at_call 10; (refine HOP.out.mono ?_); rintro e w3 ⟨rfl, rfl⟩)
    | (refine wpList_valK (.agg (vb aN)) (by exact run_builtK _ 31 [(0, .int .u8 9)] _ HBN.out _ rfl rfl) (by kernel_rfl) ?_)
    | (go_at_call 11; (refine HOF.out.mono ?_); rintro e w4 ⟨rfl, v4, hk4, ho4, _⟩; have HK4 := Lib.hid hk4; have HO4 := Lib.hid ho4; clear hk4 ho4))
  have hsg : ∀ j, (j = g ∨ v.ownBlock = some j) → w.heap.size < j := fun j hj => by
    rcases hj with h | h
    · omega
    · have := HOW.out j h; omega
  have HZ4 := Lib.hid (HZ2.out.keep HO4.out (fun h => by have := hsg _ h; omega))
  have HB4 := Lib.hid (HB2.out.trans (HO4.out.below (fun i hi => Nat.le_of_lt (hsg i hi)) HB2.out.size))
  have HMS := Lib.hid (master_c w4 g _ v4 HOK2.out HK4.out)
  rw [HKR.out, HKE.out] at HMS
  clear hsg HOF HOP
  go_upto_region 6 with (first
    | (go_at_call 12; (refine HMS.out.mono ?_); rintro e w5 ⟨rfl, hb5⟩; have HZ5 := Lib.hid (HZ4.out.below hb5 HZ4.out.lt); have HB5 := Lib.hid (HB4.out.trans (hb5.mono HB4.out.size)); clear hb5)
    | (refine wpList_store_rowTo rfl 23 (.tmp 5) (.tmp 21) rfl rfl w5.heap.size (vb aM) rfl rfl 23 z32 (by exact Blk.new w5 _ _) HKM.out rfl (vb_one _) ?_))
  have h61 : Blk ((w5.alloc (Obj.cells z32 23)).setRow w5.heap.size (vb aM)) w5.heap.size 23 (vb aM) := setRow_heap _ _ z32 _ 23 (0, 0) (Blk.new w5 _ _)
  have h6b : Below w5.heap.size w5 ((w5.alloc (Obj.cells z32 23)).setRow w5.heap.size (vb aM)) := Below.setRow ((Below.refl _ _).alloc (Nat.le_refl _) _) (Nat.le_refl _) _
  have HZ6 := Lib.hid (HZ5.out.below h6b HZ5.out.lt)
  have HB6 := Lib.hid (HB5.out.trans (h6b.mono HB5.out.size))
  have H61 := Lib.hid h61
  generalize (w5.alloc (Obj.cells z32 23)).setRow w5.heap.size (vb aM) = W6 at *
  generalize w5.heap.size = g6 at *
  have HR6 := Lib.hid (HR0.out.next HB6.out)
  clear h61 h6b
  have l3 : ∀ W, (Op.equalIn 10000 23 (.agg (vb aM)) (.agg (vb aM))).run Tryd.prog W = .ok true W := fun W => by
    have h := run_equalIn_barr (P := Tryd.prog) (T := 23) Tryd.underlying23 Tryd.underlying5 (by kernel_rfl) (by kernel_rfl) aM aM rfl rfl (by decide) (by decide) W
    rwa [beq_self_eq_true] at h
  have l4 : ∀ W, (Op.equalIn 10000 28 (.agg (vb (prfL aM))) (.agg (vb (prfL aM)))).run Tryd.prog W = .ok true W := fun W => by
    have h := run_equalIn_barr (P := Tryd.prog) (T := 28) Tryd.underlying28 Tryd.underlying5 (by kernel_rfl) (by kernel_rfl) (prfL aM) (prfL aM) HP.out HP.out HPb.out HPb.out W
    rwa [beq_self_eq_true] at h
  refine wp_region_loud W6 [] (fun k u W => True) (by kernel_rfl) (by kernel_rfl) (by kernel_rfl) (by kernel_rfl) (fun k u w1 w2 h hb => trivial) (Below.refl _ _).drew ?_
  repeat (first
    | (refine wpLoud_loadB rfl rfl 23 (.tmp 1) rfl w.heap.size 0 rfl (vb aM) _ (fun z => rangeAt_blk (HZ6.out.below z.bel HZ6.out.lt)) Tryd.underlying23 rfl HKL.out _ (by simp only [Act.put, List.setIfInBounds_toArray, List.set_cons_succ, List.set_cons_zero]; rfl) ?_)
    | (refine wpLoud_loadB rfl rfl 23 (.tmp 5) rfl g6 0 rfl (vb aM) _ (fun z => rangeAt_blk (H61.out.below z.bel H61.out.lt)) Tryd.underlying23 rfl HKL.out _ (by simp only [Act.put, List.setIfInBounds_toArray, List.set_cons_succ, List.set_cons_zero]; rfl) ?_)
    | (refine wpLoud_call 39 rfl [] (.agg (vb (prfL aM))) 13 (fun l => #[.agg (vb aM)]) rfl (fun _ _ h => by cases h) rfl (fun g w => by kernel_rfl) (fun l y hg => by
        refine (HKP.out y.wd (HR6.out.next y.bel)).mono ?_
        rintro e w' ⟨rfl, hb⟩
        exact ⟨_, rfl, hb, rfl⟩) _ (by simp only [Act.put, List.setIfInBounds_toArray, List.set_cons_succ, List.set_cons_zero]; rfl) ?_)
    | (refine wpLoud_call 41 rfl [] (.agg (vb (prfL aM))) 8 (fun l => #[.agg (vb aM)]) rfl (fun _ _ h => by cases h) rfl (fun g w => by kernel_rfl) (fun l y hg => by
        refine (HLP.out y.wd).mono ?_
        rintro e w' ⟨rfl, hb⟩
        exact ⟨_, rfl, hb, rfl⟩) _ (by simp only [Act.put, List.setIfInBounds_toArray, List.set_cons_succ, List.set_cons_zero]; rfl) ?_)
    | (refine wpLoud_plain rfl rfl rfl ?_; intro K hK; go_big_quiet_op; go_big_quiet_on))
  refine wpLoud_end [] (by rfl) ?_
  intro gg z hg
  have HB7 := Lib.hid (HB6.out.trans (z.bel.mono HB6.out.size))
  generalize z.wd = W7 at *
  simp only [fill, Act.put, List.setIfInBounds_toArray, List.set_cons_succ, List.set_cons_zero]
  go_wp2_with fail
  go_ret
  exact ⟨rfl, HB7.out⟩
end Go.Proofs.YtdbfikcpaionbaaDoor
/- Two keepers side by side. -/
namespace Go.Proofs.YtdbfikcpaionbaaDoor
open Go.RowKit
set_option linter.unusedVariables false
set_option linter.unusedSimpArgs false
structure PrK (w wr : World) (g1 g2 : Nat) (sa sb : Kst) (v1 v2 : Value) : Prop where
  a : KAt wr g1 48 101 sa v1
  b : KAt wr g2 44 100 sb v2
  bel : Below w.heap.size w wr
  l1 : w.heap.size ≤ g1
  l2 : w.heap.size ≤ g2
  n12 : g1 ≠ g2
  x1 : v1.ownBlock ≠ some g2
  x2 : v2.ownBlock ≠ some g1
  x3 : ∀ b, v1.ownBlock = some b → v2.ownBlock ≠ some b
theorem PrK.next {w wr w' : World} {g1 g2 : Nat} {sa sb : Kst} {v1 v2 : Value} (h : PrK w wr g1 g2 sa sb v1 v2) (hb : Below wr.heap.size wr w') : PrK w w' g1 g2 sa sb v1 v2 :=
  ⟨h.a.next hb, h.b.next hb, h.bel.trans (hb.mono h.bel.size), h.l1, h.l2, h.n12, h.x1, h.x2, h.x3⟩
theorem PrK.left {w wr w' : World} {g1 g2 : Nat} {sa sb sc : Kst} {v1 v2 : Value} (h : PrK w wr g1 g2 sa sb v1 v2) (hk : KGo wr g1 48 101 sc v1 w') : ∃ v, PrK w w' g1 g2 sc sb v v2 := by
  obtain ⟨v, k1, k2, k3⟩ := hk
  refine ⟨v, k1, h.b.keep k2 (fun hs => ?_) (fun b hb hs => ?_), h.bel.trans (k2.below (fun i hi => ?_) h.bel.size), h.l1, h.l2, h.n12, ?_, h.x2, fun b hb hv => ?_⟩
  · rcases hs with hs | hs
    · exact h.n12 hs.symm
    · exact h.x1 hs
  · rcases hs with hs | hs
    · exact h.x2 (hs ▸ hb)
    · exact h.x3 b hs hb
  · rcases hi with hi | hi
    · rw [hi]; exact h.l1
    · have := own_base h.a.own i hi; have := h.l1; omega
  · rcases k3 with k3 | k3
    · rw [k3]; exact h.x1
    · intro hv; have := k3 _ hv; have := h.b.lt; omega
  · rcases k3 with k3 | k3
    · exact h.x3 b (k3 ▸ hb) hv
    · have h1 := k3 _ hb; have h2 := own_lt h.b.own b hv; omega
theorem PrK.right {w wr w' : World} {g1 g2 : Nat} {sa sb sc : Kst} {v1 v2 : Value} (h : PrK w wr g1 g2 sa sb v1 v2) (hk : KGo wr g2 44 100 sc v2 w') : ∃ v, PrK w w' g1 g2 sa sc v1 v := by
  obtain ⟨v, k1, k2, k3⟩ := hk
  refine ⟨v, h.a.keep k2 (fun hs => ?_) (fun b hb hs => ?_), k1, h.bel.trans (k2.below (fun i hi => ?_) h.bel.size), h.l1, h.l2, h.n12, h.x1, ?_, fun b hb hv => ?_⟩
  · rcases hs with hs | hs
    · exact h.n12 hs
    · exact h.x2 hs
  · rcases hs with hs | hs
    · exact h.x1 (hs ▸ hb)
    · exact h.x3 b hb hs
  · rcases hi with hi | hi
    · rw [hi]; exact h.l2
    · have := own_base h.b.own i hi; have := h.l2; omega
  · rcases k3 with k3 | k3
    · rw [k3]; exact h.x2
    · intro hv; have := k3 _ hv; have := h.a.lt; omega
  · rcases k3 with k3 | k3
    · exact h.x3 b hb (k3 ▸ hv)
    · have h1 := k3 _ hv; have h2 := own_lt h.a.own b hb; omega
/-- the shares offered one behind the other -/
def kRun (st : Kst) (L : List Nat) : Nat → Kst
  | 0 => st
  | i + 1 => kOffer (kRun st L i) (shR L i)
theorem kRun_ok {st : Kst} (h : KOK st) {L : List Nat} {n : Nat} (hL : L.length = n * 33) (hl : ∀ c ∈ L, c < 256) : ∀ i, i ≤ n → KOK (kRun st L i)
  | 0, _ => h
  | i + 1, hi => kOffer_ok (kRun_ok h hL hl i (by omega)) (shR_len hL (by omega)) (shR_lt hl i)
theorem kRun_n (st : Kst) (L : List Nat) : ∀ i, (kRun st L i).n ≤ st.n + i
  | 0 => Nat.le_refl _
  | i + 1 => by
    have h1 := kOffer_n (kRun st L i) (shR L i)
    have h2 := kRun_n st L i
    show (kOffer (kRun st L i) (shR L i)).n ≤ _
    omega
section
variable {P : Program} {ops : Array Oper} {md : Region.Mode} {S S' : World → Prop} {Q : Exit → Act → World → Prop}
theorem wpOp_monoH {i : Nat} {K K' : Act → World → Prop} {a : Act} {w : World} (hk : ∀ a w, K a w → K' a w) (h : wpOp P ops Q i K a w) : wpOp P ops Q i K' a w := wpOp_mono hk h
/-- what holds behind each operation may be said more sharply from here on -/
theorem anyH_sharp : ∀ (fuel : Nat) (listed : Array Bool) (a : Act) (w : World), (∀ w, S' w → S w) → wpAnyH P md ops Q S' fuel listed a w → wpAnyH P md ops Q S fuel listed a w
  | 0, _, _, _, _, h => h
  | fuel + 1, listed, a, w, hs, h => ⟨h.1, fun i hi => wpOp_mono (fun a' w' h' => ⟨hs _ h'.1, anyH_sharp fuel _ a' w' hs h'.2⟩) (h.2 i hi)⟩
/-- a load of a row, first -/
theorem anyH_loadAt (i : Nat) {oi : Oper} {fuel : Nat} {listed : Array Bool} {a : Act} {w : World} (hi : ops[i]? = some oi) (hs : Region.noSelect ops = true) (hf : Region.free md ops listed i = true) (hr : (Region.ready md ops listed).contains i = true)
    (hQ : ∀ v c a w, Q (.panic c) (a.put oi.dst v) w → Q (.panic c) a w) (hw : Region.wanted oi (yielded ops a.tmps) = true) (ty : TypeId) (x : Operand) (ho : oi.op = .load ty x) (b : Addr) (hx : a.eval x = .pointer (some b)) (l : List Nat) (d : TypeDesc)
    (hc : ∀ w, S w → AtA w b (byt l)) (hu : P.underlying ty = some d) (hd : d.isRow = true) (hsz : (P.info? ty).map (·.size) = some (byt l).length) (hS : S w)
    (a' : Act) (ha : a.put oi.dst (.agg (vb l)) = a') (h : wpAnyH P md ops Q S fuel (listed.setIfInBounds i true) a' w) : wpAnyH P md ops Q S (fuel + 1) listed a w := by
  subst ha
  refine wpAnyH_take hi hs hf hr (hQ _) (.inl ⟨hw, fun w' hw' => ?_⟩) hS h
  unfold execOp
  simp only [ho, hx, Instr.loadAt, Instr.sureAddr, Sem.run_bind, Sem.run_pure, Result.andThen_ok, run_loadVar_at w' b ty (byt l) d (hc w' hw') hu hd hsz]
  rfl
end
end Go.Proofs.YtdbfikcpaionbaaDoor
/- ShamirBack: the plain side. -/
namespace Go.Proofs.YtdbfikcpaionbaaDoor
open Go.RowKit
set_option linter.unusedVariables false
/-- the places of the first m shares -/
def xsl (L : List Nat) (m : Nat) : List Nat := (List.range m).map (shX L)
theorem xsl_succ (L : List Nat) (m : Nat) : xsl L (m + 1) = xsl L m ++ [shX L m] := by simp [xsl, List.range_succ]
theorem xsl_len (L : List Nat) (m : Nat) : (xsl L m).length = m := by simp [xsl]
theorem xsl_at (L : List Nat) (m j : Nat) (h : j < m) : (xsl L m).getD j 0 = shX L j := by simp [xsl, List.getD_eq_getElem?_getD, h]
theorem wt_snoc (x y : Nat) : ∀ l : List Nat, wt x (l ++ [y]) = gm (wt x l) (qt x y)
  | [] => by
    show gm (qt x y) 1 = gm 1 (qt x y)
    exact gm_comm _ _ (qt_lt x y) (by omega)
  | a :: l => by
    show gm (qt x a) (wt x (l ++ [y])) = gm (gm (qt x a) (wt x l)) (qt x y)
    rw [wt_snoc x y l, gm_assoc _ _ _ (qt_lt x a) (wt_lt x l) (qt_lt x y)]
theorem wtl_wt (L : List Nat) (i : Nat) : ∀ m, wtl L i m = wt (shX L i) ((xsl L m).eraseIdx i)
  | 0 => rfl
  | m + 1 => by
    have ih := wtl_wt L i m
    rw [xsl_succ]
    unfold wtl
    by_cases h : m = i
    · rw [if_pos h, ih]
      subst h
      rw [List.eraseIdx_of_length_le (by rw [xsl_len]; exact Nat.le_refl _), List.eraseIdx_append_of_length_le (by rw [xsl_len]; exact Nat.le_refl _), xsl_len, Nat.sub_self]
      simp
    · rw [if_neg h, ih]
      rcases Nat.lt_or_ge i m with h1 | h1
      · rw [List.eraseIdx_append_of_lt_length (by rw [xsl_len]; exact h1), wt_snoc]
        rfl
      · rw [List.eraseIdx_of_length_le (by rw [xsl_len]; omega), List.eraseIdx_of_length_le (by rw [List.length_append, xsl_len]; simp; omega), wt_snoc]
        rfl
theorem sx_snoc (l : List Nat) (a : Nat) : sx (l ++ [a]) = sx l ^^^ a := by
  induction l with
  | nil => simp [sx]
  | cons b l ih => simp only [List.cons_append, sx, ih, Nat.xor_assoc]
theorem cmb_sx (L : List Nat) (n k : Nat) : ∀ j, cmb L n j k = sx ((List.range j).map fun i => gm (wtl L i n) (shY L i k))
  | 0 => rfl
  | j + 1 => by rw [List.range_succ, List.map_append, List.map_cons, List.map_nil, sx_snoc, ← cmb_sx L n k j]; rfl
theorem cmb_lag (L : List Nat) (n k : Nat) (f : Nat → Nat) (hf : ∀ x, f x < 256) (h : ∀ j, j < n → shY L j k = f (shX L j)) : cmb L n n k = lag f (xsl L n) := by
  rw [cmb_sx]
  unfold lag
  rw [xsl_len]
  refine sx_congr fun i hi => ?_
  have hi := List.mem_range.1 hi
  rw [xsl_at L n i hi, h i hi, wtl_wt, gm_comm _ _ (wt_lt _ _) (hf _)]
theorem lag_xor (f g : Nat → Nat) (l : List Nat) : lag (fun x => f x ^^^ g x) l = lag f l ^^^ lag g l := by
  unfold lag
  rw [← sx_map_xor]
  refine sx_congr fun i _ => ?_
  rw [gm_left]
theorem hv_zero (c : Nat) (l : List Nat) (hl : ∀ a ∈ l, a < 256) : hv 0 (c :: l) = c := by
  show gm (hv 0 l) 0 ^^^ c = c
  rw [gm_zero, Nat.zero_xor]
/-- refreshed so many times -/
def rep (L d : List Nat) (t n : Nat) : Nat → List Nat
  | 0 => L
  | r + 1 => rfL (rep L d t n r) d t n
/-- a value with so many times the shares of 0 added -/
def fx (s d e : List Nat) (t k : Nat) : Nat → Nat → Nat
  | 0, x => sy s d t x k
  | r + 1, x => fx s d e t k r x ^^^ sy zs32 e t x k
theorem fx_lt {s d e : List Nat} (hs : ∀ c ∈ s, c < 256) (hd : ∀ c ∈ d, c < 256) (he : ∀ c ∈ e, c < 256) (t k : Nat) : ∀ r x, fx s d e t k r x < 256
  | 0, x => sy_lt hs hd t x k
  | r + 1, x => xor_lt256 (fx_lt hs hd he t k r x) (sy_lt zs32_lt he t x k)
theorem lag_sy {s d : List Nat} (hs : ∀ c ∈ s, c < 256) (hd : ∀ c ∈ d, c < 256) (t k : Nat) (ht : 1 ≤ t) (l : List Nat) (hp : Places l) (hl : t ≤ l.length) : lag (fun x => sy s d t x k) l = s.getD k 0 := by
  have h := lagrange l hp (pl s d t k) (pl_lt hs hd t k) (by rw [pl_len]; unfold kcF; omega)
  refine Eq.trans h ?_
  unfold pl
  exact hv_zero _ _ (cf_lt hd k _)
theorem lag_fx {s d e : List Nat} (hs : ∀ c ∈ s, c < 256) (hd : ∀ c ∈ d, c < 256) (he : ∀ c ∈ e, c < 256) (t k : Nat) (hk : k < 32) (ht : 1 ≤ t) (l : List Nat) (hp : Places l) (hl : t ≤ l.length) : ∀ r, lag (fx s d e t k r) l = s.getD k 0
  | 0 => lag_sy hs hd t k ht l hp hl
  | r + 1 => by
    have h := lag_xor (fx s d e t k r) (fun x => sy zs32 e t x k) l
    refine Eq.trans h ?_
    rw [lag_fx hs hd he t k hk ht l hp hl r, lag_sy zs32_lt he t k ht l hp hl]
    have : zs32.getD k 0 = 0 := by unfold zs32; rw [List.getD_eq_getElem?_getD, List.getElem?_replicate, if_pos hk]; rfl
    rw [this, Nat.xor_zero]
theorem shf_x (s d : List Nat) (t n : Nat) {k : Nat} (hk : k < n) : shX (shf s d t n) k = k + 1 := by
  have h := shf_at s d t n k 0 hk (by omega)
  rw [Nat.add_zero] at h
  unfold shX
  rw [List.getD_eq_getElem?_getD, h]
  rfl
theorem shf_y (s d : List Nat) (t n : Nat) {k j : Nat} (hk : k < n) (hj : j < 32) : shY (shf s d t n) k j = sy s d t (k + 1) j := by
  have h := shf_at s d t n k (1 + j) hk (by omega)
  unfold shY
  rw [List.getD_eq_getElem?_getD, h, shr, Nat.add_comm 1 j, List.getElem?_cons_succ, ← List.getD_eq_getElem?_getD, sys_at s d t (k + 1) j hj]
theorem rep_x (s d e : List Nat) (t n : Nat) {k : Nat} (hk : k < n) : ∀ r, shX (rep (shf s d t n) e t n r) k = k + 1
  | 0 => shf_x s d t n hk
  | r + 1 => by rw [rep, rfL_x _ _ _ _ hk, rep_x s d e t n hk r]
theorem rep_y (s d e : List Nat) (t n : Nat) {k j : Nat} (hk : k < n) (hj : j < 32) : ∀ r, shY (rep (shf s d t n) e t n r) k j = fx s d e t j r (k + 1)
  | 0 => shf_y s d t n hk hj
  | r + 1 => by rw [rep, rfL_y _ _ _ _ hk hj, rep_y s d e t n hk hj r, rep_x s d e t n hk r]; rfl
theorem rep_len (s d e : List Nat) (t n : Nat) : ∀ r, (rep (shf s d t n) e t n r).length = n * 33
  | 0 => shf_len s d t n
  | r + 1 => rfL_len _ _ _ _
/-- the shares picked, from the place K on, round -/
def pkS (L : List Nat) (K n m : Nat) : List Nat := (List.range m).flatMap fun j => shR L ((K + j) % n)
theorem pkS_succ (L : List Nat) (K n m : Nat) : pkS L K n (m + 1) = pkS L K n m ++ shR L ((K + m) % n) := by simp [pkS, List.range_succ]
theorem pkS_len {L : List Nat} {n : Nat} (hL : L.length = n * 33) (hn : 0 < n) (K m : Nat) : (pkS L K n m).length = m * 33 := by
  induction m with
  | zero => rfl
  | succ m ih => rw [pkS_succ, List.length_append, ih, shR_len hL (Nat.mod_lt _ hn)]; omega
theorem pkS_at {L : List Nat} {n : Nat} (hL : L.length = n * 33) (hn : 0 < n) (K m : Nat) : ∀ k j, k < m → j < 33 → (pkS L K n m).getD (k * 33 + j) 0 = L.getD (((K + k) % n) * 33 + j) 0 := by
  induction m with
  | zero => intro k j h; omega
  | succ m ih =>
    intro k j h hj
    rw [pkS_succ]
    rcases Nat.lt_or_ge k m with h1 | h1
    · rw [List.getD_eq_getElem?_getD, List.getElem?_append_left (by rw [pkS_len hL hn]; omega), ← List.getD_eq_getElem?_getD]
      exact ih k j h1 hj
    · obtain rfl : k = m := by omega
      rw [List.getD_eq_getElem?_getD, List.getElem?_append_right (by rw [pkS_len hL hn]; omega), pkS_len hL hn, Nat.add_sub_cancel_left, ← List.getD_eq_getElem?_getD, shR_at _ _ _ hj]
theorem pkS_x {L : List Nat} {n : Nat} (hL : L.length = n * 33) (hn : 0 < n) (K m : Nat) {k : Nat} (hk : k < m) : shX (pkS L K n m) k = shX L ((K + k) % n) := by
  have h := pkS_at hL hn K m k 0 hk (by omega)
  exact h
theorem pkS_y {L : List Nat} {n : Nat} (hL : L.length = n * 33) (hn : 0 < n) (K m : Nat) {k j : Nat} (hk : k < m) (hj : j < 32) : shY (pkS L K n m) k j = shY L ((K + k) % n) j := by
  have h := pkS_at hL hn K m k (1 + j) hk (by omega)
  exact h
theorem mod_ne {K n a b : Nat} (hK : K < n) (ha : a < n) (hb : b < n) (h : a ≠ b) : (K + a) % n ≠ (K + b) % n := by
  have e : ∀ c, c < n → (K + c) % n = if K + c < n then K + c else K + c - n := by
    intro c hc
    split
    · exact Nat.mod_eq_of_lt (by omega)
    · rw [Nat.mod_eq_sub_mod (by omega), Nat.mod_eq_of_lt (by omega)]
  rw [e a ha, e b hb]
  split <;> split <;> omega
/-- **any t or more of a secret's shares, refreshed or not, in whatever order, come to it** -/
theorem back_eq (s d e : List Nat) (t n r K m : Nat) (hs : ∀ c ∈ s, c < 256) (hsl : s.length = 32) (hd : ∀ c ∈ d, c < 256) (he : ∀ c ∈ e, c < 256) (ht : 1 ≤ t) (hn : n ≤ 8) (hm : m ≤ n) (htm : t ≤ m) (hK : K < n) :
    comR (pkS (rep (shf s d t n) e t n r) K n m) m = s ∧ comE (pkS (rep (shf s d t n) e t n r) K n m) m = 0 := by
  have hn0 : 0 < n := by omega
  have hL := rep_len s d e t n r
  have hX : ∀ j, j < m → shX (pkS (rep (shf s d t n) e t n r) K n m) j = (K + j) % n + 1 := fun j hj => by
    rw [pkS_x hL hn0 K m hj, rep_x s d e t n (Nat.mod_lt _ hn0) r]
  have hmod : ∀ j, (K + j) % n < n := fun j => Nat.mod_lt _ hn0
  have hp0 : plc (pkS (rep (shf s d t n) e t n r) K n m) m = 0 := plc_ok (fun j hj => by rw [hX j hj]; omega) (fun i j hi hj => by
    rw [hX i hi, hX j (by omega)]
    have := mod_ne (n := n) hK (a := j) (b := i) (by omega) (by omega) (by omega)
    omega)
  have hpl : Places (xsl (pkS (rep (shf s d t n) e t n r) K n m) m) := by
    refine ⟨fun x hx => ?_, ?_⟩
    · obtain ⟨j, hj, rfl⟩ := List.mem_map.1 hx
      have hj := List.mem_range.1 hj
      have := hmod j
      rw [hX j hj]
      omega
    · unfold xsl
      rw [List.nodup_iff_pairwise_ne, List.pairwise_map]
      refine List.Pairwise.imp_of_mem (R := fun a b => a < b) ?_ List.pairwise_lt_range
      intro a b ha hb hab
      have ha := List.mem_range.1 ha
      have hb := List.mem_range.1 hb
      rw [hX a ha, hX b hb]
      have := mod_ne (n := n) hK (a := a) (b := b) (by omega) (by omega) (by omega)
      omega
  have hm0 : ¬ m = 0 := by omega
  refine ⟨?_, by unfold comE; rw [if_neg hm0, hp0]⟩
  unfold comR
  rw [if_neg hm0, if_pos hp0]
  apply List.ext_getElem
  · rw [cmbTo_len, hsl]
  · intro k h1 h2
    have hk : k < 32 := by omega
    have e1 : (cmbTo (pkS (rep (shf s d t n) e t n r) K n m) m m 0)[k] = (cmbTo (pkS (rep (shf s d t n) e t n r) K n m) m m 0).getD k 0 := by rw [List.getD_eq_getElem?_getD, List.getElem?_eq_getElem h1]; rfl
    have e2 : s[k] = s.getD k 0 := by rw [List.getD_eq_getElem?_getD, List.getElem?_eq_getElem h2]; rfl
    refine e1.trans (Eq.trans ?_ e2.symm)
    rw [cmbTo_at _ _ _ _ _ hk, if_neg (by omega), cmb_lag _ m k (fx s d e t k r) (fx_lt hs hd he t k r) (fun j hj => by
      rw [pkS_y hL hn0 K m hj hk, hX j hj, rep_y s d e t n (hmod j) hk r])]
    exact lag_fx hs hd he t k hk ht _ hpl (by rw [xsl_len]; exact htm) r
end Go.Proofs.YtdbfikcpaionbaaDoor
