/- BoxSeals returns true for any key, nonce, tenant, epoch and pieces. Conditions: the table of the quarters is as its initialiser lays it. -/
import Derived.Test.YtaikejlcpnelpaaDoorZ10
import Derived.Test.YtaikejlcpnelpaaDoorTie
import Derived.Test.YtaikejlcpnelpaaDoorCards
import Derived.SevenTiedAt
/- BoxSeals, walked. -/
namespace Go.Proofs.YtaikejlcpnelpaaDoor
open Go.RowKit
set_option linter.unusedVariables false
set_option linter.unusedSimpArgs false
theorem sameBx_self (t : ByteArray) (ep : Nat) (nn l : List Nat) : sameBx t ep nn l t ep nn l = true := by unfold sameBx; simp
theorem open_sealed (k nn : List Nat) (t : ByteArray) (ep : Nat) (l : List Pc) (hn : nameB t = true) (h0 : chkL l = 0) (hl : ∀ p ∈ l, PcOk p) : opE k t ep nn (boxL k nn t ep l) = 0 ∧ opP k t ep nn (boxL k nn t ep l) = l := by
  have hL0 : layR l = layL l := by unfold layR; rw [if_pos h0]
  have hLl : (layL l).length ≤ 4096 := by rw [← hL0]; exact layR_le hl
  obtain ⟨h1, h2⟩ := seal_open k nn (besideL 66 t ep) (layL l) hLl
  obtain ⟨h3, h4⟩ := read_lay h0 hl
  have hlen : (boxL k nn t ep l).length = (layL l).length + 16 := seal_len ..
  have hck : checkB t (boxL k nn t ep l).length = true := by
    unfold checkB
    rw [hn, hlen]
    simp
    omega
  have hE : opE k t ep nn (boxL k nn t ep l) = 0 := by
    unfold opE
    rw [hck, if_pos rfl]
    unfold boxL
    rw [if_pos h1, h2]
    exact h3
  refine ⟨hE, ?_⟩
  unfold opP
  rw [if_pos hE]
  unfold boxL
  rw [h2, h4]
set_option maxRecDepth 100000 in
set_option maxHeartbeats 8000000 in
theorem seals_c (k nn : List Nat) (t : ByteArray) (ep : Nat) (A : Option Addr) (ca : Nat) (l : List Pc) (w : World) (hk : k.length = 32) (hkl : ∀ c ∈ k, c < 256) (hn : nn.length = 12) (hnl : ∀ c ∈ nn, c < 256) (ht : t.size ≤ 9223372036854775807) (he : ep < 4294967296) (hr : RdP w w.heap.size A l) (hc : l.length ≤ ca) (h1 : l.length ≤ 9223372036854775807) (hl : ∀ p ∈ l, PcOk p ∧ p.s.size ≤ 9223372036854775807) (hq : QuartersAt w) :
    Calls Tryd.prog 3 #[.agg (vb k), .agg (vb nn), .string t, .int .u32 (ep : Nat), .slice A l.length ca] w fun e w' => e = .returned (.bool true) ∧ Below w.heap.size w w' := by
  have HB := Lib.hid (Kbx.begin w k nn)
  have HQ := Lib.hid (fun W (hb : Below w.heap.size w W) => hq.next hb)
  have HAW := Lib.hid (fun W (hb : Below w.heap.size w W) => awake16_c W (HQ.out W hb))
  have HG := Lib.hid (fun W (hb : Below w.heap.size w W) => great_c w.heap.size A ca l 60 W (Rd.below hr hb) h1 (by decide) (fun p hp => (hl p hp).2))
  cases hgr : greatB l 60 with
  | true =>
    rw [hgr] at HG
    clear hr hl hkl hnl hq
    go_enter Tryd.func3, Tryd.ntmps3
    go_upto_region 1 with
    (first
      | (refine Go.Great.wpList_boxTo rfl 23 (.tmp 0) rfl (some 5) rfl w.heap.size rfl (vb k) rfl ?_)
      | (refine Go.Great.wpList_boxTo rfl 25 (.tmp 1) rfl (some 6) rfl (w.heap.size + 1) (by simp) (vb nn) rfl ?_))
    generalize (w.alloc (Obj.cells (vb k) 23)).alloc (Obj.cells (vb nn) 25) = Z at *
    have HBZ := Lib.hid HB.out.bel
    go_wp2_with (first
      | (go_at_call 8; (refine (HG.out Z HB.out.bel).mono ?_); rintro e W0 ⟨rfl, rfl⟩)
      | (go_at_call 9; (refine (HAW.out Z HBZ.out).mono ?_); rintro e W9 ⟨rfl, hb⟩; have HB9 := Lib.hid (HBZ.out.trans (hb.mono HBZ.out.size)); clear hb))
    go_ret
    exact ⟨rfl, HB9.out⟩
  | false =>
    rw [hgr] at HG
    obtain ⟨hnum, hsz⟩ := greatB_no hgr
    by_cases htl : 100 < t.size
    · have q1 : (100 : Int) < (t.size : Int) := by omega
      clear hr hl hkl hnl hq htl
      go_enter Tryd.func3, Tryd.ntmps3
      go_upto_region 1 with
      (first
        | (refine Go.Great.wpList_boxTo rfl 23 (.tmp 0) rfl (some 5) rfl w.heap.size rfl (vb k) rfl ?_)
        | (refine Go.Great.wpList_boxTo rfl 25 (.tmp 1) rfl (some 6) rfl (w.heap.size + 1) (by simp) (vb nn) rfl ?_))
      generalize (w.alloc (Obj.cells (vb k) 23)).alloc (Obj.cells (vb nn) 25) = Z at *
      have HBZ := Lib.hid HB.out.bel
      go_wp2_with (first
        | (go_at_call 8; (refine (HG.out Z HB.out.bel).mono ?_); rintro e W0 ⟨rfl, rfl⟩)
        | (go_at_call 9; (refine (HAW.out Z HBZ.out).mono ?_); rintro e W9 ⟨rfl, hb⟩; have HB9 := Lib.hid (HBZ.out.trans (hb.mono HBZ.out.size)); clear hb))
      go_ret
      exact ⟨rfl, HB9.out⟩
    · have q1 : ¬ (100 : Int) < (t.size : Int) := by omega
      have hts : t.size ≤ 100 := by omega
      have hok : ∀ p ∈ l, PcOk p ∧ p.s.size ≤ 1000000 := fun p hp => ⟨(hl p hp).1, by have := hsz p hp; omega⟩
      have HRN := Lib.hid (fun W => rname_c t W (by omega))
      have HRC := Lib.hid (fun W (hb : Below w.heap.size w W) => rcheck_c A ca l W (Rd.ups (Rd.below hr hb) hb.size) (by omega) (fun p hp => (hok p hp).2))
      have HNK := Lib.hid (keySz hk)
      have HNN := Lib.hid (nnSz hn)
      have zf := zero_bx
      have zs1 : zBx.size = 15 := by rfl
      have zs2 : ¬ zBx = #[] := by intro h; have := congrArg Array.size h; rw [zs1] at this; cases this
      have HZS := Lib.hid (show (Tryd.prog.info? 32).map (·.size) = some zBx.size by kernel_rfl)
      by_cases h0 : sealE t l = 0
      · have hnm : nameB t = true := by
          cases hn0 : nameB t with
          | true => rfl
          | false => unfold sealE at h0; rw [hn0] at h0; cases h0
        have hck : chkL l = 0 := by unfold sealE at h0; rw [hnm] at h0; exact h0
        have hL0 : layR l = layL l := by unfold layR; rw [if_pos hck]
        have hLl : (layL l).length ≤ 4096 := by rw [← hL0]; exact layR_le (fun p hp => (hok p hp).1)
        have hLb : ∀ c ∈ layL l, c < 256 := by rw [← hL0]; exact layR_lt l
        have hbb : ∀ c ∈ boxL k nn t ep l, c < 256 := boxL_lt hLb
        have hbn : (boxL k nn t ep l).length ≤ 4112 := by
          have : (boxL k nn t ep l).length = (layL l).length + 16 := seal_len ..
          omega
        obtain ⟨hoe, hop⟩ := open_sealed k nn t ep l hnm hck (fun p hp => (hok p hp).1)
        have HSE := Lib.hid (fun W (hb : Below w.heap.size w W) => sealYes_c k nn t ep A ca l W hk hkl hn hnl (by omega) he (Rd.ups (Rd.below hr hb) hb.size) hc (by omega) hok hnm hck (HQ.out W hb))
        have HOP := Lib.hid (fun A1 c1 W (hb : Below w.heap.size w W) (h : Rd W W.heap.size A1 (byt (boxL k nn t ep l))) (h2 : (boxL k nn t ep l).length ≤ c1) => openBox_c k nn (boxL k nn t ep l) t ep A1 c1 W hk hkl hn hnl (by omega) he h hbb h2 (by omega) (HQ.out W hb))
        unfold OpenR at HOP
        rw [hoe, hop] at HOP
        have HRS := Lib.hid (fun W (hb : Below w.heap.size w W) => rseal16_c k nn t ep A ca l W hk hkl hn hnl (by omega) he (Rd.ups (Rd.below hr hb) hb.size) (by omega) hok hck)
        have HSM := Lib.hid (fun W A1 A2 c1 c2 (h1 : Rd W W.heap.size A1 (byt (boxL k nn t ep l))) (h2 : Rd W W.heap.size A2 (byt (boxL k nn t ep l))) => show Calls Tryd.prog 12 #[.agg (bxV t ep nn A1 (boxL k nn t ep l).length c1), .agg (bxV t ep nn A2 (boxL k nn t ep l).length c2)] W fun e w' => e = .returned (.bool true) ∧ Below W.heap.size W w' by
          have h := rsame16_c t t ep ep nn nn (boxL k nn t ep l) (boxL k nn t ep l) A1 A2 c1 c2 W hn hn hnl hnl h1 h2 hbb hbb (by omega) (by omega)
          rw [sameBx_self] at h
          exact h)
        have HSP := Lib.hid (fun W A1 c1 (h1 : RdP W W.heap.size A1 l) (h2 : RdP W w.heap.size A l) => rsameP_c W.heap.size w.heap.size A1 A c1 ca l W h1 h2 (by omega))
        have HRL := Lib.hid (fun W (hb : Below w.heap.size w W) => show RdP W w.heap.size A l from Rd.below hr hb)
        have HNB := Lib.hid (fun W => name_c t W (by omega))
        rw [hnm] at HRN HNB
        rw [hck] at HRC
        have HBN := Lib.hid hbn
        have HBI := Lib.hid (fun A1 n c1 => bxSz t ep (nn := nn) A1 n c1 hn)
        have HBJ := Lib.hid (fun A1 n c1 => bxLn t ep (nn := nn) A1 n c1 hn)
        have HBQ := Lib.hid (fun A n c => show zBx.size = (bxV t ep nn A n c).size by rw [zBx_size]; unfold bxV; rw [List.size_toArray, bxL_len t ep A n c hn])
        have HNL := Lib.hid (show (Tryd.prog.info? 25).map (·.size) = some (vb nn).toList.length by rw [Array.length_toList]; exact nnSz hn)
        have HKL := Lib.hid (show (Tryd.prog.info? 23).map (·.size) = some (vb k).toList.length by rw [Array.length_toList]; exact keySz hk)
        clear hr hl hkl hnl hq htl h0 hok hnm hck hL0 hLl hLb hbb hbn hoe hop hgr hsz
        generalize boxL k nn t ep l = body at *
        go_enter Tryd.func3, Tryd.ntmps3
        go_upto_region 1 with
        (first
          | (refine Go.Great.wpList_boxTo rfl 23 (.tmp 0) rfl (some 5) rfl w.heap.size rfl (vb k) rfl ?_)
          | (refine Go.Great.wpList_boxTo rfl 25 (.tmp 1) rfl (some 6) rfl (w.heap.size + 1) (by simp) (vb nn) rfl ?_))
        generalize (w.alloc (Obj.cells (vb k) 23)).alloc (Obj.cells (vb nn) 25) = Z at *
        have HBZ := Lib.hid HB.out.bel
        go_upto_region 4 with (first
          | (go_at_call 8; (refine (HG.out Z HB.out.bel).mono ?_); rintro e W0 ⟨rfl, rfl⟩)
          | (refine wpList_load_row rfl 23 (.tmp 5) rfl w.heap.size rfl 23 (vb k) (0, 0) _ HB.out.kA Tryd.underlying23 rfl HNK.out ?_)
          | (refine wpList_load_row rfl 25 (.tmp 6) rfl (w.heap.size + 1) rfl 25 (vb nn) (0, 0) _ HB.out.nA Tryd.underlying25 rfl HNN.out ?_)
          | (go_at_call 10; (refine (HSE.out Z HB.out.bel).mono ?_); rintro e W1 ⟨A1, c1, rfl, ho, hb⟩; have HOB := Lib.hid ho; have HB1 := Lib.hid (HB.out.next (hb.mono HB.out.sz)); clear ho hb)
          | (refine wpList_store_rowTo rfl 32 (.tmp 11) (.tmp 31) rfl rfl W1.heap.size (bxV t ep nn A1 body.length c1) rfl rfl 32 zBx (by exact Blk.new W1 _ _) (HBI.out ..) (HBQ.out ..) (bx_all _ _ _ _ _ _) ?_))
        have hnr := new_rowP W1 32 zBx (bxV t ep nn A1 body.length c1)
        have HX2 := Lib.hid hnr.1
        have HB2 := Lib.hid (HB1.out.next (hnr.2.mono HB1.out.sz))
        have hob2 := OwnB.next (l := body) (show OwnB W1 _ _ body from HOB.out) hnr.2
        obtain ⟨A9, c9, e9, hc9, _, r9⟩ := hob2.rd
        injection e9 with e9a e9b e9c
        subst e9a e9c
        have HR2 := Lib.hid r9
        have HC2 := Lib.hid hc9
        generalize (W1.alloc (Obj.cells zBx 32)).setRow W1.heap.size (bxV t ep nn A1 body.length c1) = W2 at *
        generalize W1.heap.size = gb at *
        clear hnr zf zs1 zs2 hob2 r9 hc9 e9b
        go_upto_region 10 with (first
          | (go_at_call 11; (refine (HRN.out W2).mono ?_); rintro e W3 ⟨rfl, rfl⟩)
          | (go_at_call 13; (refine (HRC.out W2 HB2.out.bel).mono ?_); rintro e W3 ⟨rfl, hb⟩; have HX3 := Lib.hid (HX2.out.below hb HX2.out.lt); have HB3 := Lib.hid (HB2.out.next (hb.mono HB2.out.sz)); have HR3 := Lib.hid (Rd.ups (Rd.below HR2.out hb) hb.size); clear hb)
          | (refine wpList_load_row rfl 23 (.tmp 5) rfl w.heap.size rfl 23 (vb k) (0, 0) _ HB3.out.kA Tryd.underlying23 rfl HNK.out ?_)
          | (refine wpList_load_row rfl 32 (.tmp 11) rfl gb rfl 32 (bxV t ep nn A1 body.length c1) (0, 0) _ HX3.out Tryd.underlying32 rfl (HBI.out ..) ?_)
          | (go_at_call 14; (refine (HOP.out A1 c1 W3 HB3.out.bel HR3.out HC2.out).mono ?_); rintro e W4 ⟨v4, rfl, ho, hb⟩; obtain ⟨A4, c4, rfl, _, _, r4⟩ := ho.rd; have HX4 := Lib.hid (HX3.out.below hb HX3.out.lt); have HB4 := Lib.hid (HB3.out.next (hb.mono HB3.out.sz)); have HR4 := Lib.hid (Rd.ups (Rd.below HR3.out hb) hb.size); have HP4 := Lib.hid (show RdP W4 W4.heap.size A4 l from r4); clear ho hb r4))
        clear HG HOB HB1 HB2 HR2 HX2 HX3 HB3 HR3 HOP HSE
        refine wp_region_loud W4 [76] (fun _ u W => RBox t ep nn body W4.heap.size u W) (by kernel_rfl) (by kernel_rfl) (by kernel_rfl) (by kernel_rfl) (fun k u w1 w2 h hb => h.next hb) (Below.refl _ _).drew ?_
        repeat (first
          | (refine wpLoud_loadB rfl rfl 32 (.tmp 11) rfl gb 0 rfl (bxV t ep nn A1 body.length c1) _ (fun z => rangeAt_blk (HX4.out.below z.bel HX4.out.lt)) Tryd.underlying32 rfl (by rw [Array.length_toList]; exact HBI.out ..) _ (by simp only [Act.put, List.setIfInBounds_toArray, List.set_cons_succ, List.set_cons_zero]; rfl) ?_)
          | (refine wpLoud_loadB rfl rfl 23 (.tmp 5) rfl w.heap.size 0 rfl (vb k) _ (fun z => rangeAt_blk (HB4.out.kA.below z.bel HB4.out.kA.lt)) Tryd.underlying23 rfl HKL.out _ (by simp only [Act.put, List.setIfInBounds_toArray, List.set_cons_succ, List.set_cons_zero]; rfl) ?_)
          | (refine wpLoud_loadB rfl rfl 25 (.tmp 6) rfl (w.heap.size + 1) 0 rfl (vb nn) _ (fun z => rangeAt_blk (HB4.out.nA.below z.bel HB4.out.nA.lt)) Tryd.underlying25 rfl HNL.out _ (by simp only [Act.put, List.setIfInBounds_toArray, List.set_cons_succ, List.set_cons_zero]; rfl) ?_)
          | (refine wpLoud_call 76 rfl [] tok 15 (fun g => #[.agg (vb k), .agg (vb nn), .string t, .int .u32 (ep : Int), .slice A l.length ca]) rfl (fun _ _ h => by cases h) rfl (fun g w => by kernel_rfl) (fun g y hg => by
              refine (HRS.out y.wd (HB4.out.bel.trans (y.bel.mono HB4.out.bel.size))).mono ?_
              rintro e w' ⟨u, rfl, ⟨A5, c5, e5, ho⟩, hb⟩
              exact ⟨u, rfl, hb, ⟨A5, c5, e5, own_base_le ho y.bel.size⟩⟩) _ (by simp only [Act.put, List.setIfInBounds_toArray, List.set_cons_succ, List.set_cons_zero]; rfl) ?_)
          | (refine wpLoud_call 77 rfl [76] (.bool true) 12 (fun g => #[.agg (bxV t ep nn A1 body.length c1), g 76]) rfl (fun _ _ h => by cases h) rfl (fun g w => by kernel_rfl) (fun g y hg => by
              obtain ⟨A5, c5, e5, ho⟩ : RBox t ep nn body W4.heap.size (g 76) y.wd := hg 76 (by simp)
              obtain ⟨A6, c6, e6, _, _, r6⟩ := ho.rd
              injection e6 with e6a _ e6c
              subst e6a e6c
              show Calls _ _ #[_, g 76] _ _
              rw [e5]
              refine (HSM.out y.wd A1 A5 c1 c5 (Rd.ups (Rd.below HR4.out y.bel) y.bel.size) r6).mono ?_
              rintro e w' ⟨rfl, hb⟩
              exact ⟨_, rfl, hb, rfl⟩) _ (by simp only [Act.put, List.setIfInBounds_toArray, List.set_cons_succ, List.set_cons_zero]; rfl) ?_)
          | (refine wpLoud_call 86 rfl [] (.bool true) 16 (fun g => #[.slice A4 l.length c4, .slice A l.length ca]) rfl (fun _ _ h => by cases h) rfl (fun g w => by kernel_rfl) (fun g y hg => by
              refine (HSP.out y.wd A4 c4 (Rd.ups (Rd.below HP4.out y.bel) y.bel.size) (HRL.out y.wd (HB4.out.bel.trans (y.bel.mono HB4.out.bel.size)))).mono ?_
              rintro e w' ⟨rfl, q, rfl⟩
              exact ⟨_, rfl, belowDrewN q (Below.refl _ _), rfl⟩) _ (by simp only [Act.put, List.setIfInBounds_toArray, List.set_cons_succ, List.set_cons_zero]; rfl) ?_)
          | (refine wpLoud_call 90 rfl [] (.bool true) 17 (fun g => #[.string t]) rfl (fun _ _ h => by cases h) rfl (fun g w => by kernel_rfl) (fun g y hg => by
              refine (HNB.out y.wd).mono ?_
              rintro e w' ⟨rfl, rfl⟩
              exact ⟨_, rfl, Below.refl _ _, rfl⟩) _ (by simp only [Act.put, List.setIfInBounds_toArray, List.set_cons_succ, List.set_cons_zero]; rfl) ?_)
          | (refine wpLoud_call 93 rfl [] (.bool true) 9 (fun g => #[]) rfl (fun _ _ h => by cases h) rfl (fun g w => by kernel_rfl) (fun g y hg => by
              refine (HAW.out y.wd (HB4.out.bel.trans (y.bel.mono HB4.out.bel.size))).mono ?_
              rintro e w' ⟨rfl, hb⟩
              exact ⟨_, rfl, hb, rfl⟩) _ (by simp only [Act.put, List.setIfInBounds_toArray, List.set_cons_succ, List.set_cons_zero]; rfl) ?_)
          | (refine wpLoud_plain rfl rfl rfl ?_; intro K hK; go_big_quiet_op; go_big_quiet_on))
        refine wpLoud_end [] (by rfl) ?_
        intro gg z hg
        have HBZ9 := Lib.hid (HB4.out.bel.trans (z.bel.mono HB4.out.bel.size))
        generalize z.wd = Y at *
        simp only [fill, Act.put, List.setIfInBounds_toArray, List.set_cons_succ, List.set_cons_zero]
        generalize gg 76 = x76 at *
        go_wp2_with fail
        go_ret
        exact ⟨rfl, HBZ9.out⟩
      · have HSE := Lib.hid (fun W (hb : Below w.heap.size w W) => sealNo_c k nn t ep A ca l W hk hkl hn hnl (by omega) he (Rd.ups (Rd.below hr hb) hb.size) hc (by omega) hok h0)
        have HSM := Lib.hid (fun W A1 c1 => show Calls Tryd.prog 12 #[.agg (bxV ByteArray.empty 0 n12z A1 0 c1), .agg zBx] W fun e w' => e = .returned (.bool true) ∧ Below W.heap.size W w' by
          have h := rsame16_c ByteArray.empty ByteArray.empty 0 0 n12z n12z [] [] A1 none c1 0 W rfl rfl (by decide) (by decide) (Rd.nil_ _ _ _) (Rd.nil_ _ _ _) (by decide) (by decide) (by decide) (by decide)
          rw [sameBx_self] at h
          exact h)
        have HBD := Lib.hid built_bx0
        cases hnm : nameB t with
        | false =>
          have hE : sealE t l = 1 := by unfold sealE; rw [hnm]; rfl
          rw [hE] at HSE
          rw [hnm] at HRN
          clear hr hl hkl hnl hq htl h0 hE hok
          go_enter Tryd.func3, Tryd.ntmps3
          go_upto_region 1 with
          (first
            | (refine Go.Great.wpList_boxTo rfl 23 (.tmp 0) rfl (some 5) rfl w.heap.size rfl (vb k) rfl ?_)
            | (refine Go.Great.wpList_boxTo rfl 25 (.tmp 1) rfl (some 6) rfl (w.heap.size + 1) (by simp) (vb nn) rfl ?_))
          generalize (w.alloc (Obj.cells (vb k) 23)).alloc (Obj.cells (vb nn) 25) = Z at *
          have HBZ := Lib.hid HB.out.bel
          go_upto_region 4 with (first
            | (go_at_call 8; (refine (HG.out Z HB.out.bel).mono ?_); rintro e W0 ⟨rfl, rfl⟩)
            | (refine wpList_load_row rfl 23 (.tmp 5) rfl w.heap.size rfl 23 (vb k) (0, 0) _ HB.out.kA Tryd.underlying23 rfl HNK.out ?_)
            | (refine wpList_load_row rfl 25 (.tmp 6) rfl (w.heap.size + 1) rfl 25 (vb nn) (0, 0) _ HB.out.nA Tryd.underlying25 rfl HNN.out ?_)
            | (go_at_call 10; (refine (HSE.out Z HB.out.bel).mono ?_); rintro e W1 ⟨A1, c1, rfl, ho, hb⟩; have HB1 := Lib.hid (HB.out.bel.trans (hb.mono HB.out.bel.size)); clear ho hb)
            | (refine wpList_store_rowTo rfl 32 (.tmp 11) (.tmp 31) rfl rfl W1.heap.size (bxV ByteArray.empty 0 n12z A1 0 c1) rfl rfl 32 zBx (by exact Blk.new W1 _ _) (bxSz _ _ _ _ _ rfl) (by rw [zBx_size]; rfl) (bx_all _ _ _ _ _ _) ?_))
          have hnr := new_rowP W1 32 zBx (bxV ByteArray.empty 0 n12z A1 0 c1)
          have HX2 := Lib.hid hnr.1
          have HB2 := Lib.hid (HB1.out.trans (hnr.2.mono HB1.out.size))
          generalize (W1.alloc (Obj.cells zBx 32)).setRow W1.heap.size (bxV ByteArray.empty 0 n12z A1 0 c1) = W2 at *
          generalize W1.heap.size = gb at *
          clear hnr zf zs1 zs2
          go_wp2_with (first
            | (go_at_call 11; (refine (HRN.out W2).mono ?_); rintro e W3 ⟨rfl, rfl⟩)
            | (refine wpList_loadG rfl 32 (.tmp 11) rfl gb 0 rfl (bxL ByteArray.empty 0 n12z A1 0 c1) _ (by have h := rangeAt_blk HX2.out; simpa [bxV] using h) Tryd.underlying32 rfl (bxLn _ _ _ _ _ rfl) ?_)
            | (go_at_call 12; (refine (HSM.out W2 A1 c1).mono ?_); rintro e W4 ⟨rfl, hb⟩; have HB4 := Lib.hid (HB2.out.trans (hb.mono HB2.out.size)); clear hb)
            | (go_at_call 9; (refine (HAW.out W4 HB4.out).mono ?_); rintro e W9 ⟨rfl, hb⟩; have HB9 := Lib.hid (HB4.out.trans (hb.mono HB4.out.size)); clear hb))
          go_ret
          exact ⟨rfl, HB9.out⟩
        | true =>
          have hE : sealE t l = chkL l := by unfold sealE; rw [hnm]; rfl
          rw [hE] at HSE h0
          rw [hnm] at HRN
          have hne : ((chkL l : Nat) : Int) ≠ 0 := by omega
          have hq0 : decide (((chkL l : Nat) : Int) = 0) = false := decide_eq_false (by omega)
          have hle : chkL l ≤ 3 := by unfold chkL; split <;> (try split) <;> omega
          clear hr hl hkl hnl hq htl h0 hE hok
          generalize chkL l = E at *
          go_enter Tryd.func3, Tryd.ntmps3
          go_upto_region 1 with
          (first
            | (refine Go.Great.wpList_boxTo rfl 23 (.tmp 0) rfl (some 5) rfl w.heap.size rfl (vb k) rfl ?_)
            | (refine Go.Great.wpList_boxTo rfl 25 (.tmp 1) rfl (some 6) rfl (w.heap.size + 1) (by simp) (vb nn) rfl ?_))
          generalize (w.alloc (Obj.cells (vb k) 23)).alloc (Obj.cells (vb nn) 25) = Z at *
          have HBZ := Lib.hid HB.out.bel
          go_upto_region 4 with (first
            | (go_at_call 8; (refine (HG.out Z HB.out.bel).mono ?_); rintro e W0 ⟨rfl, rfl⟩)
            | (refine wpList_load_row rfl 23 (.tmp 5) rfl w.heap.size rfl 23 (vb k) (0, 0) _ HB.out.kA Tryd.underlying23 rfl HNK.out ?_)
            | (refine wpList_load_row rfl 25 (.tmp 6) rfl (w.heap.size + 1) rfl 25 (vb nn) (0, 0) _ HB.out.nA Tryd.underlying25 rfl HNN.out ?_)
            | (go_at_call 10; (refine (HSE.out Z HB.out.bel).mono ?_); rintro e W1 ⟨A1, c1, rfl, ho, hb⟩; have HB1 := Lib.hid (HB.out.bel.trans (hb.mono HB.out.bel.size)); clear ho hb)
            | (refine wpList_store_rowTo rfl 32 (.tmp 11) (.tmp 31) rfl rfl W1.heap.size (bxV ByteArray.empty 0 n12z A1 0 c1) rfl rfl 32 zBx (by exact Blk.new W1 _ _) (bxSz _ _ _ _ _ rfl) (by rw [zBx_size]; rfl) (bx_all _ _ _ _ _ _) ?_))
          have hnr := new_rowP W1 32 zBx (bxV ByteArray.empty 0 n12z A1 0 c1)
          have HX2 := Lib.hid hnr.1
          have HB2 := Lib.hid (HB1.out.trans (hnr.2.mono HB1.out.size))
          generalize (W1.alloc (Obj.cells zBx 32)).setRow W1.heap.size (bxV ByteArray.empty 0 n12z A1 0 c1) = W2 at *
          generalize W1.heap.size = gb at *
          clear hnr zf zs1 zs2
          go_wp2_with (first
            | (go_at_call 11; (refine (HRN.out W2).mono ?_); rintro e W3 ⟨rfl, rfl⟩)
            | (go_at_call 13; (refine (HRC.out W2 HB2.out).mono ?_); rintro e W3 ⟨rfl, hb⟩; have HX3 := Lib.hid (HX2.out.below hb HX2.out.lt); have HB3 := Lib.hid (HB2.out.trans (hb.mono HB2.out.size)); clear hb)
            | (refine wpList_loadG rfl 32 (.tmp 11) rfl gb 0 rfl (bxL ByteArray.empty 0 n12z A1 0 c1) _ (by have h := rangeAt_blk HX3.out; simpa [bxV] using h) Tryd.underlying32 rfl (bxLn _ _ _ _ _ rfl) ?_)
            | (go_at_call 12; (refine (HSM.out W3 A1 c1).mono ?_); rintro e W4 ⟨rfl, hb⟩; have HB4 := Lib.hid (HB3.out.trans (hb.mono HB3.out.size)); clear hb)
            | (go_at_call 9; (refine (HAW.out W4 HB4.out).mono ?_); rintro e W9 ⟨rfl, hb⟩; have HB9 := Lib.hid (HB4.out.trans (hb.mono HB4.out.size)); clear hb))
          go_ret
          exact ⟨rfl, HB9.out⟩
end Go.Proofs.YtaikejlcpnelpaaDoor
namespace Go.Proofs.YtaikejlcpnelpaaDoor
open Go Go.ChangeShapes Go.WideShapes Go.ChangeAt Go.RowKit
set_option maxRecDepth 100000 in
theorem boxSeals_lifted (os : Os) (started : os.Started) (H : Type) (enc : TypeId × Value → H) :
    ReturnsInHanded {} Tryd.checked os 3 .any (fun w args => (Rows.boxSealsSpec.pre enc Tryd.prog Tryd.f3 [] false w args ∧ laidMetH Tryd.prog laidQ w) ∧ sizedMet enc Tryd.prog Tryd.f3 (OpenSpec.ofChange Rows.boxSealsSpec) false w args) (Rows.boxSealsSpec.post enc Tryd.prog Tryd.f3 false true false false) := by
  refine liftQ started _ rfl (by kernel_rfl) Tryd.func3 ⟨rfl, fun H ds h => ?_⟩ rfl (of_decide_eq_true (by kernel_rfl))
    (ChangeSpec.witness_shaped (enc := enc) (C := Tryd.checked) (os := os) (X := fun w _ => laidMetH Tryd.prog laidQ w) false (World.doorLaid Tryd.prog 400 os) #[.agg (Array.replicate 32 (.int .u8 0)), .agg (Array.replicate 12 (.int .u8 0)), .string ByteArray.empty, .int .u32 0, .slice none 0 0] 8 rfl (World.shaped_of_RefB (by kernel_rfl) (by kernel_rfl)) (by kernel_rfl) (by kernel_rfl) (by kernel_rfl) (door_met os _)) ?_
  · match ds, h with
    | [_, _, _, _, _], _ => rfl
  · intro W base args ds ps hq hval hA hlt
    rw [Tryd.params3] at hA hval
    obtain ⟨v0, vs0, d0, ds0, p0, q0, hargs, rfl, rfl, h0, r0⟩ := trodAll_cons hA
    obtain ⟨v1, vs1, d1, ds1, p1, q1, rfl, rfl, rfl, h1, r1⟩ := trodAll_cons r0
    obtain ⟨v2, vs2, d2, ds2, p2, q2, rfl, rfl, rfl, h2, r2⟩ := trodAll_cons r1
    obtain ⟨v3, vs3, d3, ds3, p3, q3, rfl, rfl, rfl, h3, r3⟩ := trodAll_cons r2
    obtain ⟨v4, vs4, d4, ds4, p4, q4, rfl, rfl, rfl, h4, r4⟩ := trodAll_cons r3
    obtain ⟨rfl, rfl, rfl⟩ := trodAll_nil r4
    obtain rfl : args = #[v0, v1, v2, v3, v4] := by cases args; simp_all
    obtain ⟨k0, rfl, kl0, ks0⟩ := open_key (hval 0 23 v0 rfl rfl) h0
    obtain ⟨k1, rfl, kl1, ks1⟩ := open_nonce (hval 1 25 v1 rfl rfl) h1
    obtain ⟨s2, rfl, rfl, rfl, hs2⟩ := Go.ChangeMaps.open_string Tryd.underlying9 (hval 2 9 v2 rfl rfl) h2
    obtain ⟨a3, rfl, rfl, rfl, w3⟩ := open_int Tryd.underlying26 (hval 3 26 v3 rfl rfl) h3
    have hb3 := bounds_u32 w3
    obtain ⟨n3, rfl⟩ := Int.eq_ofNat_of_zero_le hb3.1
    obtain ⟨A4, l4, cap4, rfl, hc4, hm4, hl4, hr4⟩ := open_pieces (hval 4 27 v4 rfl rfl) h4
    exact seals_c k0 k1 s2 n3 A4 cap4 l4 W kl0 ks0 kl1 ks1 (by simpa [maxLen] using hs2) (by omega) hr4 hc4 hm4 hl4 hq
theorem boxSeals_row : Rows.BoxSealsSaid :=
  OpenClaim.holds_of_wide 3 Tryd.f3 rfl rfl rfl rfl rfl rfl rfl ⟨rfl, rfl, rfl, rfl, rfl⟩ rfl rfl rfl rfl rfl (by kernel_rfl) Tryd.func3 (by kernel_rfl)
    (of_decide_eq_true (by kernel_rfl)) (by unfold Func.isWrapper; rw [if_neg (by decide +kernel)]; exact ⟨rfl, rfl⟩)
    (fun os started H enc _ => boxSeals_lifted os started H enc)
theorem boxSeals_holds : Rows.BoxSealsCardSaid :=
  Claim7.holds_tied_plain_at .later [] [.data] true (true, "d8d9edc23ed2f81f3b892f24cc9191527c221c12c804fcbb8e9d7c52408ff666") false
    boxSeals_row (fun _ h => by cases h) (by kernel_rfl) (fun _ h => by cases h) boxSeals_row_tie rfl ⟨rfl, rfl⟩ (by kernel_rfl) rfl
    (fun f fn hf hfn => by
      obtain rfl : f = 3 := Option.some.inj ((show Tryd.prog.funcNamed "quaestor/quaestorlaw16.BoxSeals" = some 3 by kernel_rfl).symm.trans hf) |>.symm
      obtain rfl : fn = Tryd.f3 := (Option.some.inj (Tryd.func3.symm.trans hfn)).symm
      exact ⟨by kernel_rfl, fun j t ht => by
        rw [Tryd.params3] at ht
        have hm : t ∈ [23, 25, 9, 26, 27] := by simpa using Array.mem_of_getElem? ht
        have hall : ([23, 25, 9, 26, 27].all fun u => !Tryd.prog.wantsStandIn u) = true := by kernel_rfl
        exact (show Tryd.prog.wantsStandIn t = false by simpa using List.all_eq_true.1 hall t hm)⟩)
    (by kernel_rfl)
#print axioms boxSeals_holds
end Go.Proofs.YtaikejlcpnelpaaDoor
