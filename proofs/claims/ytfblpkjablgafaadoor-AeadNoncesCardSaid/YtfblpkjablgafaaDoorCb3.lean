/- Contract: the document's block. -/
import Derived.Test.YtfblpkjablgafaaDoorCb2
import Derived.Laws.Rows
import Derived.Great.BuildSlice
import Derived.Test.YtfblpkjablgafaaDoorMk2
import Derived.Lib.SlBytesConst
namespace Go.Proofs.YtfblpkjablgafaaDoor
open Go.RowKit
set_option linter.unusedVariables false
set_option linter.unusedSimpArgs false
/-- the boxes of the two arrays -/
structure Rbx (w W : World) (k nonce : List Nat) : Prop where
  bel : Below w.heap.size w W
  kA : Blk W w.heap.size 22 (vb k)
  nA : Blk W (w.heap.size + 1) 24 (vb nonce)
  sz : w.heap.size + 1 + 1 ≤ W.heap.size
theorem Rbx.next {w W W' : World} {k nonce : List Nat} (s : Rbx w W k nonce) (hb : Below (w.heap.size + 1 + 1) W W') : Rbx w W' k nonce :=
  ⟨s.bel.trans (hb.mono (by omega)), s.kA.below hb (by omega), s.nA.below hb (by omega), Nat.le_trans s.sz hb.size⟩
theorem Rbx.begin (w : World) (k nonce : List Nat) (o : Obj) : Rbx w (((w.alloc (Obj.cells (vb k) 22)).alloc (Obj.cells (vb nonce) 24)).alloc o) k nonce :=
  ⟨(((Below.refl _ _).alloc (Nat.le_refl _) _).alloc (by simp) _).alloc (by simp; omega) _, ((Blk.new w _ _).alloc _).alloc _, (show Blk _ (w.heap.size + 1) _ _ from heap2 w _ _).alloc _, by simp⟩
theorem Two.alloc {w : World} {base : Nat} {vx vy : Value} {xs ys : List Nat} (h : Two w base vx vy xs ys) (o : Obj) : Two (w.alloc o) base vx vy xs ys := ⟨h.ox.alloc o, h.oy.alloc o, h.ne⟩
theorem Two.nil_ (w : World) (base : Nat) : Two w base (.slice none 0 0) (.slice none 0 0) [] [] := ⟨OwnW.nil_ _ _, OwnW.nil_ _ _, fun g h => by cases h⟩
theorem rd_all {w : World} {g : Nat} {T : TypeId} {l : List Nat} (h : Blk w g T (vb l)) : Rd w (g + 1) (some ⟨g, 0, none⟩) (byt l) := by
  have := blk_rdAt h 0
  rwa [List.drop_zero] at this
def eC : Array Value := #[.int .u8 101, .int .u8 120, .int .u8 112, .int .u8 97, .int .u8 110, .int .u8 100, .int .u8 32, .int .u8 51, .int .u8 50, .int .u8 45, .int .u8 98, .int .u8 121, .int .u8 116, .int .u8 101, .int .u8 32, .int .u8 107]
theorem conv_lit (w : World) (a b : Obj) : (convert 26 26 (.slice (some ⟨w.heap.size + 1 + 1, 0, none⟩) 16 16)).run Tryd.prog (((w.alloc a).alloc b).alloc (.cells eC 5)) = .ok (.slice (some ⟨w.heap.size + 1 + 1, 0, none⟩) 16 16) (((w.alloc a).alloc b).alloc (.cells eC 5 (16, 17))) := by
  have h := Lib.run_convert_bytes_const (P := Tryd.prog) ((w.alloc a).alloc b) 26 5 eC 16 16 Tryd.underlying26 Tryd.underlying5
  rw [show ((w.alloc a).alloc b).heap.size = w.heap.size + 1 + 1 by simp] at h
  exact h
theorem mark_lit (w : World) (a b : Obj) : MarkAt (((w.alloc a).alloc b).alloc (.cells eC 5 (16, 17))) (w.heap.size + 1 + 1) 16 expL :=
  ⟨eC, heap3 w _ _ _, rfl, Nat.le_refl _, by decide, fun j hj => (show ∀ j, j < 16 → eC[j]? = some (.int .u8 (expL.getD j 0 : Nat)) from fun j hj => by
    have h : j = 0 ∨ j = 1 ∨ j = 2 ∨ j = 3 ∨ j = 4 ∨ j = 5 ∨ j = 6 ∨ j = 7 ∨ j = 8 ∨ j = 9 ∨ j = 10 ∨ j = 11 ∨ j = 12 ∨ j = 13 ∨ j = 14 ∨ j = 15 := by omega
    rcases h with rfl | rfl | rfl | rfl | rfl | rfl | rfl | rfl | rfl | rfl | rfl | rfl | rfl | rfl | rfl | rfl <;> rfl) j hj⟩
theorem col_eq : ∀ j, j < 4 → qs.getD j [] = [j, 4 + j, 8 + j, 12 + j] := by decide
theorem diag_eq : ∀ j, j < 4 → qs.getD (4 + j) [] = [j, 4 + (j + 1) % 4, 8 + (j + 2) % 4, 12 + (j + 3) % 4] := by decide
set_option maxRecDepth 100000 in
set_option maxHeartbeats 8000000 in
theorem rblock_c (k : List Nat) (n : Nat) (nonce : List Nat) (w : World) (hk : k.length = 32) (hkl : ∀ c ∈ k, c < 256) (hn : n < 4294967296) (hc : nonce.length = 12) (hcl : ∀ c ∈ nonce, c < 256) :
    Calls Tryd.prog 22 #[.agg (vb k), .int .u32 n, .agg (vb nonce)] w (Gives (blkL k n nonce) w) := by
  obtain ⟨i0, hib, hz0, hz1, hz2⟩ := info_parts byteInfo
  obtain ⟨i4, hi4, hy0, hy1, hy2⟩ := info_parts wordInfo
  have HFL := Lib.hid (fullB_lt (n := n) hkl hcl)
  have HWE := Lib.hid (words_eq k n nonce hk hn)
  have H16 := Lib.hid (startL_16 hkl hn hcl)
  have HBK := Lib.hid (show blkL k n nonce = (List.range 64).map (outB (rnds (startL k n nonce) 10) (startL k n nonce)) from rfl)
  have hf4 := form_len n 4
  have hel : expL.length = 16 := rfl
  have L1 : (expL ++ k).length = 48 := by rw [List.length_append, hk]; rfl
  have L2 : (expL ++ k ++ form n 4).length = 52 := by rw [List.length_append, L1, form_len]
  have L3 : (expL ++ k ++ form n 4 ++ nonce).length = 64 := by rw [List.length_append, L2, hc]
  have HFU := Lib.hid (show fullB k n nonce = expL ++ k ++ form n 4 ++ nonce from rfl)
  have cn : IntKind.u64.wrap (n : Int) = (n : Int) := by simp [IntKind.wrap, IntKind.signed, IntKind.bits]; omega
  have HFO := Lib.hid (fun W => rform_c n 4 W (by omega) (by decide))
  clear hkl hcl
  generalize form n 4 = f4 at *
  have hcv := conv_lit w (Obj.cells (vb k) 22) (Obj.cells (vb nonce) 24)
  unfold eC at hcv
  go_enter Tryd.func22, Tryd.ntmps22
  go_upto_region 2 with (first
    | (refine Go.Great.wpList_boxTo rfl 22 (.tmp 0) rfl (some 3) rfl w.heap.size rfl (vb k) rfl ?_)
    | (refine Go.Great.wpList_boxTo rfl 24 (.tmp 2) rfl (some 5) rfl (w.heap.size + 1) (by simp) (vb nonce) rfl ?_))
  have hbx := Rbx.begin w k nonce (.cells eC 5 (16, 17))
  have hmk := mark_lit w (Obj.cells (vb k) 22) (Obj.cells (vb nonce) 24)
  change Code.wp _ _ _ _ (((w.alloc (Obj.cells (vb k) 22)).alloc (Obj.cells (vb nonce) 24)).alloc (.cells eC 5 (16, 17)))
  generalize ((w.alloc (Obj.cells (vb k) 22)).alloc (Obj.cells (vb nonce) 24)).alloc (.cells eC 5 (16, 17)) = Z at *
  clear hcv
  obtain ⟨v1, W1, hrun, hm1, hb1, _⟩ := app_marks Z (w.heap.size + 1 + 1) (.slice (some ⟨w.heap.size + 1 + 1, 0, none⟩) 16 16) expL k 26 (some ⟨w.heap.size, 0, none⟩) 32 (w.heap.size + 1) (.inl ⟨_, _, rfl, Nat.le_refl _, hmk⟩) hbx.sz (by decide) (by omega) (by intro h; rw [h] at hk; cases hk) (rd_all hbx.kA)
  rw [hk] at hrun
  obtain ⟨A1, c1, rfl, hr1⟩ := hm1.rd
  rw [L1] at hrun hm1
  have HM1 := Lib.hid hm1
  have HX1 := Lib.hid (hbx.next hb1)
  have HR1 := Lib.hid hrun
  clear hrun hbx hmk hb1 hm1 hr1
  go_upto_region 3 with (at_builtin; refine wpList_valM rfl (.slice A1 48 c1) W1 (op_appendM rfl rfl rfl HR1.out) ?_)
  go_upto_region 4 with (first
    | (go_at_call 23; (refine (HFO.out W1).mono ?_); rintro e W2 ⟨v2, rfl, ho2, hb2⟩; obtain ⟨A2, c2, rfl, _, _, r2⟩ := ho2.rd; obtain ⟨v3, W3, hrun, hm3, hb3, _⟩ := app_marks W2 (w.heap.size + 1 + 1) (.slice A1 48 c1) (expL ++ k) f4 26 A2 c2 W2.heap.size (HM1.out.next hb2) (Nat.le_trans HX1.out.sz hb2.size) (by rw [L1]; decide) (by rw [hf4]; decide) (by intro h; rw [h] at hf4; cases hf4) r2; obtain ⟨A3, c3, rfl, hr3⟩ := hm3.rd; rw [hf4] at hrun ⊢; rw [L2] at hrun hm3; have HX3 := Lib.hid ((HX1.out.next (hb2.mono HX1.out.sz)).next hb3); have HM3 := Lib.hid hm3; have HR3 := Lib.hid hrun; clear hrun hm3 hb3 hr3 hb2 ho2 r2)
    | (at_builtin; refine wpList_valM rfl (.slice A3 52 c3) W3 (op_appendM rfl rfl rfl HR3.out) ?_))
  obtain ⟨v4, W4, hrun, hm4, hb4, _⟩ := app_marks W3 (w.heap.size + 1 + 1) (.slice A3 52 c3) (expL ++ k ++ f4) nonce 26 (some ⟨w.heap.size + 1, 0, none⟩) 12 (w.heap.size + 1 + 1) HM3.out HX3.out.sz (by rw [L2]; decide) (by omega) (by intro h; rw [h] at hc; cases hc) (rd_all HX3.out.nA)
  rw [hc] at hrun
  obtain ⟨A4, c4, rfl, hr4⟩ := hm4.rd
  rw [L3] at hrun
  rw [← HFU.out] at hr4
  have HR4 := Lib.hid hrun
  have HRD := Lib.hid hr4
  have HB4 := Lib.hid (HX3.out.next hb4).bel
  have hcap : 64 ≤ c4 := by
    rcases hm4 with ⟨g, cap, h1, _, cur, _, _, h2, _⟩ | h
    · injection h1 with _ _ h3
      rw [L3] at h2; omega
    · obtain ⟨A5, c5, h1, h2, _, _⟩ := h.rd
      injection h1 with _ _ h3
      rw [L3] at h2; omega
  clear hrun hm4 hb4 hr4
  go_upto_region 5 with (at_builtin; refine wpList_valM rfl (.slice A4 64 c4) W4 (op_appendM rfl rfl rfl HR4.out) ?_)
  clear HM1 HX1 HR1 HX3 HM3 HR3 HR4 HFU hel L1 L2 L3
  have hfl4 : (fullB k n nonce).length = 64 := fullB_len hk hc
  obtain ⟨ad, rfl, hadb, _⟩ := HRD.out.byte (k := 0) (by rw [hfl4]; decide)
  have HWD := Lib.hid (fun i (hi : i < 16) W (hW : Below W4.heap.size W4 W) => rword_c W4.heap.size (ad.add (4 * i)) (64 - 4 * i) (c4 - 4 * i) ((fullB k n nonce).drop (4 * i)) W (drop_lt HFL.out _) ((HRD.out.below hW).drop_ (4 * i)) (by rw [List.length_drop, hfl4]; omega) (by rw [List.length_drop, hfl4]) (by omega))
  have HWA := Lib.hid (show ∀ i, le4 ((fullB k n nonce).drop (4 * i)) = wordAt k n nonce i from fun i => rfl)
  have HW32 := Lib.hid (show ∀ i, wordAt k n nonce i < 4294967296 from fun i => le4_lt (drop_lt HFL.out _))
  clear hfl4 hadb
  go_wp2_with fail
  go_loopw [8, 9, 10] (fun vx vy vi wr => ∃ i : Nat, i ≤ 16 ∧ vi = .int .i64 i ∧ Two wr W4.heap.size vx vy ((List.range i).map (wordAt k n nonce)) ((List.range i).map (wordAt k n nonce)) ∧ Below W4.heap.size W4 wr) (fun _ _ vi _ => 16 - (intOf vi).toNat)
  case atStart => exact ⟨0, by omega, rfl, Two.nil_ _ _, Below.refl _ _⟩
  case round =>
    rename World => wr
    obtain ⟨i, hi, rfl, htw, hbw⟩ := hrel
    have HTW := Lib.hid htw
    have HBW := Lib.hid hbw
    clear htw hbw
    by_cases hlt : i < 16
    · have p1 : (i : Int) < 16 := by omega
      have HW := Lib.hid (HWD.out i hlt)
      have HSN := Lib.hid (show (List.range (i + 1)).map (wordAt k n nonce) = (List.range i).map (wordAt k n nonce) ++ [wordAt k n nonce i] by rw [List.range_succ, List.map_append]; rfl)
      have HLT := Lib.hid (show ((List.range i).map (wordAt k n nonce)).length = i by simp)
      rw [HWA.out i] at HW
      generalize (List.range i).map (wordAt k n nonce) = L at *
      generalize wordAt k n nonce i = y at *
      obtain ⟨b, hb⟩ : ∃ b, b = 4 * i := ⟨_, rfl⟩
      have p2 : (4 : Int) * (i : Int) = (b : Int) := by omega
      have p3 : (b : Int) ≤ 64 := by omega
      have p4 : b ≤ 64 := by omega
      have p5 : b ≤ c4 := by omega
      have p6 : (64 : Int) ≤ (c4 : Int) := by omega
      rw [← hb] at HW
      clear hb
      have hsz := HBW.out.size
      go_wp2_with (first
        | (go_at_call 30; (refine (HW.out _ (by first | exact HB8.out | exact HBW.out)).mono ?_); rintro e wn ⟨rfl, rfl⟩)
        | (at_builtin; refine wpList_app _ rfl (.tmp 33) (.tmp 39) _ rfl W4.heap.size 47 i4 (.int .u32 0) 1 4 Tryd.underlying62 hi4 hy0 hy1 hy2 rfl (by decide) _ L.length (w32 L) rfl (HTW.out.ox.alloc _) _ _ 1 1 [.int .u32 (y : Nat)] rfl rfl (by exact rd_oneW _ _) (w32_one [_]) (by rw [HLT.out]; omega) (by rw [HLT.out]; omega) (by simp; omega) ?_; intro v8 w8 hap; have HT8 := Lib.hid (Two.app (HTW.out.alloc _) hap); have HB8 := Lib.hid (show Below W4.heap.size W4 w8 from (HBW.out.alloc HBW.out.size _).trans (hap.below (HTW.out.ox.alloc _) (by simp; omega))); clear hap)
        | (at_builtin; refine wpList_app _ rfl (.tmp 41) (.tmp 47) _ rfl W4.heap.size 47 i4 (.int .u32 0) 1 4 Tryd.underlying62 hi4 hy0 hy1 hy2 rfl (by decide) _ L.length (w32 L) rfl (HT8.out.oy.alloc _) _ _ 1 1 [.int .u32 (y : Nat)] rfl rfl (by exact rd_oneW _ _) (w32_one [_]) (by rw [HLT.out]; omega) (by rw [HLT.out]; omega) (by have := HB8.out.size; simp; omega) ?_; intro v9 w9 hap; have HT9 := Lib.hid (Two.app (HT8.out.symm.alloc _) hap).symm; have HB9 := Lib.hid (show Below W4.heap.size W4 w9 from (HB8.out.alloc HB8.out.size _).trans (hap.below (HT8.out.oy.alloc _) (by have := HB8.out.size; simp; omega))); clear hap))
      go_roundw
      case rel => exact ⟨i + 1, by omega, by go_num, by rw [HSN.out]; exact HT9.out, HB9.out⟩
      case measure => simp only [intOf]; omega
    · obtain rfl : i = 16 := by omega
      rw [show ((16 : Nat) : Int) = 16 from rfl]
      rw [HWE.out] at HTW
      clear HWD HWA HW32 HRD HWE HFO HFL
      obtain ⟨fr, hfr⟩ : ∃ fr, fr = startL k n nonce := ⟨_, rfl⟩
      rw [← hfr] at HTW H16 HBK
      clear hfr
      obtain ⟨gx, cx, rx, rfl, hgx, hbx, hcx, _, _⟩ := HTW.out.ox.open_ (by intro h; have := H16.out.len; rw [h] at this; cases this)
      obtain ⟨gy, cy, ry, rfl, hgy, hby, hcy, _, _⟩ := HTW.out.oy.open_ (by intro h; have := H16.out.len; rw [h] at this; cases this)
      have hxy : gx ≠ gy := fun h => HTW.out.ne gx rfl (by rw [h]; rfl)
      have HX := Lib.hid hbx
      have HY := Lib.hid hby
      rw [H16.out.len]
      clear hbx hby HTW
      go_wp2_with fail
      have HQC := Lib.hid (fun (a b c d : Nat) ha hb hc hd vs W (h16 : W16 vs) (hB : Blk W gy 47 (vx vs ry)) => rquarter_c gy cy a b c d vs ry W h16 hB ha hb hc hd)
      go_loopw [11] (fun mi wb => ∃ m : Nat, m ≤ 10 ∧ mi = .int .i64 m ∧ Blk wb gy 47 (vx (rnds fr m) ry) ∧ wr.grownBy wb (some gy)) (fun mi _ => 10 - (intOf mi).toNat)
      case atStart => exact ⟨0, by omega, rfl, HY.out, g1_refl _ _⟩
      case round =>
        rename World => wb
        obtain ⟨m, hm, rfl, hb, hg⟩ := hrel
        have HT := Lib.hid hb
        have GR := Lib.hid hg
        clear hb hg HY
        by_cases hlt : m < 10
        · have p1 : (m : Int) < 10 := by omega
          have HNX := Lib.hid (show rnds fr (m + 1) = qrt (rnds fr m) 8 from rfl)
          have HW := Lib.hid (H16.out.rnds m)
          have HT0 := Lib.hid (show Blk wb gy 47 (vx (qrt (rnds fr m) 0) ry) from HT.out)
          clear HT
          generalize rnds fr m = us at *
          go_wp2_with fail
          go_loopw [12] (fun ji wc => ∃ j : Nat, j ≤ 4 ∧ ji = .int .i64 j ∧ Blk wc gy 47 (vx (qrt us j) ry) ∧ wr.grownBy wc (some gy)) (fun ji _ => 4 - (intOf ji).toNat)
          case atStart => exact ⟨0, by omega, rfl, HT0.out, GR.out⟩
          case round =>
            clear HT0 GR
            rename World => wc
            obtain ⟨j, hj, rfl, hb, hg⟩ := hrel
            have HT := Lib.hid hb
            have GR := Lib.hid hg
            clear hb hg
            by_cases hlt : j < 4
            · rcases (show j = 0 ∨ j = 1 ∨ j = 2 ∨ j = 3 by omega) with rfl | rfl | rfl | rfl
              · go_wp2_with (go_at_call 31; (refine (HQC.out 0 4 8 12 (by decide) (by decide) (by decide) (by decide) _ _ (HW.out.qrt 0 (by decide)) HT.out).mono ?_); rintro e w2 ⟨rfl, hv, hg⟩; have HV := Lib.hid (show Blk w2 gy 47 (vx (qrt us 1) ry) from hv); have HG := Lib.hid (GR.out.trans hg); clear hv hg)
                go_roundw
                case rel => exact ⟨1, by decide, by first | rfl | go_num, HV.out, HG.out⟩
                case measure => simp only [intOf]; omega
              · go_wp2_with (go_at_call 31; (refine (HQC.out 1 5 9 13 (by decide) (by decide) (by decide) (by decide) _ _ (HW.out.qrt 1 (by decide)) HT.out).mono ?_); rintro e w2 ⟨rfl, hv, hg⟩; have HV := Lib.hid (show Blk w2 gy 47 (vx (qrt us 2) ry) from hv); have HG := Lib.hid (GR.out.trans hg); clear hv hg)
                go_roundw
                case rel => exact ⟨2, by decide, by first | rfl | go_num, HV.out, HG.out⟩
                case measure => simp only [intOf]; omega
              · go_wp2_with (go_at_call 31; (refine (HQC.out 2 6 10 14 (by decide) (by decide) (by decide) (by decide) _ _ (HW.out.qrt 2 (by decide)) HT.out).mono ?_); rintro e w2 ⟨rfl, hv, hg⟩; have HV := Lib.hid (show Blk w2 gy 47 (vx (qrt us 3) ry) from hv); have HG := Lib.hid (GR.out.trans hg); clear hv hg)
                go_roundw
                case rel => exact ⟨3, by decide, by first | rfl | go_num, HV.out, HG.out⟩
                case measure => simp only [intOf]; omega
              · go_wp2_with (go_at_call 31; (refine (HQC.out 3 7 11 15 (by decide) (by decide) (by decide) (by decide) _ _ (HW.out.qrt 3 (by decide)) HT.out).mono ?_); rintro e w2 ⟨rfl, hv, hg⟩; have HV := Lib.hid (show Blk w2 gy 47 (vx (qrt us 4) ry) from hv); have HG := Lib.hid (GR.out.trans hg); clear hv hg)
                go_roundw
                case rel => exact ⟨4, by decide, by first | rfl | go_num, HV.out, HG.out⟩
                case measure => simp only [intOf]; omega
            · obtain rfl : j = 4 := by omega
              rw [show ((4 : Nat) : Int) = 4 from rfl]
              go_wp2_with fail
              have HT0 := Lib.hid (show Blk wc gy 47 (vx (qrt us (4 + 0)) ry) from HT.out)
              clear HT
              go_loopw [13] (fun ji wd => ∃ j : Nat, j ≤ 4 ∧ ji = .int .i64 j ∧ Blk wd gy 47 (vx (qrt us (4 + j)) ry) ∧ wr.grownBy wd (some gy)) (fun ji _ => 4 - (intOf ji).toNat)
              case atStart => exact ⟨0, by omega, rfl, HT0.out, GR.out⟩
              case round =>
                clear HT0 GR
                rename World => wd
                obtain ⟨j, hj, rfl, hb, hg⟩ := hrel
                have HT := Lib.hid hb
                have GR := Lib.hid hg
                clear hb hg
                by_cases hlt : j < 4
                · rcases (show j = 0 ∨ j = 1 ∨ j = 2 ∨ j = 3 by omega) with rfl | rfl | rfl | rfl
                  · go_wp2_with (go_at_call 31; (refine (HQC.out 0 5 10 15 (by decide) (by decide) (by decide) (by decide) _ _ (HW.out.qrt 4 (by decide)) HT.out).mono ?_); rintro e w2 ⟨rfl, hv, hg⟩; have HV := Lib.hid (show Blk w2 gy 47 (vx (qrt us 5) ry) from hv); have HG := Lib.hid (GR.out.trans hg); clear hv hg)
                    go_roundw
                    case rel => exact ⟨1, by decide, by first | rfl | go_num, HV.out, HG.out⟩
                    case measure => simp only [intOf]; omega
                  · go_wp2_with (go_at_call 31; (refine (HQC.out 1 6 11 12 (by decide) (by decide) (by decide) (by decide) _ _ (HW.out.qrt 5 (by decide)) HT.out).mono ?_); rintro e w2 ⟨rfl, hv, hg⟩; have HV := Lib.hid (show Blk w2 gy 47 (vx (qrt us 6) ry) from hv); have HG := Lib.hid (GR.out.trans hg); clear hv hg)
                    go_roundw
                    case rel => exact ⟨2, by decide, by first | rfl | go_num, HV.out, HG.out⟩
                    case measure => simp only [intOf]; omega
                  · go_wp2_with (go_at_call 31; (refine (HQC.out 2 7 8 13 (by decide) (by decide) (by decide) (by decide) _ _ (HW.out.qrt 6 (by decide)) HT.out).mono ?_); rintro e w2 ⟨rfl, hv, hg⟩; have HV := Lib.hid (show Blk w2 gy 47 (vx (qrt us 7) ry) from hv); have HG := Lib.hid (GR.out.trans hg); clear hv hg)
                    go_roundw
                    case rel => exact ⟨3, by decide, by first | rfl | go_num, HV.out, HG.out⟩
                    case measure => simp only [intOf]; omega
                  · go_wp2_with (go_at_call 31; (refine (HQC.out 3 4 9 14 (by decide) (by decide) (by decide) (by decide) _ _ (HW.out.qrt 7 (by decide)) HT.out).mono ?_); rintro e w2 ⟨rfl, hv, hg⟩; have HV := Lib.hid (show Blk w2 gy 47 (vx (qrt us 8) ry) from hv); have HG := Lib.hid (GR.out.trans hg); clear hv hg)
                    go_roundw
                    case rel => exact ⟨4, by decide, by first | rfl | go_num, HV.out, HG.out⟩
                    case measure => simp only [intOf]; omega
                · obtain rfl : j = 4 := by omega
                  go_wp2_with fail
                  go_roundw
                  case rel => exact ⟨m + 1, by omega, by go_num, by rw [HNX.out]; exact HT.out, GR.out⟩
                  case measure => simp only [intOf]; omega
        · obtain rfl : m = 10 := by omega
          rw [show ((10 : Nat) : Int) = 10 from rfl]
          have HW := Lib.hid (H16.out.rnds 10)
          generalize rnds fr 10 = us at *
          have HX2 := Lib.hid (g1_blk GR.out HX.out hxy)
          have HB2 := Lib.hid (HBW.out.trans (g1_below GR.out hgy HBW.out.size))
          clear HX HBW GR HQC
          go_wp2_with fail
          go_loopw [14, 15, 100] (fun vo vi vt ws => ∃ i : Nat, i ≤ 16 ∧ vi = .int .i64 i ∧ OwnB ws wb.heap.size vo ((List.range (4 * i)).map (outB us fr)) ∧ Below wb.heap.size wb ws ∧ isTok vt = false) (fun _ vi _ _ => 16 - (intOf vi).toNat)
          case atStart => exact ⟨0, by omega, rfl, OwnB.nil_ _ _, Below.refl _ _, by rfl⟩
          case round =>
            rename World => ws
            obtain ⟨i, hi, rfl, how, hbw, htk⟩ := hrel
            have HOW := Lib.hid how
            have HBS := Lib.hid hbw
            have HTK := Lib.hid htk
            clear how hbw htk
            by_cases hlt : i < 16
            · have p1 : (i : Int) < 16 := by omega
              have c0 := cell_ext (((HT.out.below HBS.out HT.out.lt).cell i).trans (vx_at us ry i (by rw [HW.out.len]; exact hlt)))
              have c1 := cell_ext (((HX2.out.below HBS.out HX2.out.lt).cell i).trans (vx_at fr rx i (by rw [H16.out.len]; exact hlt)))
              have HNS := Lib.hid (out_step us fr i)
              have HLO := Lib.hid (show ((List.range (4 * i)).map (outB us fr)).length = 4 * i by simp)
              have x0 := HW.out.lt i
              have x1 := H16.out.lt i
              obtain ⟨s, hs⟩ : ∃ s, s = (us.getD i 0 + fr.getD i 0) % 4294967296 := ⟨_, rfl⟩
              have f0 : IntKind.u32.wrap (((us.getD i 0 : Nat) : Int) + ((fr.getD i 0 : Nat) : Int)) = (s : Int) := by rw [wrap32]; omega
              have f1 : IntKind.u64.wrap (s : Int) = (s : Int) := by simp [IntKind.wrap, IntKind.signed, IntKind.bits]; omega
              rw [← hs] at HNS
              have hs32 : s < 4294967296 := by omega
              have hf4' := form_len s 4
              clear hs
              generalize us.getD i 0 = a at *
              generalize fr.getD i 0 = b at *
              generalize (List.range (4 * i)).map (outB us fr) = O at *
              go_wp2_with fail
              refine wp_region_loudTail 12 ws [100] (fun _ u W => OwnB W ws.heap.size u (form s 4)) (by kernel_rfl) (by kernel_rfl) (by kernel_rfl) (by have h := HTK.out; exact congrArg (fun b => !b && true) h) (fun _ _ _ _ h hb => OwnB.next h hb) (Below.refl _ _).drew ?_
              simp only [List.take_succ_cons, List.take_zero, List.drop_succ_cons, List.drop_zero]
              repeat (first
                | (refine wpLoud_plain rfl rfl rfl ?_; intro K hK; go_big_quiet_op; go_big_quiet_on)
                | (refine wpLoud_call 100 rfl [] tok 23 (fun g => #[.int .u64 (s : Nat), .int .i64 4]) (by kernel_rfl) (fun _ _ h => by cases h) (by kernel_rfl) (fun g w => by kernel_rfl) (fun g y hg => by
                    refine (rform_c s 4 _ (by omega) (by decide)).mono ?_
                    rintro e w' ⟨u, rfl, ho, hb⟩
                    exact ⟨u, rfl, hb, own_base_le ho y.2.size⟩) _ (by simp only [Act.put, List.setIfInBounds_toArray, List.set_cons_succ, List.set_cons_zero]; rfl) ?_))
              refine wpLoud_end [100] (by rfl) ?_
              intro g z hg
              have h9 : OwnB z.wd ws.heap.size (g 100) (form s 4) := hg 100 (by simp)
              obtain ⟨A9, k9, e9, _, _, r9⟩ := h9.rd
              rw [hf4'] at e9
              have HR9 := Lib.hid r9
              have HOZ := Lib.hid (HOW.out.next z.bel)
              have HBZ := Lib.hid (HBS.out.trans (z.bel.mono HBS.out.size))
              generalize z.wd = Y2 at *
              simp only [fill, Act.put, List.setIfInBounds_toArray, List.set_cons_succ, List.set_cons_zero]
              rw [e9]
              clear hg h9 r9 e9 HOW HBS c0 c1
              go_wp2_with (at_builtin; refine wpList_app _ rfl (.tmp 89) (.tmp 100) _ rfl wb.heap.size 5 i0 (.int .u8 0) 1 1 Tryd.underlying26 hib hz0 hz1 hz2 rfl (by decide) _ O.length (byt O) rfl HOZ.out _ A9 4 k9 (byt (form s 4)) rfl (by simp [byt_len, hf4']) HR9.out (byt_one _) (by rw [HLO.out]; omega) (by rw [HLO.out]; omega) (by have := HBZ.out.size; omega) ?_; intro v9 w9 hap; have HO9 := Lib.hid (show OwnB w9 wb.heap.size v9 ((List.range (4 * (i + 1))).map (outB us fr)) from by rw [HNS.out]; exact OwnB.app (by rw [hf4']; exact hap)); have HB9 := Lib.hid (show Below wb.heap.size wb w9 from HBZ.out.trans (hap.below HOZ.out (by have := HBZ.out.size; omega))); clear hap)
              go_roundw
              case rel => exact ⟨i + 1, by omega, by go_num, HO9.out, HB9.out, by rfl⟩
              case measure => simp only [intOf]; omega
            · obtain rfl : i = 16 := by omega
              go_wp2_with fail
              refine bodyPost_ret (results_tmp rfl _ _ _) rfl ?_
              exact ⟨_, rfl, by rw [HBK.out]; exact own_base_le HOW.out (Nat.le_trans HB4.out.size HB2.out.size), HB4.out.trans ((HB2.out.trans (HBS.out.mono HB2.out.size)).mono HB4.out.size)⟩
end Go.Proofs.YtfblpkjablgafaaDoor
