/- BoxOpens returns true for any key and box. Conditions: the table of the quarters is as its initialiser lays it. -/
import Derived.Test.YtaikejlcpnelpaaDoorZ10
import Derived.Test.YtaikejlcpnelpaaDoorTie
import Derived.Test.YtaikejlcpnelpaaDoorCards
import Derived.SevenTiedAt
/- A box that came in by value, opened. -/
namespace Go.Proofs.YtaikejlcpnelpaaDoor
set_option maxRecDepth 100000
open Go.ChangeShapes Go.WideShapes Go.ChangeAt Go.RowKit
set_option linter.unusedVariables false
theorem bytes_ofX {H : Type} {enc : TypeId × Value → H} {W : World} {fuel : Nat} {cs : List Value} {y : DataW H × List MemPlace} (hf : DataW.trod enc Tryd.prog W 0 (fun _ => true) true fuel 30 cs = some y) :
    ∃ (A : Option Addr) (l : List Nat) (cap : Nat), cs = [.slice A l.length cap] ∧ (∀ c ∈ l, c < 256) ∧ Rd W W.heap.size A (byt l) ∧ l.length ≤ cap ∧ l.length ≤ maxLen := by
  rcases open_ints Tryd.underlying30 Tryd.underlying5 (by kernel_rfl) hf with ⟨hcs, _⟩ | ⟨x, len, cap, zs, hcs, _, hl, hm, hz, _, hcell, hwz⟩
  · exact ⟨none, [], 0, hcs, by simp, Rd.nil_ _ _ _, by simp, by simp⟩
  · have hz' : zs.length = cap := by simpa using hz
    have hlen : ((zs.take len).map Int.toNat).length = len := by simp; omega
    refine ⟨some x, (zs.take len).map Int.toNat, cap, by rw [hlen]; exact hcs, ?_, ?_, by rw [hlen]; omega, by rw [hlen]; omega⟩
    · intro c hc
      obtain ⟨z, hz1, rfl⟩ := List.mem_map.1 hc
      have := bounds_u8 (hwz z (List.mem_of_mem_take hz1))
      omega
    · intro hne
      have h0 : 0 < len := by
        rcases Nat.eq_zero_or_pos len with h0 | h0
        · subst h0; simp [byt] at hne
        · exact h0
      have hc0 := hcell 0 (by omega)
      refine ⟨x, rfl, by have := block_lt hc0; rwa [add_block] at this, fun j u hu => ?_⟩
      have hj : j < len := by
        rcases Nat.lt_or_ge j len with h1 | h1
        · exact h1
        · rw [List.getElem?_eq_none (by rw [byt_len, hlen]; exact h1)] at hu; cases hu
      have hjz : j < zs.length := by omega
      rw [hcell j hjz]
      rw [byt_at (by rw [hlen]; exact hj)] at hu
      rw [← hu, List.getD_eq_getElem?_getD, List.getD_eq_getElem?_getD, List.getElem?_map, List.getElem?_take_of_lt hj, List.getElem?_eq_getElem hjz]
      have := bounds_u8 (hwz zs[j] (List.getElem_mem _))
      simp
      omega
theorem open_box {H : Type} {enc : TypeId × Value → H} {W : World} {base : Nat} {v : Value} {d : DataW H} {p : List MemPlace} (hv : Value.okWide Tryd.prog W .any base 32 v)
    (h : DataW.Trod enc Tryd.prog W 0 (fun _ => true) true 32 v d p) :
    ∃ (t : ByteArray) (e : Nat) (nn : List Nat) (A : Option Addr) (l : List Nat) (cap : Nat), v = .agg (bxV t e nn A l.length cap) ∧ t.size ≤ 9223372036854775807 ∧ e < 4294967296 ∧ nn.length = 12 ∧ (∀ c ∈ nn, c < 256) ∧ l.length ≤ cap ∧ (∀ c ∈ l, c < 256) ∧ Rd W W.heap.size A (byt l) ∧ l.length ≤ 9223372036854775807 := by
  obtain ⟨f0, f1, f2, f3, hs, ⟨o0, o1, o2, o3⟩, k0, k1, k2, k3⟩ : ∃ f0 f1 f2 f3 : Field, Tryd.prog.underlying 32 = some (.struct #[f0, f1, f2, f3]) ∧ (f0.offset = 0 ∧ f1.offset = 1 ∧ f2.offset = 2 ∧ f3.offset = 14) ∧ f0.type = 9 ∧ f1.type = 26 ∧ f2.type = 25 ∧ f3.type = 30 := ⟨_, _, _, _, Tryd.underlying32, ⟨rfl, rfl, rfl, rfl⟩, rfl, rfl, rfl, rfl⟩
  obtain ⟨cs, rfl, hsz⟩ := okWide_struct hs hv
  have hC : Tryd.prog.cellsOf 32 = 15 := by kernel_rfl
  have hcs : Tryd.prog.cellsOf 9 = 1 := by kernel_rfl
  have hc32 : Tryd.prog.cellsOf 26 = 1 := by kernel_rfl
  have hcN : Tryd.prog.cellsOf 25 = 12 := by kernel_rfl
  have hcB : Tryd.prog.cellsOf 30 = 1 := by kernel_rfl
  obtain ⟨fuel, hf⟩ := h
  obtain ⟨xs, n, _, hx, hlc, hlen, hg⟩ := DataW.trod_struct hs hf
  simp only [Value.cells] at hf hlc hg
  have hlen' : xs.length = 4 := hlen
  have g0 := hg 0 f0 rfl
  rw [k0, o0, hcs, List.getElem?_eq_getElem (by omega)] at g0
  have g1 := hg 1 f1 rfl
  rw [k1, o1, hc32, List.getElem?_eq_getElem (by omega)] at g1
  have g2 := hg 2 f2 rfl
  rw [k2, o2, hcN, List.getElem?_eq_getElem (by omega)] at g2
  have g3 := hg 3 f3 rfl
  rw [k3, o3, hcB, List.getElem?_eq_getElem (by omega)] at g3
  obtain ⟨s, e0, _, hss⟩ := DataW.trod_string Tryd.underlying9 g0
  obtain ⟨z1, e1, _, w1⟩ := DataW.trod_int Tryd.underlying26 g1
  have b1 := bounds_u32 w1
  obtain ⟨n1, rfl⟩ := Int.eq_ofNat_of_zero_le b1.1
  obtain ⟨nn, en, hnl, hns⟩ := barr_of Tryd.underlying25 hcN g2
  obtain ⟨A, l, cap, ed, hl, hr, hlc2, hlm⟩ := bytes_ofX g3
  refine ⟨s, n1, nn, A, l, cap, ?_, by simpa [maxLen] using hss, by omega, hnl, hns, hlc2, hl, hr, by simpa [maxLen] using hlm⟩
  congr 1
  apply Array.toList_inj.1
  have c0 := cut_eqP (n := 1) 0 [_] rfl e0
  have c1 := cut_eqP (n := 1) 1 [_] rfl e1
  have c2 := cut_eqP (n := 12) 2 (byt nn) (by rw [byt_len, hnl]) en
  have c3 := cut_eqP (n := 1) 14 [_] rfl ed
  have hend : cs.toList.drop (14 + 1) = [] := List.drop_of_length_le (by rw [hlc, hC]; decide)
  rw [List.drop_zero] at c0
  rw [c0, c1, c2, c3, hend]
  simp [bxV, bxL]
end Go.Proofs.YtaikejlcpnelpaaDoor
/- BoxOpens, walked. -/
namespace Go.Proofs.YtaikejlcpnelpaaDoor
open Go.RowKit
set_option linter.unusedVariables false
set_option linter.unusedSimpArgs false
theorem readE_caseB (b : List Nat) : (readE b = 0 ∧ chkL (readL b) = 0 ∧ layL (readL b) = b ∧ readL b = (readB b).1) ∨ readE b = 2 ∨ readE b = 4 := by
  unfold readL readE
  cases shortB b with
  | true => right; left; rfl
  | false =>
    simp only [Bool.false_eq_true, if_false]
    by_cases h1 : (readB b).2 = true
    · rw [h1]; right; right; rfl
    · rw [if_neg h1]
      by_cases h2 : chkL (readB b).1 = 0 ∧ layL (readB b).1 = b
      · rw [if_pos h2]
        left
        exact ⟨rfl, h2.1, h2.2, rfl⟩
      · rw [if_neg h2]
        right; right; rfl
theorem RdP.upsB {w w' : World} {n m : Nat} {A : Option Addr} {l : List Pc} (h : RdP w n A l) (hb : Below n w w') (hm : n ≤ m) : RdP w' m A l := Rd.ups (Rd.below h hb) hm
set_option maxRecDepth 100000 in
set_option maxHeartbeats 8000000 in
theorem opens_c (k nn body : List Nat) (t : ByteArray) (ep : Nat) (A : Option Addr) (c : Nat) (w : World) (hk : k.length = 32) (hkl : ∀ c ∈ k, c < 256) (hn : nn.length = 12) (hnl : ∀ c ∈ nn, c < 256) (ht : t.size ≤ 9223372036854775807) (he : ep < 4294967296)
    (hr : Rd w w.heap.size A (byt body)) (hbl : ∀ c ∈ body, c < 256) (hc : body.length ≤ c) (hbn : body.length ≤ 9223372036854775807) (hq : QuartersAt w) :
    Calls Tryd.prog 4 #[.agg (vb k), .agg (bxV t ep nn A body.length c)] w fun e w' => e = .returned (.bool true) ∧ Below w.heap.size w w' := by
  have HX := Lib.hid (Obx.begin w k (bxV t ep nn A body.length c))
  have HN12 := Lib.hid hn
  have HAW := Lib.hid (fun W (hb : Below w.heap.size w W) => awake16_c W (hq.next hb))
  by_cases hbig : 1000 < body.length
  · have q1 : (1000 : Int) < (body.length : Int) := by omega
    clear hr hbl hkl hnl hq hbig hc
    go_enter Tryd.func4, Tryd.ntmps4
    go_upto_region 1 with (first
      | (refine Go.Great.wpList_boxTo rfl 23 (.tmp 0) rfl (some 2) rfl w.heap.size rfl (vb k) rfl ?_)
      | (refine Go.Great.wpList_boxTo rfl 32 (.tmp 1) rfl (some 3) rfl (w.heap.size + 1) (by simp) (bxV t ep nn A body.length c) rfl ?_))
    generalize (w.alloc (Obj.cells (vb k) 23)).alloc (Obj.cells (bxV t ep nn A body.length c) 32) = Z at *
    have c0 : Z.cell? ⟨w.heap.size + 1, 0, none⟩ = some (.string t) := (HX.out.bA.cell 0).trans (bx_c0 ..)
    have c14 : Z.cell? ⟨w.heap.size + 1, 14, none⟩ = some (.slice A body.length c) := (HX.out.bA.cell 14).trans (bx_c14 _ _ _ _ _ HN12.out)
    go_wp2_with (go_at_call 9; (refine (HAW.out Z HX.out.bel).mono ?_); rintro e W9 ⟨rfl, hb⟩; have HB9 := Lib.hid (HX.out.bel.trans (hb.mono HX.out.bel.size)); clear hb)
    go_ret
    exact ⟨rfl, HB9.out⟩
  by_cases htl : 100 < t.size
  · have q1 : ¬ (1000 : Int) < (body.length : Int) := by omega
    have q2 : (100 : Int) < (t.size : Int) := by omega
    clear hr hbl hkl hnl hq hbig hc
    go_enter Tryd.func4, Tryd.ntmps4
    go_upto_region 1 with (first
      | (refine Go.Great.wpList_boxTo rfl 23 (.tmp 0) rfl (some 2) rfl w.heap.size rfl (vb k) rfl ?_)
      | (refine Go.Great.wpList_boxTo rfl 32 (.tmp 1) rfl (some 3) rfl (w.heap.size + 1) (by simp) (bxV t ep nn A body.length c) rfl ?_))
    generalize (w.alloc (Obj.cells (vb k) 23)).alloc (Obj.cells (bxV t ep nn A body.length c) 32) = Z at *
    have c0 : Z.cell? ⟨w.heap.size + 1, 0, none⟩ = some (.string t) := (HX.out.bA.cell 0).trans (bx_c0 ..)
    have c14 : Z.cell? ⟨w.heap.size + 1, 14, none⟩ = some (.slice A body.length c) := (HX.out.bA.cell 14).trans (bx_c14 _ _ _ _ _ HN12.out)
    go_wp2_with (go_at_call 9; (refine (HAW.out Z HX.out.bel).mono ?_); rintro e W9 ⟨rfl, hb⟩; have HB9 := Lib.hid (HX.out.bel.trans (hb.mono HX.out.bel.size)); clear hb)
    go_ret
    exact ⟨rfl, HB9.out⟩
  have q1 : ¬ (1000 : Int) < (body.length : Int) := by omega
  have q2 : ¬ (100 : Int) < (t.size : Int) := by omega
  have HBL := Lib.hid (bxLn t ep (nn := nn) A body.length c hn)
  have HBS := Lib.hid (bxSz t ep (nn := nn) A body.length c hn)
  have HNK := Lib.hid (keySz hk)
  have HRC := Lib.hid (fun W => rcheck16_c t ep nn A body.length c W hn (by omega) (by omega))
  have HOP := Lib.hid (fun W (hb : Below w.heap.size w W) => openBox_c k nn body t ep A c W hk hkl hn hnl (by omega) he (Rd.ups (Rd.below hr hb) hb.size) hbl hc (by omega) (hq.next hb))
  unfold OpenR at HOP
  have HEE := Lib.hid (show opE k t ep nn body = if checkB t body.length then (if openErr k nn (besideL 66 t ep) body = 0 then readE (openL k nn (besideL 66 t ep) body) else openErr k nn (besideL 66 t ep) body) else 1 from rfl)
  have HPP := Lib.hid (show opP k t ep nn body = if opE k t ep nn body = 0 then readL (openL k nn (besideL 66 t ep) body) else [] from rfl)
  cases hck : checkB t body.length with
  | false =>
    have hE : opE k t ep nn body = 1 := by rw [HEE.out, hck]; rfl
    have hP : opP k t ep nn body = [] := by rw [HPP.out, if_neg (by omega)]
    rw [hE, hP] at HOP
    rw [hck] at HRC
    clear hr hbl hkl hnl hq hck HEE HPP hE hP hbig htl
    go_enter Tryd.func4, Tryd.ntmps4
    go_upto_region 1 with (first
      | (refine Go.Great.wpList_boxTo rfl 23 (.tmp 0) rfl (some 2) rfl w.heap.size rfl (vb k) rfl ?_)
      | (refine Go.Great.wpList_boxTo rfl 32 (.tmp 1) rfl (some 3) rfl (w.heap.size + 1) (by simp) (bxV t ep nn A body.length c) rfl ?_))
    generalize (w.alloc (Obj.cells (vb k) 23)).alloc (Obj.cells (bxV t ep nn A body.length c) 32) = Z at *
    have c0 : Z.cell? ⟨w.heap.size + 1, 0, none⟩ = some (.string t) := (HX.out.bA.cell 0).trans (bx_c0 ..)
    have c14 : Z.cell? ⟨w.heap.size + 1, 14, none⟩ = some (.slice A body.length c) := (HX.out.bA.cell 14).trans (bx_c14 _ _ _ _ _ HN12.out)
    go_wp2_with (first
        | (refine wpList_load_row rfl 23 (.tmp 2) rfl w.heap.size rfl 23 (vb k) (0, 0) _ HX.out.kA Tryd.underlying23 rfl HNK.out ?_)
        | (refine wpList_load_row rfl 32 (.tmp 3) rfl (w.heap.size + 1) rfl 32 (bxV t ep nn A body.length c) (0, 0) _ HX.out.bA Tryd.underlying32 rfl HBS.out ?_)
        | (refine wpList_load_row rfl 32 (.tmp 3) rfl (w.heap.size + 1) rfl 32 (bxV t ep nn A body.length c) (0, 0) _ HX2.out.bA Tryd.underlying32 rfl HBS.out ?_)
        | (go_at_call 14; (refine (HOP.out Z HX.out.bel).mono ?_); rintro e W2 ⟨v2, rfl, ho, hb⟩; obtain ⟨A2, c2, rfl, hc2, hm2, r2⟩ := ho.rd; have HP2 := Lib.hid r2; have HX2 := Lib.hid (HX.out.next hb); clear ho hb r2)
        | (go_at_call 18; (refine (HRC.out W2).mono ?_); rintro e W3 ⟨rfl, hb⟩; have HX3 := Lib.hid (HX2.out.next hb); have HP3 := Lib.hid (RdP.upsB HP2.out hb hb.size); clear hb)
        | (go_at_call 9; (refine (HAW.out W3 HX3.out.bel).mono ?_); rintro e W9 ⟨rfl, hb⟩; have HB9 := Lib.hid (HX3.out.bel.trans (hb.mono HX3.out.bel.size)); clear hb))
    go_ret
    exact ⟨rfl, HB9.out⟩
  | true =>
    have hck2 := hck
    unfold checkB at hck2
    simp only [Bool.and_eq_true, decide_eq_true_eq] at hck2
    obtain ⟨hnm, h16, h4112⟩ := hck2
    have hbsl := beside_len 66 t ep
    have HBC := Lib.hid (fun W => rbeside_c 66 t ep W he (by omega))
    have HOC := Lib.hid (fun W A1 c1 (hb : Below w.heap.size w W) (hr1 : Rd W W.heap.size A1 (byt (besideL 66 t ep))) => ropen_c A1 A c1 c k nn (besideL 66 t ep) body W hk hkl hn hnl hr1 (Rd.ups (Rd.below hr hb) hb.size) (beside_lt 66 t ep (by decide)) hbl (by omega) h16 h4112 hc)
    have HPB := Lib.hid (openL_lt (k := k) (nn := nn) (bs := besideL 66 t ep) hbl)
    have HPL := Lib.hid (openL_len (k := k) (nn := nn) (bs := besideL 66 t ep) (body := body))
    have HNL := Lib.hid (show (Tryd.prog.info? 25).map (·.size) = some (vb nn).toList.length by rw [Array.length_toList]; exact nnSz hn)
    have HKL := Lib.hid (show (Tryd.prog.info? 23).map (·.size) = some (vb k).toList.length by rw [Array.length_toList]; exact keySz hk)
    rw [hck, if_pos rfl] at HEE
    rw [hck] at HRC
    have hob : (openL k nn (besideL 66 t ep) body).length ≤ 1000 := by have := HPL.out; omega
    have HRF := Lib.hid (readB_facts HPB.out)
    generalize opE k t ep nn body = E at *
    generalize opP k t ep nn body = P at *
    generalize openErr k nn (besideL 66 t ep) body = oe at *
    generalize openL k nn (besideL 66 t ep) body = pl at *
    generalize besideL 66 t ep = bs at *
    clear hr hbl hkl hnl hq hck hnm hbig htl
    go_enter Tryd.func4, Tryd.ntmps4
    go_upto_region 1 with (first
      | (refine Go.Great.wpList_boxTo rfl 23 (.tmp 0) rfl (some 2) rfl w.heap.size rfl (vb k) rfl ?_)
      | (refine Go.Great.wpList_boxTo rfl 32 (.tmp 1) rfl (some 3) rfl (w.heap.size + 1) (by simp) (bxV t ep nn A body.length c) rfl ?_))
    generalize (w.alloc (Obj.cells (vb k) 23)).alloc (Obj.cells (bxV t ep nn A body.length c) 32) = Z at *
    have c0 : Z.cell? ⟨w.heap.size + 1, 0, none⟩ = some (.string t) := (HX.out.bA.cell 0).trans (bx_c0 ..)
    have c14 : Z.cell? ⟨w.heap.size + 1, 14, none⟩ = some (.slice A body.length c) := (HX.out.bA.cell 14).trans (bx_c14 _ _ _ _ _ HN12.out)
    go_upto_region 6 with (first
        | (refine wpList_load_row rfl 23 (.tmp 2) rfl w.heap.size rfl 23 (vb k) (0, 0) _ HX.out.kA Tryd.underlying23 rfl HNK.out ?_)
        | (refine wpList_load_row rfl 32 (.tmp 3) rfl (w.heap.size + 1) rfl 32 (bxV t ep nn A body.length c) (0, 0) _ HX.out.bA Tryd.underlying32 rfl HBS.out ?_)
        | (refine wpList_load_row rfl 32 (.tmp 3) rfl (w.heap.size + 1) rfl 32 (bxV t ep nn A body.length c) (0, 0) _ HX2.out.bA Tryd.underlying32 rfl HBS.out ?_)
        | (go_at_call 14; (refine (HOP.out Z HX.out.bel).mono ?_); rintro e W2 ⟨v2, rfl, ho, hb⟩; obtain ⟨A2, c2, rfl, hc2, hm2, r2⟩ := ho.rd; have HP2 := Lib.hid r2; have HX2 := Lib.hid (HX.out.next hb); clear ho hb r2)
        | (go_at_call 18; (refine (HRC.out W2).mono ?_); rintro e W3 ⟨rfl, hb⟩; have HX3 := Lib.hid (HX2.out.next hb); have HP3 := Lib.hid (RdP.upsB HP2.out hb hb.size); clear hb))
    have d0 := cell_ext (show W3.cell? ⟨w.heap.size + 1, 0, none⟩ = some (.string t) from (HX3.out.bA.cell 0).trans (bx_c0 ..))
    have d1 := cell_ext (show W3.cell? ⟨w.heap.size + 1, 1, none⟩ = some (.int .u32 (ep : Int)) from (HX3.out.bA.cell 1).trans (bx_c1 ..))
    have d14 := cell_ext (show W3.cell? ⟨w.heap.size + 1, 14, none⟩ = some (.slice A body.length c) from (HX3.out.bA.cell 14).trans (bx_c14 _ _ _ _ _ hn))
    clear c0 c14 HOP HRC
    refine wp_region_loud W3 [47, 50, 39, 51, 7] (fun k u W => if k = 47 then OwnB W W3.heap.size u bs else if k = 50 ∨ k = 39 then (∃ v, u = .tuple #[v, .int .i64 (oe : Nat)] ∧ OwnB W W3.heap.size v pl) else OwnB W W3.heap.size u pl) (by kernel_rfl) (by kernel_rfl) (by kernel_rfl) (by kernel_rfl) (fun k u w1 w2 h hb => by
      by_cases h33 : k = 47
      · rw [if_pos h33] at h ⊢; exact OwnB.next h hb
      · rw [if_neg h33] at h ⊢
        by_cases h35 : k = 50 ∨ k = 39
        · rw [if_pos h35] at h ⊢; obtain ⟨v, e, h⟩ := h; exact ⟨v, e, OwnB.next h hb⟩
        · rw [if_neg h35] at h ⊢; exact OwnB.next h hb) (Below.refl _ _).drew ?_
    repeat (first
      | (refine wpLoud_loadB rfl rfl 23 (.tmp 2) rfl w.heap.size 0 rfl (vb k) _ (fun z => by have h2 := rangeAt_blk (HX3.out.kA.below z.bel HX3.out.kA.lt); simpa [vb] using h2) Tryd.underlying23 rfl HKL.out _ (by simp only [Act.put, List.setIfInBounds_toArray, List.set_cons_succ, List.set_cons_zero]; rfl) ?_)
      | (refine wpLoud_loadB rfl rfl 25 (.tmp 41) rfl (w.heap.size + 1) 2 rfl (vb nn) _ (fun z => by have h2 := bx_nonce (HX3.out.bA.below z.bel HX3.out.bA.lt); simpa [vb] using h2) Tryd.underlying25 rfl HNL.out _ (by simp only [Act.put, List.setIfInBounds_toArray, List.set_cons_succ, List.set_cons_zero]; rfl) ?_)
      | (refine wpLoud_call 47 rfl [] tok 20 (fun g => #[.int .u8 66, .string t, .int .u32 (ep : Int)]) rfl (fun _ _ h => by cases h) rfl (fun g w => by kernel_rfl) (fun g y hg => by
          refine (HBC.out y.wd).mono ?_
          rintro e w' ⟨u, rfl, ho, hb⟩
          exact ⟨u, rfl, hb, own_base_le ho y.bel.size⟩) _ (by simp only [Act.put, List.setIfInBounds_toArray, List.set_cons_succ, List.set_cons_zero]; rfl) ?_)
      | (refine wpLoud_call 50 rfl [47] tok 19 (fun g => #[.agg (vb k), .agg (vb nn), g 47, .slice A body.length c]) rfl (fun _ _ h => by cases h) rfl (fun g w => by kernel_rfl) (fun g y hg => by
          have h22 : OwnB y.wd W3.heap.size (g 47) bs := hg 47 (by simp)
          obtain ⟨A3, c3, e3, _, _, r3⟩ := h22.rd
          show Calls _ _ #[_, _, g 47, _] _ _
          rw [e3]
          refine (HOC.out y.wd A3 c3 (HX3.out.bel.trans (y.bel.mono HX3.out.bel.size)) r3).mono ?_
          rintro e w' ⟨v, rfl, ho, hb⟩
          exact ⟨_, rfl, hb, ⟨v, rfl, own_base_le ho y.bel.size⟩⟩) _ (by simp only [Act.put, List.setIfInBounds_toArray, List.set_cons_succ, List.set_cons_zero]; rfl) ?_)
      | (refine wpLoud_move rfl 50 39 (.inr rfl) rfl rfl rfl rfl (fun u w h => h) _ (by simp only [Act.put, List.setIfInBounds_toArray, List.set_cons_succ, List.set_cons_zero]; rfl) ?_)
      | (refine wpLoud_makeG 51 rfl rfl [39] rfl (fun _ _ h => by cases h) rfl (fun g x h => by
          obtain ⟨v, e, ho⟩ : ∃ v, g 39 = .tuple #[v, .int .i64 (oe : Nat)] ∧ OwnB x.wd W3.heap.size v pl := h 39 (by simp)
          exact ⟨v, x.wd, run_ext _ _ (.tmp 39) 0 rfl _ v e rfl _, Below.refl _ _, ho⟩) _ (by simp only [Act.put, List.setIfInBounds_toArray, List.set_cons_succ, List.set_cons_zero]; rfl) ?_)
      | (refine wpLoud_valN 52 rfl rfl [39] (.int .i64 (oe : Nat)) rfl (fun _ _ h => by cases h) rfl (fun g x h => by
          obtain ⟨v, e, ho⟩ : ∃ v, g 39 = .tuple #[v, .int .i64 (oe : Nat)] ∧ OwnB x.wd W3.heap.size v pl := h 39 (by simp)
          exact run_ext _ _ (.tmp 39) 1 rfl _ _ e rfl _) _ (by simp only [Act.put, List.setIfInBounds_toArray, List.set_cons_succ, List.set_cons_zero]; rfl) ?_)
      | (refine wpLoud_move rfl 51 7 (.inl rfl) rfl rfl rfl rfl (fun u w h => h) _ (by simp only [Act.put, List.setIfInBounds_toArray, List.set_cons_succ, List.set_cons_zero]; rfl) ?_)
      | (refine wpLoud_plain rfl rfl rfl ?_; intro K hK; go_big_quiet_op; go_big_quiet_on))
    refine wpLoud_end [47, 50, 39, 51, 7] (by rfl) ?_
    intro gg z hg
    have h25 : OwnB z.wd W3.heap.size (gg 7) pl := hg 7 (by simp)
    obtain ⟨A5, c5, e7, hc5, hm5, r5⟩ := h25.rd
    have HR5 := Lib.hid r5
    have HX5 := Lib.hid (HX3.out.next z.bel)
    have HP5 := Lib.hid (show RdP z.wd z.wd.heap.size A2 P from RdP.upsB HP3.out z.bel z.bel.size)
    generalize z.wd = Y at *
    simp only [fill, Act.put, List.setIfInBounds_toArray, List.set_cons_succ, List.set_cons_zero]
    rw [e7]
    clear hg h25 e7 r5 d0 d1 d14 HOC HBC
    generalize gg 47 = x22 at *
    generalize gg 50 = x25 at *
    generalize gg 39 = x14 at *
    generalize gg 51 = x26 at *
    by_cases h0 : oe = 0
    · subst h0
      have hE2 : E = readE pl := by rw [HEE.out, if_pos rfl]
      rcases readE_caseB pl with ⟨hz, hck, hly, hbl⟩ | hE4
      · have hE0 : E = 0 := by omega
        subst hE0
        have hP : P = readL pl := by rw [HPP.out, if_pos rfl]
        subst hP
        have HF := Lib.hid (show (∀ p ∈ readL pl, PcOk p ∧ p.s.size ≤ 1000000) ∧ (readL pl).length ≤ 1000 by
          rw [hbl]
          exact ⟨fun p hp => ⟨(HRF.out.1 p hp).1, by have := (HRF.out.1 p hp).2; omega⟩, by have := HRF.out.2; omega⟩)
        have HCK := Lib.hid (fun W A2 c2 (h : RdP W W.heap.size A2 (readL pl)) => rcheck_c A2 c2 (readL pl) W h (by have := HF.out.2; omega) (fun p hp => (HF.out.1 p hp).2))
        have HLY := Lib.hid (fun W A2 c2 (h : RdP W W.heap.size A2 (readL pl)) => rlay_c A2 c2 (readL pl) W h (by have := HF.out.2; omega) HF.out.1 hck)
        have HSM := Lib.hid (fun W A1 c1 A2 c2 h g => same_c W.heap.size Y.heap.size A1 A2 c1 c2 pl pl W HPB.out HPB.out h g (by omega) (by omega))
        rw [hck] at HCK
        rw [hly] at HLY
        rw [beq_self_eq_true] at HSM
        generalize readL pl = m at *
        clear HEE HPP hE2 hz hck hly hbl HRF HF HPL HPB
        go_wp2_with (first
        | (go_at_call 13; (refine (HCK.out Y A2 c2 HP5.out).mono ?_); rintro e W6 ⟨rfl, hb⟩; have HX6 := Lib.hid (HX5.out.next hb); have HP6 := Lib.hid (RdP.upsB HP5.out hb hb.size); have HR6 := Lib.hid (Rd.below HR5.out hb); have HS6 := Lib.hid hb.size; clear hb)
        | (go_at_call 22; (refine (HLY.out W6 A2 c2 HP6.out).mono ?_); rintro e W7 ⟨v7, rfl, ho, hb⟩; obtain ⟨A7, c7, rfl, _, _, r7⟩ := ho.rd; have HR7 := Lib.hid r7; have HX7 := Lib.hid (HX6.out.next hb); have HR8 := Lib.hid (Rd.below HR6.out (hb.mono HS6.out)); clear ho hb r7)
        | (go_at_call 21; (refine (HSM.out W7 A7 c7 A5 c5 HR7.out HR8.out).mono ?_); rintro e W8 ⟨rfl, q8, hq⟩; have HX8 := Lib.hid (show Obx w W8 k (bxV t ep nn A body.length c) by rw [hq]; exact HX7.out.next (belowDrewN q8 (Below.refl _ _))); clear hq)
        | (go_at_call 9; (refine (HAW.out W8 HX8.out.bel).mono ?_); rintro e W9 ⟨rfl, hb⟩; have HB9 := Lib.hid (HX8.out.bel.trans (hb.mono HX8.out.bel.size)); clear hb))
        go_ret
        exact ⟨rfl, HB9.out⟩
      · have hEn : E ≠ 0 := by omega
        have hP : P = [] := by rw [HPP.out, if_neg hEn]
        subst hP
        rcases hE4 with h | h
        · obtain rfl : E = 2 := by omega
          clear HEE HPP hE2 hEn h HRF HPL HPB
          go_wp2_with (go_at_call 9; (refine (HAW.out Y HX5.out.bel).mono ?_); rintro e W9 ⟨rfl, hb⟩; have HB9 := Lib.hid (HX5.out.bel.trans (hb.mono HX5.out.bel.size)); clear hb)
          go_ret
          exact ⟨rfl, HB9.out⟩
        · obtain rfl : E = 4 := by omega
          clear HEE HPP hE2 hEn h HRF HPL HPB
          go_wp2_with (go_at_call 9; (refine (HAW.out Y HX5.out.bel).mono ?_); rintro e W9 ⟨rfl, hb⟩; have HB9 := Lib.hid (HX5.out.bel.trans (hb.mono HX5.out.bel.size)); clear hb)
          go_ret
          exact ⟨rfl, HB9.out⟩
    · have hE2 : E = oe := by rw [HEE.out, if_neg h0]
      subst hE2
      have hP : P = [] := by rw [HPP.out, if_neg h0]
      subst hP
      have hne : ((E : Nat) : Int) ≠ 0 := by omega
      have hq0 : decide (((E : Nat) : Int) = 0) = false := decide_eq_false (by omega)
      clear HEE HPP HRF HPL HPB h0
      go_wp2_with (go_at_call 9; (refine (HAW.out Y HX5.out.bel).mono ?_); rintro e W9 ⟨rfl, hb⟩; have HB9 := Lib.hid (HX5.out.bel.trans (hb.mono HX5.out.bel.size)); clear hb)
      go_ret
      exact ⟨rfl, HB9.out⟩
end Go.Proofs.YtaikejlcpnelpaaDoor
namespace Go.Proofs.YtaikejlcpnelpaaDoor
open Go Go.ChangeShapes Go.WideShapes Go.ChangeAt Go.RowKit
set_option maxRecDepth 100000 in
theorem boxOpens_lifted (os : Os) (started : os.Started) (H : Type) (enc : TypeId × Value → H) :
    ReturnsInHanded {} Tryd.checked os 4 .any (fun w args => (Rows.boxOpensSpec.pre enc Tryd.prog Tryd.f4 [] false w args ∧ laidMetH Tryd.prog laidQ w) ∧ sizedMet enc Tryd.prog Tryd.f4 (OpenSpec.ofChange Rows.boxOpensSpec) false w args) (Rows.boxOpensSpec.post enc Tryd.prog Tryd.f4 false true false false) := by
  refine liftQ started _ rfl (by kernel_rfl) Tryd.func4 ⟨rfl, fun H ds h => ?_⟩ rfl (of_decide_eq_true (by kernel_rfl))
    (ChangeSpec.witness_shaped (enc := enc) (C := Tryd.checked) (os := os) (X := fun w _ => laidMetH Tryd.prog laidQ w) false (World.doorLaid Tryd.prog 400 os) #[.agg (Array.replicate 32 (.int .u8 0)), .agg #[.string ByteArray.empty, .int .u32 0, .int .u8 0, .int .u8 0, .int .u8 0, .int .u8 0, .int .u8 0, .int .u8 0, .int .u8 0, .int .u8 0, .int .u8 0, .int .u8 0, .int .u8 0, .int .u8 0, .slice none 0 0]] 8 rfl (World.shaped_of_RefB (by kernel_rfl) (by kernel_rfl)) (by kernel_rfl) (by kernel_rfl) (by kernel_rfl) (door_met os _)) ?_
  · match ds, h with
    | [_, _], _ => rfl
  · intro W base args ds ps hq hval hA hlt
    rw [Tryd.params4] at hA hval
    obtain ⟨v0, vs0, d0, ds0, p0, q0, hargs, rfl, rfl, h0, r0⟩ := trodAll_cons hA
    obtain ⟨v1, vs1, d1, ds1, p1, q1, rfl, rfl, rfl, h1, r1⟩ := trodAll_cons r0
    obtain ⟨rfl, rfl, rfl⟩ := trodAll_nil r1
    obtain rfl : args = #[v0, v1] := by cases args; simp_all
    obtain ⟨k0, rfl, kl0, ks0⟩ := open_key (hval 0 23 v0 rfl rfl) h0
    obtain ⟨t1, e1, nn1, A1, l1, cap1, rfl, ht1, he1, nl1, ns1, hc1, hl1, hr1, hm1⟩ := open_box (hval 1 32 v1 rfl rfl) h1
    exact opens_c k0 nn1 l1 t1 e1 A1 cap1 W kl0 ks0 nl1 ns1 ht1 he1 hr1 hl1 hc1 hm1 hq
theorem boxOpens_row : Rows.BoxOpensSaid :=
  OpenClaim.holds_of_wide 4 Tryd.f4 rfl rfl rfl rfl rfl rfl rfl ⟨rfl, rfl, rfl, rfl, rfl⟩ rfl rfl rfl rfl rfl (by kernel_rfl) Tryd.func4 (by kernel_rfl)
    (of_decide_eq_true (by kernel_rfl)) (by unfold Func.isWrapper; rw [if_neg (by decide +kernel)]; exact ⟨rfl, rfl⟩)
    (fun os started H enc _ => boxOpens_lifted os started H enc)
theorem boxOpens_holds : Rows.BoxOpensCardSaid :=
  Claim7.holds_tied_plain_at .later [] [.data] true (true, "d8d9edc23ed2f81f3b892f24cc9191527c221c12c804fcbb8e9d7c52408ff666") false
    boxOpens_row (fun _ h => by cases h) (by kernel_rfl) (fun _ h => by cases h) boxOpens_row_tie rfl ⟨rfl, rfl⟩ (by kernel_rfl) rfl
    (fun f fn hf hfn => by
      obtain rfl : f = 4 := Option.some.inj ((show Tryd.prog.funcNamed "quaestor/quaestorlaw16.BoxOpens" = some 4 by kernel_rfl).symm.trans hf) |>.symm
      obtain rfl : fn = Tryd.f4 := (Option.some.inj (Tryd.func4.symm.trans hfn)).symm
      exact ⟨by kernel_rfl, fun j t ht => by
        rw [Tryd.params4] at ht
        have hm : t ∈ [23, 32] := by simpa using Array.mem_of_getElem? ht
        have hall : ([23, 32].all fun u => !Tryd.prog.wantsStandIn u) = true := by kernel_rfl
        exact (show Tryd.prog.wantsStandIn t = false by simpa using List.all_eq_true.1 hall t hm)⟩)
    (by kernel_rfl)
#print axioms boxOpens_holds
end Go.Proofs.YtaikejlcpnelpaaDoor
