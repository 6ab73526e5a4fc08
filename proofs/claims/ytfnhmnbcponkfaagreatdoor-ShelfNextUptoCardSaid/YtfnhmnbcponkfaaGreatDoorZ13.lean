/- Parts, one behind the other: Sf2 Sf3 Sf4 Sf5 Sf6 Sf7 Sf8 Sn1. -/
import Derived.Test.YtfnhmnbcponkfaaGreatDoorZ12
set_option maxRecDepth 100000
set_option linter.unusedVariables false
set_option linter.unusedSimpArgs false
set_option maxHeartbeats 32000000
namespace Go.Proofs.YtfnhmnbcponkfaaGreatDoor
open Go.RowKit
def ofT (t : ByteArray) (bs : List Bxo) : List Bxo := bs.filter fun b => b.t.toList == t.toList
theorem ofT_snoc_yes {t : ByteArray} {bs : List Bxo} {b : Bxo} (h : (b.t.toList == t.toList) = true) : ofT t (bs ++ [b]) = ofT t bs ++ [b] := by
 unfold ofT
 rw [List.filter_append, List.filter_cons, if_pos h, List.filter_nil]
theorem ofT_snoc_no {t : ByteArray} {bs : List Bxo} {b : Bxo} (h : (b.t.toList == t.toList) = false) : ofT t (bs ++ [b]) = ofT t bs := by
 unfold ofT
 rw [List.filter_append, List.filter_cons, if_neg (by rw [h]; decide), List.filter_nil, List.append_nil]
theorem ofT_len (t : ByteArray) (bs : List Bxo) : (ofT t bs).length ≤ bs.length := List.length_filter_le ..
theorem ofT_mem {t : ByteArray} {bs : List Bxo} {b : Bxo} (h : b ∈ ofT t bs) : b ∈ bs := (List.mem_filter.1 h).1
theorem bxV_set14 (t : ByteArray) (ep : Nat) {nn : List Nat} (A A' : Option Addr) (n n' c c' : Nat) (h : nn.length = 12) : (bxV t ep nn A n c).setIfInBounds 14 (.slice A' n' c') = bxV t ep nn A' n' c' := by
 unfold bxV bxL
 rw [sI]
 congr 1
 rw [List.set_append_right _ _ (by simp [byt_len, h])]
 simp [byt_len, h]
theorem bxV_size15 (t : ByteArray) (ep : Nat) (nn : List Nat) (A : Option Addr) (n c : Nat) (h : nn.length = 12) : (bxV t ep nn A n c).size = 15 := by unfold bxV; rw [List.size_toArray, bxL_len t ep A n c h]
theorem blk_thereS {w : World} {g : Nat} {T : TypeId} {cs : Array Value} (h : Blk w g T cs) (o n : Nat) (ho : o + n ≤ cs.size) : w.there g o n := fun j hj => by
 have h' : w.heap[g]? = some (.cells cs T (0, 0)) := h
 refine ⟨?_, ?_⟩
 ·rw [h.cell, Array.getElem?_eq_getElem (by omega)]; rfl
 ·unfold World.frozen?; simp [h']
theorem below_setCellS (w : World) (g o : Nat) (v : Value) {n : Nat} (h : n ≤ g) : Below n w (w.setCell ⟨g, o, none⟩ v) :=
 ⟨rfl, rfl, rfl, by rw [heapSize_set]; exact jD _, fun k hk => Below.heap_setCell _ _ _ _ (by show k ≠ g; omega)⟩
theorem of29_c (A : Option Addr) (cap : Nat) (bs : List Bxo) (t : ByteArray) (w : World) (hr : RdX w A bs) (hl : bs.length ≤ 10000000) (hbl : ∀ b ∈ bs, b.body.length ≤ 100000) :
  Calls Tryz.prog 20 #[.slice A bs.length cap, .string t] w fun e w' => ∃ Ax cx, e = .returned (.slice Ax (ofT t bs).length cx) ∧ (ofT t bs).length ≤ cx ∧ RdX w' Ax (ofT t bs) ∧ Below w.heap.size w w' := by
 obtain ⟨ib, hib, hb0, hb1x, hb2x⟩ := parts_of boxInfo
 have zf := zero_bx
 have zs1 : zBx.size = 15 := by rfl
 have zs2 : ¬ zBx = #[] := by intro h; have := congrArg Array.size h; rw [zs1] at this; cases this
 have HR := Li hr
 have HL := Li hl
 have HBL := Li hbl
 clear hr hl hbl
 go_enter Tryz.func20, Tryz.ntmps20
 go_wp2_with fail
 go_loopw [5, 10] (fun lv iv wr => ∃ k : Nat, k ≤ bs.length ∧ iv = .int .i64 (k : Nat) ∧ ∃ us, PkI w wr lv us (ofT t (bs.take k))) (fun _ iv _ => bs.length - (intOf iv).toNat)
 case atStart => exact ⟨0, by omega, rfl, [], OwnX.nil_ _ _, jE _ _, BsQ.nil_ _ _⟩
 case round =>
  rename World => wr
  obtain ⟨k, hk, rfl, us, hP⟩ := hrel
  by_cases hlt : k < bs.length
  ·have q1 : (k : Int) < (bs.length : Int) := by omega
   have m2 : (k : Int) ≤ 10000000 := by have := HL.out; omega
   obtain ⟨ad, Ai, ci, rfl, hab, hat, hci, hrb, hok⟩ := (HR.out.next hP.bel).box hlt
   have htk : bs.take (k + 1) = bs.take k ++ [bs.getD k bo0] := by
    rw [List.take_add_one, jB hlt, jA, jB hlt]
    rfl
   have hbm : bs.getD k bo0 ∈ bs := by rw [jA, jB hlt]; exact List.getElem_mem hlt
   have hbl := HBL.out _ hbm
   have hul : us.length ≤ 10000000 := by
    rw [hP.bv.len]
    have h1 := ofT_len t (bs.take k)
    rw [List.length_take] at h1
    have := HL.out
    omega
   generalize bs.getD k bo0 = b at *
   have HTK := Li htk
   have HP := Li hP
   have HLT := Li hlt
   have HUL := Li hul
   have HBB := Li hbl
   have HCI := Li hci
   have HRB := Li hrb
   have HAT := Li hat
   have HOK := Li hok
   clear hP hlt hk hul hbl hci hrb hat hok htk hbm hab
   obtain ⟨bt, be, bn, bd⟩ := b
   simp only at HBB HCI HRB HAT
   have hnl : bn.length = 12 := HOK.out.nl
   have HLN := Li (bxLn bt be (nn := bn) Ai bd.length ci hnl)
   have HSZ := Li (fun A n c => bxSz bt be (nn := bn) A n c hnl)
   have HZS := Li (show zBx.size = (bxV bt be bn Ai bd.length ci).size by rw [zBx_size]; unfold bxV; rw [List.size_toArray, bxL_len bt be Ai bd.length ci hnl])
   have HNL := Li hnl
   clear hnl
   go_upto_region 5 with (first
    | (refine wpList_loadA rfl 61 (.tmp 12) rfl (ad.add (k * 15)) rfl (bxL bt be bn Ai bd.length ci) _ HAT.out Tryz.underlying61 rfl HLN.out ?_)
    | (refine wpList_store_rowTo rfl 61 (.tmp 7) (.tmp 13) rfl rfl wr.heap.size (bxV bt be bn Ai bd.length ci) rfl rfl 61 zBx (by exact heap_alloc_new _ _) (HSZ.out ..) HZS.out (bx_all _ _ _ _ _ _) ?_))
   obtain ⟨Y, hY⟩ : ∃ Y, Y = (wr.alloc (Obj.cells zBx 61)).setRow wr.heap.size (bxV bt be bn Ai bd.length ci) := ⟨_, rfl⟩
   have hnr := new_rowP wr 61 zBx (bxV bt be bn Ai bd.length ci)
   rw [← hY] at hnr ⊢
   have c0 : Y.cell? ⟨wr.heap.size, 0, none⟩ = some (.string bt) := (hnr.1.cell 0).trans rfl
   have c14 : Y.cell? ⟨wr.heap.size, 14, none⟩ = some (.slice Ai bd.length ci) := (hnr.1.cell 14).trans (bx_c14 _ _ _ _ _ HNL.out)
   have HX1 := Li hnr.1
   have HY1 := Li hnr.2
   have HRY := Li ((Rd.below HRB.out hnr.2).more hnr.2.size)
   clear hnr hY HAT HLN HZS HRB
   obtain ⟨g1, hg1⟩ : ∃ g1, g1 = wr.heap.size := ⟨_, rfl⟩
   rw [← hg1] at HX1 c0 c14 ⊢
   have HG1 := Li hg1
   clear hg1
   cases hte : (bt.toList == t.toList) with
   | false =>
    have HTE := Li hte
    have HP1 := Li (HP.out.next HY1.out)
    go_wp2_with fail
    go_roundw
    case rel => exact ⟨k + 1, HLT.out, by go_num, us, by rw [HTK.out, ofT_snoc_no HTE.out]; exact HP1.out⟩
    case measure => have := HLT.out; simp [intOf]; omega
   | true =>
    have HTE := Li hte
    have HCL := Li (clone_c Y.heap.size Ai ci bd Y HRY.out (by have := HBB.out; omega))
    go_upto_region 7 with (go_at_call 36; (with_reducible refine HCL.out.mono ?_); rintro e W2 ⟨v, rfl, ho, hb⟩; obtain ⟨A3, c3, rfl, hc3, _, r3⟩ := ho.rd; have HO2 := Li ho; have HC3 := Li hc3; have HB2 := Li hb; have HX2 := Li (HX1.out.below hb HX1.out.lt); have hf14 : W2.frozen? ⟨g1, 14, none⟩ = false := (blk_thereS HX2.out 14 1 (by rw [bxV_size15 _ _ _ _ _ _ HNL.out]; decide) 0 (by decide)).2; have d14 : W2.cell? ⟨g1, 14, none⟩ = some (.slice Ai bd.length ci) := (HX2.out.cell 14).trans (bx_c14 _ _ _ _ _ HNL.out); clear ho hb r3 hc3)
    obtain ⟨Y3, hY3⟩ : ∃ Y3, Y3 = W2.setCell ⟨g1, 14, none⟩ (.slice A3 bd.length c3) := ⟨_, rfl⟩
    try rw [← hY3]
    have hx3 : Blk Y3 g1 61 (bxV bt be bn A3 bd.length c3) := by
     rw [hY3, ← bxV_set14 bt be Ai A3 bd.length bd.length ci c3 HNL.out]
     exact HX2.out.set_ 14 _
    have ho3 : OwnB Y3 Y.heap.size (.slice A3 bd.length c3) bd := by
     rw [hY3]
     refine own_off HO2.out ((Only.refl (fun i => i = g1) W2).setCell (p := ⟨g1, 14, none⟩) (fun _ => rfl) _) (fun e => ?_)
     have h1 := own_base HO2.out _ e
     have h2 := HX1.out.lt
     omega
    have hb3 : Below wr.heap.size wr Y3 := by
     rw [hY3]
     exact (HY1.out.trans (HB2.out.mono HY1.out.size)).trans (below_setCellS _ _ _ _ (by rw [HG1.out]; exact jD _))
    clear hY3 c0 c14 d14 hf14 HX2 HX1 HCL
    have hal : Below Y3.heap.size Y3 (Y3.alloc (.cells (bxV bt be bn A3 bd.length c3) 61)) := (jE _ _).alloc (jD _) _
    have HP3 := Li ((HP.out.next hb3).next hal)
    obtain ⟨A9, c9, e9, _, _, r9⟩ := ho3.rd
    injection e9 with e9a _ e9c
    subst e9a e9c
    have HR3 := Li (show Rd (Y3.alloc (.cells (bxV bt be bn A3 bd.length c3) 61)) (Y3.alloc (.cells (bxV bt be bn A3 bd.length c3) 61)).heap.size A3 (byt bd) from (r9.below hal).more hal.size)
    have hap0 : ∀ ad, A3 = some ad → byt bd ≠ [] → some ad.block ≠ u5.ownBlock := by
     intro ad1 ea _ h
     have h2 := own_new ho3 rfl ad1 ea
     have := own_lt HP.out.own _ h.symm
     have := HY1.out.size
     omega
    have HAP := Li hap0
    have HX3 := Li hx3
    clear hx3 ho3 hb3 hal r9 hap0 HO2 HB2 HP HY1
    go_wp2_with (first
     | (refine wpList_load_row rfl 61 (.tmp 7) rfl g1 rfl 61 (bxV bt be bn A3 bd.length c3) (0, 0) _ HX3.out Tryz.underlying61 rfl (HSZ.out ..) ?_)
     | (refine wpList_valM rfl _ _ (run_oneG Tryz.underlying24 hib hb0 hb1x (by decide) (by decide) Y3 (bxV bt be bn A3 bd.length c3) (bxV_size15 _ _ _ _ _ _ HNL.out) (.tmp 23) rfl rfl) ?_)
     | (at_builtin; refine wpList_app _ rfl (.tmp 22) (.tmp 24) _ rfl w.heap.size 61 ib (.agg zBx) 15 56 Tryz.underlying24 hib hb0 hb1x hb2x rfl (by decide) u5 us.length us.flatten rfl HP3.out.own _ (some ⟨Y3.heap.size, 0, none⟩) 1 1 (bxL bt be bn A3 bd.length c3) rfl (by rw [bxL_len _ _ _ _ _ HNL.out]) (by exact rd_new Y3 (bxL bt be bn A3 bd.length c3) 61 (0, 0)) (bx_oneCell _ _ _ _ _ _) (by have := HUL.out; omega) (by have := HUL.out; omega) HP3.out.bel.size ?_
        intro v9 W9 hap
        have HP9 := Li (PkI.box (b := ⟨bt, be, bn, bd⟩) HP3.out hap HC3.out HR3.out HAP.out HOK.out)
        clear hap))
    go_roundw
    case rel => exact ⟨k + 1, HLT.out, by go_num, _, by rw [HTK.out, ofT_snoc_yes HTE.out]; exact HP9.out⟩
    case measure => have := HLT.out; simp [intOf]; omega
  ·obtain rfl : k = bs.length := by omega
   rw [List.take_length] at hP
   obtain ⟨Ax, cx, rfl, hcx, _, hrx⟩ := hP.own.rd hP.bv.bv
   have HRX := Li hrx
   have HPB := Li hP.bel
   have HCX := Li hcx
   clear hP hlt hk hrx hcx
   go_wp2_with fail
   go_ret
   exact ⟨Ax, cx, rfl, HCX.out, HRX.out, HPB.out⟩
def tenT : ByteArray := ByteArray.mk #[116]
def tenU : ByteArray := ByteArray.mk #[117]
theorem tenT_name : nameB tenT = true := by decide +kernel
theorem tenU_name : nameB tenU = true := by decide +kernel
def nnS (i : Nat) : List Nat := [i % 256, 9] ++ List.replicate 10 0
theorem nnS_len (i : Nat) : (nnS i).length = 12 := by simp [nnS]
theorem nnS_lt (i : Nat) : ∀ c ∈ nnS i, c < 256 := by
 intro c hc
 unfold nnS at hc
 rcases List.mem_append.1 hc with h | h
 ·simp at h
  rcases h with rfl | rfl <;> omega
 ·rw [List.eq_of_mem_replicate h]; decide
theorem built_nnS (b : Nat) : Tryz.prog.built 57 [(0, .int .u8 (b : Int)), (1, .int .u8 9)] = some (byt ([b, 9] ++ List.replicate 10 0)).toArray := by kernel_rfl
def epS (es : List Nat) (i : Nat) : Nat := es.getD i 0 % 3 + 1
def tnS (es : List Nat) (i : Nat) : ByteArray := if 200 ≤ es.getD i 0 then tenU else tenT
theorem tnS_name (es : List Nat) (i : Nat) : nameB (tnS es i) = true := by
 unfold tnS
 split
 ·exact tenU_name
 ·exact tenT_name
def grS (gs : List (List Pc)) (i : Nat) : List Pc := mergeL (gs.getD i [])
def bxS (gs : List (List Pc)) (es : List Nat) (i : Nat) : Bxo := ⟨tnS es i, epS es i, nnS i, boxL (keyE (epS es i)) (nnS i) (tnS es i) (epS es i) (grS gs i)⟩
def bxsS (gs : List (List Pc)) (es : List Nat) (n : Nat) : List Bxo := (List.range n).map (bxS gs es)
theorem bxsS_len (gs : List (List Pc)) (es : List Nat) (n : Nat) : (bxsS gs es n).length = n := by simp [bxsS]
theorem bxsS_succ (gs : List (List Pc)) (es : List Nat) (n : Nat) : bxsS gs es (n + 1) = bxsS gs es n ++ [bxS gs es n] := by
 unfold bxsS
 rw [List.range_succ, List.map_append]
 rfl
def gS (gs : List (List Pc)) (es : List Nat) (i : Nat) : Gro3 := ⟨nnS i, epS es i, grS gs i⟩
def grsS (gs : List (List Pc)) (es : List Nat) (n : Nat) : List Gro3 := ((List.range n).filter fun i => decide (es.getD i 0 < 200)).map (gS gs es)
theorem grsS_succ (gs : List (List Pc)) (es : List Nat) (n : Nat) : grsS gs es (n + 1) = if 200 ≤ es.getD n 0 then grsS gs es n else grsS gs es n ++ [gS gs es n] := by
 unfold grsS
 rw [List.range_succ, List.filter_append, List.map_append, List.filter_cons, List.filter_nil]
 by_cases h : 200 ≤ es.getD n 0
 ·rw [if_neg (by rw [decide_eq_true_eq]; omega), if_pos h]
  simp
 ·rw [if_pos (by rw [decide_eq_true_eq]; omega), if_neg h]
  rfl
theorem grsS_len (gs : List (List Pc)) (es : List Nat) (n : Nat) : (grsS gs es n).length ≤ n := by
 unfold grsS
 rw [List.length_map]
 exact Nat.le_trans (List.length_filter_le ..) (by simp)
structure OkS (gs : List (List Pc)) (es : List Nat) (i : Nat) : Prop where
 gr : greatB (gs.getD i []) 40 = false
 el : i < es.length
 ck : chkL (grS gs i) = 0
 le : (grS gs i).length ≤ 32
theorem grInfo (g : Gro3) (A : Option Addr) (c : Nat) (h : g.nn.length = 12) : (grL g A c).toArray.size = 14 := by rw [List.size_toArray, grL_len g A c h]
theorem grTInfo : (Tryz.prog.info? 66).map (fun i => (i.zero, i.size, i.bytes)) = some (some (.agg (grL gr0 none 0).toArray), 14, 40) := by kernel_rfl
theorem gr_oneCell (g : Gro3) (A : Option Addr) (c : Nat) : ∀ u ∈ grL g A c, u.oneCell' = true := by
 intro u hu
 unfold grL at hu
 rcases List.mem_append.1 hu with h | h
 ·exact byt_one g.nn u h
 ·simp at h
  rcases h with rfl | rfl <;> rfl
theorem zero_nonceS (w : World) : (zeroValue 57).run Tryz.prog w = .ok (.agg (vb n12z)) w := by kernel_rfl
def BxNewS (t : ByteArray) (ep : Nat) (nn body : List Nat) (base : Nat) (u : Value) (W : World) : Prop := ∃ A c b, u = .slice (some ⟨b, 0, none⟩) 1 1 ∧ Blk W b 61 (bxV t ep nn A body.length c) ∧ b < W.heap.size ∧ OwnB W base (.slice A body.length c) body
theorem BxNewS.next {t : ByteArray} {ep : Nat} {nn body : List Nat} {base : Nat} {u : Value} {W W' : World} (h : BxNewS t ep nn body base u W) (hb : Below W.heap.size W W') : BxNewS t ep nn body base u W' := by
 obtain ⟨A, c, b, e, h1, h2, h3⟩ := h
 exact ⟨A, c, b, e, h1.below hb h2, jH h2 hb.size, h3.next hb⟩
theorem idle2S {x y : Value} (h : isTok x = false) (h' : isTok y = false) : (!isTok x && (!isTok y && true)) = true := by rw [h, h']; rfl
theorem bxV_sizeS (t : ByteArray) (ep : Nat) (nn : List Nat) (A : Option Addr) (n c : Nat) (h : nn.length = 12) : (bxV t ep nn A n c).size = 15 := by unfold bxV; rw [List.size_toArray, bxL_len t ep A n c h]
theorem list12 {l : List Nat} (h : l.length = 12) : ∃ a0 a1 a2 a3 a4 a5 a6 a7 a8 a9 a10 a11, l = [a0, a1, a2, a3, a4, a5, a6, a7, a8, a9, a10, a11] := by
 match l, h with
 | [a0, a1, a2, a3, a4, a5, a6, a7, a8, a9, a10, a11], _ => exact ⟨a0, a1, a2, a3, a4, a5, a6, a7, a8, a9, a10, a11, rfl⟩
theorem built_gr (nn : List Nat) (ep : Nat) (l : List Pc) (A : Option Addr) (c : Nat) (h : nn.length = 12) : Tryz.prog.built 66 [(0, .agg (vb nn)), (1, .int .u32 (ep : Int)), (2, .slice A l.length c)] = some (grL ⟨nn, ep, l⟩ A c).toArray := by
 obtain ⟨a0, a1, a2, a3, a4, a5, a6, a7, a8, a9, a10, a11, rfl⟩ := list12 h
 unfold grL
 simp only
 generalize l.length = n
 kernel_rfl
def ShvD (gs : List (List Pc)) (es : List Nat) (w : World) (e : Ending) (w' : World) : Prop :=
 (((∃ i, i < gs.length ∧ ¬ OkS gs es i) ∧ e = .returned (.tuple #[.slice none 0 0, .slice none 0 0, .bool false])) ∨
   ((∀ i, i < gs.length → OkS gs es i) ∧ ∃ Ax cx Ag cg, e = .returned (.tuple #[.slice Ax gs.length cx, .slice Ag (grsS gs es gs.length).length cg, .bool true]) ∧ RdX w' Ax (bxsS gs es gs.length) ∧ RdO w' Ag (grsS gs es gs.length))) ∧ Below w.heap.size w w'
theorem shelved_c (A : Option Addr) (cA : Nat) (gs : List (List Pc)) (B : Option Addr) (cB : Nat) (es : List Nat) (w : World) (hls : LsAt w A gs) (hgl : gs.length ≤ 1048576) (hgp : ∀ g ∈ gs, g.length ≤ 9223372036854775807 ∧ ∀ p ∈ g, PcOk p ∧ p.s.size ≤ 9223372036854775807) (hes : Rd w w.heap.size B (byt es)) (heb : ∀ c ∈ es, c < 256) (hel : es.length ≤ 9223372036854775807) (hq : QuartersAt w) :
  Calls Tryz.prog 5 #[.slice A gs.length cA, .slice B es.length cB] w (ShvD gs es w) := by
 obtain ⟨ib, hib, hb0, hb1x, hb2x⟩ := parts_of boxInfo
 obtain ⟨ig, hig, hg0, hg1x, hg2x⟩ := parts_of grTInfo
 have zfn := zero_nonceS
 have zs3 : (vb n12z).size = 12 := by rfl
 have zs4 : ¬ vb n12z = #[] := by intro h; have := congrArg Array.size h; rw [zs3] at this; cases this
 have HLS := Li hls
 have HGL := Li hgl
 have HGP := Li hgp
 have HES := Li hes
 have HEB := Li heb
 have HQ := Li hq
 clear hls hgl hgp hes heb hq
 go_enter Tryz.func5, Tryz.ntmps5
 go_wp2_with fail
 go_loopw [7, 8, 9, 73, 74] (fun lv gv iv u u' wr => (isTok u = false ∧ isTok u' = false) ∧ ∃ i : Nat, i ≤ gs.length ∧ iv = .int .i64 (i : Nat) ∧ (∃ us vs, OpG w wr lv gv us (bxsS gs es i) vs (grsS gs es i)) ∧ ∀ j, j < i → OkS gs es j) (fun _ _ iv _ _ _ => gs.length - (intOf iv).toNat)
 case atStart => exact ⟨⟨rfl, rfl⟩, 0, Nat.zero_le _, rfl, ⟨[], [], OpG.begin w⟩, fun j hj => by omega⟩
 case round =>
  rename World => wr
  obtain ⟨htk, i, hil, rfl, ⟨us, vs, hL⟩, hng⟩ := hrel
  have HTK := Li htk
  clear htk
  by_cases hlt : i < gs.length
  ·have r1 : (i : Int) < (gs.length : Int) := by omega
   have m2 : (i : Int) ≤ 1048576 := by have := HGL.out; omega
   obtain ⟨ad, Ai, ci, rfl, had, hcell, hci, hri⟩ := (HLS.out.next hL.bel) i hlt
   have hgm : gs.getD i [] ∈ gs := by rw [jA, jB hlt]; exact List.getElem_mem hlt
   obtain ⟨hg1, hg2⟩ := HGP.out _ hgm
   have HGC := Li (show Calls Tryz.prog 17 #[.slice Ai (gs.getD i []).length ci, .int .i64 40] wr (fun e w' => e = .returned (.bool (greatB (gs.getD i []) 40)) ∧ wr = w') from great_c wr.heap.size Ai ci (gs.getD i []) 40 wr hri hg1 (by decide) (fun p hp => (hg2 p hp).2))
   have HL := Li hL
   have HNG := Li hng
   have HLT := Li hlt
   have hbel := HL.out.bel
   cases hgr : greatB (gs.getD i []) 40 with
   | true =>
    rw [hgr] at HGC
    have HNO := Li (show ∃ j, j < gs.length ∧ ¬ OkS gs es j from ⟨i, hlt, fun h => by have h2 := h.gr; rw [hgr] at h2; cases h2⟩)
    clear hgr hg1 hg2 hgm hL hng hlt hri hci had hil
    generalize (gs.getD i []).length = gl at *
    go_wp2_with (go_at_call 17; (with_reducible refine HGC.out.mono ?_); rintro e W9 ⟨rfl, rfl⟩)
    try rw [Exit.noGoto_ret]
    refine bodyPost_ret (results_tmp3 rfl _ _ _) rfl ?_
    exact ⟨.inl ⟨HNO.out, rfl⟩, hbel⟩
   | false =>
    rw [hgr] at HGC
    obtain ⟨hnum, hsz⟩ := greatB_no hgr
    have HGR := Li hgr
    have hok : ∀ p ∈ gs.getD i [], PcOk p ∧ p.s.size ≤ 9223372036854775807 := hg2
    have HRM := Li (show Calls Tryz.prog 19 #[.slice Ai (gs.getD i []).length ci] wr fun e w' => ∃ v, e = .returned v ∧ OwnP w' wr.heap.size v (grS gs i) ∧ Below wr.heap.size wr w' from rmerge_c Ai ci (gs.getD i []) wr hri (by omega) hok)
    have hml : (grS gs i).length ≤ 40 := Nat.le_trans (merge_len _) hnum
    have hmk : ∀ p ∈ grS gs i, PcOk p ∧ p.s.size ≤ 1000000 := fun p hp => ⟨(hok p (merge_sub _ p hp)).1, by have := hsz p (merge_sub _ p hp); omega⟩
    obtain ⟨m, hm⟩ : ∃ m, m = grS gs i := ⟨_, rfl⟩
    rw [← hm] at HRM hml hmk
    have HM := Li hm
    have HMK := Li hmk
    have HML := Li hml
    have HCC := Li (fun W Am cm (h : RdP W W.heap.size Am m) => rcheck_c Am cm m W h (by omega) (fun p hp => (hmk p hp).2))
    clear hgr hg1 hg2 hgm hL hng hlt hri hci had hil hnum hsz hok hml hmk hm
    generalize (gs.getD i []).length = gl at *
    go_upto_region 9 with (first
     | (go_at_call 17; (with_reducible refine HGC.out.mono ?_); rintro e W9 ⟨rfl, rfl⟩)
     | (go_at_call 19; (with_reducible refine HRM.out.mono ?_); rintro e W4 ⟨vm, rfl, hom, hbm⟩; obtain ⟨Am, cm, rfl, hcm, _, hrm⟩ := hom.rd; have HBM := Li hbm; have HRMM := Li hrm; have HOM := Li hom; have HCM := Li hcm; clear hbm hrm hom hcm))
    have hcc := HCC.out W4 Am cm HRMM.out
    have HB4 := Li (HL.out.bel.trans (HBM.out.mono HL.out.bel.size))
    clear HGC HRM HCC hcell
    by_cases hei : i < es.length
    case neg =>
     have r2 : (es.length : Int) ≤ (i : Int) := by omega
     have HNO := Li (show ∃ j, j < gs.length ∧ ¬ OkS gs es j from ⟨i, HLT.out, fun h => hei h.el⟩)
     clear hcc hei
     go_wp2_with fail
     try rw [Exit.noGoto_ret]
     refine bodyPost_ret (results_tmp3 rfl _ _ _) rfl ?_
     exact ⟨.inl ⟨HNO.out, rfl⟩, HB4.out⟩
    case pos =>
     have r2 : ¬ (es.length : Int) ≤ (i : Int) := by omega
     by_cases hck : chkL m = 0
     case neg =>
      have key : ∃ kk : Int, (kk = 1 ∨ kk = 3) ∧ Calls Tryz.prog 14 #[.slice Am m.length cm] W4 (fun e w' => e = .returned (.int .i64 kk) ∧ Below W4.heap.size W4 w') := by
       rcases chk_vals m with h | h | h
       ·exact absurd h hck
       ·exact ⟨1, .inl rfl, by rw [h] at hcc; exact hcc⟩
       ·exact ⟨3, .inr rfl, by rw [h] at hcc; exact hcc⟩
      obtain ⟨kk, hkk, hc2⟩ := key
      have s1 : (kk != 0) = true := by rcases hkk with rfl | rfl <;> rfl
      have s2 : ¬ kk = 0 := by rcases hkk with rfl | rfl <;> decide
      have HC2 := Li hc2
      have HNO := Li (show ∃ j, j < gs.length ∧ ¬ OkS gs es j from ⟨i, HLT.out, fun h => hck (by rw [HM.out]; exact h.ck)⟩)
      clear hcc hck hkk hc2 hei
      go_wp2_with (go_at_call 14; (with_reducible refine HC2.out.mono ?_); rintro e W5 ⟨rfl, hb⟩; have HB5 := Li (HB4.out.trans (hb.mono HB4.out.size)); clear hb)
      try rw [Exit.noGoto_ret]
      refine bodyPost_ret (results_tmp3 rfl _ _ _) rfl ?_
      exact ⟨.inl ⟨HNO.out, rfl⟩, HB5.out⟩
     case pos =>
      rw [hck] at hcc
      have hc2 : Calls Tryz.prog 14 #[.slice Am m.length cm] W4 (fun e w' => e = .returned (.int .i64 0) ∧ Below W4.heap.size W4 w') := hcc
      have HC2 := Li hc2
      have HCK := Li hck
      have HEI := Li hei
      clear hcc hc2 hck hei
      by_cases h32 : m.length ≤ 32
      case neg =>
       have r3 : (32 : Int) < (m.length : Int) := by omega
       have HNO := Li (show ∃ j, j < gs.length ∧ ¬ OkS gs es j from ⟨i, HLT.out, fun h => h32 (by rw [HM.out]; exact h.le)⟩)
       clear h32
       go_wp2_with (go_at_call 14; (with_reducible refine HC2.out.mono ?_); rintro e W5 ⟨rfl, hb⟩; have HB5 := Li (HB4.out.trans (hb.mono HB4.out.size)); clear hb)
       try rw [Exit.noGoto_ret]
       refine bodyPost_ret (results_tmp3 rfl _ _ _) rfl ?_
       exact ⟨.inl ⟨HNO.out, rfl⟩, HB5.out⟩
      case pos =>
       have r3 : ¬ (32 : Int) < (m.length : Int) := by omega
       have HOKI := Li (show OkS gs es i from ⟨HGR.out, HEI.out, by rw [← HM.out]; exact HCK.out, by rw [← HM.out]; exact h32⟩)
       clear h32
       obtain ⟨ae, rfl, hae, hcele⟩ := ((HES.out.below HB4.out).more HB4.out.size).byte (k := i) HEI.out
       have HEV := Li (getD_lt HEB.out i)
       obtain ⟨ev, hev⟩ : ∃ ev, ev = es.getD i 0 := ⟨_, rfl⟩
       rw [← hev] at hcele HEV
       obtain ⟨e3, he3⟩ : ∃ e3, e3 = ev % 3 := ⟨_, rfl⟩
       obtain ⟨ep, hep⟩ : ∃ ep, ep = e3 + 1 := ⟨_, rfl⟩
       obtain ⟨ibv, hib8⟩ : ∃ ibv, ibv = i % 256 := ⟨_, rfl⟩
       have hevb := HEV.out
       have f1 : (ev : Int) % 3 = (e3 : Int) := by omega
       have f2 : Int.tmod (ev : Int) 3 = (e3 : Int) := by rw [Int.tmod_eq_emod_of_nonneg (by omega)]; exact f1
       have f3 : (e3 : Int) + 1 = (ep : Int) := by omega
       have f4 : (0 : Int) ≤ (e3 : Int) := by omega
       have f5 : (e3 : Int) ≤ 2 := by omega
       have f6 : (0 : Int) ≤ (ep : Int) := by omega
       have f7 : (ep : Int) ≤ 3 := by omega
       have f8 : (i : Int) % 256 = (ibv : Int) := by omega
       have f9 : IntKind.u8.wrap (i : Int) = (ibv : Int) := by rw [IntKind.wrap_u8]; exact f8
       have HEP := Li (show ep = epS es i by rw [hep, he3, hev]; rfl)
       have HTN := Li (show tnS es i = if 200 ≤ ev then tenU else tenT by rw [hev]; rfl)
       have HGS := Li (show grsS gs es (i + 1) = if 200 ≤ ev then grsS gs es i else grsS gs es i ++ [gS gs es i] by rw [grsS_succ, hev])
       have HBT := Li (show Tryz.prog.built 57 [(0, .int .u8 (ibv : Int)), (1, .int .u8 9)] = some (vb (nnS i)) by rw [hib8]; exact built_nnS (i % 256))
       have HNS := Li (nnSz (nnS_len i))
       have HNZ := Li (show (vb n12z).size = (vb (nnS i)).size by rw [vb_size, vb_size, nnS_len]; rfl)
       have HNL := Li (show (Tryz.prog.info? 57).map (·.size) = some (byt (nnS i)).length by rw [byt_len, nnS_len]; kernel_rfl)
       obtain ⟨nn, hnn⟩ : ∃ nn, nn = nnS i := ⟨_, rfl⟩
       have HNN := Li hnn
       rw [← hnn] at HBT HNS HNZ HNL
       have c2 : ∀ W, Below W4.heap.size W4 W → W.cell? (ae.add i) = some (.int .u8 (ev : Int)) := fun W hb => (hb.cell (by rw [add_block]; exact hae)).trans hcele
       have HC2E := Li c2
       clear c2 hae hcele hev he3 hib8 hnn hevb
       go_upto_region 11 with (go_at_call 14; (with_reducible refine HC2.out.mono ?_); rintro e W5 ⟨rfl, hb⟩; have HB5 := Li hb; have c3 := HC2E.out W5 hb; clear hb)
       clear hep
       go_upto_region 13 with (first
        | (refine wpList_valG (by kernel_rfl) (.agg (vb nn)) (by exact run_built _ 57 [(0, .int .u8 (ibv : Int)), (1, .int .u8 9)] (vb nn) HBT.out #[(0, .tmp 52), (1, .const (.int .u8 9))] rfl (by kernel_rfl)) ?_)
        | (refine wpList_store_rowTo rfl 57 (.tmp 12) (.tmp 53) rfl rfl W5.heap.size (vb nn) rfl rfl 57 (vb n12z) (by exact heap_alloc_new _ _) HNS.out HNZ.out (vb_all _) ?_))
       obtain ⟨Y, hY⟩ : ∃ Y, Y = (W5.alloc (Obj.cells (vb n12z) 57)).setRow W5.heap.size (vb nn) := ⟨_, rfl⟩
       have hnr := new_rowP W5 57 (vb n12z) (vb nn)
       rw [← hY] at hnr ⊢
       have c4 := HC2E.out Y (HB5.out.trans (hnr.2.mono HB5.out.size))
       have hwy : Below wr.heap.size wr Y := HBM.out.trans ((HB5.out.trans (hnr.2.mono HB5.out.size)).mono HBM.out.size)
       have HX1 := Li hnr.1
       have HLY := Li (HL.out.next hwy)
       have HWY := Li hwy
       have HRY := Li (show RdP Y Y.heap.size Am m from (Rd.below (show Rd W4 W4.heap.size Am (pcs _) from HRMM.out) (HB5.out.trans (hnr.2.mono HB5.out.size))).more (Nat.le_trans HB5.out.size hnr.2.size))
       have HG12 := Li (show wr.heap.size ≤ W5.heap.size ∧ W5.heap.size < Y.heap.size from ⟨Nat.le_trans HBM.out.size HB5.out.size, hnr.1.lt⟩)
       have HAM := Li (show ∀ ad, Am = some ad → pcs m ≠ [] → some ad.block ≠ u7.ownBlock ∧ some ad.block ≠ u8.ownBlock by
        intro ad1 ea _
        have h2 := own_new (show W4.ownsRow wr.heap.size _ _ _ _ _ from HOM.out) rfl ad1 ea
        refine ⟨fun h => ?_, fun h => ?_⟩
        ·have := own_lt HL.out.lo _ h.symm
         omega
        ·have := own_lt HL.out.go _ h.symm
         omega)
       clear hnr hY c3 hwy
       obtain ⟨g12, hg12⟩ : ∃ g, g = W5.heap.size := ⟨_, rfl⟩
       rw [← hg12] at HX1 HG12 ⊢
       clear hg12
       obtain ⟨tn, htn⟩ : ∃ tn, tn = tnS es i := ⟨_, rfl⟩
       rw [← htn] at HTN
       have HTNE := Li htn
       clear htn f1 f2 f3 f8 f9
       have HGI := Li (show gS gs es i = ⟨nn, ep, m⟩ by unfold gS; rw [HNN.out, HEP.out, HM.out])
       have HGO := Li (show GrOk ⟨nn, ep, m⟩ from ⟨by rw [HNN.out]; exact nnS_len i, by rw [HNN.out]; exact nnS_lt i, by show ep < 4294967296; omega⟩)
       have HVL := Li (show vs.length ≤ 1048576 by rw [HL.out.gq.len]; have := grsS_len gs es i; have := HGL.out; have := HLT.out; omega)
       go_upto_if 58 with fail
       obtain ⟨cb, hcb⟩ : ∃ cb, cb = decide ((200 : Int) ≤ (ev : Int)) := ⟨_, rfl⟩
       rw [← hcb]
       go_cut [8, 13] from 59 to 65 (fun gv tv wx => tv = .string tn ∧ (∃ vs', OpG w wx u7 gv us (bxsS gs es i) vs' (grsS gs es (i + 1))) ∧ Blk wx g12 57 (vb nn) ∧ RdP wx wx.heap.size Am m ∧ Y.heap.size ≤ wx.heap.size)
       case first =>
        cases cb
        rotate_left 1
        ·have s1 : (200 : Int) ≤ (ev : Int) := of_decide_eq_true hcb.symm
         have h2 : 200 ≤ ev := by omega
         clear s1 hcb
         have HT1 := Li (show tn = tenU by rw [HTN.out, if_pos h2])
         have HG1 := Li (show grsS gs es (i + 1) = grsS gs es i by rw [HGS.out, if_pos h2])
         clear h2
         go_wp2_with fail
         go_meet
         exact ⟨by rw [HT1.out]; rfl, ⟨vs, by rw [HG1.out]; exact HLY.out⟩, HX1.out, HRY.out, jD _⟩
        ·have s1 : ¬ (200 : Int) ≤ (ev : Int) := of_decide_eq_false hcb.symm
         have h2 : ¬ 200 ≤ ev := by omega
         clear s1 hcb
         have HT1 := Li (show tn = tenT by rw [HTN.out, if_neg h2])
         have HG1 := Li (show grsS gs es (i + 1) = grsS gs es i ++ [⟨nn, ep, m⟩] by rw [HGS.out, if_neg h2, HGI.out])
         have hal : Below Y.heap.size Y (Y.alloc (.cells (grL ⟨nn, ep, m⟩ Am cm).toArray 66)) := (jE _ _).alloc (jD _) _
         have HLA := Li (HLY.out.next hal)
         have HRA := Li (show RdP (Y.alloc (.cells (grL ⟨nn, ep, m⟩ Am cm).toArray 66)) (Y.alloc (.cells (grL ⟨nn, ep, m⟩ Am cm).toArray 66)).heap.size Am m from (Rd.below (show Rd Y Y.heap.size Am (pcs _) from HRY.out) hal).more hal.size)
         have HXA := Li (HX1.out.below hal HX1.out.lt)
         have HSA := Li hal.size
         have HBG := Li (built_gr nn ep m Am cm HGO.out.nl)
         have HGZ := Li (grInfo ⟨nn, ep, m⟩ Am cm HGO.out.nl)
         clear h2 hal
         go_wp2_with (first
          | (refine wpList_load_row rfl 57 (.tmp 12) rfl g12 rfl 57 (vb nn) (0, 0) _ HX1.out Tryz.underlying57 rfl HNS.out ?_)
          | (refine wpList_valG (by kernel_rfl) (.agg (grL ⟨nn, ep, m⟩ Am cm).toArray) (by exact run_built _ 66 [(0, .agg (vb nn)), (1, .int .u32 (ep : Int)), (2, .slice Am m.length cm)] _ HBG.out #[(0, .tmp 60), (1, .tmp 61), (2, .tmp 62)] rfl (by kernel_rfl)) ?_)
          | (refine wpList_valM rfl _ _ (run_oneG Tryz.underlying25 hig hg0 hg1x (by decide) (by decide) Y (grL ⟨nn, ep, m⟩ Am cm).toArray HGZ.out (.tmp 63) rfl rfl) ?_)
          | (at_builtin; refine wpList_app _ rfl (.tmp 59) (.tmp 64) _ rfl w.heap.size 66 ig (.agg (grL gr0 none 0).toArray) 14 40 Tryz.underlying25 hig hg0 hg1x hg2x rfl (by decide) u8 vs.length vs.flatten rfl HLA.out.go _ (some ⟨Y.heap.size, 0, none⟩) 1 1 (grL ⟨nn, ep, m⟩ Am cm) rfl (by rw [grL_len _ _ _ HGO.out.nl]) (by exact rd_new Y (grL ⟨nn, ep, m⟩ Am cm) 66 (0, 0)) (gr_oneCell _ _ _) (by have := HVL.out; omega) (by have := HVL.out; omega) HLA.out.bel.size ?_
             intro v9 W9 hap
             have HL9 := Li (OpG.grp (g := ⟨nn, ep, m⟩) HLA.out hap HCM.out HRA.out HAM.out HGO.out)
             have HR9 := Li (show RdP W9 W9.heap.size Am m from (Rd.appended (show Rd _ _ Am (pcs m) from HRA.out) (fun ad1 e1 h1 => (HAM.out ad1 e1 h1).2) hap.grown hap.lies).1)
             have HX9 := Li (show Blk W9 g12 57 (vb nn) from (hap.grown.block g12 HXA.out.lt (fun e => by have := own_lt HL.out.go g12 e.symm; have := HG12.out.1; omega)).trans HXA.out)
             have HS9 := Li (Nat.le_trans HSA.out hap.grown.size)
             clear hap))
         go_meet
         exact ⟨by rw [HT1.out]; rfl, ⟨_, by rw [HG1.out]; exact HL9.out⟩, HX9.out, HR9.out, HS9.out⟩
       case rest =>
        obtain ⟨rfl, ⟨vs', hL6⟩, hx6, hr6, hs6⟩ := hcut
        have HL6 := Li hL6
        have HS6 := Li hs6
        have HNA := Li (fun (W : World) (h : ∃ x : Ext wc, W = x.wd) => show AtA W ⟨g12, 0, none⟩ (byt nn) by
         obtain ⟨x, rfl⟩ := h
         exact fun j u hu => x.cell (atA_blk hx6 j u hu))
        have HKC := Li (fun U => show Calls Tryz.prog 13 #[.int .u32 (ep : Int)] U fun en w' => en = .returned (.agg (vb (keyE ep))) ∧ Below U.heap.size U w' from key29_c ep U (by omega))
        have hnm := tnS_name es i
        have htz : (tnS es i).size ≤ 1000 := by
         unfold tnS
         split <;> decide
        rw [← HTNE.out] at hnm htz
        have HSE := Li (fun U (hb : Below wc.heap.size wc U) => show Calls Tryz.prog 16 #[.agg (vb (keyE ep)), .agg (vb nn), .string tn, .int .u32 (ep : Int), .slice Am m.length cm] U fun e w' => ∃ u, e = .returned u ∧ RBox tn ep nn (boxL (keyE ep) nn tn ep m) U.heap.size u w' ∧ Below U.heap.size U w' from
         rseal16_c (keyE ep) nn tn ep Am cm m U (keyE_len ep) (keyE_lt (by omega)) HGO.out.nl HGO.out.nb htz (by omega) ((Rd.below (show Rd wc wc.heap.size Am (pcs _) from hr6) hb).more hb.size) (by have := HML.out; omega) HMK.out HCK.out)
        have HBI := Li (show bxS gs es i = ⟨tn, ep, nn, boxL (keyE ep) nn tn ep m⟩ by unfold bxS; rw [HTNE.out, HEP.out, HNN.out, HM.out])
        have HBO := Li (show BoOk ⟨tn, ep, nn, boxL (keyE ep) nn tn ep m⟩ from ⟨HGO.out.nl, HGO.out.nb, boxL_lt5 _ _ _ _ _ HCK.out, by show ep < 4294967296; omega⟩)
        have HUL := Li (show us.length ≤ 1048576 by rw [HL6.out.bv.len, bxsS_len]; have := HGL.out; have := HLT.out; omega)
        have HNG1 := Li (show ∀ j, j < i + 1 → OkS gs es j from fun j hj => by
         rcases Nat.lt_or_ge j i with h | h
         ·exact HNG.out j h
         ·obtain rfl : j = i := by omega
          exact HOKI.out)
        clear hL6 hx6 hr6 hs6 hnm htz HL HLY HX1 HRY HRMM HC2 HC2E c4
        generalize boxL (keyE ep) nn tn ep m = bd at *
        go_upto_region 17 with fail
        refine wp_region_loudTail 9 wc [73, 74] (fun kk u W => if kk = 73 then RBox tn ep nn bd wc.heap.size u W else BxNewS tn ep nn bd wc.heap.size u W) (by kernel_rfl) (by kernel_rfl) (by kernel_rfl) (by exact idle2S HTK.out.1 HTK.out.2) (fun kk u w1 w2 h hb => by
         by_cases h33 : kk = 73
         ·rw [if_pos h33] at h ⊢; exact h.next hb
         ·rw [if_neg h33] at h ⊢; exact h.next hb) (jE _ _).drew ?_
        simp only [List.take_succ_cons, List.take_zero, List.drop_succ_cons, List.drop_zero]
        repeat (first
         | (refine wpLoud_call 68 rfl [] (.agg (vb (keyE ep))) 13 (fun g' => #[.int .u32 (ep : Int)]) rfl (fun _ _ h => by cases h) rfl (fun g' w => by kernel_rfl) (fun g' y hg => by
           refine (HKC.out y.wd).mono ?_
           rintro e w' ⟨rfl, hb⟩
           exact ⟨_, rfl, hb, rfl⟩) _ (by simp only [Act.put, sI, sS, sZ]; rfl) ?_)
         | (refine wpLoud_call 73 rfl [] tok 16 (fun g' => #[.agg (vb (keyE ep)), .agg (vb nn), .string tn, .int .u32 (ep : Int), .slice Am m.length cm]) rfl (fun _ _ h => by cases h) rfl (fun g' w => by kernel_rfl) (fun g' y hg => by
           refine (HSE.out y.wd y.bel).mono ?_
           rintro e w' ⟨u, rfl, ⟨A5, c5, e5, ho⟩, hb⟩
           exact ⟨u, rfl, hb, ⟨A5, c5, e5, own_base_le ho y.bel.size⟩⟩) _ (by simp only [Act.put, sI, sS, sZ]; rfl) ?_)
         | (refine wpLoud_makeG 74 rfl rfl [73] rfl (fun _ _ h => by cases h) rfl (fun g' x h => by
           obtain ⟨A5, c5, e5, ho⟩ : RBox tn ep nn bd wc.heap.size (g' 73) x.wd := h 73 (by simp)
           exact ⟨_, _, run_oneG Tryz.underlying24 hib hb0 hb1x (by decide) (by decide) x.wd (bxV tn ep nn A5 bd.length c5) (bxV_sizeS _ _ _ _ _ _ HGO.out.nl) (.tmp 73) rfl e5, (jE _ _).alloc (jD _) _, ⟨A5, c5, x.wd.heap.size, rfl, Blk.new _ _ _, (by simp), ho.next ((jE _ _).alloc (jD _) _)⟩⟩) _ (by simp only [Act.put, sI, sS, sZ]; rfl) ?_)
         | (refine wpLoud_plain rfl rfl rfl ?_; intro K hK; refine quiet_loadA 57 (.tmp 12) rfl ⟨g12, 0, none⟩ rfl (byt nn) _ HNA.out Tryz.underlying57 rfl HNL.out _ (by simp only [Act.put, sI, sS, sZ]; rfl) ?_; go_big_quiet_on)
         | (refine wpLoud_plain rfl rfl rfl ?_; intro K hK; go_big_quiet_op; go_big_quiet_on))
        refine wpLoud_end [73, 74] (by rfl) ?_
        intro gg z hg
        have h1 : BxNewS tn ep nn bd wc.heap.size (gg 74) z.wd := hg 74 (by simp)
        have h75 : RBox tn ep nn bd wc.heap.size (gg 73) z.wd := hg 73 (by simp)
        have hz := z.bel
        generalize z.wd = W7 at *
        simp only [fill, Act.put, sI, sS, sZ]
        obtain ⟨Ay, cy, e75, _⟩ := h75
        have htk75 : isTok (gg 73) = false := by rw [e75]; rfl
        have HTK7 := Li (show isTok (gg 73) = false ∧ isTok (gg 74) = false from ⟨htk75, by obtain ⟨_, _, _, e76, _⟩ := h1; rw [e76]; rfl⟩)
        generalize gg 73 = v75 at *
        generalize gg 74 = v76 at *
        obtain ⟨Ab, cb2, b1, rfl, hbk, hb1, hob⟩ := h1
        have HL7 := Li (HL6.out.next hz)
        have hap0 : ∀ ad, Ab = some ad → byt bd ≠ [] → some ad.block ≠ u7.ownBlock ∧ some ad.block ≠ u8.ownBlock := by
         intro ad1 ea _
         have h2 := own_new hob rfl ad1 ea
         refine ⟨fun h => ?_, fun h => ?_⟩
         ·have := own_lt HL6.out.lo _ h.symm
          omega
         ·have := own_lt HL6.out.go _ h.symm
          omega
        have HAP := Li hap0
        obtain ⟨A9, c9, e9, hc9, _, r9⟩ := hob.rd
        injection e9 with e9a _ e9c
        subst e9a e9c
        have HR9 := Li r9
        have HC9 := Li hc9
        have HRB := Li (show Rd W7 (b1 + 1) (some ⟨b1, 0, none⟩) (bxL tn ep nn Ab bd.length cb2) from fun _ => ⟨_, rfl, Nat.lt_succ_self _, atA_blk hbk⟩)
        clear hg hbk hb1 hob hz e75 htk75 r9 hc9 HSE HNA HKC HL6 hap0
        refine wpList_app _ rfl (.tmp 66) (.tmp 74) _ rfl w.heap.size 61 ib (.agg zBx) 15 56 Tryz.underlying24 hib hb0 hb1x hb2x rfl (by decide) u7 us.length us.flatten rfl HL7.out.lo (b1 + 1) (some ⟨b1, 0, none⟩) 1 1 (bxL tn ep nn Ab bd.length cb2) rfl (by rw [bxL_len _ _ _ _ _ HGO.out.nl]) HRB.out (bx_oneCell _ _ _ _ _ _) (by have := HUL.out; omega) (by have := HUL.out; omega) HL7.out.bel.size ?_
        intro v9 W9 hap
        have HL9 := Li (OpG.box (b := ⟨tn, ep, nn, bd⟩) HL7.out hap HC9.out HR9.out HAP.out HBO.out)
        clear hap HL7 HR9 HC9 HAP HRB
        simp only [Act.put, sI, sS, sZ]
        go_wp2_with fail
        go_roundw
        case rel => exact ⟨HTK7.out, i + 1, HLT.out, by go_num, ⟨_, vs', by rw [bxsS_succ, HBI.out]; exact HL9.out⟩, HNG1.out⟩
        case measure => have := HLT.out; simp [intOf]; omega
  ·obtain rfl : i = gs.length := by omega
   have r1 : ¬ (gs.length : Int) < (gs.length : Int) := by omega
   obtain ⟨Ax, cx, rfl, hcx, _, hrx⟩ := hL.lo.rd hL.bv.bv
   obtain ⟨Ag, cg, rfl, hcg, _, hrg⟩ := hL.go.rd hL.gq
   rw [bxsS_len]
   have HRX := Li hrx
   have HRG := Li hrg
   have HPB := Li hL.bel
   have HNG := Li hng
   clear hL hng hlt hil hrx hrg hcx hcg
   go_wp2_with fail
   refine bodyPost_ret (results_tmp3 rfl _ _ _) rfl ?_
   exact ⟨.inr ⟨HNG.out, Ax, cx, Ag, cg, rfl, HRX.out, HRG.out⟩, HPB.out⟩
theorem own_zeroN (w : World) (base : Nat) (h : base ≤ w.heap.size) : (w.alloc (.cells #[] 57)).ownsRow base 57 12 (.slice (some ⟨w.heap.size, 0, none⟩) 0 0) 0 [] :=
 ⟨rfl, .inr ⟨w.heap.size, 0, #[], rfl, h, Blk.new w _ _, jD _, by decide, rfl, rfl⟩⟩
theorem cloneN_c (B : Nat) (A : Option Addr) (ca : Nat) (ns : List (List Nat)) (w : World) (hr : RdN w B A ns) (hl : ∀ x ∈ ns, x.length = 12) (h1 : ns.length ≤ 10000000) :
  Calls Tryz.prog 27 #[.slice A ns.length ca] w fun e w' => ∃ v, e = .returned v ∧ OwnN w' w.heap.size v ns ∧ Below w.heap.size w w' := by
 obtain ⟨i0, hi, hz0, hz1, hz2⟩ := parts_of nonceInfo
 have HR := Li hr
 have HLN := Li (nnC_len ns hl)
 have HON := Li (nnC_one ns)
 clear hr
 cases A with
 | none =>
  have hq := fun (W : World) (n c : Nat) => Lib.run_eql_slice_nil (P := Tryz.prog) W 30 57 none n c 0 0 Tryz.underlying30
  simp only [Option.isNone_none] at hq
  obtain rfl : ns = [] := by
   have h0 := (show Rd w B none (nnC ns) from HR.out).none_nil
   have := HLN.out
   rw [h0, List.length_nil] at this
   exact List.eq_nil_of_length_eq_zero (by omega)
  go_enter Tryz.func27, Tryz.ntmps27
  go_wp2
  go_ret
  exact ⟨_, rfl, OwnN.nil_ _ _, jE _ _⟩
 | some ad =>
  have hq := fun (W : World) (n c : Nat) => Lib.run_eql_slice_nil (P := Tryz.prog) W 30 57 (some ad) n c 0 0 Tryz.underlying30
  simp only [Option.isNone_some] at hq
  have hb : Below w.heap.size w (w.alloc (.cells #[] 57)) := (jE _ _).alloc (jD _) _
  have HB := Li hb
  have HRD := Li (Rd.ext (show Rd w B (some ad) (nnC ns) from HR.out) hb)
  clear hb
  go_enter Tryz.func27, Tryz.ntmps27
  go_wp2_with (at_builtin; refine wpList_app _ rfl (.tmp 5) (.tmp 6) _ rfl w.heap.size 57 i0 (.agg (vb n12z)) 12 12 Tryz.underlying30 hi hz0 hz1 hz2 rfl (by decide) _ 0 [] rfl (by exact own_zeroN w _ (jD _)) B (some ad) ns.length ca (nnC ns) rfl HLN.out HRD.out HON.out (by omega) (by omega) (by simp) ?_; intro v1 w1 hap)
  go_ret
  refine ⟨v1, rfl, ?_, HB.out.trans (hap.below (own_zeroN w _ (jD _)) (by simp))⟩
  have := hap.own
  unfold OwnN
  simpa using this
def chL (kind : Int) (gone bx : Value) : List Value := [.int .i64 kind, .int .u64 0, .int .i64 0, .int .u64 0] ++ byt z32 ++ [.int .i64 0, .int .u64 0, .int .i64 0, .int .u64 0, .slice none 0 0, .slice none 0 0, gone, bx, .string ByteArray.empty]
def chV (kind : Int) (gone bx : Value) : Array Value := (chL kind gone bx).toArray
def zCh : Array Value := chV 0 (.slice none 0 0) (.slice none 0 0)
theorem zero_ch (w : World) : (zeroValue 52).run Tryz.prog w = .ok (.agg zCh) w := by kernel_rfl
theorem chSz (kind : Int) (gone bx : Value) : (Tryz.prog.info? 52).map (·.size) = some (chV kind gone bx).size := by
 rw [show (chV kind gone bx).size = 45 by rfl]
 kernel_rfl
theorem built_ch (An : Option Addr) (n c : Nat) : Tryz.prog.built 52 [(0, .int .i64 5), (5, .slice An n c)] = some (chV 5 (.slice An n c) (.slice none 0 0)) := by kernel_rfl
theorem built_ch0 : Tryz.prog.built 52 [] = some zCh := by kernel_rfl
theorem ch_all (kind : Int) (An : Option Addr) (n c : Nat) (Ab : Option Addr) (m d : Nat) : (chV kind (.slice An n c) (.slice Ab m d)).all (·.oneCell') = true := by
 unfold chV
 rw [List.all_toArray, List.all_eq_true]
 intro u hu
 unfold chL at hu
 rcases List.mem_append.1 hu with h | h
 ·rcases List.mem_append.1 h with h | h
  ·simp at h
   rcases h with rfl | rfl | rfl | rfl <;> rfl
  ·exact byt_one _ u h
 ·simp at h
  rcases h with rfl | rfl | rfl | rfl | rfl | rfl | rfl | rfl | rfl <;> rfl
structure Cbx (w W : World) (gv pv : Value) (k nn : List Nat) : Prop where
 bel : Below w.heap.size w W
 wA : Blk W w.heap.size 33 #[gv, pv]
 kA : Blk W (w.heap.size + 1) 45 (vb k)
 nA : Blk W (w.heap.size + 1 + 1) 57 (vb nn)
 rA : Blk W (w.heap.size + 1 + 1 + 1) 52 zCh
 sz : w.heap.size + 1 + 1 + 1 + 1 ≤ W.heap.size
theorem Cbx.next {w W W' : World} {gv pv : Value} {k nn : List Nat} (h : Cbx w W gv pv k nn) (hb : Below (w.heap.size + 1 + 1 + 1 + 1) W W') : Cbx w W' gv pv k nn :=
 ⟨h.bel.trans (hb.mono (by omega)), h.wA.below hb (by omega), h.kA.below hb (by omega), h.nA.below hb (by omega), h.rA.below hb (by omega), Nat.le_trans h.sz hb.size⟩
theorem Cbx.begin (w : World) (gv pv : Value) (k nn : List Nat) : Cbx w ((((w.alloc (Obj.cells #[gv, pv] 33)).alloc (Obj.cells (vb k) 45)).alloc (Obj.cells (vb nn) 57)).alloc (Obj.cells zCh 52)) gv pv k nn := by
 obtain ⟨W1, h1⟩ : ∃ W1, W1 = w.alloc (Obj.cells #[gv, pv] 33) := ⟨_, rfl⟩
 obtain ⟨W2, h2⟩ : ∃ W2, W2 = W1.alloc (Obj.cells (vb k) 45) := ⟨_, rfl⟩
 obtain ⟨W3, h3⟩ : ∃ W3, W3 = W2.alloc (Obj.cells (vb nn) 57) := ⟨_, rfl⟩
 obtain ⟨W4, h4⟩ : ∃ W4, W4 = W3.alloc (Obj.cells zCh 52) := ⟨_, rfl⟩
 rw [← h1, ← h2, ← h3, ← h4]
 have s1 : W1.heap.size = w.heap.size + 1 := by rw [h1]; simp
 have s2 : W2.heap.size = w.heap.size + 1 + 1 := by rw [h2, ← s1]; simp
 have s3 : W3.heap.size = w.heap.size + 1 + 1 + 1 := by rw [h3, ← s2]; simp
 have s4 : W4.heap.size = w.heap.size + 1 + 1 + 1 + 1 := by rw [h4, ← s3]; simp
 have q1 : Blk W1 w.heap.size 33 #[gv, pv] := by rw [h1]; exact Blk.new _ _ _
 have q2 : Blk W2 W1.heap.size 45 (vb k) := by rw [h2]; exact Blk.new _ _ _
 have q3 : Blk W3 W2.heap.size 57 (vb nn) := by rw [h3]; exact Blk.new _ _ _
 have q4 : Blk W4 W3.heap.size 52 zCh := by rw [h4]; exact Blk.new _ _ _
 have b01 : Below w.heap.size w W1 := by rw [h1]; exact (jE _ _).alloc (jD _) _
 have b12 : Below W1.heap.size W1 W2 := by rw [h2]; exact (jE _ _).alloc (jD _) _
 have b23 : Below W2.heap.size W2 W3 := by rw [h3]; exact (jE _ _).alloc (jD _) _
 have b34 : Below W3.heap.size W3 W4 := by rw [h4]; exact (jE _ _).alloc (jD _) _
 clear h1 h2 h3 h4
 refine ⟨((b01.trans (b12.mono (by omega))).trans (b23.mono (by omega))).trans (b34.mono (by omega)), ((q1.below b12 (by omega)).below b23 (by omega)).below b34 (by omega), ?_, ?_, ?_, by omega⟩
 ·rw [← s1]; exact (q2.below b23 (by omega)).below b34 (by omega)
 ·rw [← s2]; exact q3.below b34 (by omega)
 ·rw [← s3]; exact q4
theorem rdx_one {W : World} {b base : Nat} {x : Bxo} {Ab : Option Addr} {cb : Nat} (h : Blk W b 61 (bxV x.t x.ep x.nn Ab x.body.length cb)) (ho : OwnB W base (.slice Ab x.body.length cb) x.body) (hok : BoOk x) : RdX W (some ⟨b, 0, none⟩) [x] := by
 obtain ⟨A9, c9, e9, hc9, _, r9⟩ := ho.rd
 injection e9 with e9a _ e9c
 subst e9a e9c
 refine ⟨[bxL x.t x.ep x.nn Ab x.body.length cb], ?_, fun _ => ⟨_, rfl, h.lt, ?_⟩⟩
 ·exact BsV.snoc (BsV.nil_ W) (u := bxL x.t x.ep x.nn Ab x.body.length cb) (b := x) ⟨Ab, cb, rfl, hc9, r9⟩ hok
 ·rw [show [bxL x.t x.ep x.nn Ab x.body.length cb].flatten = bxL x.t x.ep x.nn Ab x.body.length cb by simp]
  exact atA_blk h
def ChD (ns : List (List Nat)) (l : List Pc) (k nn : List Nat) (t : ByteArray) (ep : Nat) (w : World) (e : Ending) (w' : World) : Prop :=
 ∃ g' cg', OwnN w' w.heap.size (.slice g' ns.length cg') ns ∧ Below w.heap.size w w' ∧
  ((l.length = 0 ∧ e = .returned (.tuple #[.agg (chV 5 (.slice g' ns.length cg') (.slice none 0 0)), .int .i64 0])) ∨
   (0 < l.length ∧ sealE t l ≠ 0 ∧ e = .returned (.tuple #[.agg zCh, .int .i64 (sealE t l : Nat)])) ∨
   (0 < l.length ∧ sealE t l = 0 ∧ ∃ b, e = .returned (.tuple #[.agg (chV 5 (.slice g' ns.length cg') (.slice (some ⟨b, 0, none⟩) 1 1)), .int .i64 0]) ∧ ∃ Ab cb, Blk w' b 61 (bxV t ep nn Ab (boxL k nn t ep l).length cb) ∧ w.heap.size ≤ b ∧ OwnB w' w.heap.size (.slice Ab (boxL k nn t ep l).length cb) (boxL k nn t ep l)))
theorem own_offN {W W' : World} {base b : Nat} {v : Value} {ns : List (List Nat)} (h : OwnN W base v ns) (ho : Only (fun i => i = b) W W') (hn : v.ownBlock ≠ some b) : OwnN W' base v ns :=
 own_keep (S := fun i => i = b) h ho (fun g e hg => hn (by rw [e, hg]))
theorem change29_c (ns : List (List Nat)) (Ag : Option Addr) (cg : Nat) (l : List Pc) (Ap : Option Addr) (cp : Nat) (k nn : List Nat) (t : ByteArray) (ep : Nat) (w : World) (hns : RdN w w.heap.size Ag ns) (hnl : ∀ x ∈ ns, x.length = 12) (hn1 : ns.length ≤ 1000) (hr : RdP w w.heap.size Ap l) (hc : l.length ≤ cp) (hl : l.length ≤ 1000) (hok : ∀ p ∈ l, PcOk p ∧ p.s.size ≤ 1000000) (hk : k.length = 32) (hkb : ∀ c ∈ k, c < 256) (hnn : nn.length = 12) (hnb : ∀ c ∈ nn, c < 256) (ht : t.size ≤ 1000) (he : ep < 4294967296) (hq : QuartersAt w) :
  Calls Tryz.prog 12 #[.agg #[.slice Ag ns.length cg, .slice Ap l.length cp], .agg (vb k), .agg (vb nn), .string t, .int .u32 (ep : Nat)] w (ChD ns l k nn t ep w) := by
 have zf := zero_ch
 have zs1 : zCh.size = 45 := by rfl
 have zs2 : ¬ zCh = #[] := by intro h; have := congrArg Array.size h; rw [zs1] at this; cases this
 have zf2 := zero_bx
 have zs3 : zBx.size = 15 := by rfl
 have zs4 : ¬ zBx = #[] := by intro h; have := congrArg Array.size h; rw [zs3] at this; cases this
 have HB := Li (Cbx.begin w (.slice Ag ns.length cg) (.slice Ap l.length cp) k nn)
 have HNS := Li hns
 have HNL := Li hnl
 have HR := Li hr
 have HKS := Li (keySz hk)
 have HNSZ := Li (nnSz hnn)
 have HNN := Li hnn
 have HSEC := Li (show ∀ W, Below w.heap.size w W → ∃ (T' : ByteArray) (ep' : Nat) (nn' bd' : List Nat), nn'.length = 12 ∧ (sealE t l = 0 → T' = t ∧ ep' = ep ∧ nn' = nn ∧ bd' = boxL k nn t ep l) ∧ Calls Tryz.prog 28 #[.agg (vb k), .agg (vb nn), .string t, .int .u32 (ep : Int), .slice Ap l.length cp] W (BoxR T' ep' nn' bd' (sealE t l) W) from fun W hb => by
  have hrW : RdP W W.heap.size Ap l := (Rd.below (show Rd w w.heap.size Ap (pcs _) from hr) hb).more hb.size
  by_cases h0 : sealE t l = 0
  ·have hnm : nameB t = true := by
    cases hn0 : nameB t with
    | true => rfl
    | false => unfold sealE at h0; rw [hn0] at h0; cases h0
   have hck : chkL l = 0 := by unfold sealE at h0; rw [hnm] at h0; exact h0
   rw [h0]
   exact ⟨t, ep, nn, boxL k nn t ep l, hnn, fun _ => ⟨rfl, rfl, rfl, rfl⟩, sealYes_c k nn t ep Ap cp l W hk hkb hnn hnb (by omega) he hrW hc (by omega) hok hnm hck (hq.next hb)⟩
  ·exact ⟨ByteArray.empty, 0, n12z, [], rfl, fun h => absurd h h0, sealNo_c k nn t ep Ap cp l W hk hkb hnn hnb (by omega) he hrW hc (by omega) hok h0⟩)
 clear hns hnl hr hc hok hk hkb hnn hnb ht he hq
 go_enter Tryz.func12, Tryz.ntmps12
 go_upto_region 1 with (first
  | (refine Go.Great.wpList_boxTo rfl 33 (.tmp 0) rfl (some 5) rfl w.heap.size rfl #[.slice Ag ns.length cg, .slice Ap l.length cp] rfl ?_)
  | (refine Go.Great.wpList_boxTo rfl 45 (.tmp 1) rfl (some 6) rfl (w.heap.size + 1) (by simp) (vb k) rfl ?_)
  | (refine Go.Great.wpList_boxTo rfl 57 (.tmp 2) rfl (some 7) rfl (w.heap.size + 1 + 1) (by simp) (vb nn) rfl ?_))
 generalize (((w.alloc (Obj.cells #[Value.slice Ag ns.length cg, Value.slice Ap l.length cp] 33)).alloc (Obj.cells (vb k) 45)).alloc (Obj.cells (vb nn) 57)).alloc (Obj.cells zCh 52) = Z at *
 have c0 : Z.cell? ⟨w.heap.size, 0, none⟩ = some (.slice Ag ns.length cg) := (HB.out.wA.cell 0).trans rfl
 have HCL := Li (cloneN_c w.heap.size Ag cg ns Z (Rd.below (show Rd w w.heap.size Ag (nnC _) from HNS.out) HB.out.bel) HNL.out (by omega))
 go_upto_region 2 with (first
  | (go_at_call 27; (with_reducible refine HCL.out.mono ?_); rintro e W1 ⟨v, rfl, ho, hb⟩; obtain ⟨g', cg', rfl, _, _, _⟩ := ho.rd; have HO1 := Li ho; have HB1 := Li (HB.out.next (hb.mono HB.out.sz)); have HS1 := Li hb.size; clear ho hb)
  | (refine wpList_valG (by kernel_rfl) (.agg (chV 5 (.slice g' ns.length cg') (.slice none 0 0))) (by exact run_built _ 52 [(0, .int .i64 5), (5, .slice g' ns.length cg')] _ (built_ch g' ns.length cg') #[(0, .const (.int .i64 5)), (5, .tmp 17)] rfl (by kernel_rfl)) ?_)
  | (refine wpList_store_rowTo rfl 52 (.tmp 12) (.tmp 18) rfl rfl W1.heap.size (chV 5 (.slice g' ns.length cg') (.slice none 0 0)) rfl rfl 52 zCh (by exact heap_alloc_new _ _) (chSz ..) rfl (ch_all ..) ?_))
 obtain ⟨Y, hY⟩ : ∃ Y, Y = (W1.alloc (Obj.cells zCh 52)).setRow W1.heap.size (chV 5 (.slice g' ns.length cg') (.slice none 0 0)) := ⟨_, rfl⟩
 have hnr := new_rowP W1 52 zCh (chV 5 (.slice g' ns.length cg') (.slice none 0 0))
 rw [← hY] at hnr ⊢
 have HY := Li (HB1.out.next (hnr.2.mono HB1.out.sz))
 have HX := Li hnr.1
 have HOY := Li (HO1.out.next hnr.2)
 have HGG := Li (show w.heap.size + 1 + 1 + 1 + 1 ≤ W1.heap.size ∧ W1.heap.size < Y.heap.size ∧ ∀ b, (Value.slice g' ns.length cg').ownBlock = some b → w.heap.size + 1 + 1 + 1 + 1 ≤ b ∧ b < W1.heap.size from ⟨HB1.out.sz, hnr.1.lt, fun b e => ⟨Nat.le_trans HB.out.sz (own_base HO1.out b e), own_lt HO1.out b e⟩⟩)
 have c1 : Y.cell? ⟨w.heap.size, 1, none⟩ = some (.slice Ap l.length cp) := (HY.out.wA.cell 1).trans rfl
 have HZS := Li HB.out.sz
 clear hnr hY c0 HCL HO1 HB1 HB
 obtain ⟨g12, hg12⟩ : ∃ g, g = W1.heap.size := ⟨_, rfl⟩
 rw [← hg12] at HX HGG ⊢
 clear hg12 HS1
 by_cases h0 : l.length = 0
 ·have q1 : (l.length : Int) = 0 := by omega
  have HL0 := Li h0
  clear h0
  go_wp2_with (first
   | (refine wpList_load_row rfl 52 (.tmp 12) rfl g12 rfl 52 (chV 5 (.slice g' ns.length cg') (.slice none 0 0)) (0, 0) _ HX.out Tryz.underlying52 rfl (chSz ..) ?_)
   | (refine wpList_store_rowTo rfl 52 (.tmp 10) (.tmp 23) rfl rfl (w.heap.size + 1 + 1 + 1) (chV 5 (.slice g' ns.length cg') (.slice none 0 0)) rfl rfl 52 zCh HY.out.rA (chSz ..) rfl (ch_all ..) ?_))
  refine bodyPost_ret (results_row_tmp rfl _ _ (w.heap.size + 1 + 1 + 1) 52 (chV 5 (.slice g' ns.length cg') (.slice none 0 0)) (0, 0) _ rfl (setRow_heap _ _ zCh _ 52 (0, 0) HY.out.rA) Tryz.underlying52 rfl (chSz ..)) rfl ?_
  exact ⟨g', cg', own_base_le (own_offN HOY.out (setRow_only _ _ _) (fun e => by have := (HGG.out.2.2 _ e).1; omega)) (by have := HZS.out; omega), HY.out.bel.trans (below_setRowP _ _ _ (by omega)), .inl ⟨HL0.out, rfl⟩⟩
 ·have q1 : ¬ (l.length : Int) = 0 := by omega
  have HL0 := Li (show 0 < l.length by omega)
  obtain ⟨T', ep', nn', bd', hn', hT', hcs⟩ := HSEC.out Y HY.out.bel
  have HCS := Li hcs
  have HTT := Li hT'
  have HSZ := Li (fun A n c => bxSz T' ep' (nn := nn') A n c hn')
  have HZB := Li (fun A n c => show zBx.size = (bxV T' ep' nn' A n c).size by rw [zBx_size]; unfold bxV; rw [List.size_toArray, bxL_len T' ep' A n c hn'])
  obtain ⟨E, hE⟩ : ∃ E, E = sealE t l := ⟨_, rfl⟩
  rw [← hE] at HCS HTT
  have HE := Li hE
  clear hcs hT' hE h0 HSEC
  go_upto_region 5 with (first
   | (refine wpList_load_row rfl 45 (.tmp 6) rfl (w.heap.size + 1) rfl 45 (vb k) (0, 0) _ HY.out.kA Tryz.underlying45 rfl HKS.out ?_)
   | (refine wpList_load_row rfl 57 (.tmp 7) rfl (w.heap.size + 1 + 1) rfl 57 (vb nn) (0, 0) _ HY.out.nA Tryz.underlying57 rfl HNSZ.out ?_)
   | (go_at_call 28; (with_reducible refine HCS.out.mono ?_); rintro e W2 ⟨Ab, cb, rfl, hob, hb⟩; have HB2 := Li hb; have HO2 := Li hob; clear hob hb)
   | (refine wpList_store_rowTo rfl 61 (.tmp 13) (.tmp 32) rfl rfl W2.heap.size (bxV T' ep' nn' Ab bd'.length cb) rfl rfl 61 zBx (by exact heap_alloc_new _ _) (HSZ.out ..) (HZB.out ..) (bx_all _ _ _ _ _ _) ?_))
  obtain ⟨Y2, hY2⟩ : ∃ Y2, Y2 = (W2.alloc (Obj.cells zBx 61)).setRow W2.heap.size (bxV T' ep' nn' Ab bd'.length cb) := ⟨_, rfl⟩
  have hnr := new_rowP W2 61 zBx (bxV T' ep' nn' Ab bd'.length cb)
  rw [← hY2] at hnr ⊢
  have hyy : Below Y.heap.size Y Y2 := HB2.out.trans (hnr.2.mono HB2.out.size)
  have HY2 := Li (HY.out.next (hyy.mono HY.out.sz))
  have HX2 := Li (HX.out.below hyy HGG.out.2.1)
  have HOY2 := Li (HOY.out.next hyy)
  have HOB2 := Li (HO2.out.next hnr.2)
  have HXB := Li hnr.1
  have HYS := Li hyy.size
  clear hnr hY2 hyy HO2 HB2 c1
  obtain ⟨g13, hg13⟩ : ∃ g, g = W2.heap.size := ⟨_, rfl⟩
  rw [← hg13] at HXB ⊢
  clear hg13
  by_cases hE0 : E = 0
  ·subst hE0
   obtain ⟨rT, rE, rN, rB⟩ := HTT.out rfl
   have HRR := Li (And.intro rT (And.intro rE (And.intro rN rB)))
   clear rT rE rN rB
   have HSV := Li (show ∀ A n c, (bxV T' ep' nn' A n c).size = 15 from fun A n c => by rw [← HZB.out A n c]; rfl)
   obtain ⟨ib, hib, hb0, hb1x, hb2x⟩ := parts_of boxInfo
   go_upto_region 8 with (first
    | (refine wpList_load_row rfl 61 (.tmp 13) rfl g13 rfl 61 (bxV T' ep' nn' Ab bd'.length cb) (0, 0) _ HXB.out Tryz.underlying61 rfl (HSZ.out ..) ?_)
    | (refine wpList_valM rfl _ _ (run_oneG Tryz.underlying24 hib hb0 hb1x (by decide) (by decide) Y2 (bxV T' ep' nn' Ab bd'.length cb) (HSV.out ..) (.tmp 38) rfl rfl) ?_
       obtain ⟨W3, hW3⟩ : ∃ W3, W3 = Y2.alloc (Obj.cells (bxV T' ep' nn' Ab bd'.length cb) 61) := ⟨_, rfl⟩
       rw [← hW3]
       have h23 : Below Y2.heap.size Y2 W3 := by rw [hW3]; exact (jE _ _).alloc (jD _) _
       have HXN := Li (show Blk W3 Y2.heap.size 61 (bxV T' ep' nn' Ab bd'.length cb) by rw [hW3]; exact Blk.new _ _ _)
       have HX3 := Li (HX2.out.below h23 (jH HGG.out.2.1 HYS.out))
       have HY3 := Li (HY2.out.next (h23.mono HY2.out.sz))
       have HOY3 := Li (HOY2.out.next h23)
       have HOB3 := Li (HOB2.out.next h23)
       have hf43 : W3.frozen? ⟨g12, 43, none⟩ = false := (blk_thereS HX3.out 43 1 (by show 43 + 1 ≤ 45; decide) 0 (by decide)).2
       have d43 : W3.cell? ⟨g12, 43, none⟩ = some (.slice none 0 0) := (HX3.out.cell 43).trans rfl
       clear h23 hW3))
   obtain ⟨b3, hb3⟩ : ∃ b3, b3 = Y2.heap.size := ⟨_, rfl⟩
   rw [← hb3] at HXN ⊢
   have HB3 := Li hb3
   clear hb3
   obtain ⟨Y4, hY4⟩ : ∃ Y4, Y4 = W3.setCell ⟨g12, 43, none⟩ (.slice (some ⟨b3, 0, none⟩) 1 1) := ⟨_, rfl⟩
   try rw [← hY4]
   have hon : Only (fun i => i = g12) W3 Y4 := by rw [hY4]; exact (Only.refl (fun i => i = g12) W3).setCell (p := ⟨g12, 43, none⟩) (fun _ => rfl) _
   have hx4 : Blk Y4 g12 52 (chV 5 (.slice g' ns.length cg') (.slice (some ⟨b3, 0, none⟩) 1 1)) := by
    rw [hY4]
    exact HX3.out.set_ 43 _
   have hy4 : Cbx w Y4 (.slice Ag ns.length cg) (.slice Ap l.length cp) k nn := by
    rw [hY4]
    exact HY3.out.next (below_setCellS _ _ _ _ HGG.out.1)
   have hxn4 : Blk Y4 b3 61 (bxV T' ep' nn' Ab bd'.length cb) := by
    have h := hon.block b3 HXN.out.lt (by have := HGG.out.2.1; have := HYS.out; have := HB3.out; omega)
    exact h.trans HXN.out
   have hoy4 : OwnN Y4 Z.heap.size (.slice g' ns.length cg') ns := own_offN HOY3.out hon (fun e => by have := (HGG.out.2.2 _ e).2; omega)
   have hob4 : OwnB Y4 Y.heap.size (.slice Ab bd'.length cb) bd' := own_off HOB3.out hon (fun e => by have := own_base HOB3.out _ e; have := HGG.out.2.1; omega)
   have HX4 := Li hx4
   have HY4 := Li hy4
   have HXN4 := Li hxn4
   have HOY4 := Li hoy4
   have HOB4 := Li hob4
   clear hY4 hon hx4 hy4 hxn4 hoy4 hob4 hf43 d43 HXN HX3 HY3 HOY3 HOB3 HX2 HY2 HOY2 HOB2 HXB
   go_wp2_with (first
    | (refine wpList_load_row rfl 52 (.tmp 12) rfl g12 rfl 52 (chV 5 (.slice g' ns.length cg') (.slice (some ⟨b3, 0, none⟩) 1 1)) (0, 0) _ HX4.out Tryz.underlying52 rfl (chSz ..) ?_)
    | (refine wpList_store_rowTo rfl 52 (.tmp 10) (.tmp 41) rfl rfl (w.heap.size + 1 + 1 + 1) (chV 5 (.slice g' ns.length cg') (.slice (some ⟨b3, 0, none⟩) 1 1)) rfl rfl 52 zCh HY4.out.rA (chSz ..) rfl (ch_all ..) ?_))
   refine bodyPost_ret (results_row_tmp rfl _ _ (w.heap.size + 1 + 1 + 1) 52 (chV 5 (.slice g' ns.length cg') (.slice (some ⟨b3, 0, none⟩) 1 1)) (0, 0) _ rfl (setRow_heap _ _ zCh _ 52 (0, 0) HY4.out.rA) Tryz.underlying52 rfl (chSz ..)) rfl ?_
   obtain ⟨R, hR⟩ : ∃ R, R = Y4.setRow (w.heap.size + 1 + 1 + 1) (chV 5 (.slice g' ns.length cg') (.slice (some ⟨b3, 0, none⟩) 1 1)) := ⟨_, rfl⟩
   rw [← hR]
   have hro : Only (fun i => i = w.heap.size + 1 + 1 + 1) Y4 R := by rw [hR]; exact setRow_only _ _ _
   have hbR : Below w.heap.size w R := by rw [hR]; exact HY4.out.bel.trans (below_setRowP _ _ _ (by omega))
   have hxr : Blk R b3 61 (bxV T' ep' nn' Ab bd'.length cb) := (hro.block b3 HXN4.out.lt (by have := HGG.out.1; have := HGG.out.2.1; have := HYS.out; have := HB3.out; omega)).trans HXN4.out
   have hor : OwnB R Y.heap.size (.slice Ab bd'.length cb) bd' := own_off HOB4.out hro (fun e => by have := own_base HOB4.out _ e; have := HGG.out.1; have := HGG.out.2.1; omega)
   obtain ⟨rT, rE, rN, rB⟩ := HRR.out
   have hbw : w.heap.size ≤ b3 := by have := HGG.out.1; have := HGG.out.2.1; have := HYS.out; have := HB3.out; omega
   have hyw : w.heap.size ≤ Y.heap.size := by have := HGG.out.1; have := HGG.out.2.1; omega
   refine ⟨g', cg', own_base_le (own_offN HOY4.out hro (fun e => by have := (HGG.out.2.2 _ e).1; omega)) (by have := HZS.out; omega), hbR, .inr (.inr ⟨HL0.out, HE.out.symm, b3, rfl, Ab, cb, ?_, hbw, ?_⟩)⟩
   ·have h := hxr
    rw [rT, rE, rN, rB] at h
    exact h
   ·have h := own_base_le hor hyw
    rw [rB] at h
    exact h
  ·have s1 : ((E : Int) != 0) = true := by rw [bne_iff_ne]; omega
   have s2 : ¬ (E : Int) = 0 := by omega
   have HE0 := Li hE0
   clear hE0
   go_wp2_with (first
    | (refine wpList_valG (by kernel_rfl) (.agg zCh) (by exact run_built _ 52 [] _ built_ch0 #[] rfl (by kernel_rfl)) ?_)
    | (refine wpList_store_rowTo rfl 52 (.tmp 10) (.tmp 36) rfl rfl (w.heap.size + 1 + 1 + 1) zCh rfl rfl 52 zCh HY2.out.rA (chSz ..) rfl (ch_all ..) ?_))
   refine bodyPost_ret (results_row_tmp rfl _ _ (w.heap.size + 1 + 1 + 1) 52 zCh (0, 0) _ rfl (setRow_heap _ _ zCh _ 52 (0, 0) HY2.out.rA) Tryz.underlying52 rfl (chSz ..)) rfl ?_
   exact ⟨g', cg', own_base_le (own_offN HOY2.out (setRow_only _ _ _) (fun e => by have := (HGG.out.2.2 _ e).1; omega)) (by have := HZS.out; omega), HY2.out.bel.trans (below_setRowP _ _ _ (by omega)), .inr (.inl ⟨HL0.out, by rw [← HE.out]; exact HE0.out, by rw [← HE.out]; rfl⟩)⟩
structure Wbx2 (w W : World) (k nn : List Nat) : Prop where
 bel : Below w.heap.size w W
 kA : Blk W w.heap.size 45 (vb k)
 nA : Blk W (w.heap.size + 1) 57 (vb nn)
 rA : Blk W (w.heap.size + 1 + 1) 52 zCh
 sz : w.heap.size + 1 + 1 + 1 ≤ W.heap.size
theorem Wbx2.next {w W W' : World} {k nn : List Nat} (h : Wbx2 w W k nn) (hb : Below (w.heap.size + 1 + 1 + 1) W W') : Wbx2 w W' k nn :=
 ⟨h.bel.trans (hb.mono (by omega)), h.kA.below hb (by omega), h.nA.below hb (by omega), h.rA.below hb (by omega), Nat.le_trans h.sz hb.size⟩
theorem Wbx2.begin (w : World) (k nn : List Nat) : Wbx2 w (((w.alloc (Obj.cells (vb k) 45)).alloc (Obj.cells (vb nn) 57)).alloc (Obj.cells zCh 52)) k nn := by
 obtain ⟨W1, h1⟩ : ∃ W1, W1 = w.alloc (Obj.cells (vb k) 45) := ⟨_, rfl⟩
 obtain ⟨W2, h2⟩ : ∃ W2, W2 = W1.alloc (Obj.cells (vb nn) 57) := ⟨_, rfl⟩
 obtain ⟨W3, h3⟩ : ∃ W3, W3 = W2.alloc (Obj.cells zCh 52) := ⟨_, rfl⟩
 rw [← h1, ← h2, ← h3]
 have s1 : W1.heap.size = w.heap.size + 1 := by rw [h1]; simp
 have s2 : W2.heap.size = w.heap.size + 1 + 1 := by rw [h2, ← s1]; simp
 have s3 : W3.heap.size = w.heap.size + 1 + 1 + 1 := by rw [h3, ← s2]; simp
 have q1 : Blk W1 w.heap.size 45 (vb k) := by rw [h1]; exact Blk.new _ _ _
 have q2 : Blk W2 W1.heap.size 57 (vb nn) := by rw [h2]; exact Blk.new _ _ _
 have q3 : Blk W3 W2.heap.size 52 zCh := by rw [h3]; exact Blk.new _ _ _
 have b01 : Below w.heap.size w W1 := by rw [h1]; exact (jE _ _).alloc (jD _) _
 have b12 : Below W1.heap.size W1 W2 := by rw [h2]; exact (jE _ _).alloc (jD _) _
 have b23 : Below W2.heap.size W2 W3 := by rw [h3]; exact (jE _ _).alloc (jD _) _
 clear h1 h2 h3
 refine ⟨(b01.trans (b12.mono (by omega))).trans (b23.mono (by omega)), (q1.below b12 (by omega)).below b23 (by omega), ?_, ?_, by omega⟩
 ·rw [← s1]; exact q2.below b23 (by omega)
 ·rw [← s2]; exact q3
def WrD (M : List Pc) (k nn : List Nat) (t : ByteArray) (ep : Nat) (w : World) (e : Ending) (w' : World) : Prop :=
 Below w.heap.size w w' ∧
  ((M.length = 0 ∧ e = .returned (.tuple #[.agg zCh, .int .i64 1])) ∨
   (32 < M.length ∧ e = .returned (.tuple #[.agg zCh, .int .i64 3])) ∨
   (0 < M.length ∧ M.length ≤ 32 ∧ sealE t M ≠ 0 ∧ e = .returned (.tuple #[.agg zCh, .int .i64 (sealE t M : Nat)])) ∨
   (0 < M.length ∧ M.length ≤ 32 ∧ sealE t M = 0 ∧ ∃ g' cg' b, e = .returned (.tuple #[.agg (chV 5 (.slice g' 0 cg') (.slice (some ⟨b, 0, none⟩) 1 1)), .int .i64 0]) ∧ ∃ Ab cb, Blk w' b 61 (bxV t ep nn Ab (boxL k nn t ep M).length cb) ∧ w.heap.size ≤ b ∧ OwnB w' w.heap.size (.slice Ab (boxL k nn t ep M).length cb) (boxL k nn t ep M)))
theorem write29_c (l : List Pc) (Ap : Option Addr) (cp : Nat) (k nn : List Nat) (t : ByteArray) (ep : Nat) (w : World) (hr : RdP w w.heap.size Ap l) (hc : l.length ≤ cp) (hl : l.length ≤ 1000) (hok : ∀ p ∈ l, PcOk p ∧ p.s.size ≤ 1000000) (hk : k.length = 32) (hkb : ∀ c ∈ k, c < 256) (hnn : nn.length = 12) (hnb : ∀ c ∈ nn, c < 256) (ht : t.size ≤ 1000) (he : ep < 4294967296) (hq : QuartersAt w) :
  Calls Tryz.prog 21 #[.agg (vb k), .agg (vb nn), .string t, .int .u32 (ep : Nat), .slice Ap l.length cp] w (WrD (mergeL l) k nn t ep w) := by
 have zf := zero_ch
 have zs1 : zCh.size = 45 := by rfl
 have zs2 : ¬ zCh = #[] := by intro h; have := congrArg Array.size h; rw [zs1] at this; cases this
 have HB := Li (Wbx2.begin w k nn)
 have HKS := Li (keySz hk)
 have HNSZ := Li (nnSz hnn)
 have HR := Li hr
 have HCP := Li hc
 have hMl : (mergeL l).length ≤ 1000 := Nat.le_trans (merge_len l) hl
 have hMk : ∀ p ∈ mergeL l, PcOk p ∧ p.s.size ≤ 1000000 := fun p hp => hok p (merge_sub l p hp)
 have HMG := Li (fun W (hb : Below w.heap.size w W) => show Calls Tryz.prog 25 #[.slice (some ⟨W.heap.size, 0, none⟩) 1 1] (W.alloc (.cells #[.slice Ap l.length cp] 31)) fun e w' => ∃ v, e = .returned v ∧ OwnP w' (W.alloc (.cells #[.slice Ap l.length cp] 31)).heap.size v (mergeL l) ∧ Below (W.alloc (.cells #[.slice Ap l.length cp] 31)).heap.size (W.alloc (.cells #[.slice Ap l.length cp] 31)) w' by
  have hls : LsAt (W.alloc (.cells #[.slice Ap l.length cp] 31)) (some ⟨W.heap.size, 0, none⟩) [l] :=
   lsAt_blk (vs := [.slice Ap l.length cp]) (Blk.new _ _ _) (fun i hi => match i, hi with
    | 0, _ => ⟨_, _, rfl, hc, (Rd.below (show Rd W W.heap.size Ap (pcs l) from (Rd.below (show Rd w w.heap.size Ap (pcs l) from hr) hb).more hb.size) ((jE _ _).alloc (jD _) _)).more (by simp)⟩)
  have h := merge_c (some ⟨W.heap.size, 0, none⟩) 1 [l] _ hls (by simp) (by simp) (by intro L hL; simp at hL; subst hL; exact ⟨hl, fun p hp => ⟨(hok p hp).1, by have := (hok p hp).2; omega⟩⟩)
  rwa [show [l].flatten = l by simp] at h)
 have HCG := Li (fun W (hb : Below w.heap.size w W) Am cm (hm : RdP W W.heap.size Am (mergeL l)) (hcm : (mergeL l).length ≤ cm) => show Calls Tryz.prog 12 #[.agg #[.slice none 0 0, .slice Am (mergeL l).length cm], .agg (vb k), .agg (vb nn), .string t, .int .u32 (ep : Int)] W (ChD [] (mergeL l) k nn t ep W) from
  change29_c [] none 0 (mergeL l) Am cm k nn t ep W (Rd.nil_ _ _ _) (by simp) (by simp) hm hcm hMl hMk hk hkb hnn hnb ht he (hq.next hb))
 clear hr hc hl hok hk hkb hnn hnb ht he hq hMk
 generalize mergeL l = M at *
 go_enter Tryz.func21, Tryz.ntmps21
 go_upto_region 1 with (first
  | (refine Go.Great.wpList_boxTo rfl 45 (.tmp 0) rfl (some 5) rfl w.heap.size rfl (vb k) rfl ?_)
  | (refine Go.Great.wpList_boxTo rfl 57 (.tmp 1) rfl (some 6) rfl (w.heap.size + 1) (by simp) (vb nn) rfl ?_))
 generalize ((w.alloc (Obj.cells (vb k) 45)).alloc (Obj.cells (vb nn) 57)).alloc (Obj.cells zCh 52) = Z at *
 have HMZ := Li (HMG.out Z HB.out.bel)
 have HAZ := Li (show Below Z.heap.size Z (Z.alloc (.cells #[.slice Ap l.length cp] 31)) from (jE _ _).alloc (jD _) _)
 clear HMG
 go_upto_region 2 with (first
  | (refine wpList_l1 (.tmp 12) rfl Ap l.length cp rfl rfl ?_)
  | (go_at_call 25; (with_reducible refine HMZ.out.mono ?_); rintro e W1 ⟨v, rfl, ho, hb⟩; obtain ⟨Am, cm, rfl, hcm, _, hrm⟩ := ho.rd; have HB1 := Li (HB.out.next ((HAZ.out.trans (hb.mono HAZ.out.size)).mono HB.out.sz)); have HRM := Li (show RdP W1 W1.heap.size Am M from hrm); have HCM := Li hcm; clear ho hb hrm hcm))
 clear HMZ HAZ HB
 by_cases h0 : M.length = 0
 ·have q1 : (M.length : Int) = 0 := by omega
  have HL0 := Li h0
  clear h0
  go_wp2_with (first
   | (refine wpList_valG (by kernel_rfl) (.agg zCh) (by exact run_built _ 52 [] _ built_ch0 #[] rfl (by kernel_rfl)) ?_)
   | (refine wpList_store_rowTo rfl 52 (.tmp 10) (.tmp 19) rfl rfl (w.heap.size + 1 + 1) zCh rfl rfl 52 zCh HB1.out.rA (chSz ..) rfl (ch_all ..) ?_))
  try rw [Exit.noGoto_ret]
  refine bodyPost_ret (results_row_tmp rfl _ _ (w.heap.size + 1 + 1) 52 zCh (0, 0) _ rfl (setRow_heap _ _ zCh _ 52 (0, 0) HB1.out.rA) Tryz.underlying52 rfl (chSz ..)) rfl ?_
  exact ⟨HB1.out.bel.trans (below_setRowP _ _ _ (by omega)), .inl ⟨HL0.out, rfl⟩⟩
 ·have q1 : ¬ (M.length : Int) = 0 := by omega
  have HL0 := Li (show 0 < M.length by omega)
  clear h0
  by_cases h32 : M.length ≤ 32
  case neg =>
   have q2 : (32 : Int) < (M.length : Int) := by omega
   have HL2 := Li (show 32 < M.length by omega)
   clear h32
   go_wp2_with (first
    | (refine wpList_valG (by kernel_rfl) (.agg zCh) (by exact run_built _ 52 [] _ built_ch0 #[] rfl (by kernel_rfl)) ?_)
    | (refine wpList_store_rowTo rfl 52 (.tmp 10) (.tmp 24) rfl rfl (w.heap.size + 1 + 1) zCh rfl rfl 52 zCh HB1.out.rA (chSz ..) rfl (ch_all ..) ?_))
   try rw [Exit.noGoto_ret]
   refine bodyPost_ret (results_row_tmp rfl _ _ (w.heap.size + 1 + 1) 52 zCh (0, 0) _ rfl (setRow_heap _ _ zCh _ 52 (0, 0) HB1.out.rA) Tryz.underlying52 rfl (chSz ..)) rfl ?_
   exact ⟨HB1.out.bel.trans (below_setRowP _ _ _ (by omega)), .inr (.inl ⟨HL2.out, rfl⟩)⟩
  case pos =>
   have q2 : ¬ (32 : Int) < (M.length : Int) := by omega
   have HL2 := Li h32
   have HCZ := Li (HCG.out W1 HB1.out.bel Am cm HRM.out HCM.out)
   clear h32 HCG
   have HBW := Li (show Tryz.prog.built 33 [(1, .slice Am M.length cm)] = some #[.slice none 0 0, .slice Am M.length cm] by
    generalize M.length = n
    kernel_rfl)
   go_wp2_with (first
    | (refine wpList_valG (by kernel_rfl) (.agg #[.slice none 0 0, .slice Am M.length cm]) (by exact run_built _ 33 [(1, .slice Am M.length cm)] _ HBW.out #[(1, .tmp 25)] rfl (by kernel_rfl)) ?_)
    | (refine wpList_load_row rfl 45 (.tmp 5) rfl w.heap.size rfl 45 (vb k) (0, 0) _ HB1.out.kA Tryz.underlying45 rfl HKS.out ?_)
    | (refine wpList_load_row rfl 57 (.tmp 6) rfl (w.heap.size + 1) rfl 57 (vb nn) (0, 0) _ HB1.out.nA Tryz.underlying57 rfl HNSZ.out ?_)
    | (go_at_call 12; (with_reducible refine HCZ.out.mono ?_); rintro e W2 ⟨g', cg', hog, hb, h⟩; have HB2 := Li (HB1.out.next (hb.mono HB1.out.sz)); rcases h with ⟨h0, _⟩ | ⟨_, h1, rfl⟩ | ⟨_, h1, b, rfl, Ab, cb, hx, hbw, ho⟩; exact absurd h0 (by have := HL0.out; omega))
    | (refine wpList_store_rowTo rfl 52 (.tmp 10) (.tmp 32) rfl rfl (w.heap.size + 1 + 1) zCh rfl rfl 52 zCh HB2.out.rA (chSz ..) rfl (ch_all ..) ?_)
    | (refine wpList_store_rowTo rfl 52 (.tmp 10) (.tmp 32) rfl rfl (w.heap.size + 1 + 1) (chV 5 (.slice g' 0 cg') (.slice (some ⟨b, 0, none⟩) 1 1)) rfl rfl 52 zCh HB2.out.rA (chSz ..) rfl (ch_all ..) ?_))
   ·refine bodyPost_ret (results_row_tmp rfl _ _ (w.heap.size + 1 + 1) 52 zCh (0, 0) _ rfl (setRow_heap _ _ zCh _ 52 (0, 0) HB2.out.rA) Tryz.underlying52 rfl (chSz ..)) rfl ?_
    exact ⟨HB2.out.bel.trans (below_setRowP _ _ _ (by omega)), .inr (.inr (.inl ⟨HL0.out, HL2.out, h1, rfl⟩))⟩
   ·refine bodyPost_ret (results_row_tmp rfl _ _ (w.heap.size + 1 + 1) 52 (chV 5 (.slice g' 0 cg') (.slice (some ⟨b, 0, none⟩) 1 1)) (0, 0) _ rfl (setRow_heap _ _ zCh _ 52 (0, 0) HB2.out.rA) Tryz.underlying52 rfl (chSz ..)) rfl ?_
    have hro : Only (fun i => i = w.heap.size + 1 + 1) W2 (W2.setRow (w.heap.size + 1 + 1) (chV 5 (.slice g' 0 cg') (.slice (some ⟨b, 0, none⟩) 1 1))) := setRow_only _ _ _
    refine ⟨HB2.out.bel.trans (below_setRowP _ _ _ (by omega)), .inr (.inr (.inr ⟨HL0.out, HL2.out, h1, g', cg', b, rfl, Ab, cb, ?_, ?_, ?_⟩))⟩
    ·exact (hro.block b hx.lt (by have := HB1.out.sz; omega)).trans hx
    ·have := HB1.out.bel.size
     omega
    ·exact own_base_le (own_off ho hro (fun e => by have := own_base ho _ e; have := HB1.out.sz; omega)) HB1.out.bel.size
def keptL (h : Int) (l : List Pc) : List Pc := l.filter fun p => decide (h ≤ p.t)
theorem keptL_snoc (h : Int) (l : List Pc) (p : Pc) : keptL h (l ++ [p]) = if h ≤ p.t then keptL h l ++ [p] else keptL h l := by
 unfold keptL
 rw [List.filter_append, List.filter_cons, List.filter_nil]
 by_cases hp : h ≤ p.t
 ·rw [if_pos (jF hp), if_pos hp]
 ·rw [if_neg (by rw [decide_eq_true_eq]; exact hp), if_neg hp, List.append_nil]
theorem keptL_len (h : Int) (l : List Pc) : (keptL h l).length ≤ l.length := List.length_filter_le ..
theorem betweenH_c (A : Option Addr) (c : Nat) (l : List Pc) (h : Int) (w : World) (hr : RdP w w.heap.size A l) (h1 : l.length ≤ 100000) (hk : ∀ p ∈ l, PcOk p) :
  Calls Tryz.prog 38 #[.slice A l.length c, .int .i64 h, .int .i64 9223372036854775807] w fun e w' => ∃ v, e = .returned v ∧ OwnP w' w.heap.size v (keptL h l) ∧ Below w.heap.size w w' := by
 obtain ⟨i0, hi, hz0, hz1, hz2⟩ := piece_parts
 have zf := zero_pc
 have zs1 : zPc.size = 5 := by rfl
 have zs2 : ¬ zPc = #[] := by intro h; have := congrArg Array.size h; rw [zs1] at this; cases this
 have HR := Li hr
 have HK := Li hk
 clear hr hk
 go_enter Tryz.func38, Tryz.ntmps38
 go_wp2_with fail
 go_loopw [7, 12] (fun o i wr => ∃ k : Nat, k ≤ l.length ∧ i = .int .i64 (k : Nat) ∧ OwnP wr w.heap.size o (keptL h (l.take k)) ∧ Below w.heap.size w wr) (fun _ i _ => l.length - (intOf i).toNat)
 case atStart => exact ⟨0, Nat.zero_le _, rfl, OwnP.nilM _ _, jE _ _⟩
 case round =>
  rename World => wr
  obtain ⟨k, hk, rfl, ho, hb⟩ := hrel
  by_cases hlt : k < l.length
  ·have q1 : (k : Int) < (l.length : Int) := by omega
   have m1 : (k : Int) ≤ 100000 := by omega
   obtain ⟨ad, rfl, hab, hat⟩ := (show RdP wr w.heap.size A l from Rd.below HR.out hb).open_ (by omega)
   obtain ⟨p, hpe⟩ : ∃ p, p = l.getD k pc0 := ⟨_, rfl⟩
   have hpa := hat.piece k hlt
   rw [← hpe] at hpa
   have hpL : p ∈ l := by rw [hpe, jA, jB hlt]; exact List.getElem_mem hlt
   have hpk := HK.out p hpL
   have htk : keptL h (l.take (k + 1)) = if h ≤ p.t then keptL h (l.take k) ++ [p] else keptL h (l.take k) := by rw [take_snocP l k hlt, ← hpe, keptL_snoc]
   have hkl : (keptL h (l.take k)).length ≤ 100000 := by
    have h2 := keptL_len h (l.take k)
    rw [List.length_take] at h2
    omega
   obtain ⟨L, hL⟩ : ∃ L, L = keptL h (l.take k) := ⟨_, rfl⟩
   rw [← hL] at htk hkl ho
   have HKL := Li hkl
   have HPA := Li hpa
   have HO := Li ho
   have HB := Li hb
   have HLT := Li hlt
   have HTK := Li htk
   have q3 : p.t ≤ (9223372036854775807 : Int) := hpk.t1
   clear hat hpe hpa hpL hpk ho hb hab hlt htk hkl hL hk
   go_upto_region 5 with (first
    | (refine wpList_loadA rfl 77 (.tmp 14) rfl (ad.add (k * 5)) rfl (pcL p) _ HPA.out Tryz.underlying77 rfl (pcLn p) ?_)
    | (refine wpList_store_rowTo rfl 77 (.tmp 9) (.tmp 15) rfl rfl wr.heap.size (pcV p) rfl rfl 77 zPc (by exact heap_alloc_new _ _) (pcInfo p) rfl (pcV_one p) ?_))
   obtain ⟨Y, hY⟩ : ∃ Y, Y = (wr.alloc (Obj.cells zPc 77)).setRow wr.heap.size (pcV p) := ⟨_, rfl⟩
   have hnr := new_rowP wr 77 zPc (pcV p)
   rw [← hY] at hnr ⊢
   have HB1 := Li hnr.1
   have HBY := Li (HB.out.trans (hnr.2.mono HB.out.size))
   have HOY := Li (HO.out.next hnr.2)
   clear hnr hY HPA HO
   generalize wr.heap.size = g1 at *
   have c1 : Y.cell? ⟨g1, 1, none⟩ = some (.int .i64 p.t) := (HB1.out.cell 1).trans rfl
   have hsz := HBY.out.size
   by_cases hp : h ≤ p.t
   ·have HT := Li (show keptL h (l.take (k + 1)) = L ++ [p] by rw [HTK.out, if_pos hp])
    go_wp2_with (first
     | (refine wpList_loadA rfl 77 (.tmp 9) rfl ⟨g1, 0, none⟩ rfl (pcL p) _ (atA_blk HB1.out) Tryz.underlying77 rfl (pcLn p) ?_)
     | (refine wpList_valM rfl _ _ (run_onePc Y p (.tmp 27) rfl (by kernel_rfl)) ?_)
     | (at_builtin; refine wpList_app _ rfl (.tmp 26) (.tmp 28) _ rfl w.heap.size 77 i0 (.agg zPc) 5 48 Tryz.underlying31 hi hz0 hz1 hz2 rfl (by decide) _ L.length (pcs L) rfl (HOY.out.allocM _) _ (some ⟨Y.heap.size, 0, none⟩) 1 1 (pcs [p]) rfl rfl (by exact rd_new Y (pcs [p]) 77 (0, 0)) (pcs_oneCell _) (by have := HKL.out; omega) (by have := HKL.out; omega) (by simp; omega) ?_
        intro v' w' hap
        have HAP := Li hap
        clear hap))
    go_roundw
    case rel =>
     refine ⟨k + 1, HLT.out, by go_num, ?_, ?_⟩
     ·rw [HT.out]; exact OwnP.appM (l := L) (m := [p]) HAP.out
     ·exact (HBY.out.alloc HBY.out.size _).trans (HAP.out.below (HOY.out.allocM _) (by simp; omega))
    case measure => have := HLT.out; simp [intOf]; omega
   ·have HT := Li (show keptL h (l.take (k + 1)) = L by rw [HTK.out, if_neg hp])
    go_wp2_with fail
    go_roundw
    case rel => exact ⟨k + 1, HLT.out, by go_num, by rw [HT.out]; exact HOY.out, HBY.out⟩
    case measure => have := HLT.out; simp [intOf]; omega
  ·obtain rfl : k = l.length := by omega
   rw [List.take_length] at ho
   have HO := Li ho
   have HB := Li hb
   clear ho hb hlt hk
   go_wp2_with fail
   go_ret
   exact ⟨_, rfl, HO.out, HB.out⟩
theorem kept_c (A : Option Addr) (c : Nat) (l : List Pc) (h : Int) (w : World) (hr : RdP w w.heap.size A l) (h1 : l.length ≤ 100000) (hk : ∀ p ∈ l, PcOk p) :
  Calls Tryz.prog 23 #[.slice A l.length c, .int .i64 h] w fun e w' => ∃ v, e = .returned v ∧ OwnP w' w.heap.size v (keptL h l) ∧ Below w.heap.size w w' := by
 have HB := Li (betweenH_c A c l h w hr h1 hk)
 clear hr h1 hk
 generalize keptL h l = K at *
 go_enter Tryz.func23, Tryz.ntmps23
 go_wp2_with (go_at_call 38; (with_reducible refine HB.out.mono ?_); rintro e w2 ⟨v, rfl, ho, hb⟩; have HO := Li ho; have HBB := Li hb; clear ho hb)
 go_ret
 exact ⟨_, rfl, HO.out, HBB.out⟩
theorem results_cell_tmp2N {fn : Func} {p u v : Tmp} {ty : TypeId} (h : fn.results = #[.cell p ty, .tmp u, .tmp v]) (tmps : Array Value) (P : Program) (w : World) :
  (results fn tmps).run P w = ((asAddr (tmps.getD p undef)).run P w).andThen fun a w₁ => ((loadVar ty a).run P w₁).andThen fun x w₂ => .ok (.tuple #[x, tmps.getD u undef, tmps.getD v undef]) w₂ := by
 simp only [results, h]
 simp [Sem.run_bind, Result.andThen]
theorem results_row_tmp2N {P : Program} {fn : Func} {p u v : Tmp} {ty : TypeId} (h : fn.results = #[.cell p ty, .tmp u, .tmp v]) (tmps : Array Value) (w : World) (g : Nat) (t : TypeId) (cs : Array Value) (fr : Nat × Nat) (d : TypeDesc)
  (hp : tmps.getD p undef = .pointer (some ⟨g, 0, none⟩)) (hg : w.heap[g]? = some (.cells cs t fr))
  (hu : P.underlying ty = some d) (hd : (match d with | .struct _ | .array _ _ => true | _ => false) = true) (hi : (P.info? ty).map (·.size) = some cs.size) :
  (results fn tmps).run P w = .ok (.tuple #[.agg cs, tmps.getD u undef, tmps.getD v undef]) w := by
 rw [results_cell_tmp2N h, hp]
 simp [asAddr, run_loadVar_row w g t ty cs fr d hg hu hd hi, Result.andThen]
def zWk : Array Value := #[.slice none 0 0, .slice none 0 0]
theorem zero_wk (w : World) : (zeroValue 33).run Tryz.prog w = .ok (.agg zWk) w := by kernel_rfl
theorem wkSz (a b : Value) : (Tryz.prog.info? 33).map (·.size) = some (#[a, b] : Array Value).size := by
 show _ = some 2
 kernel_rfl
theorem built_wk (b : Nat) (A : Option Addr) (n c : Nat) : Tryz.prog.built 33 [(0, .slice (some ⟨b, 0, none⟩) 1 1), (1, .slice A n c)] = some #[.slice (some ⟨b, 0, none⟩) 1 1, .slice A n c] := by kernel_rfl
def OneN (nn : List Nat) (base : Nat) (u : Value) (W : World) : Prop := ∃ b, u = .slice (some ⟨b, 0, none⟩) 1 1 ∧ Blk W b 57 (vb nn) ∧ base ≤ b ∧ b < W.heap.size
theorem OneN.next {nn : List Nat} {base : Nat} {u : Value} {W W' : World} (h : OneN nn base u W) (hb : Below W.heap.size W W') : OneN nn base u W' := by
 obtain ⟨b, e, h1, h2, h3⟩ := h
 exact ⟨b, e, h1.below hb h3, h2, jH h3 hb.size⟩
def NxV (nn : List Nat) (K : List Pc) (base : Nat) (kk : Nat) (u : Value) (W : World) : Prop :=
 if kk = 50 then OneN nn base u W else if kk = 53 then OwnP W base u K else ∃ a b, u = .agg #[a, b] ∧ OneN nn base a W ∧ OwnP W base b K
theorem NxV.next {nn : List Nat} {K : List Pc} {base kk : Nat} {u : Value} {W W' : World} (h : NxV nn K base kk u W) (hb : Below W.heap.size W W') : NxV nn K base kk u W' := by
 unfold NxV at h ⊢
 split
 ·rename_i h1; rw [if_pos h1] at h; exact h.next hb
 ·rename_i h1; rw [if_neg h1] at h
  split
  ·rename_i h2; rw [if_pos h2] at h; exact h.next hb
  ·rename_i h2; rw [if_neg h2] at h
   obtain ⟨a, b, e, h3, h4⟩ := h
   exact ⟨a, b, e, h3.next hb, h4.next hb⟩
theorem bx_nn {t : ByteArray} {ep : Nat} {nn : List Nat} {A : Option Addr} {n c g : Nat} {W : World} (h : Blk W g 61 (bxV t ep nn A n c)) (hn : nn.length = 12) : AtA W ⟨g, 2, none⟩ (byt nn) := fun j u hu => by
 have hj : j < 12 := by
  rcases Nat.lt_or_ge j 12 with h1 | h1
  ·exact h1
  ·rw [List.getElem?_eq_none (by rw [byt_len, hn]; exact h1)] at hu; cases hu
 rw [Addr.add_mid, h.cell]
 unfold bxV bxL
 rw [List.getElem?_toArray, List.append_assoc, List.getElem?_append_right (by simp), List.getElem?_append_left (by simp [byt_len, hn]; omega)]
 rw [← hu]
 congr 1
 simp
theorem rbetweenH_c (A : Option Addr) (c : Nat) (l : List Pc) (h : Int) (w : World) (hr : RdP w w.heap.size A l) (h1 : l.length ≤ 100000) (hk : ∀ p ∈ l, PcOk p) :
  Calls Tryz.prog 26 #[.slice A l.length c, .int .i64 h, .int .i64 9223372036854775807] w fun e w' => ∃ v, e = .returned v ∧ OwnP w' w.heap.size v (keptL h l) ∧ Below w.heap.size w w' := by
 obtain ⟨i0, hi, hz0, hz1, hz2⟩ := piece_parts
 have HR := Li hr
 have HK := Li hk
 clear hr hk
 go_enter Tryz.func26, Tryz.ntmps26
 go_wp2_with fail
 go_loopw [7, 8] (fun o i wr => ∃ k : Nat, k ≤ l.length ∧ i = .int .i64 (k : Nat) ∧ OwnP wr w.heap.size o (keptL h (l.take k)) ∧ Below w.heap.size w wr) (fun _ i _ => l.length - (intOf i).toNat)
 case atStart => exact ⟨0, Nat.zero_le _, rfl, OwnP.nilM _ _, jE _ _⟩
 case round =>
  rename World => wr
  obtain ⟨k, hk, rfl, ho, hb⟩ := hrel
  by_cases hlt : k < l.length
  ·have q1 : (k : Int) < (l.length : Int) := by omega
   have m1 : (k : Int) ≤ 100000 := by omega
   obtain ⟨ad, rfl, hab, hat⟩ := (show RdP wr w.heap.size A l from Rd.below HR.out hb).open_ (by omega)
   obtain ⟨p, hpe⟩ : ∃ p, p = l.getD k pc0 := ⟨_, rfl⟩
   have hpa := hat.piece k hlt
   rw [← hpe] at hpa
   have hpL : p ∈ l := by rw [hpe, jA, jB hlt]; exact List.getElem_mem hlt
   have hpk := HK.out p hpL
   have htk : keptL h (l.take (k + 1)) = if h ≤ p.t then keptL h (l.take k) ++ [p] else keptL h (l.take k) := by rw [take_snocP l k hlt, ← hpe, keptL_snoc]
   have hkl : (keptL h (l.take k)).length ≤ 100000 := by
    have h2 := keptL_len h (l.take k)
    rw [List.length_take] at h2
    omega
   obtain ⟨L, hL⟩ : ∃ L, L = keptL h (l.take k) := ⟨_, rfl⟩
   rw [← hL] at htk hkl ho
   have c1 : wr.cell? ⟨(ad.add (k * 5)).block, (ad.add (k * 5)).off + 1, none⟩ = some (.int .i64 p.t) := hpa 1 _ rfl
   have HKL := Li hkl
   have HPA := Li hpa
   have HO := Li ho
   have HB := Li hb
   have HLT := Li hlt
   have HTK := Li htk
   have q3 : p.t ≤ (9223372036854775807 : Int) := hpk.t1
   clear hat hpe hpa hpL hpk ho hb hab hlt htk hkl hL hk
   by_cases hp : h ≤ p.t
   ·have HT := Li (show keptL h (l.take (k + 1)) = L ++ [p] by rw [HTK.out, if_pos hp])
    go_wp2_with (first
     | (refine wpList_loadA rfl 77 (.tmp 34) rfl (ad.add (k * 5)) rfl (pcL p) _ HPA.out Tryz.underlying77 rfl (pcLn p) ?_)
     | (refine wpList_valM rfl _ _ (run_onePc wr p (.tmp 35) rfl (by kernel_rfl)) ?_)
     | (at_builtin; refine wpList_app _ rfl (.tmp 31) (.tmp 36) _ rfl w.heap.size 77 i0 (.agg zPc) 5 48 Tryz.underlying31 hi hz0 hz1 hz2 rfl (by decide) _ L.length (pcs L) rfl (HO.out.allocM _) _ (some ⟨wr.heap.size, 0, none⟩) 1 1 (pcs [p]) rfl rfl (by exact rd_new wr (pcs [p]) 77 (0, 0)) (pcs_oneCell _) (by have := HKL.out; omega) (by have := HKL.out; omega) (by have := HB.out.size; simp; omega) ?_
        intro v' w' hap
        have HAP := Li hap
        clear hap))
    go_roundw
    case rel =>
     refine ⟨k + 1, HLT.out, by go_num, ?_, ?_⟩
     ·rw [HT.out]; exact OwnP.appM (l := L) (m := [p]) HAP.out
     ·exact (HB.out.alloc HB.out.size _).trans (HAP.out.below (HO.out.allocM _) (by have := HB.out.size; simp; omega))
    case measure => have := HLT.out; simp [intOf]; omega
   ·have HT := Li (show keptL h (l.take (k + 1)) = L by rw [HTK.out, if_neg hp])
    go_wp2_with fail
    go_roundw
    case rel => exact ⟨k + 1, HLT.out, by go_num, by rw [HT.out]; exact HO.out, HB.out⟩
    case measure => have := HLT.out; simp [intOf]; omega
  ·obtain rfl : k = l.length := by omega
   rw [List.take_length] at ho
   have HO := Li ho
   have HB := Li hb
   clear ho hb hlt hk
   go_wp2_with fail
   go_ret
   exact ⟨_, rfl, HO.out, HB.out⟩
def earlyB (h : Int) (l : List Pc) : Bool := l.any fun p => decide (p.t < h)
theorem earlyB_iff (h : Int) (l : List Pc) : earlyB h l = decide ((keptL h l).length < l.length) := by
 unfold earlyB keptL
 induction l with
 | nil => rfl
 | cons p l ih =>
  rw [List.any_cons, List.filter_cons]
  have hle : (l.filter fun p => decide (h ≤ p.t)).length ≤ l.length := List.length_filter_le ..
  by_cases hp : p.t < h
  ·rw [jF hp, Bool.true_or, if_neg (by rw [decide_eq_true_eq]; omega)]
   exact (jF (by rw [List.length_cons]; omega)).symm
  ·rw [jG hp, Bool.false_or, ih, if_pos (by rw [decide_eq_true_eq]; omega)]
   simp only [List.length_cons, Nat.add_lt_add_iff_right]
theorem early1_c (p : Pc) (gl : Nat) (h : Int) (w : World) (hv : w.cell? ⟨gl, 0, none⟩ = some (.int .i64 h)) (hb : gl < w.heap.size) :
  Calls Tryz.prog 40 #[.agg (pcV p), .pointer (some ⟨gl, 0, none⟩)] w fun e w' => e = .returned (.bool (decide (p.t < h))) ∧ Below w.heap.size w w' := by
 have h1 : Blk (w.alloc (Obj.cells (pcV p) 77)) w.heap.size 77 (pcV p) := Blk.new w _ _
 have hB : Below w.heap.size w (w.alloc (Obj.cells (pcV p) 77)) := (jE _ _).alloc (jD _) _
 have HB := Li hB
 have c0 : (w.alloc (Obj.cells (pcV p) 77)).cell? ⟨w.heap.size, 1, none⟩ = some (.int .i64 p.t) := (h1.cell 1).trans rfl
 have c1 : (w.alloc (Obj.cells (pcV p) 77)).cell? ⟨gl, 0, none⟩ = some (.int .i64 h) := (hB.cell (p := ⟨gl, 0, none⟩) hb).trans hv
 clear h1 hB hv hb
 go_enter Tryz.func40, Tryz.ntmps40
 go_upto_region 1 with (refine Go.Great.wpList_boxTo rfl 77 (.tmp 0) rfl (some 2) rfl w.heap.size rfl (pcV p) rfl ?_)
 generalize w.alloc (Obj.cells (pcV p) 77) = Z at *
 go_wp2_with fail
 go_ret
 exact ⟨rfl, HB.out⟩
def IxD (h : Int) (l : List Pc) (w : World) (e : Ending) (w' : World) : Prop := ((earlyB h l = true ∧ ∃ k : Nat, e = .returned (.int .i64 (k : Nat))) ∨ (earlyB h l = false ∧ e = .returned (.int .i64 (-1)))) ∧ Below w.heap.size w w'
theorem indexE_c (gl c : Nat) (A : Option Addr) (l : List Pc) (h : Int) (w : World) (hv : w.cell? ⟨gl, 0, none⟩ = some (.int .i64 h)) (hb : gl < w.heap.size) (hr : RdP w w.heap.size A l) (h1 : l.length ≤ 1000000) :
  Calls Tryz.prog 60 #[.slice A l.length c, .func (.func 40) #[] #[.pointer (some ⟨gl, 0, none⟩)]] w (IxD h l w) := by
 have HR := Li hr
 have HCL := Li (fun W (hw : Below w.heap.size w W) p => early1_c p gl h W ((hw.cell (p := ⟨gl, 0, none⟩) hb).trans hv) (jH hb hw.size))
 have HEB := Li (show ∀ k, k < l.length → (l.getD k pc0).t < h → earlyB h l = true from fun k hk ht => by
  unfold earlyB
  rw [List.any_eq_true]
  exact ⟨l.getD k pc0, by rw [jA, jB hk]; exact List.getElem_mem hk, jF ht⟩)
 have HEN := Li (show (∀ k, k < l.length → h ≤ (l.getD k pc0).t) → earlyB h l = false from fun hn => by
  unfold earlyB
  rw [List.any_eq_false]
  intro p hp
  obtain ⟨k, hk, rfl⟩ := List.mem_iff_getElem.1 hp
  have := hn k hk
  rw [jA, jB hk] at this
  simpa using this)
 unfold IxD
 clear hv hb hr
 go_enter Tryz.func60, Tryz.ntmps60
 go_wp2
 go_loopw [8] (fun i wr => ∃ k : Nat, k ≤ l.length ∧ i = .int .i64 (k : Nat) ∧ Hid (∀ j, j < k → h ≤ (l.getD j pc0).t) ∧ Below w.heap.size w wr) (fun i _ => l.length - (intOf i).toNat)
 case atStart => exact ⟨0, Nat.zero_le _, rfl, Li (fun j hj => absurd hj (Nat.not_lt_zero _)), jE _ _⟩
 case round =>
  rename World => wr
  obtain ⟨k, hk, rfl, HN, hb⟩ := hrel
  have HB := Li hb
  clear hb
  by_cases hlt : k < l.length
  ·have p1 : (k : Int) < (l.length : Int) := by omega
   obtain ⟨ad, rfl, hab, hat⟩ := (show RdP wr w.heap.size A l from Rd.below HR.out HB.out).open_ (by omega)
   have HPC := Li (hat.piece k hlt)
   have HPI := Li (pcLn (l.getD k pc0))
   have HCK := Li (HCL.out wr HB.out (l.getD k pc0))
   have HEK := Li (HEB.out k hlt)
   have HLT := Li hlt
   obtain ⟨p, hp⟩ : ∃ p, p = l.getD k pc0 := ⟨_, rfl⟩
   have HP := Li hp
   rw [← hp] at HPC HPI HCK HEK
   clear hat hab hp hlt
   by_cases ht : p.t < h
   ·rw [jF ht] at HCK
    have HE := Li (HEK.out ht)
    clear ht HEK
    go_wp2_with (first
     | (refine wpList_loadA rfl 77 (.tmp 14) rfl (ad.add (k * 5)) rfl (pcL p) _ HPC.out Tryz.underlying77 rfl HPI.out ?_)
     | (go_at_call 40; (refine HCK.out.mono ?_); rintro e W1 ⟨rfl, hb1⟩; have HB1 := Li (HB.out.trans (hb1.mono HB.out.size)); clear hb1))
    go_ret
    exact ⟨.inl ⟨HE.out, k, rfl⟩, HB1.out⟩
   ·rw [jG ht] at HCK
    have HT := Li (show h ≤ p.t by omega)
    clear ht HEK
    go_wp2_with (first
     | (refine wpList_loadA rfl 77 (.tmp 14) rfl (ad.add (k * 5)) rfl (pcL p) _ HPC.out Tryz.underlying77 rfl HPI.out ?_)
     | (go_at_call 40; (refine HCK.out.mono ?_); rintro e W1 ⟨rfl, hb1⟩; have HB1 := Li (HB.out.trans (hb1.mono HB.out.size)); clear hb1))
    go_roundw
    case rel =>
     refine ⟨k + 1, HLT.out, by go_num, Li (fun j hj => ?_), HB1.out⟩
     rcases Nat.lt_or_ge j k with h2 | h2
     ·exact HN.out j h2
     ·obtain rfl : j = k := by omega
      rw [← HP.out]; exact HT.out
    case measure => have := HLT.out; simp only [intOf]; omega
  ·obtain rfl : k = l.length := by omega
   have HE := Li (HEN.out HN.out)
   go_wp2_with fail
   go_ret
   exact ⟨.inr ⟨HE.out, rfl⟩, HB.out⟩
theorem contE_c (gl c : Nat) (A : Option Addr) (l : List Pc) (h : Int) (w : World) (hv : w.cell? ⟨gl, 0, none⟩ = some (.int .i64 h)) (hb : gl < w.heap.size) (hr : RdP w w.heap.size A l) (h1 : l.length ≤ 1000000) :
  Calls Tryz.prog 39 #[.slice A l.length c, .func (.func 40) #[] #[.pointer (some ⟨gl, 0, none⟩)]] w fun e w' => e = .returned (.bool (earlyB h l)) ∧ Below w.heap.size w w' := by
 have hc := indexE_c gl c A l h w hv hb hr h1
 unfold IxD at hc
 clear hv hb hr
 cases he : earlyB h l with
 | true =>
  have HC := Li (show Calls Tryz.prog 60 #[.slice A l.length c, .func (.func 40) #[] #[.pointer (some ⟨gl, 0, none⟩)]] w fun e w' => ∃ k : Nat, e = .returned (.int .i64 (k : Nat)) ∧ Below w.heap.size w w' by
   refine hc.mono ?_
   rintro e w' ⟨h2, hb2⟩
   rcases h2 with ⟨_, k, rfl⟩ | ⟨h2, _⟩
   ·exact ⟨k, rfl, hb2⟩
   ·rw [he] at h2; cases h2)
  clear hc he
  go_enter Tryz.func39, Tryz.ntmps39
  go_wp2_with (go_at_call 60; (with_reducible refine HC.out.mono ?_); rintro e W1 ⟨k, rfl, hb⟩; have HB := Li hb; have q0 : (0 : Int) ≤ (k : Int) := Int.natCast_nonneg k; clear hb)
  go_ret
  exact ⟨by first | rfl | simp, HB.out⟩
 | false =>
  have HC := Li (show Calls Tryz.prog 60 #[.slice A l.length c, .func (.func 40) #[] #[.pointer (some ⟨gl, 0, none⟩)]] w fun e w' => e = .returned (.int .i64 (-1)) ∧ Below w.heap.size w w' by
   refine hc.mono ?_
   rintro e w' ⟨h2, hb2⟩
   rcases h2 with ⟨h2, _⟩ | ⟨_, rfl⟩
   ·rw [he] at h2; cases h2
   ·exact ⟨rfl, hb2⟩)
  clear hc he
  go_enter Tryz.func39, Tryz.ntmps39
  go_wp2_with (go_at_call 60; (with_reducible refine HC.out.mono ?_); rintro e W1 ⟨rfl, hb⟩; have HB := Li hb; clear hb)
  go_ret
  exact ⟨by first | rfl | simp, HB.out⟩
theorem early_c (A : Option Addr) (c : Nat) (l : List Pc) (h : Int) (w : World) (hr : RdP w w.heap.size A l) (h1 : l.length ≤ 1000000) :
  Calls Tryz.prog 24 #[.slice A l.length c, .int .i64 h] w fun e w' => e = .returned (.bool (earlyB h l)) ∧ Below w.heap.size w w' := by
 have hBl : Blk (w.alloc (Obj.cells #[.int .i64 h] 2)) w.heap.size 2 #[.int .i64 h] := Blk.new w _ _
 have hB : Below w.heap.size w (w.alloc (Obj.cells #[.int .i64 h] 2)) := (jE _ _).alloc (jD _) _
 have c0 : (w.alloc (Obj.cells #[.int .i64 h] 2)).cell? ⟨w.heap.size, 0, none⟩ = some (.int .i64 h) := (hBl.cell 0).trans rfl
 have HC := Li (contE_c w.heap.size c A l h _ c0 hBl.lt ((Rd.below (show Rd w w.heap.size A (pcs l) from hr) hB).more hB.size) h1)
 have HB := Li hB
 generalize earlyB h l = eb at *
 clear hBl hB c0 hr
 go_enter Tryz.func24, Tryz.ntmps24
 go_upto_region 1 with fail
 generalize w.alloc (Obj.cells #[Value.int IntKind.i64 h] 2) = Z at *
 go_wp2_with (go_at_call 39; (with_reducible refine HC.out.mono ?_); rintro e W1 ⟨rfl, hb⟩; have HB1 := Li (HB.out.trans (hb.mono HB.out.size)); clear hb)
 go_ret
 exact ⟨rfl, HB1.out⟩
end Go.Proofs.YtfnhmnbcponkfaaGreatDoor
