/- Parts, one behind the other: Sf2 Sf3 Sf4 Sf5 Sf6 Sf7 Sf8. -/
import Derived.Test.YtfnhmnbcponkfaaGreatDoorZ12
set_option maxRecDepth 100000
set_option linter.unusedVariables false
set_option linter.unusedSimpArgs false
namespace Go.Proofs.YtfnhmnbcponkfaaGreatDoor
open Go.RowKit
def ofT (t : ByteArray) (bs : List Bxo) : List Bxo := bs.filter fun b => b.t.toList == t.toList
theorem ofT_snoc_yes {t : ByteArray} {bs : List Bxo} {b : Bxo} (h : (b.t.toList == t.toList) = true) : ofT t (bs ++ [b]) = ofT t bs ++ [b] := by
  unfold ofT
  rw [List.filter_append, List.filter_cons, if_pos h, List.filter_nil]
theorem ofT_snoc_no {t : ByteArray} {bs : List Bxo} {b : Bxo} (h : (b.t.toList == t.toList) = false) : ofT t (bs ++ [b]) = ofT t bs := by
  unfold ofT
  rw [List.filter_append, List.filter_cons, if_neg (by rw [h]; decide), List.filter_nil, List.append_nil]
theorem ofT_len (t : ByteArray) (bs : List Bxo) : (ofT t bs).length ≤ bs.length := List.length_filter_le ..
theorem ofT_mem {t : ByteArray} {bs : List Bxo} {b : Bxo} (h : b ∈ ofT t bs) : b ∈ bs := (List.mem_filter.1 h).1
theorem bxV_set14 (t : ByteArray) (ep : Nat) {nn : List Nat} (A A' : Option Addr) (n n' c c' : Nat) (h : nn.length = 12) : (bxV t ep nn A n c).setIfInBounds 14 (.slice A' n' c') = bxV t ep nn A' n' c' := by
  unfold bxV bxL
  rw [List.setIfInBounds_toArray]
  congr 1
  rw [List.set_append_right _ _ (by simp [byt_len, h])]
  simp [byt_len, h]
theorem bxV_size15 (t : ByteArray) (ep : Nat) (nn : List Nat) (A : Option Addr) (n c : Nat) (h : nn.length = 12) : (bxV t ep nn A n c).size = 15 := by unfold bxV; rw [List.size_toArray, bxL_len t ep A n c h]
theorem blk_thereS {w : World} {g : Nat} {T : TypeId} {cs : Array Value} (h : Blk w g T cs) (o n : Nat) (ho : o + n ≤ cs.size) : w.there g o n := fun j hj => by
  have h' : w.heap[g]? = some (.cells cs T (0, 0)) := h
  refine ⟨?_, ?_⟩
  · rw [h.cell, Array.getElem?_eq_getElem (by omega)]; rfl
  · unfold World.frozen?; simp [h']
theorem below_setCellS (w : World) (g o : Nat) (v : Value) {n : Nat} (h : n ≤ g) : Below n w (w.setCell ⟨g, o, none⟩ v) :=
  ⟨rfl, rfl, rfl, by rw [heapSize_set]; exact Nat.le_refl _, fun k hk => Below.heap_setCell _ _ _ _ (by show k ≠ g; omega)⟩
set_option maxHeartbeats 16000000 in
theorem of29_c (A : Option Addr) (cap : Nat) (bs : List Bxo) (t : ByteArray) (w : World) (hr : RdX w A bs) (hl : bs.length ≤ 10000000) (hbl : ∀ b ∈ bs, b.body.length ≤ 100000) :
    Calls Tryz.prog 20 #[.slice A bs.length cap, .string t] w fun e w' => ∃ Ax cx, e = .returned (.slice Ax (ofT t bs).length cx) ∧ (ofT t bs).length ≤ cx ∧ RdX w' Ax (ofT t bs) ∧ Below w.heap.size w w' := by
  obtain ⟨ib, hib, hb0, hb1x, hb2x⟩ := parts_of boxInfo
  have zf := zero_bx
  have zs1 : zBx.size = 15 := by rfl
  have zs2 : ¬ zBx = #[] := by intro h; have := congrArg Array.size h; rw [zs1] at this; cases this
  have HR := Lib.hid hr
  have HL := Lib.hid hl
  have HBL := Lib.hid hbl
  clear hr hl hbl
  go_enter Tryz.func20, Tryz.ntmps20
  go_wp2_with fail
  go_loopw [5, 10] (fun lv iv wr => ∃ k : Nat, k ≤ bs.length ∧ iv = .int .i64 (k : Nat) ∧ ∃ us, PkI w wr lv us (ofT t (bs.take k))) (fun _ iv _ => bs.length - (intOf iv).toNat)
  case atStart => exact ⟨0, by omega, rfl, [], OwnX.nil_ _ _, Below.refl _ _, BsQ.nil_ _ _⟩
  case round =>
    rename World => wr
    obtain ⟨k, hk, rfl, us, hP⟩ := hrel
    by_cases hlt : k < bs.length
    · have q1 : (k : Int) < (bs.length : Int) := by omega
      have m2 : (k : Int) ≤ 10000000 := by have := HL.out; omega
      obtain ⟨ad, Ai, ci, rfl, hab, hat, hci, hrb, hok⟩ := (HR.out.next hP.bel).box hlt
      have htk : bs.take (k + 1) = bs.take k ++ [bs.getD k bo0] := by
        rw [List.take_add_one, List.getElem?_eq_getElem hlt, List.getD_eq_getElem?_getD, List.getElem?_eq_getElem hlt]
        rfl
      have hbm : bs.getD k bo0 ∈ bs := by rw [List.getD_eq_getElem?_getD, List.getElem?_eq_getElem hlt]; exact List.getElem_mem hlt
      have hbl := HBL.out _ hbm
      have hul : us.length ≤ 10000000 := by
        rw [hP.bv.len]
        have h1 := ofT_len t (bs.take k)
        rw [List.length_take] at h1
        have := HL.out
        omega
      generalize bs.getD k bo0 = b at *
      have HTK := Lib.hid htk
      have HP := Lib.hid hP
      have HLT := Lib.hid hlt
      have HUL := Lib.hid hul
      have HBB := Lib.hid hbl
      have HCI := Lib.hid hci
      have HRB := Lib.hid hrb
      have HAT := Lib.hid hat
      have HOK := Lib.hid hok
      clear hP hlt hk hul hbl hci hrb hat hok htk hbm hab
      obtain ⟨bt, be, bn, bd⟩ := b
      simp only at HBB HCI HRB HAT
      have hnl : bn.length = 12 := HOK.out.nl
      have HLN := Lib.hid (bxLn bt be (nn := bn) Ai bd.length ci hnl)
      have HSZ := Lib.hid (fun A n c => bxSz bt be (nn := bn) A n c hnl)
      have HZS := Lib.hid (show zBx.size = (bxV bt be bn Ai bd.length ci).size by rw [zBx_size]; unfold bxV; rw [List.size_toArray, bxL_len bt be Ai bd.length ci hnl])
      have HNL := Lib.hid hnl
      clear hnl
      go_upto_region 5 with (first
        | (refine wpList_loadA rfl 61 (.tmp 12) rfl (ad.add (k * 15)) rfl (bxL bt be bn Ai bd.length ci) _ HAT.out Tryz.underlying61 rfl HLN.out ?_)
        | (refine wpList_store_rowTo rfl 61 (.tmp 7) (.tmp 13) rfl rfl wr.heap.size (bxV bt be bn Ai bd.length ci) rfl rfl 61 zBx (by exact heap_alloc_new _ _) (HSZ.out ..) HZS.out (bx_all _ _ _ _ _ _) ?_))
      obtain ⟨Y, hY⟩ : ∃ Y, Y = (wr.alloc (Obj.cells zBx 61)).setRow wr.heap.size (bxV bt be bn Ai bd.length ci) := ⟨_, rfl⟩
      have hnr := new_rowP wr 61 zBx (bxV bt be bn Ai bd.length ci)
      rw [← hY] at hnr ⊢
      have c0 : Y.cell? ⟨wr.heap.size, 0, none⟩ = some (.string bt) := (hnr.1.cell 0).trans rfl
      have c14 : Y.cell? ⟨wr.heap.size, 14, none⟩ = some (.slice Ai bd.length ci) := (hnr.1.cell 14).trans (bx_c14 _ _ _ _ _ HNL.out)
      have HX1 := Lib.hid hnr.1
      have HY1 := Lib.hid hnr.2
      have HRY := Lib.hid ((Rd.below HRB.out hnr.2).more hnr.2.size)
      clear hnr hY HAT HLN HZS HRB
      obtain ⟨g1, hg1⟩ : ∃ g1, g1 = wr.heap.size := ⟨_, rfl⟩
      rw [← hg1] at HX1 c0 c14 ⊢
      have HG1 := Lib.hid hg1
      clear hg1
      cases hte : (bt.toList == t.toList) with
      | false =>
        have HTE := Lib.hid hte
        have HP1 := Lib.hid (HP.out.next HY1.out)
        go_wp2_with fail
        go_roundw
        case rel => exact ⟨k + 1, HLT.out, by go_num, us, by rw [HTK.out, ofT_snoc_no HTE.out]; exact HP1.out⟩
        case measure => have := HLT.out; simp [intOf]; omega
      | true =>
        have HTE := Lib.hid hte
        have HCL := Lib.hid (clone_c Y.heap.size Ai ci bd Y HRY.out (by have := HBB.out; omega))
        go_upto_region 7 with (go_at_call 36; (with_reducible refine HCL.out.mono ?_); rintro e W2 ⟨v, rfl, ho, hb⟩; obtain ⟨A3, c3, rfl, hc3, _, r3⟩ := ho.rd; have HO2 := Lib.hid ho; have HC3 := Lib.hid hc3; have HB2 := Lib.hid hb; have HX2 := Lib.hid (HX1.out.below hb HX1.out.lt); have hf14 : W2.frozen? ⟨g1, 14, none⟩ = false := (blk_thereS HX2.out 14 1 (by rw [bxV_size15 _ _ _ _ _ _ HNL.out]; decide) 0 (by decide)).2; have d14 : W2.cell? ⟨g1, 14, none⟩ = some (.slice Ai bd.length ci) := (HX2.out.cell 14).trans (bx_c14 _ _ _ _ _ HNL.out); clear ho hb r3 hc3)
        obtain ⟨Y3, hY3⟩ : ∃ Y3, Y3 = W2.setCell ⟨g1, 14, none⟩ (.slice A3 bd.length c3) := ⟨_, rfl⟩
        try rw [← hY3]
        have hx3 : Blk Y3 g1 61 (bxV bt be bn A3 bd.length c3) := by
          rw [hY3, ← bxV_set14 bt be Ai A3 bd.length bd.length ci c3 HNL.out]
          exact HX2.out.set_ 14 _
        have ho3 : OwnB Y3 Y.heap.size (.slice A3 bd.length c3) bd := by
          rw [hY3]
          refine own_off HO2.out ((Only.refl (fun i => i = g1) W2).setCell (p := ⟨g1, 14, none⟩) (fun _ => rfl) _) (fun e => ?_)
          have h1 := own_base HO2.out _ e
          have h2 := HX1.out.lt
          omega
        have hb3 : Below wr.heap.size wr Y3 := by
          rw [hY3]
          exact (HY1.out.trans (HB2.out.mono HY1.out.size)).trans (below_setCellS _ _ _ _ (by rw [HG1.out]; exact Nat.le_refl _))
        clear hY3 c0 c14 d14 hf14 HX2 HX1 HCL
        have hal : Below Y3.heap.size Y3 (Y3.alloc (.cells (bxV bt be bn A3 bd.length c3) 61)) := (Below.refl _ _).alloc (Nat.le_refl _) _
        have HP3 := Lib.hid ((HP.out.next hb3).next hal)
        obtain ⟨A9, c9, e9, _, _, r9⟩ := ho3.rd
        injection e9 with e9a _ e9c
        subst e9a e9c
        have HR3 := Lib.hid (show Rd (Y3.alloc (.cells (bxV bt be bn A3 bd.length c3) 61)) (Y3.alloc (.cells (bxV bt be bn A3 bd.length c3) 61)).heap.size A3 (byt bd) from (r9.below hal).more hal.size)
        have hap0 : ∀ ad, A3 = some ad → byt bd ≠ [] → some ad.block ≠ u5.ownBlock := by
          intro ad1 ea _ h
          have h2 := own_new ho3 rfl ad1 ea
          have := own_lt HP.out.own _ h.symm
          have := HY1.out.size
          omega
        have HAP := Lib.hid hap0
        have HX3 := Lib.hid hx3
        clear hx3 ho3 hb3 hal r9 hap0 HO2 HB2 HP HY1
        go_wp2_with (first
          | (refine wpList_load_row rfl 61 (.tmp 7) rfl g1 rfl 61 (bxV bt be bn A3 bd.length c3) (0, 0) _ HX3.out Tryz.underlying61 rfl (HSZ.out ..) ?_)
          | (refine wpList_valM rfl _ _ (run_oneG Tryz.underlying24 hib hb0 hb1x (by decide) (by decide) Y3 (bxV bt be bn A3 bd.length c3) (bxV_size15 _ _ _ _ _ _ HNL.out) (.tmp 23) rfl rfl) ?_)
          | (at_builtin; refine wpList_app _ rfl (.tmp 22) (.tmp 24) _ rfl w.heap.size 61 ib (.agg zBx) 15 56 Tryz.underlying24 hib hb0 hb1x hb2x rfl (by decide) u5 us.length us.flatten rfl HP3.out.own _ (some ⟨Y3.heap.size, 0, none⟩) 1 1 (bxL bt be bn A3 bd.length c3) rfl (by rw [bxL_len _ _ _ _ _ HNL.out]) (by exact rd_new Y3 (bxL bt be bn A3 bd.length c3) 61 (0, 0)) (bx_oneCell _ _ _ _ _ _) (by have := HUL.out; omega) (by have := HUL.out; omega) HP3.out.bel.size ?_
             intro v9 W9 hap
             have HP9 := Lib.hid (PkI.box (b := ⟨bt, be, bn, bd⟩) HP3.out hap HC3.out HR3.out HAP.out HOK.out)
             clear hap))
        go_roundw
        case rel => exact ⟨k + 1, HLT.out, by go_num, _, by rw [HTK.out, ofT_snoc_yes HTE.out]; exact HP9.out⟩
        case measure => have := HLT.out; simp [intOf]; omega
    · obtain rfl : k = bs.length := by omega
      rw [List.take_length] at hP
      obtain ⟨Ax, cx, rfl, hcx, _, hrx⟩ := hP.own.rd hP.bv.bv
      have HRX := Lib.hid hrx
      have HPB := Lib.hid hP.bel
      have HCX := Lib.hid hcx
      clear hP hlt hk hrx hcx
      go_wp2_with fail
      go_ret
      exact ⟨Ax, cx, rfl, HCX.out, HRX.out, HPB.out⟩
end Go.Proofs.YtfnhmnbcponkfaaGreatDoor
namespace Go.Proofs.YtfnhmnbcponkfaaGreatDoor
open Go.RowKit
def tenT : ByteArray := ByteArray.mk #[116]
def tenU : ByteArray := ByteArray.mk #[117]
theorem tenT_name : nameB tenT = true := by decide +kernel
theorem tenU_name : nameB tenU = true := by decide +kernel
def nnS (i : Nat) : List Nat := [i % 256, 9] ++ List.replicate 10 0
theorem nnS_len (i : Nat) : (nnS i).length = 12 := by simp [nnS]
theorem nnS_lt (i : Nat) : ∀ c ∈ nnS i, c < 256 := by
  intro c hc
  unfold nnS at hc
  rcases List.mem_append.1 hc with h | h
  · simp at h
    rcases h with rfl | rfl <;> omega
  · rw [List.eq_of_mem_replicate h]; decide
theorem built_nnS (b : Nat) : Tryz.prog.built 57 [(0, .int .u8 (b : Int)), (1, .int .u8 9)] = some (byt ([b, 9] ++ List.replicate 10 0)).toArray := by kernel_rfl
def epS (es : List Nat) (i : Nat) : Nat := es.getD i 0 % 3 + 1
def tnS (es : List Nat) (i : Nat) : ByteArray := if 200 ≤ es.getD i 0 then tenU else tenT
theorem tnS_name (es : List Nat) (i : Nat) : nameB (tnS es i) = true := by
  unfold tnS
  split
  · exact tenU_name
  · exact tenT_name
def grS (gs : List (List Pc)) (i : Nat) : List Pc := mergeL (gs.getD i [])
def bxS (gs : List (List Pc)) (es : List Nat) (i : Nat) : Bxo := ⟨tnS es i, epS es i, nnS i, boxL (keyE (epS es i)) (nnS i) (tnS es i) (epS es i) (grS gs i)⟩
def bxsS (gs : List (List Pc)) (es : List Nat) (n : Nat) : List Bxo := (List.range n).map (bxS gs es)
theorem bxsS_len (gs : List (List Pc)) (es : List Nat) (n : Nat) : (bxsS gs es n).length = n := by simp [bxsS]
theorem bxsS_succ (gs : List (List Pc)) (es : List Nat) (n : Nat) : bxsS gs es (n + 1) = bxsS gs es n ++ [bxS gs es n] := by
  unfold bxsS
  rw [List.range_succ, List.map_append]
  rfl
def gS (gs : List (List Pc)) (es : List Nat) (i : Nat) : Gro3 := ⟨nnS i, epS es i, grS gs i⟩
def grsS (gs : List (List Pc)) (es : List Nat) (n : Nat) : List Gro3 := ((List.range n).filter fun i => decide (es.getD i 0 < 200)).map (gS gs es)
theorem grsS_succ (gs : List (List Pc)) (es : List Nat) (n : Nat) : grsS gs es (n + 1) = if 200 ≤ es.getD n 0 then grsS gs es n else grsS gs es n ++ [gS gs es n] := by
  unfold grsS
  rw [List.range_succ, List.filter_append, List.map_append, List.filter_cons, List.filter_nil]
  by_cases h : 200 ≤ es.getD n 0
  · rw [if_neg (by rw [decide_eq_true_eq]; omega), if_pos h]
    simp
  · rw [if_pos (by rw [decide_eq_true_eq]; omega), if_neg h]
    rfl
theorem grsS_len (gs : List (List Pc)) (es : List Nat) (n : Nat) : (grsS gs es n).length ≤ n := by
  unfold grsS
  rw [List.length_map]
  exact Nat.le_trans (List.length_filter_le ..) (by simp)
structure OkS (gs : List (List Pc)) (es : List Nat) (i : Nat) : Prop where
  gr : greatB (gs.getD i []) 40 = false
  el : i < es.length
  ck : chkL (grS gs i) = 0
  le : (grS gs i).length ≤ 32
theorem grInfo (g : Gro3) (A : Option Addr) (c : Nat) (h : g.nn.length = 12) : (grL g A c).toArray.size = 14 := by rw [List.size_toArray, grL_len g A c h]
theorem grTInfo : (Tryz.prog.info? 66).map (fun i => (i.zero, i.size, i.bytes)) = some (some (.agg (grL gr0 none 0).toArray), 14, 40) := by kernel_rfl
theorem gr_oneCell (g : Gro3) (A : Option Addr) (c : Nat) : ∀ u ∈ grL g A c, u.oneCell' = true := by
  intro u hu
  unfold grL at hu
  rcases List.mem_append.1 hu with h | h
  · exact byt_one g.nn u h
  · simp at h
    rcases h with rfl | rfl <;> rfl
theorem zero_nonceS (w : World) : (zeroValue 57).run Tryz.prog w = .ok (.agg (vb n12z)) w := by kernel_rfl
def BxNewS (t : ByteArray) (ep : Nat) (nn body : List Nat) (base : Nat) (u : Value) (W : World) : Prop := ∃ A c b, u = .slice (some ⟨b, 0, none⟩) 1 1 ∧ Blk W b 61 (bxV t ep nn A body.length c) ∧ b < W.heap.size ∧ OwnB W base (.slice A body.length c) body
theorem BxNewS.next {t : ByteArray} {ep : Nat} {nn body : List Nat} {base : Nat} {u : Value} {W W' : World} (h : BxNewS t ep nn body base u W) (hb : Below W.heap.size W W') : BxNewS t ep nn body base u W' := by
  obtain ⟨A, c, b, e, h1, h2, h3⟩ := h
  exact ⟨A, c, b, e, h1.below hb h2, Nat.lt_of_lt_of_le h2 hb.size, h3.next hb⟩
theorem idle2S {x y : Value} (h : isTok x = false) (h' : isTok y = false) : (!isTok x && (!isTok y && true)) = true := by rw [h, h']; rfl
theorem bxV_sizeS (t : ByteArray) (ep : Nat) (nn : List Nat) (A : Option Addr) (n c : Nat) (h : nn.length = 12) : (bxV t ep nn A n c).size = 15 := by unfold bxV; rw [List.size_toArray, bxL_len t ep A n c h]
theorem list12 {l : List Nat} (h : l.length = 12) : ∃ a0 a1 a2 a3 a4 a5 a6 a7 a8 a9 a10 a11, l = [a0, a1, a2, a3, a4, a5, a6, a7, a8, a9, a10, a11] := by
  match l, h with
  | [a0, a1, a2, a3, a4, a5, a6, a7, a8, a9, a10, a11], _ => exact ⟨a0, a1, a2, a3, a4, a5, a6, a7, a8, a9, a10, a11, rfl⟩
theorem built_gr (nn : List Nat) (ep : Nat) (l : List Pc) (A : Option Addr) (c : Nat) (h : nn.length = 12) : Tryz.prog.built 66 [(0, .agg (vb nn)), (1, .int .u32 (ep : Int)), (2, .slice A l.length c)] = some (grL ⟨nn, ep, l⟩ A c).toArray := by
  obtain ⟨a0, a1, a2, a3, a4, a5, a6, a7, a8, a9, a10, a11, rfl⟩ := list12 h
  unfold grL
  simp only
  generalize l.length = n
  kernel_rfl
def ShvD (gs : List (List Pc)) (es : List Nat) (w : World) (e : Ending) (w' : World) : Prop :=
  (((∃ i, i < gs.length ∧ ¬ OkS gs es i) ∧ e = .returned (.tuple #[.slice none 0 0, .slice none 0 0, .bool false])) ∨
    ((∀ i, i < gs.length → OkS gs es i) ∧ ∃ Ax cx Ag cg, e = .returned (.tuple #[.slice Ax gs.length cx, .slice Ag (grsS gs es gs.length).length cg, .bool true]) ∧ RdX w' Ax (bxsS gs es gs.length) ∧ RdO w' Ag (grsS gs es gs.length))) ∧ Below w.heap.size w w'
set_option maxHeartbeats 32000000 in
theorem shelved_c (A : Option Addr) (cA : Nat) (gs : List (List Pc)) (B : Option Addr) (cB : Nat) (es : List Nat) (w : World) (hls : LsAt w A gs) (hgl : gs.length ≤ 1048576) (hgp : ∀ g ∈ gs, g.length ≤ 9223372036854775807 ∧ ∀ p ∈ g, PcOk p ∧ p.s.size ≤ 9223372036854775807) (hes : Rd w w.heap.size B (byt es)) (heb : ∀ c ∈ es, c < 256) (hel : es.length ≤ 9223372036854775807) (hq : QuartersAt w) :
    Calls Tryz.prog 5 #[.slice A gs.length cA, .slice B es.length cB] w (ShvD gs es w) := by
  obtain ⟨ib, hib, hb0, hb1x, hb2x⟩ := parts_of boxInfo
  obtain ⟨ig, hig, hg0, hg1x, hg2x⟩ := parts_of grTInfo
  have zfn := zero_nonceS
  have zs3 : (vb n12z).size = 12 := by rfl
  have zs4 : ¬ vb n12z = #[] := by intro h; have := congrArg Array.size h; rw [zs3] at this; cases this
  have HLS := Lib.hid hls
  have HGL := Lib.hid hgl
  have HGP := Lib.hid hgp
  have HES := Lib.hid hes
  have HEB := Lib.hid heb
  have HQ := Lib.hid hq
  clear hls hgl hgp hes heb hq
  go_enter Tryz.func5, Tryz.ntmps5
  go_wp2_with fail
  go_loopw [7, 8, 9, 73, 74] (fun lv gv iv u u' wr => (isTok u = false ∧ isTok u' = false) ∧ ∃ i : Nat, i ≤ gs.length ∧ iv = .int .i64 (i : Nat) ∧ (∃ us vs, OpG w wr lv gv us (bxsS gs es i) vs (grsS gs es i)) ∧ ∀ j, j < i → OkS gs es j) (fun _ _ iv _ _ _ => gs.length - (intOf iv).toNat)
  case atStart => exact ⟨⟨rfl, rfl⟩, 0, Nat.zero_le _, rfl, ⟨[], [], OpG.begin w⟩, fun j hj => by omega⟩
  case round =>
    rename World => wr
    obtain ⟨htk, i, hil, rfl, ⟨us, vs, hL⟩, hng⟩ := hrel
    have HTK := Lib.hid htk
    clear htk
    by_cases hlt : i < gs.length
    · have r1 : (i : Int) < (gs.length : Int) := by omega
      have m2 : (i : Int) ≤ 1048576 := by have := HGL.out; omega
      obtain ⟨ad, Ai, ci, rfl, had, hcell, hci, hri⟩ := (HLS.out.next hL.bel) i hlt
      have hgm : gs.getD i [] ∈ gs := by rw [List.getD_eq_getElem?_getD, List.getElem?_eq_getElem hlt]; exact List.getElem_mem hlt
      obtain ⟨hg1, hg2⟩ := HGP.out _ hgm
      have HGC := Lib.hid (show Calls Tryz.prog 17 #[.slice Ai (gs.getD i []).length ci, .int .i64 40] wr (fun e w' => e = .returned (.bool (greatB (gs.getD i []) 40)) ∧ wr = w') from great_c wr.heap.size Ai ci (gs.getD i []) 40 wr hri hg1 (by decide) (fun p hp => (hg2 p hp).2))
      have HL := Lib.hid hL
      have HNG := Lib.hid hng
      have HLT := Lib.hid hlt
      have hbel := HL.out.bel
      cases hgr : greatB (gs.getD i []) 40 with
      | true =>
        rw [hgr] at HGC
        have HNO := Lib.hid (show ∃ j, j < gs.length ∧ ¬ OkS gs es j from ⟨i, hlt, fun h => by have h2 := h.gr; rw [hgr] at h2; cases h2⟩)
        clear hgr hg1 hg2 hgm hL hng hlt hri hci had hil
        generalize (gs.getD i []).length = gl at *
        go_wp2_with (go_at_call 17; (with_reducible refine HGC.out.mono ?_); rintro e W9 ⟨rfl, rfl⟩)
        try rw [Exit.noGoto_ret]
        refine bodyPost_ret (results_tmp3 rfl _ _ _) rfl ?_
        exact ⟨.inl ⟨HNO.out, rfl⟩, hbel⟩
      | false =>
        rw [hgr] at HGC
        obtain ⟨hnum, hsz⟩ := greatB_no hgr
        have HGR := Lib.hid hgr
        have hok : ∀ p ∈ gs.getD i [], PcOk p ∧ p.s.size ≤ 9223372036854775807 := hg2
        have HRM := Lib.hid (show Calls Tryz.prog 19 #[.slice Ai (gs.getD i []).length ci] wr fun e w' => ∃ v, e = .returned v ∧ OwnP w' wr.heap.size v (grS gs i) ∧ Below wr.heap.size wr w' from rmerge_c Ai ci (gs.getD i []) wr hri (by omega) hok)
        have hml : (grS gs i).length ≤ 40 := Nat.le_trans (merge_len _) hnum
        have hmk : ∀ p ∈ grS gs i, PcOk p ∧ p.s.size ≤ 1000000 := fun p hp => ⟨(hok p (merge_sub _ p hp)).1, by have := hsz p (merge_sub _ p hp); omega⟩
        obtain ⟨m, hm⟩ : ∃ m, m = grS gs i := ⟨_, rfl⟩
        rw [← hm] at HRM hml hmk
        have HM := Lib.hid hm
        have HMK := Lib.hid hmk
        have HML := Lib.hid hml
        have HCC := Lib.hid (fun W Am cm (h : RdP W W.heap.size Am m) => rcheck_c Am cm m W h (by omega) (fun p hp => (hmk p hp).2))
        clear hgr hg1 hg2 hgm hL hng hlt hri hci had hil hnum hsz hok hml hmk hm
        generalize (gs.getD i []).length = gl at *
        go_upto_region 9 with (first
          | (go_at_call 17; (with_reducible refine HGC.out.mono ?_); rintro e W9 ⟨rfl, rfl⟩)
          | (go_at_call 19; (with_reducible refine HRM.out.mono ?_); rintro e W4 ⟨vm, rfl, hom, hbm⟩; obtain ⟨Am, cm, rfl, hcm, _, hrm⟩ := hom.rd; have HBM := Lib.hid hbm; have HRMM := Lib.hid hrm; have HOM := Lib.hid hom; have HCM := Lib.hid hcm; clear hbm hrm hom hcm))
        have hcc := HCC.out W4 Am cm HRMM.out
        have HB4 := Lib.hid (HL.out.bel.trans (HBM.out.mono HL.out.bel.size))
        clear HGC HRM HCC hcell
        by_cases hei : i < es.length
        case neg =>
          have r2 : (es.length : Int) ≤ (i : Int) := by omega
          have HNO := Lib.hid (show ∃ j, j < gs.length ∧ ¬ OkS gs es j from ⟨i, HLT.out, fun h => hei h.el⟩)
          clear hcc hei
          go_wp2_with fail
          try rw [Exit.noGoto_ret]
          refine bodyPost_ret (results_tmp3 rfl _ _ _) rfl ?_
          exact ⟨.inl ⟨HNO.out, rfl⟩, HB4.out⟩
        case pos =>
          have r2 : ¬ (es.length : Int) ≤ (i : Int) := by omega
          by_cases hck : chkL m = 0
          case neg =>
            have key : ∃ kk : Int, (kk = 1 ∨ kk = 3) ∧ Calls Tryz.prog 14 #[.slice Am m.length cm] W4 (fun e w' => e = .returned (.int .i64 kk) ∧ Below W4.heap.size W4 w') := by
              rcases chk_vals m with h | h | h
              · exact absurd h hck
              · exact ⟨1, .inl rfl, by rw [h] at hcc; exact hcc⟩
              · exact ⟨3, .inr rfl, by rw [h] at hcc; exact hcc⟩
            obtain ⟨kk, hkk, hc2⟩ := key
            have s1 : (kk != 0) = true := by rcases hkk with rfl | rfl <;> rfl
            have s2 : ¬ kk = 0 := by rcases hkk with rfl | rfl <;> decide
            have HC2 := Lib.hid hc2
            have HNO := Lib.hid (show ∃ j, j < gs.length ∧ ¬ OkS gs es j from ⟨i, HLT.out, fun h => hck (by rw [HM.out]; exact h.ck)⟩)
            clear hcc hck hkk hc2 hei
            go_wp2_with (go_at_call 14; (with_reducible refine HC2.out.mono ?_); rintro e W5 ⟨rfl, hb⟩; have HB5 := Lib.hid (HB4.out.trans (hb.mono HB4.out.size)); clear hb)
            try rw [Exit.noGoto_ret]
            refine bodyPost_ret (results_tmp3 rfl _ _ _) rfl ?_
            exact ⟨.inl ⟨HNO.out, rfl⟩, HB5.out⟩
          case pos =>
            rw [hck] at hcc
            have hc2 : Calls Tryz.prog 14 #[.slice Am m.length cm] W4 (fun e w' => e = .returned (.int .i64 0) ∧ Below W4.heap.size W4 w') := hcc
            have HC2 := Lib.hid hc2
            have HCK := Lib.hid hck
            have HEI := Lib.hid hei
            clear hcc hc2 hck hei
            by_cases h32 : m.length ≤ 32
            case neg =>
              have r3 : (32 : Int) < (m.length : Int) := by omega
              have HNO := Lib.hid (show ∃ j, j < gs.length ∧ ¬ OkS gs es j from ⟨i, HLT.out, fun h => h32 (by rw [HM.out]; exact h.le)⟩)
              clear h32
              go_wp2_with (go_at_call 14; (with_reducible refine HC2.out.mono ?_); rintro e W5 ⟨rfl, hb⟩; have HB5 := Lib.hid (HB4.out.trans (hb.mono HB4.out.size)); clear hb)
              try rw [Exit.noGoto_ret]
              refine bodyPost_ret (results_tmp3 rfl _ _ _) rfl ?_
              exact ⟨.inl ⟨HNO.out, rfl⟩, HB5.out⟩
            case pos =>
              have r3 : ¬ (32 : Int) < (m.length : Int) := by omega
              have HOKI := Lib.hid (show OkS gs es i from ⟨HGR.out, HEI.out, by rw [← HM.out]; exact HCK.out, by rw [← HM.out]; exact h32⟩)
              clear h32
              obtain ⟨ae, rfl, hae, hcele⟩ := ((HES.out.below HB4.out).more HB4.out.size).byte (k := i) HEI.out
              have HEV := Lib.hid (getD_lt HEB.out i)
              obtain ⟨ev, hev⟩ : ∃ ev, ev = es.getD i 0 := ⟨_, rfl⟩
              rw [← hev] at hcele HEV
              obtain ⟨e3, he3⟩ : ∃ e3, e3 = ev % 3 := ⟨_, rfl⟩
              obtain ⟨ep, hep⟩ : ∃ ep, ep = e3 + 1 := ⟨_, rfl⟩
              obtain ⟨ibv, hib8⟩ : ∃ ibv, ibv = i % 256 := ⟨_, rfl⟩
              have hevb := HEV.out
              have f1 : (ev : Int) % 3 = (e3 : Int) := by omega
              have f2 : Int.tmod (ev : Int) 3 = (e3 : Int) := by rw [Int.tmod_eq_emod_of_nonneg (by omega)]; exact f1
              have f3 : (e3 : Int) + 1 = (ep : Int) := by omega
              have f4 : (0 : Int) ≤ (e3 : Int) := by omega
              have f5 : (e3 : Int) ≤ 2 := by omega
              have f6 : (0 : Int) ≤ (ep : Int) := by omega
              have f7 : (ep : Int) ≤ 3 := by omega
              have f8 : (i : Int) % 256 = (ibv : Int) := by omega
              have f9 : IntKind.u8.wrap (i : Int) = (ibv : Int) := by rw [IntKind.wrap_u8]; exact f8
              have HEP := Lib.hid (show ep = epS es i by rw [hep, he3, hev]; rfl)
              have HTN := Lib.hid (show tnS es i = if 200 ≤ ev then tenU else tenT by rw [hev]; rfl)
              have HGS := Lib.hid (show grsS gs es (i + 1) = if 200 ≤ ev then grsS gs es i else grsS gs es i ++ [gS gs es i] by rw [grsS_succ, hev])
              have HBT := Lib.hid (show Tryz.prog.built 57 [(0, .int .u8 (ibv : Int)), (1, .int .u8 9)] = some (vb (nnS i)) by rw [hib8]; exact built_nnS (i % 256))
              have HNS := Lib.hid (nnSz (nnS_len i))
              have HNZ := Lib.hid (show (vb n12z).size = (vb (nnS i)).size by rw [vb_size, vb_size, nnS_len]; rfl)
              have HNL := Lib.hid (show (Tryz.prog.info? 57).map (·.size) = some (byt (nnS i)).length by rw [byt_len, nnS_len]; kernel_rfl)
              obtain ⟨nn, hnn⟩ : ∃ nn, nn = nnS i := ⟨_, rfl⟩
              have HNN := Lib.hid hnn
              rw [← hnn] at HBT HNS HNZ HNL
              have c2 : ∀ W, Below W4.heap.size W4 W → W.cell? (ae.add i) = some (.int .u8 (ev : Int)) := fun W hb => (hb.cell (by rw [add_block]; exact hae)).trans hcele
              have HC2E := Lib.hid c2
              clear c2 hae hcele hev he3 hib8 hnn hevb
              go_upto_region 11 with (go_at_call 14; (with_reducible refine HC2.out.mono ?_); rintro e W5 ⟨rfl, hb⟩; have HB5 := Lib.hid hb; have c3 := HC2E.out W5 hb; clear hb)
              clear hep
              go_upto_region 13 with (first
                | (refine wpList_valG (by kernel_rfl) (.agg (vb nn)) (by exact run_built _ 57 [(0, .int .u8 (ibv : Int)), (1, .int .u8 9)] (vb nn) HBT.out #[(0, .tmp 52), (1, .const (.int .u8 9))] rfl (by kernel_rfl)) ?_)
                | (refine wpList_store_rowTo rfl 57 (.tmp 12) (.tmp 53) rfl rfl W5.heap.size (vb nn) rfl rfl 57 (vb n12z) (by exact heap_alloc_new _ _) HNS.out HNZ.out (vb_all _) ?_))
              obtain ⟨Y, hY⟩ : ∃ Y, Y = (W5.alloc (Obj.cells (vb n12z) 57)).setRow W5.heap.size (vb nn) := ⟨_, rfl⟩
              have hnr := new_rowP W5 57 (vb n12z) (vb nn)
              rw [← hY] at hnr ⊢
              have c4 := HC2E.out Y (HB5.out.trans (hnr.2.mono HB5.out.size))
              have hwy : Below wr.heap.size wr Y := HBM.out.trans ((HB5.out.trans (hnr.2.mono HB5.out.size)).mono HBM.out.size)
              have HX1 := Lib.hid hnr.1
              have HLY := Lib.hid (HL.out.next hwy)
              have HWY := Lib.hid hwy
              have HRY := Lib.hid (show RdP Y Y.heap.size Am m from (Rd.below (show Rd W4 W4.heap.size Am (pcs _) from HRMM.out) (HB5.out.trans (hnr.2.mono HB5.out.size))).more (Nat.le_trans HB5.out.size hnr.2.size))
              have HG12 := Lib.hid (show wr.heap.size ≤ W5.heap.size ∧ W5.heap.size < Y.heap.size from ⟨Nat.le_trans HBM.out.size HB5.out.size, hnr.1.lt⟩)
              have HAM := Lib.hid (show ∀ ad, Am = some ad → pcs m ≠ [] → some ad.block ≠ u7.ownBlock ∧ some ad.block ≠ u8.ownBlock by
                intro ad1 ea _
                have h2 := own_new (show W4.ownsRow wr.heap.size _ _ _ _ _ from HOM.out) rfl ad1 ea
                refine ⟨fun h => ?_, fun h => ?_⟩
                · have := own_lt HL.out.lo _ h.symm
                  omega
                · have := own_lt HL.out.go _ h.symm
                  omega)
              clear hnr hY c3 hwy
              obtain ⟨g12, hg12⟩ : ∃ g, g = W5.heap.size := ⟨_, rfl⟩
              rw [← hg12] at HX1 HG12 ⊢
              clear hg12
              obtain ⟨tn, htn⟩ : ∃ tn, tn = tnS es i := ⟨_, rfl⟩
              rw [← htn] at HTN
              have HTNE := Lib.hid htn
              clear htn f1 f2 f3 f8 f9
              have HGI := Lib.hid (show gS gs es i = ⟨nn, ep, m⟩ by unfold gS; rw [HNN.out, HEP.out, HM.out])
              have HGO := Lib.hid (show GrOk ⟨nn, ep, m⟩ from ⟨by rw [HNN.out]; exact nnS_len i, by rw [HNN.out]; exact nnS_lt i, by show ep < 4294967296; omega⟩)
              have HVL := Lib.hid (show vs.length ≤ 1048576 by rw [HL.out.gq.len]; have := grsS_len gs es i; have := HGL.out; have := HLT.out; omega)
              go_upto_if 58 with fail
              obtain ⟨cb, hcb⟩ : ∃ cb, cb = decide ((200 : Int) ≤ (ev : Int)) := ⟨_, rfl⟩
              rw [← hcb]
              go_cut [8, 13] from 59 to 65 (fun gv tv wx => tv = .string tn ∧ (∃ vs', OpG w wx u7 gv us (bxsS gs es i) vs' (grsS gs es (i + 1))) ∧ Blk wx g12 57 (vb nn) ∧ RdP wx wx.heap.size Am m ∧ Y.heap.size ≤ wx.heap.size)
              case first =>
                cases cb
                rotate_left 1
                · have s1 : (200 : Int) ≤ (ev : Int) := of_decide_eq_true hcb.symm
                  have h2 : 200 ≤ ev := by omega
                  clear s1 hcb
                  have HT1 := Lib.hid (show tn = tenU by rw [HTN.out, if_pos h2])
                  have HG1 := Lib.hid (show grsS gs es (i + 1) = grsS gs es i by rw [HGS.out, if_pos h2])
                  clear h2
                  go_wp2_with fail
                  go_meet
                  exact ⟨by rw [HT1.out]; rfl, ⟨vs, by rw [HG1.out]; exact HLY.out⟩, HX1.out, HRY.out, Nat.le_refl _⟩
                · have s1 : ¬ (200 : Int) ≤ (ev : Int) := of_decide_eq_false hcb.symm
                  have h2 : ¬ 200 ≤ ev := by omega
                  clear s1 hcb
                  have HT1 := Lib.hid (show tn = tenT by rw [HTN.out, if_neg h2])
                  have HG1 := Lib.hid (show grsS gs es (i + 1) = grsS gs es i ++ [⟨nn, ep, m⟩] by rw [HGS.out, if_neg h2, HGI.out])
                  have hal : Below Y.heap.size Y (Y.alloc (.cells (grL ⟨nn, ep, m⟩ Am cm).toArray 66)) := (Below.refl _ _).alloc (Nat.le_refl _) _
                  have HLA := Lib.hid (HLY.out.next hal)
                  have HRA := Lib.hid (show RdP (Y.alloc (.cells (grL ⟨nn, ep, m⟩ Am cm).toArray 66)) (Y.alloc (.cells (grL ⟨nn, ep, m⟩ Am cm).toArray 66)).heap.size Am m from (Rd.below (show Rd Y Y.heap.size Am (pcs _) from HRY.out) hal).more hal.size)
                  have HXA := Lib.hid (HX1.out.below hal HX1.out.lt)
                  have HSA := Lib.hid hal.size
                  have HBG := Lib.hid (built_gr nn ep m Am cm HGO.out.nl)
                  have HGZ := Lib.hid (grInfo ⟨nn, ep, m⟩ Am cm HGO.out.nl)
                  clear h2 hal
                  go_wp2_with (first
                    | (refine wpList_load_row rfl 57 (.tmp 12) rfl g12 rfl 57 (vb nn) (0, 0) _ HX1.out Tryz.underlying57 rfl HNS.out ?_)
                    | (refine wpList_valG (by kernel_rfl) (.agg (grL ⟨nn, ep, m⟩ Am cm).toArray) (by exact run_built _ 66 [(0, .agg (vb nn)), (1, .int .u32 (ep : Int)), (2, .slice Am m.length cm)] _ HBG.out #[(0, .tmp 60), (1, .tmp 61), (2, .tmp 62)] rfl (by kernel_rfl)) ?_)
                    | (refine wpList_valM rfl _ _ (run_oneG Tryz.underlying25 hig hg0 hg1x (by decide) (by decide) Y (grL ⟨nn, ep, m⟩ Am cm).toArray HGZ.out (.tmp 63) rfl rfl) ?_)
                    | (at_builtin; refine wpList_app _ rfl (.tmp 59) (.tmp 64) _ rfl w.heap.size 66 ig (.agg (grL gr0 none 0).toArray) 14 40 Tryz.underlying25 hig hg0 hg1x hg2x rfl (by decide) u8 vs.length vs.flatten rfl HLA.out.go _ (some ⟨Y.heap.size, 0, none⟩) 1 1 (grL ⟨nn, ep, m⟩ Am cm) rfl (by rw [grL_len _ _ _ HGO.out.nl]) (by exact rd_new Y (grL ⟨nn, ep, m⟩ Am cm) 66 (0, 0)) (gr_oneCell _ _ _) (by have := HVL.out; omega) (by have := HVL.out; omega) HLA.out.bel.size ?_
                       intro v9 W9 hap
                       have HL9 := Lib.hid (OpG.grp (g := ⟨nn, ep, m⟩) HLA.out hap HCM.out HRA.out HAM.out HGO.out)
                       have HR9 := Lib.hid (show RdP W9 W9.heap.size Am m from (Rd.appended (show Rd _ _ Am (pcs m) from HRA.out) (fun ad1 e1 h1 => (HAM.out ad1 e1 h1).2) hap.grown hap.lies).1)
                       have HX9 := Lib.hid (show Blk W9 g12 57 (vb nn) from (hap.grown.block g12 HXA.out.lt (fun e => by have := own_lt HL.out.go g12 e.symm; have := HG12.out.1; omega)).trans HXA.out)
                       have HS9 := Lib.hid (Nat.le_trans HSA.out hap.grown.size)
                       clear hap))
                  go_meet
                  exact ⟨by rw [HT1.out]; rfl, ⟨_, by rw [HG1.out]; exact HL9.out⟩, HX9.out, HR9.out, HS9.out⟩
              case rest =>
                obtain ⟨rfl, ⟨vs', hL6⟩, hx6, hr6, hs6⟩ := hcut
                have HL6 := Lib.hid hL6
                have HS6 := Lib.hid hs6
                have HNA := Lib.hid (fun (W : World) (h : ∃ x : Ext wc, W = x.wd) => show AtA W ⟨g12, 0, none⟩ (byt nn) by
                  obtain ⟨x, rfl⟩ := h
                  exact fun j u hu => x.cell (atA_blk hx6 j u hu))
                have HKC := Lib.hid (fun U => show Calls Tryz.prog 13 #[.int .u32 (ep : Int)] U fun en w' => en = .returned (.agg (vb (keyE ep))) ∧ Below U.heap.size U w' from key29_c ep U (by omega))
                have hnm := tnS_name es i
                have htz : (tnS es i).size ≤ 1000 := by
                  unfold tnS
                  split <;> decide
                rw [← HTNE.out] at hnm htz
                have HSE := Lib.hid (fun U (hb : Below wc.heap.size wc U) => show Calls Tryz.prog 16 #[.agg (vb (keyE ep)), .agg (vb nn), .string tn, .int .u32 (ep : Int), .slice Am m.length cm] U fun e w' => ∃ u, e = .returned u ∧ RBox tn ep nn (boxL (keyE ep) nn tn ep m) U.heap.size u w' ∧ Below U.heap.size U w' from
                  rseal16_c (keyE ep) nn tn ep Am cm m U (keyE_len ep) (keyE_lt (by omega)) HGO.out.nl HGO.out.nb htz (by omega) ((Rd.below (show Rd wc wc.heap.size Am (pcs _) from hr6) hb).more hb.size) (by have := HML.out; omega) HMK.out HCK.out)
                have HBI := Lib.hid (show bxS gs es i = ⟨tn, ep, nn, boxL (keyE ep) nn tn ep m⟩ by unfold bxS; rw [HTNE.out, HEP.out, HNN.out, HM.out])
                have HBO := Lib.hid (show BoOk ⟨tn, ep, nn, boxL (keyE ep) nn tn ep m⟩ from ⟨HGO.out.nl, HGO.out.nb, boxL_lt5 _ _ _ _ _ HCK.out, by show ep < 4294967296; omega⟩)
                have HUL := Lib.hid (show us.length ≤ 1048576 by rw [HL6.out.bv.len, bxsS_len]; have := HGL.out; have := HLT.out; omega)
                have HNG1 := Lib.hid (show ∀ j, j < i + 1 → OkS gs es j from fun j hj => by
                  rcases Nat.lt_or_ge j i with h | h
                  · exact HNG.out j h
                  · obtain rfl : j = i := by omega
                    exact HOKI.out)
                clear hL6 hx6 hr6 hs6 hnm htz HL HLY HX1 HRY HRMM HC2 HC2E c4
                generalize boxL (keyE ep) nn tn ep m = bd at *
                go_upto_region 17 with fail
                refine wp_region_loudTail 9 wc [73, 74] (fun kk u W => if kk = 73 then RBox tn ep nn bd wc.heap.size u W else BxNewS tn ep nn bd wc.heap.size u W) (by kernel_rfl) (by kernel_rfl) (by kernel_rfl) (by exact idle2S HTK.out.1 HTK.out.2) (fun kk u w1 w2 h hb => by
                  by_cases h33 : kk = 73
                  · rw [if_pos h33] at h ⊢; exact h.next hb
                  · rw [if_neg h33] at h ⊢; exact h.next hb) (Below.refl _ _).drew ?_
                simp only [List.take_succ_cons, List.take_zero, List.drop_succ_cons, List.drop_zero]
                repeat (first
                  | (refine wpLoud_call 68 rfl [] (.agg (vb (keyE ep))) 13 (fun g' => #[.int .u32 (ep : Int)]) rfl (fun _ _ h => by cases h) rfl (fun g' w => by kernel_rfl) (fun g' y hg => by
                      refine (HKC.out y.wd).mono ?_
                      rintro e w' ⟨rfl, hb⟩
                      exact ⟨_, rfl, hb, rfl⟩) _ (by simp only [Act.put, List.setIfInBounds_toArray, List.set_cons_succ, List.set_cons_zero]; rfl) ?_)
                  | (refine wpLoud_call 73 rfl [] tok 16 (fun g' => #[.agg (vb (keyE ep)), .agg (vb nn), .string tn, .int .u32 (ep : Int), .slice Am m.length cm]) rfl (fun _ _ h => by cases h) rfl (fun g' w => by kernel_rfl) (fun g' y hg => by
                      refine (HSE.out y.wd y.bel).mono ?_
                      rintro e w' ⟨u, rfl, ⟨A5, c5, e5, ho⟩, hb⟩
                      exact ⟨u, rfl, hb, ⟨A5, c5, e5, own_base_le ho y.bel.size⟩⟩) _ (by simp only [Act.put, List.setIfInBounds_toArray, List.set_cons_succ, List.set_cons_zero]; rfl) ?_)
                  | (refine wpLoud_makeG 74 rfl rfl [73] rfl (fun _ _ h => by cases h) rfl (fun g' x h => by
                      obtain ⟨A5, c5, e5, ho⟩ : RBox tn ep nn bd wc.heap.size (g' 73) x.wd := h 73 (by simp)
                      exact ⟨_, _, run_oneG Tryz.underlying24 hib hb0 hb1x (by decide) (by decide) x.wd (bxV tn ep nn A5 bd.length c5) (bxV_sizeS _ _ _ _ _ _ HGO.out.nl) (.tmp 73) rfl e5, (Below.refl _ _).alloc (Nat.le_refl _) _, ⟨A5, c5, x.wd.heap.size, rfl, Blk.new _ _ _, (by simp), ho.next ((Below.refl _ _).alloc (Nat.le_refl _) _)⟩⟩) _ (by simp only [Act.put, List.setIfInBounds_toArray, List.set_cons_succ, List.set_cons_zero]; rfl) ?_)
                  | (refine wpLoud_plain rfl rfl rfl ?_; intro K hK; refine quiet_loadA 57 (.tmp 12) rfl ⟨g12, 0, none⟩ rfl (byt nn) _ HNA.out Tryz.underlying57 rfl HNL.out _ (by simp only [Act.put, List.setIfInBounds_toArray, List.set_cons_succ, List.set_cons_zero]; rfl) ?_; go_big_quiet_on)
                  | (refine wpLoud_plain rfl rfl rfl ?_; intro K hK; go_big_quiet_op; go_big_quiet_on))
                refine wpLoud_end [73, 74] (by rfl) ?_
                intro gg z hg
                have h1 : BxNewS tn ep nn bd wc.heap.size (gg 74) z.wd := hg 74 (by simp)
                have h75 : RBox tn ep nn bd wc.heap.size (gg 73) z.wd := hg 73 (by simp)
                have hz := z.bel
                generalize z.wd = W7 at *
                simp only [fill, Act.put, List.setIfInBounds_toArray, List.set_cons_succ, List.set_cons_zero]
                obtain ⟨Ay, cy, e75, _⟩ := h75
                have htk75 : isTok (gg 73) = false := by rw [e75]; rfl
                have HTK7 := Lib.hid (show isTok (gg 73) = false ∧ isTok (gg 74) = false from ⟨htk75, by obtain ⟨_, _, _, e76, _⟩ := h1; rw [e76]; rfl⟩)
                generalize gg 73 = v75 at *
                generalize gg 74 = v76 at *
                obtain ⟨Ab, cb2, b1, rfl, hbk, hb1, hob⟩ := h1
                have HL7 := Lib.hid (HL6.out.next hz)
                have hap0 : ∀ ad, Ab = some ad → byt bd ≠ [] → some ad.block ≠ u7.ownBlock ∧ some ad.block ≠ u8.ownBlock := by
                  intro ad1 ea _
                  have h2 := own_new hob rfl ad1 ea
                  refine ⟨fun h => ?_, fun h => ?_⟩
                  · have := own_lt HL6.out.lo _ h.symm
                    omega
                  · have := own_lt HL6.out.go _ h.symm
                    omega
                have HAP := Lib.hid hap0
                obtain ⟨A9, c9, e9, hc9, _, r9⟩ := hob.rd
                injection e9 with e9a _ e9c
                subst e9a e9c
                have HR9 := Lib.hid r9
                have HC9 := Lib.hid hc9
                have HRB := Lib.hid (show Rd W7 (b1 + 1) (some ⟨b1, 0, none⟩) (bxL tn ep nn Ab bd.length cb2) from fun _ => ⟨_, rfl, Nat.lt_succ_self _, atA_blk hbk⟩)
                clear hg hbk hb1 hob hz e75 htk75 r9 hc9 HSE HNA HKC HL6 hap0
                refine wpList_app _ rfl (.tmp 66) (.tmp 74) _ rfl w.heap.size 61 ib (.agg zBx) 15 56 Tryz.underlying24 hib hb0 hb1x hb2x rfl (by decide) u7 us.length us.flatten rfl HL7.out.lo (b1 + 1) (some ⟨b1, 0, none⟩) 1 1 (bxL tn ep nn Ab bd.length cb2) rfl (by rw [bxL_len _ _ _ _ _ HGO.out.nl]) HRB.out (bx_oneCell _ _ _ _ _ _) (by have := HUL.out; omega) (by have := HUL.out; omega) HL7.out.bel.size ?_
                intro v9 W9 hap
                have HL9 := Lib.hid (OpG.box (b := ⟨tn, ep, nn, bd⟩) HL7.out hap HC9.out HR9.out HAP.out HBO.out)
                clear hap HL7 HR9 HC9 HAP HRB
                simp only [Act.put, List.setIfInBounds_toArray, List.set_cons_succ, List.set_cons_zero]
                go_wp2_with fail
                go_roundw
                case rel => exact ⟨HTK7.out, i + 1, HLT.out, by go_num, ⟨_, vs', by rw [bxsS_succ, HBI.out]; exact HL9.out⟩, HNG1.out⟩
                case measure => have := HLT.out; simp [intOf]; omega
    · obtain rfl : i = gs.length := by omega
      have r1 : ¬ (gs.length : Int) < (gs.length : Int) := by omega
      obtain ⟨Ax, cx, rfl, hcx, _, hrx⟩ := hL.lo.rd hL.bv.bv
      obtain ⟨Ag, cg, rfl, hcg, _, hrg⟩ := hL.go.rd hL.gq
      rw [bxsS_len]
      have HRX := Lib.hid hrx
      have HRG := Lib.hid hrg
      have HPB := Lib.hid hL.bel
      have HNG := Lib.hid hng
      clear hL hng hlt hil hrx hrg hcx hcg
      go_wp2_with fail
      refine bodyPost_ret (results_tmp3 rfl _ _ _) rfl ?_
      exact ⟨.inr ⟨HNG.out, Ax, cx, Ag, cg, rfl, HRX.out, HRG.out⟩, HPB.out⟩
end Go.Proofs.YtfnhmnbcponkfaaGreatDoor
namespace Go.Proofs.YtfnhmnbcponkfaaGreatDoor
open Go.RowKit
set_option maxHeartbeats 8000000 in
theorem read29_c (A : Option Addr) (cap : Nat) (bs : List Bxo) (t : ByteArray) (kb n : Nat) (kf : Nat → Option (List Nat)) (w : World) (hr : RdX w A bs) (hl : bs.length ≤ 10000000) (hol : (ofT t bs).length ≤ 1000) (hbl : ∀ b ∈ bs, b.body.length ≤ 100000) (hkm : KeysAt w kb n (kmV kf)) (hok : ∀ b ∈ ofT t bs, OpOk kf b) (hq : QuartersAt w) :
    Calls Tryz.prog 18 #[.map (some kb), .slice A bs.length cap, .string t] w (OpenD kf (ofT t bs) w) := by
  have HOF := Lib.hid (of29_c A cap bs t w hr hl hbl)
  have HOP := Lib.hid (fun W (hb : Below w.heap.size w W) Ax cx (h : RdX W Ax (ofT t bs)) => bopen_c Ax cx (ofT t bs) kb n kf W h hol (hkm.next hb) hok (hq.next hb))
  clear hr hl hbl hkm hok hq hol
  generalize ofT t bs = os at *
  go_enter Tryz.func18, Tryz.ntmps18
  go_upto_region 1 with fail
  go_wp2_with (first
    | (go_at_call 20; (with_reducible refine HOF.out.mono ?_); rintro e W1 ⟨Ax, cx, rfl, _, hrx, hb⟩; have HO1 := Lib.hid (HOP.out W1 hb Ax cx hrx); have HB1 := Lib.hid hb; clear hb hrx)
    | (go_at_call 22; (with_reducible refine HO1.out.mono ?_); rintro e W2 ⟨h, hb⟩; rcases h with ⟨hx, rfl⟩ | ⟨hx, v, rfl, ho⟩))
  · refine bodyPost_ret (results_tmp2 rfl _ _ _) rfl ?_
    exact ⟨.inl ⟨hx, rfl⟩, HB1.out.trans (hb.mono HB1.out.size)⟩
  · refine bodyPost_ret (results_tmp2 rfl _ _ _) rfl ?_
    exact ⟨.inr ⟨hx, v, rfl, own_base_le ho HB1.out.size⟩, HB1.out.trans (hb.mono HB1.out.size)⟩
end Go.Proofs.YtfnhmnbcponkfaaGreatDoor
namespace Go.Proofs.YtfnhmnbcponkfaaGreatDoor
open Go.RowKit
theorem own_zeroN (w : World) (base : Nat) (h : base ≤ w.heap.size) : (w.alloc (.cells #[] 57)).ownsRow base 57 12 (.slice (some ⟨w.heap.size, 0, none⟩) 0 0) 0 [] :=
  ⟨rfl, .inr ⟨w.heap.size, 0, #[], rfl, h, Blk.new w _ _, Nat.le_refl _, by decide, rfl, rfl⟩⟩
set_option maxHeartbeats 400000 in
theorem cloneN_c (B : Nat) (A : Option Addr) (ca : Nat) (ns : List (List Nat)) (w : World) (hr : RdN w B A ns) (hl : ∀ x ∈ ns, x.length = 12) (h1 : ns.length ≤ 10000000) :
    Calls Tryz.prog 27 #[.slice A ns.length ca] w fun e w' => ∃ v, e = .returned v ∧ OwnN w' w.heap.size v ns ∧ Below w.heap.size w w' := by
  obtain ⟨i0, hi, hz0, hz1, hz2⟩ := parts_of nonceInfo
  have HR := Lib.hid hr
  have HLN := Lib.hid (nnC_len ns hl)
  have HON := Lib.hid (nnC_one ns)
  clear hr
  cases A with
  | none =>
    have hq := fun (W : World) (n c : Nat) => Lib.run_eql_slice_nil (P := Tryz.prog) W 30 57 none n c 0 0 Tryz.underlying30
    simp only [Option.isNone_none] at hq
    obtain rfl : ns = [] := by
      have h0 := (show Rd w B none (nnC ns) from HR.out).none_nil
      have := HLN.out
      rw [h0, List.length_nil] at this
      exact List.eq_nil_of_length_eq_zero (by omega)
    go_enter Tryz.func27, Tryz.ntmps27
    go_wp2
    go_ret
    exact ⟨_, rfl, OwnN.nil_ _ _, Below.refl _ _⟩
  | some ad =>
    have hq := fun (W : World) (n c : Nat) => Lib.run_eql_slice_nil (P := Tryz.prog) W 30 57 (some ad) n c 0 0 Tryz.underlying30
    simp only [Option.isNone_some] at hq
    have hb : Below w.heap.size w (w.alloc (.cells #[] 57)) := (Below.refl _ _).alloc (Nat.le_refl _) _
    have HB := Lib.hid hb
    have HRD := Lib.hid (Rd.ext (show Rd w B (some ad) (nnC ns) from HR.out) hb)
    clear hb
    go_enter Tryz.func27, Tryz.ntmps27
    go_wp2_with (at_builtin; refine wpList_app _ rfl (.tmp 5) (.tmp 6) _ rfl w.heap.size 57 i0 (.agg (vb n12z)) 12 12 Tryz.underlying30 hi hz0 hz1 hz2 rfl (by decide) _ 0 [] rfl (by exact own_zeroN w _ (Nat.le_refl _)) B (some ad) ns.length ca (nnC ns) rfl HLN.out HRD.out HON.out (by omega) (by omega) (by simp) ?_; intro v1 w1 hap)
    go_ret
    refine ⟨v1, rfl, ?_, HB.out.trans (hap.below (own_zeroN w _ (Nat.le_refl _)) (by simp))⟩
    have := hap.own
    unfold OwnN
    simpa using this
def chL (kind : Int) (gone bx : Value) : List Value := [.int .i64 kind, .int .u64 0, .int .i64 0, .int .u64 0] ++ byt z32 ++ [.int .i64 0, .int .u64 0, .int .i64 0, .int .u64 0, .slice none 0 0, .slice none 0 0, gone, bx, .string ByteArray.empty]
def chV (kind : Int) (gone bx : Value) : Array Value := (chL kind gone bx).toArray
def zCh : Array Value := chV 0 (.slice none 0 0) (.slice none 0 0)
theorem zero_ch (w : World) : (zeroValue 52).run Tryz.prog w = .ok (.agg zCh) w := by kernel_rfl
theorem chSz (kind : Int) (gone bx : Value) : (Tryz.prog.info? 52).map (·.size) = some (chV kind gone bx).size := by
  rw [show (chV kind gone bx).size = 45 by rfl]
  kernel_rfl
theorem built_ch (An : Option Addr) (n c : Nat) : Tryz.prog.built 52 [(0, .int .i64 5), (5, .slice An n c)] = some (chV 5 (.slice An n c) (.slice none 0 0)) := by kernel_rfl
theorem built_ch0 : Tryz.prog.built 52 [] = some zCh := by kernel_rfl
theorem ch_all (kind : Int) (An : Option Addr) (n c : Nat) (Ab : Option Addr) (m d : Nat) : (chV kind (.slice An n c) (.slice Ab m d)).all (·.oneCell') = true := by
  unfold chV
  rw [List.all_toArray, List.all_eq_true]
  intro u hu
  unfold chL at hu
  rcases List.mem_append.1 hu with h | h
  · rcases List.mem_append.1 h with h | h
    · simp at h
      rcases h with rfl | rfl | rfl | rfl <;> rfl
    · exact byt_one _ u h
  · simp at h
    rcases h with rfl | rfl | rfl | rfl | rfl | rfl | rfl | rfl | rfl <;> rfl
structure Cbx (w W : World) (gv pv : Value) (k nn : List Nat) : Prop where
  bel : Below w.heap.size w W
  wA : Blk W w.heap.size 33 #[gv, pv]
  kA : Blk W (w.heap.size + 1) 45 (vb k)
  nA : Blk W (w.heap.size + 1 + 1) 57 (vb nn)
  rA : Blk W (w.heap.size + 1 + 1 + 1) 52 zCh
  sz : w.heap.size + 1 + 1 + 1 + 1 ≤ W.heap.size
theorem Cbx.next {w W W' : World} {gv pv : Value} {k nn : List Nat} (h : Cbx w W gv pv k nn) (hb : Below (w.heap.size + 1 + 1 + 1 + 1) W W') : Cbx w W' gv pv k nn :=
  ⟨h.bel.trans (hb.mono (by omega)), h.wA.below hb (by omega), h.kA.below hb (by omega), h.nA.below hb (by omega), h.rA.below hb (by omega), Nat.le_trans h.sz hb.size⟩
theorem Cbx.begin (w : World) (gv pv : Value) (k nn : List Nat) : Cbx w ((((w.alloc (Obj.cells #[gv, pv] 33)).alloc (Obj.cells (vb k) 45)).alloc (Obj.cells (vb nn) 57)).alloc (Obj.cells zCh 52)) gv pv k nn := by
  obtain ⟨W1, h1⟩ : ∃ W1, W1 = w.alloc (Obj.cells #[gv, pv] 33) := ⟨_, rfl⟩
  obtain ⟨W2, h2⟩ : ∃ W2, W2 = W1.alloc (Obj.cells (vb k) 45) := ⟨_, rfl⟩
  obtain ⟨W3, h3⟩ : ∃ W3, W3 = W2.alloc (Obj.cells (vb nn) 57) := ⟨_, rfl⟩
  obtain ⟨W4, h4⟩ : ∃ W4, W4 = W3.alloc (Obj.cells zCh 52) := ⟨_, rfl⟩
  rw [← h1, ← h2, ← h3, ← h4]
  have s1 : W1.heap.size = w.heap.size + 1 := by rw [h1]; simp
  have s2 : W2.heap.size = w.heap.size + 1 + 1 := by rw [h2, ← s1]; simp
  have s3 : W3.heap.size = w.heap.size + 1 + 1 + 1 := by rw [h3, ← s2]; simp
  have s4 : W4.heap.size = w.heap.size + 1 + 1 + 1 + 1 := by rw [h4, ← s3]; simp
  have q1 : Blk W1 w.heap.size 33 #[gv, pv] := by rw [h1]; exact Blk.new _ _ _
  have q2 : Blk W2 W1.heap.size 45 (vb k) := by rw [h2]; exact Blk.new _ _ _
  have q3 : Blk W3 W2.heap.size 57 (vb nn) := by rw [h3]; exact Blk.new _ _ _
  have q4 : Blk W4 W3.heap.size 52 zCh := by rw [h4]; exact Blk.new _ _ _
  have b01 : Below w.heap.size w W1 := by rw [h1]; exact (Below.refl _ _).alloc (Nat.le_refl _) _
  have b12 : Below W1.heap.size W1 W2 := by rw [h2]; exact (Below.refl _ _).alloc (Nat.le_refl _) _
  have b23 : Below W2.heap.size W2 W3 := by rw [h3]; exact (Below.refl _ _).alloc (Nat.le_refl _) _
  have b34 : Below W3.heap.size W3 W4 := by rw [h4]; exact (Below.refl _ _).alloc (Nat.le_refl _) _
  clear h1 h2 h3 h4
  refine ⟨((b01.trans (b12.mono (by omega))).trans (b23.mono (by omega))).trans (b34.mono (by omega)), ((q1.below b12 (by omega)).below b23 (by omega)).below b34 (by omega), ?_, ?_, ?_, by omega⟩
  · rw [← s1]; exact (q2.below b23 (by omega)).below b34 (by omega)
  · rw [← s2]; exact q3.below b34 (by omega)
  · rw [← s3]; exact q4
theorem rdx_one {W : World} {b base : Nat} {x : Bxo} {Ab : Option Addr} {cb : Nat} (h : Blk W b 61 (bxV x.t x.ep x.nn Ab x.body.length cb)) (ho : OwnB W base (.slice Ab x.body.length cb) x.body) (hok : BoOk x) : RdX W (some ⟨b, 0, none⟩) [x] := by
  obtain ⟨A9, c9, e9, hc9, _, r9⟩ := ho.rd
  injection e9 with e9a _ e9c
  subst e9a e9c
  refine ⟨[bxL x.t x.ep x.nn Ab x.body.length cb], ?_, fun _ => ⟨_, rfl, h.lt, ?_⟩⟩
  · exact BsV.snoc (BsV.nil_ W) (u := bxL x.t x.ep x.nn Ab x.body.length cb) (b := x) ⟨Ab, cb, rfl, hc9, r9⟩ hok
  · rw [show [bxL x.t x.ep x.nn Ab x.body.length cb].flatten = bxL x.t x.ep x.nn Ab x.body.length cb by simp]
    exact atA_blk h
def ChD (ns : List (List Nat)) (l : List Pc) (k nn : List Nat) (t : ByteArray) (ep : Nat) (w : World) (e : Ending) (w' : World) : Prop :=
  ∃ g' cg', OwnN w' w.heap.size (.slice g' ns.length cg') ns ∧ Below w.heap.size w w' ∧
    ((l.length = 0 ∧ e = .returned (.tuple #[.agg (chV 5 (.slice g' ns.length cg') (.slice none 0 0)), .int .i64 0])) ∨
     (0 < l.length ∧ sealE t l ≠ 0 ∧ e = .returned (.tuple #[.agg zCh, .int .i64 (sealE t l : Nat)])) ∨
     (0 < l.length ∧ sealE t l = 0 ∧ ∃ b, e = .returned (.tuple #[.agg (chV 5 (.slice g' ns.length cg') (.slice (some ⟨b, 0, none⟩) 1 1)), .int .i64 0]) ∧ ∃ Ab cb, Blk w' b 61 (bxV t ep nn Ab (boxL k nn t ep l).length cb) ∧ w.heap.size ≤ b ∧ OwnB w' w.heap.size (.slice Ab (boxL k nn t ep l).length cb) (boxL k nn t ep l)))
theorem own_offN {W W' : World} {base b : Nat} {v : Value} {ns : List (List Nat)} (h : OwnN W base v ns) (ho : Only (fun i => i = b) W W') (hn : v.ownBlock ≠ some b) : OwnN W' base v ns :=
  own_keep (S := fun i => i = b) h ho (fun g e hg => hn (by rw [e, hg]))
set_option maxHeartbeats 32000000 in
theorem change29_c (ns : List (List Nat)) (Ag : Option Addr) (cg : Nat) (l : List Pc) (Ap : Option Addr) (cp : Nat) (k nn : List Nat) (t : ByteArray) (ep : Nat) (w : World) (hns : RdN w w.heap.size Ag ns) (hnl : ∀ x ∈ ns, x.length = 12) (hn1 : ns.length ≤ 1000) (hr : RdP w w.heap.size Ap l) (hc : l.length ≤ cp) (hl : l.length ≤ 1000) (hok : ∀ p ∈ l, PcOk p ∧ p.s.size ≤ 1000000) (hk : k.length = 32) (hkb : ∀ c ∈ k, c < 256) (hnn : nn.length = 12) (hnb : ∀ c ∈ nn, c < 256) (ht : t.size ≤ 1000) (he : ep < 4294967296) (hq : QuartersAt w) :
    Calls Tryz.prog 12 #[.agg #[.slice Ag ns.length cg, .slice Ap l.length cp], .agg (vb k), .agg (vb nn), .string t, .int .u32 (ep : Nat)] w (ChD ns l k nn t ep w) := by
  have zf := zero_ch
  have zs1 : zCh.size = 45 := by rfl
  have zs2 : ¬ zCh = #[] := by intro h; have := congrArg Array.size h; rw [zs1] at this; cases this
  have zf2 := zero_bx
  have zs3 : zBx.size = 15 := by rfl
  have zs4 : ¬ zBx = #[] := by intro h; have := congrArg Array.size h; rw [zs3] at this; cases this
  have HB := Lib.hid (Cbx.begin w (.slice Ag ns.length cg) (.slice Ap l.length cp) k nn)
  have HNS := Lib.hid hns
  have HNL := Lib.hid hnl
  have HR := Lib.hid hr
  have HKS := Lib.hid (keySz hk)
  have HNSZ := Lib.hid (nnSz hnn)
  have HNN := Lib.hid hnn
  have HSEC := Lib.hid (show ∀ W, Below w.heap.size w W → ∃ (T' : ByteArray) (ep' : Nat) (nn' bd' : List Nat), nn'.length = 12 ∧ (sealE t l = 0 → T' = t ∧ ep' = ep ∧ nn' = nn ∧ bd' = boxL k nn t ep l) ∧ Calls Tryz.prog 28 #[.agg (vb k), .agg (vb nn), .string t, .int .u32 (ep : Int), .slice Ap l.length cp] W (BoxR T' ep' nn' bd' (sealE t l) W) from fun W hb => by
    have hrW : RdP W W.heap.size Ap l := (Rd.below (show Rd w w.heap.size Ap (pcs _) from hr) hb).more hb.size
    by_cases h0 : sealE t l = 0
    · have hnm : nameB t = true := by
        cases hn0 : nameB t with
        | true => rfl
        | false => unfold sealE at h0; rw [hn0] at h0; cases h0
      have hck : chkL l = 0 := by unfold sealE at h0; rw [hnm] at h0; exact h0
      rw [h0]
      exact ⟨t, ep, nn, boxL k nn t ep l, hnn, fun _ => ⟨rfl, rfl, rfl, rfl⟩, sealYes_c k nn t ep Ap cp l W hk hkb hnn hnb (by omega) he hrW hc (by omega) hok hnm hck (hq.next hb)⟩
    · exact ⟨ByteArray.empty, 0, n12z, [], rfl, fun h => absurd h h0, sealNo_c k nn t ep Ap cp l W hk hkb hnn hnb (by omega) he hrW hc (by omega) hok h0⟩)
  clear hns hnl hr hc hok hk hkb hnn hnb ht he hq
  go_enter Tryz.func12, Tryz.ntmps12
  go_upto_region 1 with (first
    | (refine Go.Great.wpList_boxTo rfl 33 (.tmp 0) rfl (some 5) rfl w.heap.size rfl #[.slice Ag ns.length cg, .slice Ap l.length cp] rfl ?_)
    | (refine Go.Great.wpList_boxTo rfl 45 (.tmp 1) rfl (some 6) rfl (w.heap.size + 1) (by simp) (vb k) rfl ?_)
    | (refine Go.Great.wpList_boxTo rfl 57 (.tmp 2) rfl (some 7) rfl (w.heap.size + 1 + 1) (by simp) (vb nn) rfl ?_))
  generalize (((w.alloc (Obj.cells #[Value.slice Ag ns.length cg, Value.slice Ap l.length cp] 33)).alloc (Obj.cells (vb k) 45)).alloc (Obj.cells (vb nn) 57)).alloc (Obj.cells zCh 52) = Z at *
  have c0 : Z.cell? ⟨w.heap.size, 0, none⟩ = some (.slice Ag ns.length cg) := (HB.out.wA.cell 0).trans rfl
  have HCL := Lib.hid (cloneN_c w.heap.size Ag cg ns Z (Rd.below (show Rd w w.heap.size Ag (nnC _) from HNS.out) HB.out.bel) HNL.out (by omega))
  go_upto_region 2 with (first
    | (go_at_call 27; (with_reducible refine HCL.out.mono ?_); rintro e W1 ⟨v, rfl, ho, hb⟩; obtain ⟨g', cg', rfl, _, _, _⟩ := ho.rd; have HO1 := Lib.hid ho; have HB1 := Lib.hid (HB.out.next (hb.mono HB.out.sz)); have HS1 := Lib.hid hb.size; clear ho hb)
    | (refine wpList_valG (by kernel_rfl) (.agg (chV 5 (.slice g' ns.length cg') (.slice none 0 0))) (by exact run_built _ 52 [(0, .int .i64 5), (5, .slice g' ns.length cg')] _ (built_ch g' ns.length cg') #[(0, .const (.int .i64 5)), (5, .tmp 17)] rfl (by kernel_rfl)) ?_)
    | (refine wpList_store_rowTo rfl 52 (.tmp 12) (.tmp 18) rfl rfl W1.heap.size (chV 5 (.slice g' ns.length cg') (.slice none 0 0)) rfl rfl 52 zCh (by exact heap_alloc_new _ _) (chSz ..) rfl (ch_all ..) ?_))
  obtain ⟨Y, hY⟩ : ∃ Y, Y = (W1.alloc (Obj.cells zCh 52)).setRow W1.heap.size (chV 5 (.slice g' ns.length cg') (.slice none 0 0)) := ⟨_, rfl⟩
  have hnr := new_rowP W1 52 zCh (chV 5 (.slice g' ns.length cg') (.slice none 0 0))
  rw [← hY] at hnr ⊢
  have HY := Lib.hid (HB1.out.next (hnr.2.mono HB1.out.sz))
  have HX := Lib.hid hnr.1
  have HOY := Lib.hid (HO1.out.next hnr.2)
  have HGG := Lib.hid (show w.heap.size + 1 + 1 + 1 + 1 ≤ W1.heap.size ∧ W1.heap.size < Y.heap.size ∧ ∀ b, (Value.slice g' ns.length cg').ownBlock = some b → w.heap.size + 1 + 1 + 1 + 1 ≤ b ∧ b < W1.heap.size from ⟨HB1.out.sz, hnr.1.lt, fun b e => ⟨Nat.le_trans HB.out.sz (own_base HO1.out b e), own_lt HO1.out b e⟩⟩)
  have c1 : Y.cell? ⟨w.heap.size, 1, none⟩ = some (.slice Ap l.length cp) := (HY.out.wA.cell 1).trans rfl
  have HZS := Lib.hid HB.out.sz
  clear hnr hY c0 HCL HO1 HB1 HB
  obtain ⟨g12, hg12⟩ : ∃ g, g = W1.heap.size := ⟨_, rfl⟩
  rw [← hg12] at HX HGG ⊢
  clear hg12 HS1
  by_cases h0 : l.length = 0
  · have q1 : (l.length : Int) = 0 := by omega
    have HL0 := Lib.hid h0
    clear h0
    go_wp2_with (first
      | (refine wpList_load_row rfl 52 (.tmp 12) rfl g12 rfl 52 (chV 5 (.slice g' ns.length cg') (.slice none 0 0)) (0, 0) _ HX.out Tryz.underlying52 rfl (chSz ..) ?_)
      | (refine wpList_store_rowTo rfl 52 (.tmp 10) (.tmp 23) rfl rfl (w.heap.size + 1 + 1 + 1) (chV 5 (.slice g' ns.length cg') (.slice none 0 0)) rfl rfl 52 zCh HY.out.rA (chSz ..) rfl (ch_all ..) ?_))
    refine bodyPost_ret (results_row_tmp rfl _ _ (w.heap.size + 1 + 1 + 1) 52 (chV 5 (.slice g' ns.length cg') (.slice none 0 0)) (0, 0) _ rfl (setRow_heap _ _ zCh _ 52 (0, 0) HY.out.rA) Tryz.underlying52 rfl (chSz ..)) rfl ?_
    exact ⟨g', cg', own_base_le (own_offN HOY.out (setRow_only _ _ _) (fun e => by have := (HGG.out.2.2 _ e).1; omega)) (by have := HZS.out; omega), HY.out.bel.trans (below_setRowP _ _ _ (by omega)), .inl ⟨HL0.out, rfl⟩⟩
  · have q1 : ¬ (l.length : Int) = 0 := by omega
    have HL0 := Lib.hid (show 0 < l.length by omega)
    obtain ⟨T', ep', nn', bd', hn', hT', hcs⟩ := HSEC.out Y HY.out.bel
    have HCS := Lib.hid hcs
    have HTT := Lib.hid hT'
    have HSZ := Lib.hid (fun A n c => bxSz T' ep' (nn := nn') A n c hn')
    have HZB := Lib.hid (fun A n c => show zBx.size = (bxV T' ep' nn' A n c).size by rw [zBx_size]; unfold bxV; rw [List.size_toArray, bxL_len T' ep' A n c hn'])
    obtain ⟨E, hE⟩ : ∃ E, E = sealE t l := ⟨_, rfl⟩
    rw [← hE] at HCS HTT
    have HE := Lib.hid hE
    clear hcs hT' hE h0 HSEC
    go_upto_region 5 with (first
      | (refine wpList_load_row rfl 45 (.tmp 6) rfl (w.heap.size + 1) rfl 45 (vb k) (0, 0) _ HY.out.kA Tryz.underlying45 rfl HKS.out ?_)
      | (refine wpList_load_row rfl 57 (.tmp 7) rfl (w.heap.size + 1 + 1) rfl 57 (vb nn) (0, 0) _ HY.out.nA Tryz.underlying57 rfl HNSZ.out ?_)
      | (go_at_call 28; (with_reducible refine HCS.out.mono ?_); rintro e W2 ⟨Ab, cb, rfl, hob, hb⟩; have HB2 := Lib.hid hb; have HO2 := Lib.hid hob; clear hob hb)
      | (refine wpList_store_rowTo rfl 61 (.tmp 13) (.tmp 32) rfl rfl W2.heap.size (bxV T' ep' nn' Ab bd'.length cb) rfl rfl 61 zBx (by exact heap_alloc_new _ _) (HSZ.out ..) (HZB.out ..) (bx_all _ _ _ _ _ _) ?_))
    obtain ⟨Y2, hY2⟩ : ∃ Y2, Y2 = (W2.alloc (Obj.cells zBx 61)).setRow W2.heap.size (bxV T' ep' nn' Ab bd'.length cb) := ⟨_, rfl⟩
    have hnr := new_rowP W2 61 zBx (bxV T' ep' nn' Ab bd'.length cb)
    rw [← hY2] at hnr ⊢
    have hyy : Below Y.heap.size Y Y2 := HB2.out.trans (hnr.2.mono HB2.out.size)
    have HY2 := Lib.hid (HY.out.next (hyy.mono HY.out.sz))
    have HX2 := Lib.hid (HX.out.below hyy HGG.out.2.1)
    have HOY2 := Lib.hid (HOY.out.next hyy)
    have HOB2 := Lib.hid (HO2.out.next hnr.2)
    have HXB := Lib.hid hnr.1
    have HYS := Lib.hid hyy.size
    clear hnr hY2 hyy HO2 HB2 c1
    obtain ⟨g13, hg13⟩ : ∃ g, g = W2.heap.size := ⟨_, rfl⟩
    rw [← hg13] at HXB ⊢
    clear hg13
    by_cases hE0 : E = 0
    · subst hE0
      obtain ⟨rT, rE, rN, rB⟩ := HTT.out rfl
      have HRR := Lib.hid (And.intro rT (And.intro rE (And.intro rN rB)))
      clear rT rE rN rB
      have HSV := Lib.hid (show ∀ A n c, (bxV T' ep' nn' A n c).size = 15 from fun A n c => by rw [← HZB.out A n c]; rfl)
      obtain ⟨ib, hib, hb0, hb1x, hb2x⟩ := parts_of boxInfo
      go_upto_region 8 with (first
        | (refine wpList_load_row rfl 61 (.tmp 13) rfl g13 rfl 61 (bxV T' ep' nn' Ab bd'.length cb) (0, 0) _ HXB.out Tryz.underlying61 rfl (HSZ.out ..) ?_)
        | (refine wpList_valM rfl _ _ (run_oneG Tryz.underlying24 hib hb0 hb1x (by decide) (by decide) Y2 (bxV T' ep' nn' Ab bd'.length cb) (HSV.out ..) (.tmp 38) rfl rfl) ?_
           obtain ⟨W3, hW3⟩ : ∃ W3, W3 = Y2.alloc (Obj.cells (bxV T' ep' nn' Ab bd'.length cb) 61) := ⟨_, rfl⟩
           rw [← hW3]
           have h23 : Below Y2.heap.size Y2 W3 := by rw [hW3]; exact (Below.refl _ _).alloc (Nat.le_refl _) _
           have HXN := Lib.hid (show Blk W3 Y2.heap.size 61 (bxV T' ep' nn' Ab bd'.length cb) by rw [hW3]; exact Blk.new _ _ _)
           have HX3 := Lib.hid (HX2.out.below h23 (Nat.lt_of_lt_of_le HGG.out.2.1 HYS.out))
           have HY3 := Lib.hid (HY2.out.next (h23.mono HY2.out.sz))
           have HOY3 := Lib.hid (HOY2.out.next h23)
           have HOB3 := Lib.hid (HOB2.out.next h23)
           have hf43 : W3.frozen? ⟨g12, 43, none⟩ = false := (blk_thereS HX3.out 43 1 (by show 43 + 1 ≤ 45; decide) 0 (by decide)).2
           have d43 : W3.cell? ⟨g12, 43, none⟩ = some (.slice none 0 0) := (HX3.out.cell 43).trans rfl
           clear h23 hW3))
      obtain ⟨b3, hb3⟩ : ∃ b3, b3 = Y2.heap.size := ⟨_, rfl⟩
      rw [← hb3] at HXN ⊢
      have HB3 := Lib.hid hb3
      clear hb3
      obtain ⟨Y4, hY4⟩ : ∃ Y4, Y4 = W3.setCell ⟨g12, 43, none⟩ (.slice (some ⟨b3, 0, none⟩) 1 1) := ⟨_, rfl⟩
      try rw [← hY4]
      have hon : Only (fun i => i = g12) W3 Y4 := by rw [hY4]; exact (Only.refl (fun i => i = g12) W3).setCell (p := ⟨g12, 43, none⟩) (fun _ => rfl) _
      have hx4 : Blk Y4 g12 52 (chV 5 (.slice g' ns.length cg') (.slice (some ⟨b3, 0, none⟩) 1 1)) := by
        rw [hY4]
        exact HX3.out.set_ 43 _
      have hy4 : Cbx w Y4 (.slice Ag ns.length cg) (.slice Ap l.length cp) k nn := by
        rw [hY4]
        exact HY3.out.next (below_setCellS _ _ _ _ HGG.out.1)
      have hxn4 : Blk Y4 b3 61 (bxV T' ep' nn' Ab bd'.length cb) := by
        have h := hon.block b3 HXN.out.lt (by have := HGG.out.2.1; have := HYS.out; have := HB3.out; omega)
        exact h.trans HXN.out
      have hoy4 : OwnN Y4 Z.heap.size (.slice g' ns.length cg') ns := own_offN HOY3.out hon (fun e => by have := (HGG.out.2.2 _ e).2; omega)
      have hob4 : OwnB Y4 Y.heap.size (.slice Ab bd'.length cb) bd' := own_off HOB3.out hon (fun e => by have := own_base HOB3.out _ e; have := HGG.out.2.1; omega)
      have HX4 := Lib.hid hx4
      have HY4 := Lib.hid hy4
      have HXN4 := Lib.hid hxn4
      have HOY4 := Lib.hid hoy4
      have HOB4 := Lib.hid hob4
      clear hY4 hon hx4 hy4 hxn4 hoy4 hob4 hf43 d43 HXN HX3 HY3 HOY3 HOB3 HX2 HY2 HOY2 HOB2 HXB
      go_wp2_with (first
        | (refine wpList_load_row rfl 52 (.tmp 12) rfl g12 rfl 52 (chV 5 (.slice g' ns.length cg') (.slice (some ⟨b3, 0, none⟩) 1 1)) (0, 0) _ HX4.out Tryz.underlying52 rfl (chSz ..) ?_)
        | (refine wpList_store_rowTo rfl 52 (.tmp 10) (.tmp 41) rfl rfl (w.heap.size + 1 + 1 + 1) (chV 5 (.slice g' ns.length cg') (.slice (some ⟨b3, 0, none⟩) 1 1)) rfl rfl 52 zCh HY4.out.rA (chSz ..) rfl (ch_all ..) ?_))
      refine bodyPost_ret (results_row_tmp rfl _ _ (w.heap.size + 1 + 1 + 1) 52 (chV 5 (.slice g' ns.length cg') (.slice (some ⟨b3, 0, none⟩) 1 1)) (0, 0) _ rfl (setRow_heap _ _ zCh _ 52 (0, 0) HY4.out.rA) Tryz.underlying52 rfl (chSz ..)) rfl ?_
      obtain ⟨R, hR⟩ : ∃ R, R = Y4.setRow (w.heap.size + 1 + 1 + 1) (chV 5 (.slice g' ns.length cg') (.slice (some ⟨b3, 0, none⟩) 1 1)) := ⟨_, rfl⟩
      rw [← hR]
      have hro : Only (fun i => i = w.heap.size + 1 + 1 + 1) Y4 R := by rw [hR]; exact setRow_only _ _ _
      have hbR : Below w.heap.size w R := by rw [hR]; exact HY4.out.bel.trans (below_setRowP _ _ _ (by omega))
      have hxr : Blk R b3 61 (bxV T' ep' nn' Ab bd'.length cb) := (hro.block b3 HXN4.out.lt (by have := HGG.out.1; have := HGG.out.2.1; have := HYS.out; have := HB3.out; omega)).trans HXN4.out
      have hor : OwnB R Y.heap.size (.slice Ab bd'.length cb) bd' := own_off HOB4.out hro (fun e => by have := own_base HOB4.out _ e; have := HGG.out.1; have := HGG.out.2.1; omega)
      obtain ⟨rT, rE, rN, rB⟩ := HRR.out
      have hbw : w.heap.size ≤ b3 := by have := HGG.out.1; have := HGG.out.2.1; have := HYS.out; have := HB3.out; omega
      have hyw : w.heap.size ≤ Y.heap.size := by have := HGG.out.1; have := HGG.out.2.1; omega
      refine ⟨g', cg', own_base_le (own_offN HOY4.out hro (fun e => by have := (HGG.out.2.2 _ e).1; omega)) (by have := HZS.out; omega), hbR, .inr (.inr ⟨HL0.out, HE.out.symm, b3, rfl, Ab, cb, ?_, hbw, ?_⟩)⟩
      · have h := hxr
        rw [rT, rE, rN, rB] at h
        exact h
      · have h := own_base_le hor hyw
        rw [rB] at h
        exact h
    · have s1 : ((E : Int) != 0) = true := by rw [bne_iff_ne]; omega
      have s2 : ¬ (E : Int) = 0 := by omega
      have HE0 := Lib.hid hE0
      clear hE0
      go_wp2_with (first
        | (refine wpList_valG (by kernel_rfl) (.agg zCh) (by exact run_built _ 52 [] _ built_ch0 #[] rfl (by kernel_rfl)) ?_)
        | (refine wpList_store_rowTo rfl 52 (.tmp 10) (.tmp 36) rfl rfl (w.heap.size + 1 + 1 + 1) zCh rfl rfl 52 zCh HY2.out.rA (chSz ..) rfl (ch_all ..) ?_))
      refine bodyPost_ret (results_row_tmp rfl _ _ (w.heap.size + 1 + 1 + 1) 52 zCh (0, 0) _ rfl (setRow_heap _ _ zCh _ 52 (0, 0) HY2.out.rA) Tryz.underlying52 rfl (chSz ..)) rfl ?_
      exact ⟨g', cg', own_base_le (own_offN HOY2.out (setRow_only _ _ _) (fun e => by have := (HGG.out.2.2 _ e).1; omega)) (by have := HZS.out; omega), HY2.out.bel.trans (below_setRowP _ _ _ (by omega)), .inr (.inl ⟨HL0.out, by rw [← HE.out]; exact HE0.out, by rw [← HE.out]; rfl⟩)⟩
end Go.Proofs.YtfnhmnbcponkfaaGreatDoor
namespace Go.Proofs.YtfnhmnbcponkfaaGreatDoor
open Go.RowKit
structure Wbx2 (w W : World) (k nn : List Nat) : Prop where
  bel : Below w.heap.size w W
  kA : Blk W w.heap.size 45 (vb k)
  nA : Blk W (w.heap.size + 1) 57 (vb nn)
  rA : Blk W (w.heap.size + 1 + 1) 52 zCh
  sz : w.heap.size + 1 + 1 + 1 ≤ W.heap.size
theorem Wbx2.next {w W W' : World} {k nn : List Nat} (h : Wbx2 w W k nn) (hb : Below (w.heap.size + 1 + 1 + 1) W W') : Wbx2 w W' k nn :=
  ⟨h.bel.trans (hb.mono (by omega)), h.kA.below hb (by omega), h.nA.below hb (by omega), h.rA.below hb (by omega), Nat.le_trans h.sz hb.size⟩
theorem Wbx2.begin (w : World) (k nn : List Nat) : Wbx2 w (((w.alloc (Obj.cells (vb k) 45)).alloc (Obj.cells (vb nn) 57)).alloc (Obj.cells zCh 52)) k nn := by
  obtain ⟨W1, h1⟩ : ∃ W1, W1 = w.alloc (Obj.cells (vb k) 45) := ⟨_, rfl⟩
  obtain ⟨W2, h2⟩ : ∃ W2, W2 = W1.alloc (Obj.cells (vb nn) 57) := ⟨_, rfl⟩
  obtain ⟨W3, h3⟩ : ∃ W3, W3 = W2.alloc (Obj.cells zCh 52) := ⟨_, rfl⟩
  rw [← h1, ← h2, ← h3]
  have s1 : W1.heap.size = w.heap.size + 1 := by rw [h1]; simp
  have s2 : W2.heap.size = w.heap.size + 1 + 1 := by rw [h2, ← s1]; simp
  have s3 : W3.heap.size = w.heap.size + 1 + 1 + 1 := by rw [h3, ← s2]; simp
  have q1 : Blk W1 w.heap.size 45 (vb k) := by rw [h1]; exact Blk.new _ _ _
  have q2 : Blk W2 W1.heap.size 57 (vb nn) := by rw [h2]; exact Blk.new _ _ _
  have q3 : Blk W3 W2.heap.size 52 zCh := by rw [h3]; exact Blk.new _ _ _
  have b01 : Below w.heap.size w W1 := by rw [h1]; exact (Below.refl _ _).alloc (Nat.le_refl _) _
  have b12 : Below W1.heap.size W1 W2 := by rw [h2]; exact (Below.refl _ _).alloc (Nat.le_refl _) _
  have b23 : Below W2.heap.size W2 W3 := by rw [h3]; exact (Below.refl _ _).alloc (Nat.le_refl _) _
  clear h1 h2 h3
  refine ⟨(b01.trans (b12.mono (by omega))).trans (b23.mono (by omega)), (q1.below b12 (by omega)).below b23 (by omega), ?_, ?_, by omega⟩
  · rw [← s1]; exact q2.below b23 (by omega)
  · rw [← s2]; exact q3
def WrD (M : List Pc) (k nn : List Nat) (t : ByteArray) (ep : Nat) (w : World) (e : Ending) (w' : World) : Prop :=
  Below w.heap.size w w' ∧
    ((M.length = 0 ∧ e = .returned (.tuple #[.agg zCh, .int .i64 1])) ∨
     (32 < M.length ∧ e = .returned (.tuple #[.agg zCh, .int .i64 3])) ∨
     (0 < M.length ∧ M.length ≤ 32 ∧ sealE t M ≠ 0 ∧ e = .returned (.tuple #[.agg zCh, .int .i64 (sealE t M : Nat)])) ∨
     (0 < M.length ∧ M.length ≤ 32 ∧ sealE t M = 0 ∧ ∃ g' cg' b, e = .returned (.tuple #[.agg (chV 5 (.slice g' 0 cg') (.slice (some ⟨b, 0, none⟩) 1 1)), .int .i64 0]) ∧ ∃ Ab cb, Blk w' b 61 (bxV t ep nn Ab (boxL k nn t ep M).length cb) ∧ w.heap.size ≤ b ∧ OwnB w' w.heap.size (.slice Ab (boxL k nn t ep M).length cb) (boxL k nn t ep M)))
set_option maxHeartbeats 32000000 in
theorem write29_c (l : List Pc) (Ap : Option Addr) (cp : Nat) (k nn : List Nat) (t : ByteArray) (ep : Nat) (w : World) (hr : RdP w w.heap.size Ap l) (hc : l.length ≤ cp) (hl : l.length ≤ 1000) (hok : ∀ p ∈ l, PcOk p ∧ p.s.size ≤ 1000000) (hk : k.length = 32) (hkb : ∀ c ∈ k, c < 256) (hnn : nn.length = 12) (hnb : ∀ c ∈ nn, c < 256) (ht : t.size ≤ 1000) (he : ep < 4294967296) (hq : QuartersAt w) :
    Calls Tryz.prog 21 #[.agg (vb k), .agg (vb nn), .string t, .int .u32 (ep : Nat), .slice Ap l.length cp] w (WrD (mergeL l) k nn t ep w) := by
  have zf := zero_ch
  have zs1 : zCh.size = 45 := by rfl
  have zs2 : ¬ zCh = #[] := by intro h; have := congrArg Array.size h; rw [zs1] at this; cases this
  have HB := Lib.hid (Wbx2.begin w k nn)
  have HKS := Lib.hid (keySz hk)
  have HNSZ := Lib.hid (nnSz hnn)
  have HR := Lib.hid hr
  have HCP := Lib.hid hc
  have hMl : (mergeL l).length ≤ 1000 := Nat.le_trans (merge_len l) hl
  have hMk : ∀ p ∈ mergeL l, PcOk p ∧ p.s.size ≤ 1000000 := fun p hp => hok p (merge_sub l p hp)
  have HMG := Lib.hid (fun W (hb : Below w.heap.size w W) => show Calls Tryz.prog 25 #[.slice (some ⟨W.heap.size, 0, none⟩) 1 1] (W.alloc (.cells #[.slice Ap l.length cp] 31)) fun e w' => ∃ v, e = .returned v ∧ OwnP w' (W.alloc (.cells #[.slice Ap l.length cp] 31)).heap.size v (mergeL l) ∧ Below (W.alloc (.cells #[.slice Ap l.length cp] 31)).heap.size (W.alloc (.cells #[.slice Ap l.length cp] 31)) w' by
    have hls : LsAt (W.alloc (.cells #[.slice Ap l.length cp] 31)) (some ⟨W.heap.size, 0, none⟩) [l] :=
      lsAt_blk (vs := [.slice Ap l.length cp]) (Blk.new _ _ _) (fun i hi => match i, hi with
        | 0, _ => ⟨_, _, rfl, hc, (Rd.below (show Rd W W.heap.size Ap (pcs l) from (Rd.below (show Rd w w.heap.size Ap (pcs l) from hr) hb).more hb.size) ((Below.refl _ _).alloc (Nat.le_refl _) _)).more (by simp)⟩)
    have h := merge_c (some ⟨W.heap.size, 0, none⟩) 1 [l] _ hls (by simp) (by simp) (by intro L hL; simp at hL; subst hL; exact ⟨hl, fun p hp => ⟨(hok p hp).1, by have := (hok p hp).2; omega⟩⟩)
    rwa [show [l].flatten = l by simp] at h)
  have HCG := Lib.hid (fun W (hb : Below w.heap.size w W) Am cm (hm : RdP W W.heap.size Am (mergeL l)) (hcm : (mergeL l).length ≤ cm) => show Calls Tryz.prog 12 #[.agg #[.slice none 0 0, .slice Am (mergeL l).length cm], .agg (vb k), .agg (vb nn), .string t, .int .u32 (ep : Int)] W (ChD [] (mergeL l) k nn t ep W) from
    change29_c [] none 0 (mergeL l) Am cm k nn t ep W (Rd.nil_ _ _ _) (by simp) (by simp) hm hcm hMl hMk hk hkb hnn hnb ht he (hq.next hb))
  clear hr hc hl hok hk hkb hnn hnb ht he hq hMk
  generalize mergeL l = M at *
  go_enter Tryz.func21, Tryz.ntmps21
  go_upto_region 1 with (first
    | (refine Go.Great.wpList_boxTo rfl 45 (.tmp 0) rfl (some 5) rfl w.heap.size rfl (vb k) rfl ?_)
    | (refine Go.Great.wpList_boxTo rfl 57 (.tmp 1) rfl (some 6) rfl (w.heap.size + 1) (by simp) (vb nn) rfl ?_))
  generalize ((w.alloc (Obj.cells (vb k) 45)).alloc (Obj.cells (vb nn) 57)).alloc (Obj.cells zCh 52) = Z at *
  have HMZ := Lib.hid (HMG.out Z HB.out.bel)
  have HAZ := Lib.hid (show Below Z.heap.size Z (Z.alloc (.cells #[.slice Ap l.length cp] 31)) from (Below.refl _ _).alloc (Nat.le_refl _) _)
  clear HMG
  go_upto_region 2 with (first
    | (refine wpList_l1 (.tmp 12) rfl Ap l.length cp rfl rfl ?_)
    | (go_at_call 25; (with_reducible refine HMZ.out.mono ?_); rintro e W1 ⟨v, rfl, ho, hb⟩; obtain ⟨Am, cm, rfl, hcm, _, hrm⟩ := ho.rd; have HB1 := Lib.hid (HB.out.next ((HAZ.out.trans (hb.mono HAZ.out.size)).mono HB.out.sz)); have HRM := Lib.hid (show RdP W1 W1.heap.size Am M from hrm); have HCM := Lib.hid hcm; clear ho hb hrm hcm))
  clear HMZ HAZ HB
  by_cases h0 : M.length = 0
  · have q1 : (M.length : Int) = 0 := by omega
    have HL0 := Lib.hid h0
    clear h0
    go_wp2_with (first
      | (refine wpList_valG (by kernel_rfl) (.agg zCh) (by exact run_built _ 52 [] _ built_ch0 #[] rfl (by kernel_rfl)) ?_)
      | (refine wpList_store_rowTo rfl 52 (.tmp 10) (.tmp 19) rfl rfl (w.heap.size + 1 + 1) zCh rfl rfl 52 zCh HB1.out.rA (chSz ..) rfl (ch_all ..) ?_))
    try rw [Exit.noGoto_ret]
    refine bodyPost_ret (results_row_tmp rfl _ _ (w.heap.size + 1 + 1) 52 zCh (0, 0) _ rfl (setRow_heap _ _ zCh _ 52 (0, 0) HB1.out.rA) Tryz.underlying52 rfl (chSz ..)) rfl ?_
    exact ⟨HB1.out.bel.trans (below_setRowP _ _ _ (by omega)), .inl ⟨HL0.out, rfl⟩⟩
  · have q1 : ¬ (M.length : Int) = 0 := by omega
    have HL0 := Lib.hid (show 0 < M.length by omega)
    clear h0
    by_cases h32 : M.length ≤ 32
    case neg =>
      have q2 : (32 : Int) < (M.length : Int) := by omega
      have HL2 := Lib.hid (show 32 < M.length by omega)
      clear h32
      go_wp2_with (first
        | (refine wpList_valG (by kernel_rfl) (.agg zCh) (by exact run_built _ 52 [] _ built_ch0 #[] rfl (by kernel_rfl)) ?_)
        | (refine wpList_store_rowTo rfl 52 (.tmp 10) (.tmp 24) rfl rfl (w.heap.size + 1 + 1) zCh rfl rfl 52 zCh HB1.out.rA (chSz ..) rfl (ch_all ..) ?_))
      try rw [Exit.noGoto_ret]
      refine bodyPost_ret (results_row_tmp rfl _ _ (w.heap.size + 1 + 1) 52 zCh (0, 0) _ rfl (setRow_heap _ _ zCh _ 52 (0, 0) HB1.out.rA) Tryz.underlying52 rfl (chSz ..)) rfl ?_
      exact ⟨HB1.out.bel.trans (below_setRowP _ _ _ (by omega)), .inr (.inl ⟨HL2.out, rfl⟩)⟩
    case pos =>
      have q2 : ¬ (32 : Int) < (M.length : Int) := by omega
      have HL2 := Lib.hid h32
      have HCZ := Lib.hid (HCG.out W1 HB1.out.bel Am cm HRM.out HCM.out)
      clear h32 HCG
      have HBW := Lib.hid (show Tryz.prog.built 33 [(1, .slice Am M.length cm)] = some #[.slice none 0 0, .slice Am M.length cm] by
        generalize M.length = n
        kernel_rfl)
      go_wp2_with (first
        | (refine wpList_valG (by kernel_rfl) (.agg #[.slice none 0 0, .slice Am M.length cm]) (by exact run_built _ 33 [(1, .slice Am M.length cm)] _ HBW.out #[(1, .tmp 25)] rfl (by kernel_rfl)) ?_)
        | (refine wpList_load_row rfl 45 (.tmp 5) rfl w.heap.size rfl 45 (vb k) (0, 0) _ HB1.out.kA Tryz.underlying45 rfl HKS.out ?_)
        | (refine wpList_load_row rfl 57 (.tmp 6) rfl (w.heap.size + 1) rfl 57 (vb nn) (0, 0) _ HB1.out.nA Tryz.underlying57 rfl HNSZ.out ?_)
        | (go_at_call 12; (with_reducible refine HCZ.out.mono ?_); rintro e W2 ⟨g', cg', hog, hb, h⟩; have HB2 := Lib.hid (HB1.out.next (hb.mono HB1.out.sz)); rcases h with ⟨h0, _⟩ | ⟨_, h1, rfl⟩ | ⟨_, h1, b, rfl, Ab, cb, hx, hbw, ho⟩; exact absurd h0 (by have := HL0.out; omega))
        | (refine wpList_store_rowTo rfl 52 (.tmp 10) (.tmp 32) rfl rfl (w.heap.size + 1 + 1) zCh rfl rfl 52 zCh HB2.out.rA (chSz ..) rfl (ch_all ..) ?_)
        | (refine wpList_store_rowTo rfl 52 (.tmp 10) (.tmp 32) rfl rfl (w.heap.size + 1 + 1) (chV 5 (.slice g' 0 cg') (.slice (some ⟨b, 0, none⟩) 1 1)) rfl rfl 52 zCh HB2.out.rA (chSz ..) rfl (ch_all ..) ?_))
      · refine bodyPost_ret (results_row_tmp rfl _ _ (w.heap.size + 1 + 1) 52 zCh (0, 0) _ rfl (setRow_heap _ _ zCh _ 52 (0, 0) HB2.out.rA) Tryz.underlying52 rfl (chSz ..)) rfl ?_
        exact ⟨HB2.out.bel.trans (below_setRowP _ _ _ (by omega)), .inr (.inr (.inl ⟨HL0.out, HL2.out, h1, rfl⟩))⟩
      · refine bodyPost_ret (results_row_tmp rfl _ _ (w.heap.size + 1 + 1) 52 (chV 5 (.slice g' 0 cg') (.slice (some ⟨b, 0, none⟩) 1 1)) (0, 0) _ rfl (setRow_heap _ _ zCh _ 52 (0, 0) HB2.out.rA) Tryz.underlying52 rfl (chSz ..)) rfl ?_
        have hro : Only (fun i => i = w.heap.size + 1 + 1) W2 (W2.setRow (w.heap.size + 1 + 1) (chV 5 (.slice g' 0 cg') (.slice (some ⟨b, 0, none⟩) 1 1))) := setRow_only _ _ _
        refine ⟨HB2.out.bel.trans (below_setRowP _ _ _ (by omega)), .inr (.inr (.inr ⟨HL0.out, HL2.out, h1, g', cg', b, rfl, Ab, cb, ?_, ?_, ?_⟩))⟩
        · exact (hro.block b hx.lt (by have := HB1.out.sz; omega)).trans hx
        · have := HB1.out.bel.size
          omega
        · exact own_base_le (own_off ho hro (fun e => by have := own_base ho _ e; have := HB1.out.sz; omega)) HB1.out.bel.size
end Go.Proofs.YtfnhmnbcponkfaaGreatDoor
namespace Go.Proofs.YtfnhmnbcponkfaaGreatDoor
open Go.RowKit
def keptL (h : Int) (l : List Pc) : List Pc := l.filter fun p => decide (h ≤ p.t)
theorem keptL_snoc (h : Int) (l : List Pc) (p : Pc) : keptL h (l ++ [p]) = if h ≤ p.t then keptL h l ++ [p] else keptL h l := by
  unfold keptL
  rw [List.filter_append, List.filter_cons, List.filter_nil]
  by_cases hp : h ≤ p.t
  · rw [if_pos (decide_eq_true hp), if_pos hp]
  · rw [if_neg (by rw [decide_eq_true_eq]; exact hp), if_neg hp, List.append_nil]
theorem keptL_len (h : Int) (l : List Pc) : (keptL h l).length ≤ l.length := List.length_filter_le ..
set_option maxHeartbeats 8000000 in
theorem betweenH_c (A : Option Addr) (c : Nat) (l : List Pc) (h : Int) (w : World) (hr : RdP w w.heap.size A l) (h1 : l.length ≤ 100000) (hk : ∀ p ∈ l, PcOk p) :
    Calls Tryz.prog 38 #[.slice A l.length c, .int .i64 h, .int .i64 9223372036854775807] w fun e w' => ∃ v, e = .returned v ∧ OwnP w' w.heap.size v (keptL h l) ∧ Below w.heap.size w w' := by
  obtain ⟨i0, hi, hz0, hz1, hz2⟩ := piece_parts
  have zf := zero_pc
  have zs1 : zPc.size = 5 := by rfl
  have zs2 : ¬ zPc = #[] := by intro h; have := congrArg Array.size h; rw [zs1] at this; cases this
  have HR := Lib.hid hr
  have HK := Lib.hid hk
  clear hr hk
  go_enter Tryz.func38, Tryz.ntmps38
  go_wp2_with fail
  go_loopw [7, 12] (fun o i wr => ∃ k : Nat, k ≤ l.length ∧ i = .int .i64 (k : Nat) ∧ OwnP wr w.heap.size o (keptL h (l.take k)) ∧ Below w.heap.size w wr) (fun _ i _ => l.length - (intOf i).toNat)
  case atStart => exact ⟨0, Nat.zero_le _, rfl, OwnP.nilM _ _, Below.refl _ _⟩
  case round =>
    rename World => wr
    obtain ⟨k, hk, rfl, ho, hb⟩ := hrel
    by_cases hlt : k < l.length
    · have q1 : (k : Int) < (l.length : Int) := by omega
      have m1 : (k : Int) ≤ 100000 := by omega
      obtain ⟨ad, rfl, hab, hat⟩ := (show RdP wr w.heap.size A l from Rd.below HR.out hb).open_ (by omega)
      obtain ⟨p, hpe⟩ : ∃ p, p = l.getD k pc0 := ⟨_, rfl⟩
      have hpa := hat.piece k hlt
      rw [← hpe] at hpa
      have hpL : p ∈ l := by rw [hpe, List.getD_eq_getElem?_getD, List.getElem?_eq_getElem hlt]; exact List.getElem_mem hlt
      have hpk := HK.out p hpL
      have htk : keptL h (l.take (k + 1)) = if h ≤ p.t then keptL h (l.take k) ++ [p] else keptL h (l.take k) := by rw [take_snocP l k hlt, ← hpe, keptL_snoc]
      have hkl : (keptL h (l.take k)).length ≤ 100000 := by
        have h2 := keptL_len h (l.take k)
        rw [List.length_take] at h2
        omega
      obtain ⟨L, hL⟩ : ∃ L, L = keptL h (l.take k) := ⟨_, rfl⟩
      rw [← hL] at htk hkl ho
      have HKL := Lib.hid hkl
      have HPA := Lib.hid hpa
      have HO := Lib.hid ho
      have HB := Lib.hid hb
      have HLT := Lib.hid hlt
      have HTK := Lib.hid htk
      have q3 : p.t ≤ (9223372036854775807 : Int) := hpk.t1
      clear hat hpe hpa hpL hpk ho hb hab hlt htk hkl hL hk
      go_upto_region 5 with (first
        | (refine wpList_loadA rfl 77 (.tmp 14) rfl (ad.add (k * 5)) rfl (pcL p) _ HPA.out Tryz.underlying77 rfl (pcLn p) ?_)
        | (refine wpList_store_rowTo rfl 77 (.tmp 9) (.tmp 15) rfl rfl wr.heap.size (pcV p) rfl rfl 77 zPc (by exact heap_alloc_new _ _) (pcInfo p) rfl (pcV_one p) ?_))
      obtain ⟨Y, hY⟩ : ∃ Y, Y = (wr.alloc (Obj.cells zPc 77)).setRow wr.heap.size (pcV p) := ⟨_, rfl⟩
      have hnr := new_rowP wr 77 zPc (pcV p)
      rw [← hY] at hnr ⊢
      have HB1 := Lib.hid hnr.1
      have HBY := Lib.hid (HB.out.trans (hnr.2.mono HB.out.size))
      have HOY := Lib.hid (HO.out.next hnr.2)
      clear hnr hY HPA HO
      generalize wr.heap.size = g1 at *
      have c1 : Y.cell? ⟨g1, 1, none⟩ = some (.int .i64 p.t) := (HB1.out.cell 1).trans rfl
      have hsz := HBY.out.size
      by_cases hp : h ≤ p.t
      · have HT := Lib.hid (show keptL h (l.take (k + 1)) = L ++ [p] by rw [HTK.out, if_pos hp])
        go_wp2_with (first
          | (refine wpList_loadA rfl 77 (.tmp 9) rfl ⟨g1, 0, none⟩ rfl (pcL p) _ (atA_blk HB1.out) Tryz.underlying77 rfl (pcLn p) ?_)
          | (refine wpList_valM rfl _ _ (run_onePc Y p (.tmp 27) rfl (by kernel_rfl)) ?_)
          | (at_builtin; refine wpList_app _ rfl (.tmp 26) (.tmp 28) _ rfl w.heap.size 77 i0 (.agg zPc) 5 48 Tryz.underlying31 hi hz0 hz1 hz2 rfl (by decide) _ L.length (pcs L) rfl (HOY.out.allocM _) _ (some ⟨Y.heap.size, 0, none⟩) 1 1 (pcs [p]) rfl rfl (by exact rd_new Y (pcs [p]) 77 (0, 0)) (pcs_oneCell _) (by have := HKL.out; omega) (by have := HKL.out; omega) (by simp; omega) ?_
             intro v' w' hap
             have HAP := Lib.hid hap
             clear hap))
        go_roundw
        case rel =>
          refine ⟨k + 1, HLT.out, by go_num, ?_, ?_⟩
          · rw [HT.out]; exact OwnP.appM (l := L) (m := [p]) HAP.out
          · exact (HBY.out.alloc HBY.out.size _).trans (HAP.out.below (HOY.out.allocM _) (by simp; omega))
        case measure => have := HLT.out; simp [intOf]; omega
      · have HT := Lib.hid (show keptL h (l.take (k + 1)) = L by rw [HTK.out, if_neg hp])
        go_wp2_with fail
        go_roundw
        case rel => exact ⟨k + 1, HLT.out, by go_num, by rw [HT.out]; exact HOY.out, HBY.out⟩
        case measure => have := HLT.out; simp [intOf]; omega
    · obtain rfl : k = l.length := by omega
      rw [List.take_length] at ho
      have HO := Lib.hid ho
      have HB := Lib.hid hb
      clear ho hb hlt hk
      go_wp2_with fail
      go_ret
      exact ⟨_, rfl, HO.out, HB.out⟩
set_option maxHeartbeats 8000000 in
theorem kept_c (A : Option Addr) (c : Nat) (l : List Pc) (h : Int) (w : World) (hr : RdP w w.heap.size A l) (h1 : l.length ≤ 100000) (hk : ∀ p ∈ l, PcOk p) :
    Calls Tryz.prog 23 #[.slice A l.length c, .int .i64 h] w fun e w' => ∃ v, e = .returned v ∧ OwnP w' w.heap.size v (keptL h l) ∧ Below w.heap.size w w' := by
  have HB := Lib.hid (betweenH_c A c l h w hr h1 hk)
  clear hr h1 hk
  generalize keptL h l = K at *
  go_enter Tryz.func23, Tryz.ntmps23
  go_wp2_with (go_at_call 38; (with_reducible refine HB.out.mono ?_); rintro e w2 ⟨v, rfl, ho, hb⟩; have HO := Lib.hid ho; have HBB := Lib.hid hb; clear ho hb)
  go_ret
  exact ⟨_, rfl, HO.out, HBB.out⟩
end Go.Proofs.YtfnhmnbcponkfaaGreatDoor
namespace Go.Proofs.YtfnhmnbcponkfaaGreatDoor
open Go.RowKit
theorem results_cell_tmp2N {fn : Func} {p u v : Tmp} {ty : TypeId} (h : fn.results = #[.cell p ty, .tmp u, .tmp v]) (tmps : Array Value) (P : Program) (w : World) :
    (results fn tmps).run P w = ((asAddr (tmps.getD p undef)).run P w).andThen fun a w₁ => ((loadVar ty a).run P w₁).andThen fun x w₂ => .ok (.tuple #[x, tmps.getD u undef, tmps.getD v undef]) w₂ := by
  simp only [results, h]
  simp [Sem.run_bind, Result.andThen]
theorem results_row_tmp2N {P : Program} {fn : Func} {p u v : Tmp} {ty : TypeId} (h : fn.results = #[.cell p ty, .tmp u, .tmp v]) (tmps : Array Value) (w : World) (g : Nat) (t : TypeId) (cs : Array Value) (fr : Nat × Nat) (d : TypeDesc)
    (hp : tmps.getD p undef = .pointer (some ⟨g, 0, none⟩)) (hg : w.heap[g]? = some (.cells cs t fr))
    (hu : P.underlying ty = some d) (hd : (match d with | .struct _ | .array _ _ => true | _ => false) = true) (hi : (P.info? ty).map (·.size) = some cs.size) :
    (results fn tmps).run P w = .ok (.tuple #[.agg cs, tmps.getD u undef, tmps.getD v undef]) w := by
  rw [results_cell_tmp2N h, hp]
  simp [asAddr, run_loadVar_row w g t ty cs fr d hg hu hd hi, Result.andThen]
def zWk : Array Value := #[.slice none 0 0, .slice none 0 0]
theorem zero_wk (w : World) : (zeroValue 33).run Tryz.prog w = .ok (.agg zWk) w := by kernel_rfl
theorem wkSz (a b : Value) : (Tryz.prog.info? 33).map (·.size) = some (#[a, b] : Array Value).size := by
  show _ = some 2
  kernel_rfl
theorem built_wk (b : Nat) (A : Option Addr) (n c : Nat) : Tryz.prog.built 33 [(0, .slice (some ⟨b, 0, none⟩) 1 1), (1, .slice A n c)] = some #[.slice (some ⟨b, 0, none⟩) 1 1, .slice A n c] := by kernel_rfl
def OneN (nn : List Nat) (base : Nat) (u : Value) (W : World) : Prop := ∃ b, u = .slice (some ⟨b, 0, none⟩) 1 1 ∧ Blk W b 57 (vb nn) ∧ base ≤ b ∧ b < W.heap.size
theorem OneN.next {nn : List Nat} {base : Nat} {u : Value} {W W' : World} (h : OneN nn base u W) (hb : Below W.heap.size W W') : OneN nn base u W' := by
  obtain ⟨b, e, h1, h2, h3⟩ := h
  exact ⟨b, e, h1.below hb h3, h2, Nat.lt_of_lt_of_le h3 hb.size⟩
def NxV (nn : List Nat) (K : List Pc) (base : Nat) (kk : Nat) (u : Value) (W : World) : Prop :=
  if kk = 50 then OneN nn base u W else if kk = 53 then OwnP W base u K else ∃ a b, u = .agg #[a, b] ∧ OneN nn base a W ∧ OwnP W base b K
theorem NxV.next {nn : List Nat} {K : List Pc} {base kk : Nat} {u : Value} {W W' : World} (h : NxV nn K base kk u W) (hb : Below W.heap.size W W') : NxV nn K base kk u W' := by
  unfold NxV at h ⊢
  split
  · rename_i h1; rw [if_pos h1] at h; exact h.next hb
  · rename_i h1; rw [if_neg h1] at h
    split
    · rename_i h2; rw [if_pos h2] at h; exact h.next hb
    · rename_i h2; rw [if_neg h2] at h
      obtain ⟨a, b, e, h3, h4⟩ := h
      exact ⟨a, b, e, h3.next hb, h4.next hb⟩
theorem bx_nn {t : ByteArray} {ep : Nat} {nn : List Nat} {A : Option Addr} {n c g : Nat} {W : World} (h : Blk W g 61 (bxV t ep nn A n c)) (hn : nn.length = 12) : AtA W ⟨g, 2, none⟩ (byt nn) := fun j u hu => by
  have hj : j < 12 := by
    rcases Nat.lt_or_ge j 12 with h1 | h1
    · exact h1
    · rw [List.getElem?_eq_none (by rw [byt_len, hn]; exact h1)] at hu; cases hu
  rw [Addr.add_mid, h.cell]
  unfold bxV bxL
  rw [List.getElem?_toArray, List.append_assoc, List.getElem?_append_right (by simp), List.getElem?_append_left (by simp [byt_len, hn]; omega)]
  rw [← hu]
  congr 1
  simp
set_option maxHeartbeats 32000000 in
theorem next1_c (A : Option Addr) (cap : Nat) (bs : List Bxo) (t : ByteArray) (kb n : Nat) (kf : Nat → Option (List Nat)) (ep : Nat) (h : Int) (b0 : Bxo) (rest : List Bxo) (w : World) (hr : RdX w A bs) (hl : bs.length ≤ 10000000) (hbl : ∀ b ∈ bs, b.body.length ≤ 100000) (hof : ofT t bs = b0 :: rest) (hlt : b0.ep < ep) (hkm : KeysAt w kb n (kmV kf)) (hok : OpOk kf b0) (hsome : kf b0.ep ≠ none) (hq : QuartersAt w) :
    Calls Tryz.prog 7 #[.map (some kb), .slice A bs.length cap, .string t, .int .u32 (ep : Nat), .int .i64 h] w fun e w' => ∃ b Av cv, e = .returned (.tuple #[.agg #[.slice (some ⟨b, 0, none⟩) 1 1, .slice Av (keptL h (mergeL (opB kf b0))).length cv], .bool true, .int .i64 0]) ∧ Blk w' b 57 (vb b0.nn) ∧ RdP w' w'.heap.size Av (keptL h (mergeL (opB kf b0))) ∧ Below w.heap.size w w' := by
  have zf := zero_wk
  have zs1 : zWk.size = 2 := by rfl
  have zs2 : ¬ zWk = #[] := by intro h; have := congrArg Array.size h; rw [zs1] at this; cases this
  have zf2 := zero_bx
  have zs3 : zBx.size = 15 := by rfl
  have zs4 : ¬ zBx = #[] := by intro h; have := congrArg Array.size h; rw [zs3] at this; cases this
  obtain ⟨ig, hig, hg0, hg1x, hg2x⟩ := parts_of nonceInfo
  obtain ⟨Z, hZ⟩ : ∃ Z, Z = w.alloc (Obj.cells zWk 33) := ⟨_, rfl⟩
  have hbz : Below w.heap.size w Z := by rw [hZ]; exact (Below.refl _ _).alloc (Nat.le_refl _) _
  have hzb : Blk Z w.heap.size 33 zWk := by rw [hZ]; exact Blk.new _ _ _
  have HBZ := Lib.hid hbz
  have HZB := Lib.hid hzb
  have HOF := Lib.hid (of29_c A cap bs t Z (hr.next hbz) hl hbl)
  rw [hof] at HOF
  obtain ⟨N, hN⟩ : ∃ N, N = (b0 :: rest).length := ⟨_, rfl⟩
  rw [← hN] at HOF
  have hN1 : 1 ≤ N := by rw [hN]; simp
  have hN2 : N ≤ 10000000 := by
    rw [hN, ← hof]
    exact Nat.le_trans (ofT_len t bs) hl
  clear hN
  have HOK := Lib.hid hok
  have HOP := Lib.hid (fun W (hb : Below Z.heap.size Z W) Ax cx (hx : RdX W Ax [b0]) => show Calls Tryz.prog 22 #[.map (some kb), .slice Ax 1 cx] W fun e w' => ∃ v, e = .returned (.tuple #[v, .int .i64 0]) ∧ OwnP w' W.heap.size v (mergeL (opB kf b0)) ∧ Below W.heap.size W w' by
    have h1 := bopen_c Ax cx [b0] kb n kf W hx (by simp) ((hkm.next hbz).next hb) (fun b hb => by rw [List.mem_singleton.1 hb]; exact hok) ((hq.next hbz).next hb)
    refine h1.mono ?_
    rintro e w' ⟨h2, hb2⟩
    rcases h2 with ⟨⟨b, h3, h4⟩, _⟩ | ⟨_, v, e1, h3⟩
    · rw [List.mem_singleton.1 h3] at h4
      exact absurd h4 hsome
    · rw [show [b0].map (opB kf) = [opB kf b0] from rfl, show [opB kf b0].flatten = opB kf b0 by simp] at h3
      exact ⟨v, e1, h3, hb2⟩)
  have hml : (mergeL (opB kf b0)).length ≤ 1000 := Nat.le_trans (merge_len _) hok.len
  have HKP := Lib.hid (fun W Am cm (hm : RdP W W.heap.size Am (mergeL (opB kf b0))) => kept_c Am cm (mergeL (opB kf b0)) h W hm (by omega) (fun p hp => (hok.pcs p (merge_sub _ p hp)).1))
  clear hr hl hbl hof hkm hok hsome hq hbz hzb
  generalize mergeL (opB kf b0) = m at *
  obtain ⟨K, hK⟩ : ∃ K, K = keptL h m := ⟨_, rfl⟩
  rw [← hK] at HKP ⊢
  clear hK
  go_enter Tryz.func7, Tryz.ntmps7
  go_upto_region 1 with fail
  rw [← hZ]
  clear hZ
  try go_step3
  go_upto_region 2 with (go_at_call 20; (with_reducible refine HOF.out.mono ?_); rintro e W1 ⟨Ax, cx, rfl, hcx, hrx, hb⟩; have HX1 := Lib.hid hrx; have HB1 := Lib.hid hb; have HCX := Lib.hid hcx; clear hrx hb hcx)
  obtain ⟨ad, Ai, ci, rfl, hab, hat, hci, hrb, hbo⟩ := HX1.out.box (i := 0) (by simp)
  rw [show (b0 :: rest).getD 0 bo0 = b0 from rfl, show ad.add (0 * 15) = ad by simp [Addr.add]] at hat
  rw [show (b0 :: rest).getD 0 bo0 = b0 from rfl] at hci hrb hbo
  have r0 : (0 : Int) < (N : Int) := by omega
  have r1 : (1 : Int) ≤ (cx : Int) := by have := HCX.out; omega
  have r2 : (1 : Int) ≤ (N : Int) := by omega
  have HAT := Lib.hid hat
  have HRB := Lib.hid hrb
  have HCI := Lib.hid hci
  have HBO := Lib.hid hbo
  have HAB := Lib.hid hab
  have HZ1 := Lib.hid (show Blk W1 w.heap.size 33 zWk from HZB.out.below HB1.out HZB.out.lt)
  have HBE := Lib.hid hlt
  clear hat hrb hci hbo hab HOF
  have hnl : b0.nn.length = 12 := HBO.out.nl
  obtain ⟨bt, be, bn, bd⟩ := b0
  simp only at hnl HAT HRB HCI
  have HNL := Lib.hid hnl
  have HLN := Lib.hid (bxLn bt be (nn := bn) Ai bd.length ci hnl)
  have HSZ := Lib.hid (fun A n c => bxSz bt be (nn := bn) A n c hnl)
  have HZS := Lib.hid (show zBx.size = (bxV bt be bn Ai bd.length ci).size by rw [zBx_size]; unfold bxV; rw [List.size_toArray, bxL_len bt be Ai bd.length ci hnl])
  have HNNL := Lib.hid (show (Tryz.prog.info? 57).map (·.size) = some (byt bn).length by rw [byt_len, hnl]; kernel_rfl)
  have r3 : (be : Int) < (ep : Int) := by have := HBE.out; simp only at this; omega
  have HX0 := Lib.hid (show ∀ W, Below W1.heap.size W1 W → RdX W (some ad) [⟨bt, be, bn, bd⟩] from fun W hb => by
    have hat := HAT.out.below hb HAB.out
    refine ⟨[bxL bt be bn Ai bd.length ci], ?_, fun _ => ⟨_, rfl, Nat.lt_of_lt_of_le HAB.out hb.size, ?_⟩⟩
    · exact BsV.snoc (BsV.nil_ W) (u := bxL bt be bn Ai bd.length ci) (b := ⟨bt, be, bn, bd⟩) ⟨Ai, ci, rfl, HCI.out, (HRB.out.below hb).more hb.size⟩ HBO.out
    · rw [show [bxL bt be bn Ai bd.length ci].flatten = bxL bt be bn Ai bd.length ci by simp]
      exact hat)
  clear hnl HRB HCI
  go_wp2_with fail
  go_loopw [29, 50, 53, 54] (fun iv u50 u53 u54 wr => (isTok u50 = false ∧ isTok u53 = false ∧ isTok u54 = false) ∧ iv = .int .i64 0 ∧ wr = W1) (fun _ _ _ _ _ => 0)
  case atStart => exact ⟨⟨rfl, rfl, rfl⟩, rfl, rfl⟩
  case round =>
    rename World => wr
    obtain ⟨htk, rfl, rfl⟩ := hrel
    have HTK := Lib.hid htk
    clear htk
    go_upto_region 5 with (first
      | (refine wpList_loadA rfl 61 (.tmp 32) rfl ad rfl (bxL bt be bn Ai bd.length ci) _ HAT.out Tryz.underlying61 rfl HLN.out ?_)
      | (refine wpList_store_rowTo rfl 61 (.tmp 14) (.tmp 33) rfl rfl wr.heap.size (bxV bt be bn Ai bd.length ci) rfl rfl 61 zBx (by exact heap_alloc_new _ _) (HSZ.out ..) HZS.out (bx_all _ _ _ _ _ _) ?_))
    obtain ⟨Y, hY⟩ : ∃ Y, Y = (wr.alloc (Obj.cells zBx 61)).setRow wr.heap.size (bxV bt be bn Ai bd.length ci) := ⟨_, rfl⟩
    have hnr := new_rowP wr 61 zBx (bxV bt be bn Ai bd.length ci)
    rw [← hY] at hnr ⊢
    have c1 : Y.cell? ⟨wr.heap.size, 1, none⟩ = some (.int .u32 (be : Int)) := (hnr.1.cell 1).trans rfl
    have HXB := Lib.hid hnr.1
    have HY1 := Lib.hid hnr.2
    have HBY := Lib.hid (HB1.out.trans (hnr.2.mono HB1.out.size))
    have HOPY := Lib.hid (HOP.out Y HBY.out (some ad) cx (HX0.out Y hnr.2))
    have HZY := Lib.hid (HZ1.out.below hnr.2 (HZ1.out.lt))
    clear hnr hY HOP HX0 HAT HLN HZS
    obtain ⟨g14, hg14⟩ : ∃ g, g = wr.heap.size := ⟨_, rfl⟩
    rw [← hg14] at HXB c1 ⊢
    have HNE := Lib.hid (show w.heap.size ≠ g14 by rw [hg14]; have := HZ1.out.lt; omega)
    clear hg14
    go_upto_region 7 with (go_at_call 22; (with_reducible refine HOPY.out.mono ?_); rintro e W3 ⟨v, rfl, ho, hb⟩; obtain ⟨Am, cm, rfl, _, _, hrm⟩ := ho.rd; have HB3 := Lib.hid (HBY.out.trans (hb.mono HBY.out.size)); have HZ3 := Lib.hid (HZY.out.below hb HZY.out.lt); have HXB3 := Lib.hid (HXB.out.below hb HXB.out.lt); have HRM3 := Lib.hid (show RdP W3 W3.heap.size Am m from hrm); clear ho hb hrm)
    clear HOPY HZY HXB c1
    have HNA := Lib.hid (fun (W : World) (h : ∃ x : Ext W3, W = x.wd) => show AtA W ⟨g14, 2, none⟩ (byt bn) by
      obtain ⟨x, rfl⟩ := h
      exact fun j u hu => x.cell (bx_nn HXB3.out HNL.out j u hu))
    have hkc : ∀ U, Below W3.heap.size W3 U → Calls Tryz.prog 23 #[.slice Am m.length cm, .int .i64 h] U fun e w' => ∃ v, e = .returned v ∧ OwnP w' U.heap.size v K ∧ Below U.heap.size U w' := fun U hb => HKP.out U Am cm ((Rd.below (show Rd W3 W3.heap.size Am (pcs m) from HRM3.out) hb).more hb.size)
    have HKC := Lib.hid hkc
    have HG14 := Lib.hid (show w.heap.size < W3.heap.size ∧ g14 < W3.heap.size ∧ w.heap.size ≠ g14 from ⟨HZ3.out.lt, HXB3.out.lt, HNE.out⟩)
    have hS0 : AtA W3.drew ⟨g14, 2, none⟩ (byt bn) := HNA.out W3.drew (Ext.of (Below.refl _ _).drew)
    clear hkc
    refine wp_region_held (S := fun w' => AtA w' ⟨g14, 2, none⟩ (byt bn)) (by kernel_rfl) ?_
    show wpAnyH _ _ _ _ _ 13 _ _ W3.drew
    refine anyH_quiet 0 rfl (by kernel_rfl) (by kernel_rfl) (by kernel_rfl) (fun _ _ _ _ h => h) rfl rfl hS0 ?_
    intro K hK
    conv => arg 2; whnf
    go_big_quiet_op
    try refine ⟨_, fun _ _ => rfl, ?_⟩
    go_big_quiet_on
    refine anyH_quiet 1 rfl (by kernel_rfl) (by kernel_rfl) (by kernel_rfl) (fun _ _ _ _ h => h) rfl rfl hS0 ?_
    intro K hK
    conv => arg 2; whnf
    refine quiet_loadA 57 (.tmp 48) rfl ⟨g14, 2, none⟩ rfl (byt bn) _ (fun _ h => h) Tryz.underlying57 rfl HNNL.out _ (by conv => lhs; arg 2; whnf) ?_
    go_big_quiet_on
    try simp only [Act.put, List.setIfInBounds_toArray, List.set_cons_succ, List.set_cons_zero]
    refine anyH_quiet 3 rfl (by kernel_rfl) (by kernel_rfl) (by kernel_rfl) (fun _ _ _ _ h => h) rfl rfl hS0 ?_
    intro K hK
    conv => arg 2; whnf
    go_big_quiet_op
    try refine ⟨_, fun _ _ => rfl, ?_⟩
    go_big_quiet_on
    refine anyH_quiet 4 rfl (by kernel_rfl) (by kernel_rfl) (by kernel_rfl) (fun _ _ _ _ h => h) rfl rfl hS0 ?_
    intro K hK
    conv => arg 2; whnf
    go_big_quiet_op
    try refine ⟨_, fun _ _ => rfl, ?_⟩
    go_big_quiet_on
    refine anyH_quiet 7 rfl (by kernel_rfl) (by kernel_rfl) (by kernel_rfl) (fun _ _ _ _ h => h) rfl rfl hS0 ?_
    intro K hK
    conv => arg 2; whnf
    go_big_quiet_op
    try refine ⟨_, fun _ _ => rfl, ?_⟩
    go_big_quiet_on
    refine anyH_quiet 8 rfl (by kernel_rfl) (by kernel_rfl) (by kernel_rfl) (fun _ _ _ _ h => h) rfl rfl hS0 ?_
    intro K hK
    conv => arg 2; whnf
    go_big_quiet_op
    try refine ⟨_, fun _ _ => rfl, ?_⟩
    go_big_quiet_on
    refine anyH_quiet 9 rfl (by kernel_rfl) (by kernel_rfl) (by kernel_rfl) (fun _ _ _ _ h => h) rfl rfl hS0 ?_
    intro K hK
    conv => arg 2; whnf
    go_big_quiet_op
    try refine ⟨_, fun _ _ => rfl, ?_⟩
    go_big_quiet_on
    have hU : Below W3.heap.size W3 W3.drew := (Below.refl _ _).drew
    generalize W3.drew = U at *
    clear hS0
    have HSA := Lib.hid (fun W (hb : Below W3.heap.size W3 W) => HNA.out W (Ext.of hb))
    have hbsz : (vb bn).size = 12 := by rw [vb_size, HNL.out]
    refine anyH_two 2 5 (by kernel_rfl) rfl rfl rfl rfl ?_ ?_
    · have hU1 : Below W3.heap.size W3 (U.alloc (.cells (vb bn) 57)) := hU.alloc hU.size _
      refine op_value (run_oneG Tryz.underlying30 hig hg0 hg1x (by decide) (by decide) U (vb bn) hbsz (.tmp 49) rfl rfl) _ (by conv => lhs; arg 2; whnf) ⟨HSA.out _ hU1, ?_⟩
      try simp only [Act.put, List.setIfInBounds_toArray, List.set_cons_succ, List.set_cons_zero]
      have hblU1 : Blk (U.alloc (.cells (vb bn) 57)) U.heap.size 57 (vb bn) := Blk.new _ _ _
      generalize U.alloc (.cells (vb bn) 57) = U1 at *
      refine anyH_op 5 (by kernel_rfl) rfl rfl ?_
      refine op_call (by kernel_rfl) _ (fun v => by conv => lhs; arg 2; whnf) ((HKC.out U1 hU1).mono ?_)
      rintro e U2 ⟨vk, rfl, hok, hbU2⟩
      obtain ⟨A5, c5, rfl, _, _, r5⟩ := hok.rd
      have hU2 : Below W3.heap.size W3 U2 := hU1.trans (hbU2.mono hU1.size)
      refine ⟨_, rfl, HSA.out _ hU2, ?_⟩
      try simp only [Act.put, List.setIfInBounds_toArray, List.set_cons_succ, List.set_cons_zero]
      refine anyH_op 6 (by kernel_rfl) rfl rfl ?_
      refine op_value (run_built _ 33 [(0, .slice (some ⟨U.heap.size, 0, none⟩) 1 1), (1, .slice A5 K.length c5)] _ (built_wk U.heap.size A5 K.length c5) #[(0, .tmp 50), (1, .tmp 53)] rfl (by kernel_rfl)) _ (by conv => lhs; arg 2; whnf) ⟨HSA.out _ hU2, ?_⟩
      try simp only [Act.put, List.setIfInBounds_toArray, List.set_cons_succ, List.set_cons_zero]
      refine anyH_op 10 (by kernel_rfl) rfl rfl ?_
      have hz2 : Blk U2 w.heap.size 33 zWk := HZ3.out.below hU2 HG14.out.1
      have hx2 : Blk U2 U.heap.size 57 (vb bn) := hblU1.below hbU2 hblU1.lt
      obtain ⟨R, eR⟩ : ∃ R, R = U2.setRow w.heap.size #[.slice (some ⟨U.heap.size, 0, none⟩) 1 1, .slice A5 K.length c5] := ⟨_, rfl⟩
      have hRO : Only (fun i => i = w.heap.size) U2 R := by rw [eR]; exact setRow_only _ _ _
      have hRb : Blk R w.heap.size 33 #[.slice (some ⟨U.heap.size, 0, none⟩) 1 1, .slice A5 K.length c5] := by rw [eR]; exact setRow_heap _ _ zWk _ 33 (0, 0) hz2
      have hSR : AtA R ⟨g14, 2, none⟩ (byt bn) := fun j u hu => by
        rw [← HSA.out _ hU2 j u hu]
        exact World.cell?_of_block (by rw [add_block]; exact hRO.block g14 (Nat.lt_of_lt_of_le HG14.out.2.1 hU2.size) (fun e => HG14.out.2.2 e.symm))
      refine wp_store_row 33 (.tmp 10) (.tmp 54) rfl w.heap.size #[.slice (some ⟨U.heap.size, 0, none⟩) 1 1, .slice A5 K.length c5] rfl rfl 33 zWk hz2 (wkSz _ _) rfl (by simp [Value.oneCell']) ?_
      rw [← eR]
      have hbR : Below w.heap.size w R := by
        rw [eR]
        exact (HBZ.out.trans ((HB3.out.trans (hU2.mono HB3.out.size)).mono HBZ.out.size)).trans (below_setRowP _ _ _ (Nat.le_refl _))
      clear eR
      refine ⟨hSR, ?_⟩
      conv => arg 8; whnf
      try simp only [Act.put, List.setIfInBounds_toArray, List.set_cons_succ, List.set_cons_zero]
      refine anyH_quiet 11 rfl (by kernel_rfl) (by kernel_rfl) (by kernel_rfl) (fun _ _ _ _ h => h) rfl rfl hSR ?_
      intro K hK
      conv => arg 2; whnf
      go_big_quiet_op
      try refine ⟨_, fun _ _ => rfl, ?_⟩
      go_big_quiet_on
      refine anyH_quiet 12 rfl (by kernel_rfl) (by kernel_rfl) (by kernel_rfl) (fun _ _ _ _ h => h) rfl rfl hSR ?_
      intro K hK
      conv => arg 2; whnf
      go_big_quiet_op
      try refine ⟨_, fun _ _ => rfl, ?_⟩
      go_big_quiet_on
      refine wpAnyH_done (by kernel_rfl) ?_ _
      go_wp2_with fail
      try rw [Exit.noGoto_ret]
      refine bodyPost_ret (results_row_tmp2N rfl _ _ w.heap.size 33 #[.slice (some ⟨U.heap.size, 0, none⟩) 1 1, .slice A5 K.length c5] (0, 0) _ rfl hRb Tryz.underlying33 rfl (wkSz _ _)) rfl ?_
      have hxR : Blk R (U.heap.size) 57 (vb bn) := (hRO.block (U.heap.size) hx2.lt (by have := HG14.out.1; have := hU.size; have := hU1.size; omega)).trans hx2
      refine ⟨U.heap.size, A5, c5, rfl, hxR, ?_, hbR⟩
      intro hne
      obtain ⟨ad5, e5, hb5, hat5⟩ := (show Rd U2 U2.heap.size A5 (pcs K) from r5) hne
      have hge := own_new hok rfl ad5 e5
      have hszR : U2.heap.size ≤ R.heap.size := hRO.size
      refine ⟨ad5, e5, Nat.lt_of_lt_of_le hb5 hszR, fun j u hu => ?_⟩
      rw [← hat5 j u hu]
      exact World.cell?_of_block (by rw [add_block]; exact hRO.block ad5.block hb5 (by have := HG14.out.1; have := hU.size; have := hU1.size; omega))
    · refine op_call (by kernel_rfl) _ (fun v => by conv => lhs; arg 2; whnf) ((HKC.out U hU).mono ?_)
      rintro e U1 ⟨vk, rfl, hok, hbU1⟩
      obtain ⟨A5, c5, rfl, _, _, r5⟩ := hok.rd
      have hU1 : Below W3.heap.size W3 U1 := hU.trans (hbU1.mono hU.size)
      refine ⟨_, rfl, HSA.out _ hU1, ?_⟩
      try simp only [Act.put, List.setIfInBounds_toArray, List.set_cons_succ, List.set_cons_zero]
      refine anyH_op 2 (by kernel_rfl) rfl rfl ?_
      have hU2 : Below W3.heap.size W3 (U1.alloc (.cells (vb bn) 57)) := hU1.alloc hU1.size _
      refine op_value (run_oneG Tryz.underlying30 hig hg0 hg1x (by decide) (by decide) U1 (vb bn) hbsz (.tmp 49) rfl rfl) _ (by conv => lhs; arg 2; whnf) ⟨HSA.out _ hU2, ?_⟩
      try simp only [Act.put, List.setIfInBounds_toArray, List.set_cons_succ, List.set_cons_zero]
      have hblU2 : Blk (U1.alloc (.cells (vb bn) 57)) U1.heap.size 57 (vb bn) := Blk.new _ _ _
      have hbU12 : Below U1.heap.size U1 (U1.alloc (.cells (vb bn) 57)) := (Below.refl _ _).alloc (Nat.le_refl _) _
      generalize U1.alloc (.cells (vb bn) 57) = U2 at *
      refine anyH_op 6 (by kernel_rfl) rfl rfl ?_
      refine op_value (run_built _ 33 [(0, .slice (some ⟨U1.heap.size, 0, none⟩) 1 1), (1, .slice A5 K.length c5)] _ (built_wk U1.heap.size A5 K.length c5) #[(0, .tmp 50), (1, .tmp 53)] rfl (by kernel_rfl)) _ (by conv => lhs; arg 2; whnf) ⟨HSA.out _ hU2, ?_⟩
      try simp only [Act.put, List.setIfInBounds_toArray, List.set_cons_succ, List.set_cons_zero]
      refine anyH_op 10 (by kernel_rfl) rfl rfl ?_
      have hz2 : Blk U2 w.heap.size 33 zWk := HZ3.out.below hU2 HG14.out.1
      have hx2 : Blk U2 U1.heap.size 57 (vb bn) := hblU2
      obtain ⟨R, eR⟩ : ∃ R, R = U2.setRow w.heap.size #[.slice (some ⟨U1.heap.size, 0, none⟩) 1 1, .slice A5 K.length c5] := ⟨_, rfl⟩
      have hRO : Only (fun i => i = w.heap.size) U2 R := by rw [eR]; exact setRow_only _ _ _
      have hRb : Blk R w.heap.size 33 #[.slice (some ⟨U1.heap.size, 0, none⟩) 1 1, .slice A5 K.length c5] := by rw [eR]; exact setRow_heap _ _ zWk _ 33 (0, 0) hz2
      have hSR : AtA R ⟨g14, 2, none⟩ (byt bn) := fun j u hu => by
        rw [← HSA.out _ hU2 j u hu]
        exact World.cell?_of_block (by rw [add_block]; exact hRO.block g14 (Nat.lt_of_lt_of_le HG14.out.2.1 hU2.size) (fun e => HG14.out.2.2 e.symm))
      refine wp_store_row 33 (.tmp 10) (.tmp 54) rfl w.heap.size #[.slice (some ⟨U1.heap.size, 0, none⟩) 1 1, .slice A5 K.length c5] rfl rfl 33 zWk hz2 (wkSz _ _) rfl (by simp [Value.oneCell']) ?_
      rw [← eR]
      have hbR : Below w.heap.size w R := by
        rw [eR]
        exact (HBZ.out.trans ((HB3.out.trans (hU2.mono HB3.out.size)).mono HBZ.out.size)).trans (below_setRowP _ _ _ (Nat.le_refl _))
      clear eR
      refine ⟨hSR, ?_⟩
      conv => arg 8; whnf
      try simp only [Act.put, List.setIfInBounds_toArray, List.set_cons_succ, List.set_cons_zero]
      refine anyH_quiet 11 rfl (by kernel_rfl) (by kernel_rfl) (by kernel_rfl) (fun _ _ _ _ h => h) rfl rfl hSR ?_
      intro K hK
      conv => arg 2; whnf
      go_big_quiet_op
      try refine ⟨_, fun _ _ => rfl, ?_⟩
      go_big_quiet_on
      refine anyH_quiet 12 rfl (by kernel_rfl) (by kernel_rfl) (by kernel_rfl) (fun _ _ _ _ h => h) rfl rfl hSR ?_
      intro K hK
      conv => arg 2; whnf
      go_big_quiet_op
      try refine ⟨_, fun _ _ => rfl, ?_⟩
      go_big_quiet_on
      refine wpAnyH_done (by kernel_rfl) ?_ _
      go_wp2_with fail
      try rw [Exit.noGoto_ret]
      refine bodyPost_ret (results_row_tmp2N rfl _ _ w.heap.size 33 #[.slice (some ⟨U1.heap.size, 0, none⟩) 1 1, .slice A5 K.length c5] (0, 0) _ rfl hRb Tryz.underlying33 rfl (wkSz _ _)) rfl ?_
      have hxR : Blk R (U1.heap.size) 57 (vb bn) := (hRO.block (U1.heap.size) hx2.lt (by have := HG14.out.1; have := hU.size; have := hU1.size; omega)).trans hx2
      refine ⟨U1.heap.size, A5, c5, rfl, hxR, ?_, hbR⟩
      intro hne
      obtain ⟨ad5, e5, hb5, hat5⟩ := (show Rd U2 U2.heap.size A5 (pcs K) from (Rd.below (show Rd U1 U1.heap.size A5 (pcs K) from r5) hbU12).more hbU12.size) hne
      have hge := own_new hok rfl ad5 e5
      have hszR : U2.heap.size ≤ R.heap.size := hRO.size
      refine ⟨ad5, e5, Nat.lt_of_lt_of_le hb5 hszR, fun j u hu => ?_⟩
      rw [← hat5 j u hu]
      exact World.cell?_of_block (by rw [add_block]; exact hRO.block ad5.block hb5 (by have := HG14.out.1; have := hU.size; have := hU1.size; omega))
end Go.Proofs.YtfnhmnbcponkfaaGreatDoor
