/- Contract: sealed. -/
import Derived.Test.YtfblpkjablgafaaDoorCc1
namespace Go.Proofs.YtfblpkjablgafaaDoor
open Go.RowKit
set_option linter.unusedVariables false
set_option linter.unusedSimpArgs false
def sealL (k nonce beside plain : List Nat) : List Nat := xorL k nonce 1 plain ++ tagL k nonce beside (xorL k nonce 1 plain)
/-- the boxes of a key and a nonce -/
structure Kbx (w W : World) (k nonce : List Nat) : Prop where
  bel : Below w.heap.size w W
  kA : Blk W w.heap.size 23 (vb k)
  nA : Blk W (w.heap.size + 1) 25 (vb nonce)
  sz : w.heap.size + 1 + 1 ≤ W.heap.size
theorem Kbx.next {w W W' : World} {k nonce : List Nat} (s : Kbx w W k nonce) (hb : Below (w.heap.size + 1 + 1) W W') : Kbx w W' k nonce :=
  ⟨s.bel.trans (hb.mono (by omega)), s.kA.below hb (by omega), s.nA.below hb (by omega), Nat.le_trans s.sz hb.size⟩
theorem Kbx.begin (w : World) (k nonce : List Nat) : Kbx w ((w.alloc (Obj.cells (vb k) 23)).alloc (Obj.cells (vb nonce) 25)) k nonce :=
  ⟨((Below.refl _ _).alloc (Nat.le_refl _) _).alloc (by simp) _, (Blk.new w _ _).alloc _, heap2 w _ _, by simp⟩
theorem tagL_len (k nonce beside under : List Nat) : (tagL k nonce beside under).length = 16 := polT_len _ _
set_option maxRecDepth 100000 in
set_option maxHeartbeats 4000000 in
theorem sealLong_c (A1 A2 : Option Addr) (c1 c2 n1 n2 : Nat) (k nonce : List Nat) (w : World) (h : 4096 < n2) :
    Calls Tryd.prog 9 #[.agg (vb k), .agg (vb nonce), .slice A1 n1 c1, .slice A2 n2 c2] w fun e w' => e = .returned (.tuple #[.slice none 0 0, .int .i64 3]) ∧ Below w.heap.size w w' := by
  have p1 : (4096 : Int) < (n2 : Int) := by omega
  have hbx := Kbx.begin w k nonce
  go_enter Tryd.func9, Tryd.ntmps9
  go_upto_region 1 with (first
    | (refine Go.Great.wpList_boxTo rfl 23 (.tmp 0) rfl (some 4) rfl w.heap.size rfl (vb k) rfl ?_)
    | (refine Go.Great.wpList_boxTo rfl 25 (.tmp 1) rfl (some 5) rfl (w.heap.size + 1) (by simp) (vb nonce) rfl ?_))
  generalize (w.alloc (Obj.cells (vb k) 23)).alloc (Obj.cells (vb nonce) 25) = Z at *
  have HB := Lib.hid hbx.bel
  clear hbx
  go_wp2_with fail
  refine bodyPost_ret (results_tmp2 rfl _ _ _) rfl ?_
  exact ⟨rfl, HB.out⟩
set_option maxRecDepth 100000 in
set_option maxHeartbeats 4000000 in
theorem seal_c (A1 A2 : Option Addr) (c1 c2 : Nat) (k nonce beside plain : List Nat) (w : World) (hk : k.length = 32) (hkl : ∀ c ∈ k, c < 256) (hc : nonce.length = 12) (hcl : ∀ c ∈ nonce, c < 256)
    (hr1 : Rd w w.heap.size A1 (byt beside)) (hr2 : Rd w w.heap.size A2 (byt plain)) (hb1 : ∀ c ∈ beside, c < 256) (hb2 : ∀ c ∈ plain, c < 256) (hl1 : beside.length ≤ 4200) (hl2 : plain.length ≤ 4096) (hq : QuartersAt w) :
    Calls Tryd.prog 9 #[.agg (vb k), .agg (vb nonce), .slice A1 beside.length c1, .slice A2 plain.length c2] w fun e w' => ∃ v, e = .returned (.tuple #[v, .int .i64 0]) ∧ OwnB w' w.heap.size v (sealL k nonce beside plain) ∧ Below w.heap.size w w' := by
  obtain ⟨i0, hib, hz0, hz1, hz2⟩ := info_parts byteInfo
  have zt := zero_tag
  have zt1 : zT.size = 16 := by rfl
  have zt2 : ¬ zT = #[] := by intro h; have := congrArg Array.size h; rw [zt1] at this; cases this
  have p1 : ¬ (4096 : Int) < (plain.length : Int) := by omega
  have HIK := Lib.hid (keySz hk)
  have HIN := Lib.hid (show (Tryd.prog.info? 25).map (·.size) = some (vb nonce).size by rw [vb_size, hc]; kernel_rfl)
  have HSL := Lib.hid (show sealL k nonce beside plain = xorL k nonce 1 plain ++ tagL k nonce beside (xorL k nonce 1 plain) from rfl)
  have HUL := Lib.hid (xorL_len k nonce 1 plain)
  have HXC := Lib.hid (fun W (hW : Below w.heap.size w W) => xor_c w.heap.size A2 c2 k nonce 1 plain W hk hkl (by decide) hc hcl (hr2.below hW) hW.size hb2 (by omega) (hq.next hW))
  have HTC := Lib.hid (fun W A c (hW : Below w.heap.size w W) (h : Rd W W.heap.size A (byt (xorL k nonce 1 plain))) => atag_c A1 A c1 c k nonce beside (xorL k nonce 1 plain) W hk hkl hc hcl ((hr1.below hW).more hW.size) h hb1 (xorL_lt k nonce 1 hb2) hl1 (by rw [xorL_len]; omega) (hq.next hW))
  have HTT := Lib.hid (tagSz (tagL_len k nonce beside (xorL k nonce 1 plain)))
  have HTZ := Lib.hid (show zT.size = (vb (tagL k nonce beside (xorL k nonce 1 plain))).size by rw [vb_size, tagL_len]; rfl)
  have HTN := Lib.hid (tagL_len k nonce beside (xorL k nonce 1 plain))
  clear hkl hcl hr1 hr2 hb1 hb2 hq
  generalize tagL k nonce beside (xorL k nonce 1 plain) = tg at *
  generalize xorL k nonce 1 plain = un at *
  have hbx := Kbx.begin w k nonce
  go_enter Tryd.func9, Tryd.ntmps9
  go_upto_region 1 with (first
    | (refine Go.Great.wpList_boxTo rfl 23 (.tmp 0) rfl (some 4) rfl w.heap.size rfl (vb k) rfl ?_)
    | (refine Go.Great.wpList_boxTo rfl 25 (.tmp 1) rfl (some 5) rfl (w.heap.size + 1) (by simp) (vb nonce) rfl ?_))
  generalize (w.alloc (Obj.cells (vb k) 23)).alloc (Obj.cells (vb nonce) 25) = Z at *
  have HB := Lib.hid hbx
  clear hbx
  go_upto_region 4 with (first
    | (refine wpList_load_row rfl 23 (.tmp 4) rfl w.heap.size rfl 23 (vb k) (0, 0) _ HB.out.kA Tryd.underlying23 rfl HIK.out ?_)
    | (refine wpList_load_row rfl 25 (.tmp 5) rfl (w.heap.size + 1) rfl 25 (vb nonce) (0, 0) _ HB.out.nA Tryd.underlying25 rfl HIN.out ?_)
    | (go_at_call 18; (refine (HXC.out Z HB.out.bel).mono ?_); rintro e W1 ⟨v1, rfl, ho, hb⟩; have HO1 := Lib.hid (own_base_le ho HB.out.sz); obtain ⟨A3, c3, rfl, _, _, r3⟩ := ho.rd; have HR3 := Lib.hid r3; have HB1 := Lib.hid (HB.out.next (hb.mono HB.out.sz)); clear ho hb r3))
  go_upto_region 5 with (first
    | (refine wpList_load_row rfl 23 (.tmp 4) rfl w.heap.size rfl 23 (vb k) (0, 0) _ HB1.out.kA Tryd.underlying23 rfl HIK.out ?_)
    | (refine wpList_load_row rfl 25 (.tmp 5) rfl (w.heap.size + 1) rfl 25 (vb nonce) (0, 0) _ HB1.out.nA Tryd.underlying25 rfl HIN.out ?_)
    | (go_at_call 19; (refine (HTC.out W1 A3 c3 HB1.out.bel HR3.out).mono ?_); rintro e W2 ⟨rfl, hb⟩; have HO2 := Lib.hid (OwnB.next HO1.out hb); have HB2 := Lib.hid (HB1.out.next (hb.mono HB1.out.sz)); clear hb)
    | (refine wpList_store_rowTo rfl 49 (.tmp 11) (.tmp 23) rfl rfl W2.heap.size (vb tg) rfl rfl 49 zT (by exact Blk.new W2 _ _) HTT.out HTZ.out (vb_one _) ?_))
  have hnr := new_row W2 49 zT (vb tg)
  have HO3 := Lib.hid (OwnB.next HO2.out hnr.2)
  have HB3 := Lib.hid (HB2.out.next (hnr.2.mono HB2.out.sz))
  have HG := Lib.hid (rd_all hnr.1)
  generalize (W2.alloc (Obj.cells zT 49)).setRow W2.heap.size (vb tg) = W3 at *
  clear hnr
  go_wp2_with (at_builtin; refine wpList_app _ rfl (.tmp 24) (.tmp 25) _ rfl (w.heap.size + 1 + 1) 5 i0 (.int .u8 0) 1 1 Tryd.underlying26 hib hz0 hz1 hz2 rfl (by decide) _ un.length (byt un) rfl HO3.out _ (some ⟨W2.heap.size, 0, none⟩) 16 16 (byt tg) rfl (by simp [byt_len, HTN.out]) HG.out (byt_one _) (by rw [HUL.out]; omega) (by rw [HUL.out]; omega) (by have := HB3.out.sz; omega) ?_; intro v5 w5 hap; have HO5 := Lib.hid (show OwnB w5 (w.heap.size + 1 + 1) v5 (un ++ tg) from OwnB.app (by rw [HTN.out]; exact hap)); have HB5 := Lib.hid (HB3.out.next (hap.below HO3.out (by have := HB3.out.sz; omega))); clear hap)
  refine bodyPost_ret (results_tmp2 rfl _ _ _) rfl ?_
  exact ⟨_, rfl, by rw [HSL.out]; exact own_base_le HO5.out (by omega), HB5.out.bel⟩
end Go.Proofs.YtfblpkjablgafaaDoor
