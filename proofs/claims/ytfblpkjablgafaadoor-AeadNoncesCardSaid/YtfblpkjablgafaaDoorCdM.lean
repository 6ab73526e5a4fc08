/- Merged: Cd1 Cd2. -/
import Derived.Test.YtfblpkjablgafaaDoorCd0
import Derived.BigQuiet
namespace Go.Proofs.YtfblpkjablgafaaDoor
open Go.RowKit
set_option linter.unusedVariables false
set_option linter.unusedSimpArgs false
/-- what is opened, and how -/
def openErr (k nonce beside sealed : List Nat) : Nat :=
  if sealed.length < 16 then 2 else if 4112 < sealed.length then 3 else if tagL k nonce beside (sealed.take (sealed.length - 16)) == sealed.drop (sealed.length - 16) then 0 else 5
def openL (k nonce beside sealed : List Nat) : List Nat := if openErr k nonce beside sealed = 0 then xorL k nonce 1 (sealed.take (sealed.length - 16)) else []
set_option maxRecDepth 100000 in
set_option maxHeartbeats 4000000 in
theorem openShort_c (A1 A2 : Option Addr) (c1 c2 n1 n2 : Nat) (k nonce : List Nat) (w : World) (h : n2 < 16) :
    Calls Tryd.prog 10 #[.agg (vb k), .agg (vb nonce), .slice A1 n1 c1, .slice A2 n2 c2] w fun e w' => e = .returned (.tuple #[.slice none 0 0, .int .i64 2]) ∧ Below w.heap.size w w' := by
  have f0 : IntKind.i64.wrap ((n2 : Int) - 16) = (n2 : Int) - 16 := by simp [IntKind.wrap, IntKind.signed, IntKind.bits]; omega
  have p1 : (n2 : Int) - 16 < 0 := by omega
  have hbx := Kbx.begin w k nonce
  go_enter Tryd.func10, Tryd.ntmps10
  go_upto_region 1 with (first
    | (refine Go.Great.wpList_boxTo rfl 23 (.tmp 0) rfl (some 4) rfl w.heap.size rfl (vb k) rfl ?_)
    | (refine Go.Great.wpList_boxTo rfl 25 (.tmp 1) rfl (some 5) rfl (w.heap.size + 1) (by simp) (vb nonce) rfl ?_))
  generalize (w.alloc (Obj.cells (vb k) 23)).alloc (Obj.cells (vb nonce) 25) = Z at *
  have HB := Lib.hid hbx.bel
  clear hbx
  go_wp2_with fail
  refine bodyPost_ret (results_tmp2 rfl _ _ _) rfl ?_
  exact ⟨rfl, HB.out⟩
set_option maxRecDepth 100000 in
set_option maxHeartbeats 4000000 in
theorem openLong_c (A1 A2 : Option Addr) (c1 c2 n1 n2 : Nat) (k nonce : List Nat) (w : World) (h : 4112 < n2) (h2 : n2 ≤ 1000000) :
    Calls Tryd.prog 10 #[.agg (vb k), .agg (vb nonce), .slice A1 n1 c1, .slice A2 n2 c2] w fun e w' => e = .returned (.tuple #[.slice none 0 0, .int .i64 3]) ∧ Below w.heap.size w w' := by
  obtain ⟨m, hm⟩ : ∃ m, m = n2 - 16 := ⟨_, rfl⟩
  have f0 : IntKind.i64.wrap ((n2 : Int) - 16) = (m : Int) := by simp [IntKind.wrap, IntKind.signed, IntKind.bits]; omega
  have p1 : ¬ (m : Int) < 0 := by omega
  have p2 : (4096 : Int) < (m : Int) := by omega
  have hbx := Kbx.begin w k nonce
  go_enter Tryd.func10, Tryd.ntmps10
  go_upto_region 1 with (first
    | (refine Go.Great.wpList_boxTo rfl 23 (.tmp 0) rfl (some 4) rfl w.heap.size rfl (vb k) rfl ?_)
    | (refine Go.Great.wpList_boxTo rfl 25 (.tmp 1) rfl (some 5) rfl (w.heap.size + 1) (by simp) (vb nonce) rfl ?_))
  generalize (w.alloc (Obj.cells (vb k) 23)).alloc (Obj.cells (vb nonce) 25) = Z at *
  have HB := Lib.hid hbx.bel
  clear hbx
  go_wp2_with fail
  refine bodyPost_ret (results_tmp2 rfl _ _ _) rfl ?_
  exact ⟨rfl, HB.out⟩
end Go.Proofs.YtfblpkjablgafaaDoor
namespace Go.Proofs.YtfblpkjablgafaaDoor
open Go.RowKit
set_option linter.unusedVariables false
set_option linter.unusedSimpArgs false
set_option maxRecDepth 100000 in
set_option maxHeartbeats 4000000 in
theorem open_c (A1 A2 : Option Addr) (c1 c2 : Nat) (k nonce beside sealed : List Nat) (w : World) (hk : k.length = 32) (hkl : ∀ c ∈ k, c < 256) (hc : nonce.length = 12) (hcl : ∀ c ∈ nonce, c < 256)
    (hr1 : Rd w w.heap.size A1 (byt beside)) (hr2 : Rd w w.heap.size A2 (byt sealed)) (hb1 : ∀ c ∈ beside, c < 256) (hb2 : ∀ c ∈ sealed, c < 256) (hl1 : beside.length ≤ 4200) (h16 : 16 ≤ sealed.length) (hl2 : sealed.length ≤ 4112) (hcap : sealed.length ≤ c2) (hq : QuartersAt w) :
    Calls Tryd.prog 10 #[.agg (vb k), .agg (vb nonce), .slice A1 beside.length c1, .slice A2 sealed.length c2] w fun e w' => ∃ v, e = .returned (.tuple #[v, .int .i64 (openErr k nonce beside sealed : Nat)]) ∧ OwnB w' w.heap.size v (openL k nonce beside sealed) ∧ Below w.heap.size w w' := by
  obtain ⟨ad, rfl, _, _⟩ := hr2.byte (k := 0) (by omega)
  obtain ⟨m, hm⟩ : ∃ m, m = sealed.length - 16 := ⟨_, rfl⟩
  obtain ⟨un, hun⟩ : ∃ un, un = sealed.take m := ⟨_, rfl⟩
  obtain ⟨tl, htl⟩ : ∃ tl, tl = sealed.drop m := ⟨_, rfl⟩
  have hul : un.length = m := by rw [hun, List.length_take]; omega
  have htl16 : tl.length = 16 := by rw [htl, List.length_drop]; omega
  have hunl : ∀ c ∈ un, c < 256 := by rw [hun]; exact fun c hc => hb2 c (List.mem_of_mem_take hc)
  have htll : ∀ c ∈ tl, c < 256 := by rw [htl]; exact drop_lt hb2 _
  have HER := Lib.hid (show openErr k nonce beside sealed = if tagL k nonce beside un == tl then 0 else 5 by unfold openErr; rw [if_neg (by omega), if_neg (by omega), ← hm, ← hun, ← htl])
  have HOL := Lib.hid (show openL k nonce beside sealed = if openErr k nonce beside sealed = 0 then xorL k nonce 1 un else [] by unfold openL; rw [← hm, ← hun])
  have hru : Rd w w.heap.size (some ad) (byt un) := by rw [hun]; exact hr2.take_ m
  have hrt : Rd w w.heap.size (some (ad.add m)) (byt tl) := by rw [htl]; exact hr2.drop_ m
  have f0 : IntKind.i64.wrap ((sealed.length : Int) - 16) = (m : Int) := by simp [IntKind.wrap, IntKind.signed, IntKind.bits]; omega
  have p1 : ¬ (m : Int) < 0 := by omega
  have p2 : ¬ (4096 : Int) < (m : Int) := by omega
  have HIK := Lib.hid (keySz hk)
  have HIN := Lib.hid (show (Tryd.prog.info? 25).map (·.size) = some (vb nonce).size by rw [vb_size, hc]; kernel_rfl)
  have HXC := Lib.hid (show ∀ W, Below w.heap.size w W → Calls Tryd.prog 18 #[.agg (vb k), .agg (vb nonce), .int .u32 1, .slice (some ad) m c2] W (Gives (xorL k nonce 1 un) W) from fun W hW => by
    have h := xor_c w.heap.size (some ad) c2 k nonce 1 un W hk hkl (by decide) hc hcl (hru.below hW) hW.size hunl (by omega) (hq.next hW)
    rw [hul] at h
    exact h)
  have HTC := Lib.hid (show ∀ W, Below w.heap.size w W → Calls Tryd.prog 19 #[.agg (vb k), .agg (vb nonce), .slice A1 beside.length c1, .slice (some ad) m c2] W (fun e w' => e = .returned (.agg (vb (tagL k nonce beside un))) ∧ Below W.heap.size W w') from fun W hW => by
    have h := atag_c A1 (some ad) c1 c2 k nonce beside un W hk hkl hc hcl ((hr1.below hW).more hW.size) ((hru.below hW).more hW.size) hb1 hunl hl1 (by omega) (hq.next hW)
    rw [hul] at h
    exact h)
  have HTT := Lib.hid (tagSz (tagL_len k nonce beside un))
  have HTZ := Lib.hid (show zT.size = (vb (tagL k nonce beside un)).size by rw [vb_size, tagL_len]; rfl)
  have HTN := Lib.hid (tagL_len k nonce beside un)
  have HTB := Lib.hid (show ∀ c ∈ tagL k nonce beside un, c < 256 from form_lt _ _)
  have HSM := Lib.hid (fun W g (hW : Below w.heap.size w W) (hT : Blk W g 49 (vb (tagL k nonce beside un))) => show Calls Tryd.prog 20 #[.slice (some ⟨g, 0, none⟩) 16 16, .slice (some (ad.add m)) 16 (c2 - m)] W (fun e w' => e = .returned (.bool (tagL k nonce beside un == tl)) ∧ W = w') from by
    have h := psame_c (g + 1) w.heap.size (some ⟨g, 0, none⟩) (some (ad.add m)) 16 (c2 - m) (tagL k nonce beside un) tl W (form_lt _ _) htll (rd_all hT) (hrt.below hW) (by rw [tagL_len]; decide) (by omega)
    rw [tagL_len, htl16] at h
    exact h)
  have zt := zero_tag
  have zt1 : zT.size = 16 := by rfl
  have zt2 : ¬ zT = #[] := by intro h; have := congrArg Array.size h; rw [zt1] at this; cases this
  clear hkl hcl hr1 hr2 hb1 hb2 hq hru hrt hunl htll
  have hmc : m ≤ c2 := by omega
  have hms : m ≤ sealed.length := by omega
  have p3 : (m : Int) ≤ (c2 : Int) := by omega
  have p4 : (m : Int) ≤ (sealed.length : Int) := by omega
  have p5 : sealed.length - m = 16 := by omega
  clear hm hun htl
  have hbx := Kbx.begin w k nonce
  go_enter Tryd.func10, Tryd.ntmps10
  go_upto_region 1 with (first
    | (refine Go.Great.wpList_boxTo rfl 23 (.tmp 0) rfl (some 4) rfl w.heap.size rfl (vb k) rfl ?_)
    | (refine Go.Great.wpList_boxTo rfl 25 (.tmp 1) rfl (some 5) rfl (w.heap.size + 1) (by simp) (vb nonce) rfl ?_))
  generalize (w.alloc (Obj.cells (vb k) 23)).alloc (Obj.cells (vb nonce) 25) = Z at *
  have HB := Lib.hid hbx
  clear hbx
  go_upto_region 7 with fail
  go_upto_region 8 with (first
    | (refine wpList_load_row rfl 23 (.tmp 4) rfl w.heap.size rfl 23 (vb k) (0, 0) _ HB.out.kA Tryd.underlying23 rfl HIK.out ?_)
    | (refine wpList_load_row rfl 25 (.tmp 5) rfl (w.heap.size + 1) rfl 25 (vb nonce) (0, 0) _ HB.out.nA Tryd.underlying25 rfl HIN.out ?_)
    | (go_at_call 19; (with_reducible refine (HTC.out Z HB.out.bel).mono ?_); rintro e W1 ⟨rfl, hb⟩; have HB1 := Lib.hid (HB.out.next (hb.mono HB.out.sz)); clear hb)
    | (refine wpList_store_rowTo rfl 49 (.tmp 12) (.tmp 29) rfl rfl W1.heap.size (vb (tagL k nonce beside un)) rfl rfl 49 zT (by exact Blk.new W1 _ _) HTT.out HTZ.out (vb_one _) ?_))
  have hnr := new_row W1 49 zT (vb (tagL k nonce beside un))
  have HB3 := Lib.hid (HB1.out.next (hnr.2.mono HB1.out.sz))
  have HG := Lib.hid hnr.1
  generalize (W1.alloc (Obj.cells zT 49)).setRow W1.heap.size (vb (tagL k nonce beside un)) = W3 at *
  generalize W1.heap.size = gt at *
  clear hnr
  have HSC := Lib.hid (fun n => HSM.out (W3.drewN n) gt (belowDrewN n HB3.out.bel) HG.out)
  go_quiet (first | (go_at_call 20; exact (HSC.out _).mono fun _ _ h => ⟨h.1, _, h.2.symm⟩))
  have HBQ := Lib.hid (show Kbx w (W3.drewN nq) k nonce from HB3.out.next (belowDrewN nq (Below.refl _ _)))
  generalize W3.drewN nq = W4 at *
  clear HB HB1 HB3 HTC HSM HSC HTT HTZ HTB HTN HG
  generalize (tagL k nonce beside un == tl) = bb at *
  by_cases hsm : bb = true
  · have h0 : openErr k nonce beside sealed = 0 := by rw [HER.out, if_pos hsm]
    have hl : openL k nonce beside sealed = xorL k nonce 1 un := by rw [HOL.out, if_pos h0]
    have HE0 := Lib.hid h0
    have HL0 := Lib.hid hl
    have HX4 := Lib.hid (HXC.out W4 HBQ.out.bel)
    clear HER HOL h0 hl HXC
    subst hsm
    go_wp2_with (first
      | (refine wpList_load_row rfl 23 (.tmp 4) rfl w.heap.size rfl 23 (vb k) (0, 0) _ HBQ.out.kA Tryd.underlying23 rfl HIK.out ?_)
      | (refine wpList_load_row rfl 25 (.tmp 5) rfl (w.heap.size + 1) rfl 25 (vb nonce) (0, 0) _ HBQ.out.nA Tryd.underlying25 rfl HIN.out ?_)
      | (go_at_call 18; (refine HX4.out.mono ?_); rintro e W5 ⟨v1, rfl, ho, hb⟩; have HO5 := Lib.hid (own_base_le ho HBQ.out.bel.size); have HB5 := Lib.hid (HBQ.out.bel.trans (hb.mono HBQ.out.bel.size)); clear ho hb))
    refine bodyPost_ret (results_tmp2 rfl _ _ _) rfl ?_
    exact ⟨_, by rw [HE0.out]; rfl, by rw [HL0.out]; exact HO5.out, HB5.out⟩
  · have h5 : openErr k nonce beside sealed = 5 := by rw [HER.out, if_neg hsm]
    have hl : openL k nonce beside sealed = [] := by rw [HOL.out, h5, if_neg (by decide)]
    have hf : bb = false := by simpa using hsm
    have HE0 := Lib.hid h5
    have HL0 := Lib.hid hl
    clear HER HOL h5 hl HXC hsm
    subst hf
    go_wp2_with fail
    refine bodyPost_ret (results_tmp2 rfl _ _ _) rfl ?_
    exact ⟨_, by rw [HE0.out]; rfl, by rw [HL0.out]; exact OwnB.nil_ _ _, HBQ.out.bel⟩
end Go.Proofs.YtfblpkjablgafaaDoor
