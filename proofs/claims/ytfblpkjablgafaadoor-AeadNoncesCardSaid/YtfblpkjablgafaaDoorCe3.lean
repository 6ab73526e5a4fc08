/- Contracts: opened, and nonces, by the document. -/
import Derived.Test.YtfblpkjablgafaaDoorCe2
import Derived.Test.YtfblpkjablgafaaDoorCdM
namespace Go.Proofs.YtfblpkjablgafaaDoor
open Go.RowKit
set_option linter.unusedVariables false
set_option linter.unusedSimpArgs false
theorem range_all {w : World} {g : Nat} {T : TypeId} {l : List Nat} (h : Blk w g T (vb l)) : w.rangeAt g 0 (byt l) := by
  have := range_take h l.length
  rwa [List.take_length] at this
theorem b32Ln {L : List Nat} (h : L.length = 32) : (Tryd.prog.info? 22).map (·.size) = some (byt L).length := by rw [byt_len, h]; kernel_rfl
theorem n12Ln {L : List Nat} (h : L.length = 12) : (Tryd.prog.info? 24).map (·.size) = some (byt L).length := by rw [byt_len, h]; kernel_rfl
theorem xorL_twice (k nonce : List Nat) (n : Nat) (b : List Nat) : xorL k nonce n (xorL k nonce n b) = b := by
  apply List.ext_getElem
  · simp [xorL_len]
  · intro i h1 h2
    have hi : i < b.length := h2
    have hx : (xorL k nonce n b).getD i 0 = xorB k nonce n b i := by
      unfold xorL
      rw [List.getD_eq_getElem?_getD, List.getElem?_map, List.getElem?_range hi]
      rfl
    have e : (xorL k nonce n (xorL k nonce n b))[i]'h1 = xorB k nonce n (xorL k nonce n b) i := by
      simp [xorL]
    rw [e]
    unfold xorB
    rw [hx]
    unfold xorB
    rw [Nat.xor_assoc, Nat.xor_self, Nat.xor_zero, List.getD_eq_getElem?_getD, List.getElem?_eq_getElem hi]
    rfl
theorem seal_eq (k nonce beside un tl : List Nat) (h : tl.length = 16) : (sealL k nonce beside (xorL k nonce 1 un) == un ++ tl) = (tagL k nonce beside un == tl) := by
  unfold sealL
  rw [xorL_twice]
  rw [Bool.eq_iff_iff]
  simp
set_option maxRecDepth 100000 in
set_option maxHeartbeats 4000000 in
theorem ropenShort_c (A1 A2 : Option Addr) (c1 c2 n1 n2 : Nat) (k nonce : List Nat) (w : World) (h : n2 < 16) :
    Calls Tryd.prog 14 #[.agg (vb k), .agg (vb nonce), .slice A1 n1 c1, .slice A2 n2 c2] w fun e w' => e = .returned (.tuple #[.slice none 0 0, .int .i64 2]) ∧ Below w.heap.size w w' := by
  have p1 : (n2 : Int) < 16 := by omega
  have hbx := Rbx.begin2 w k nonce
  go_enter Tryd.func14, Tryd.ntmps14
  go_upto_region 1 with (first
    | (refine Go.Great.wpList_boxTo rfl 22 (.tmp 0) rfl (some 4) rfl w.heap.size rfl (vb k) rfl ?_)
    | (refine Go.Great.wpList_boxTo rfl 24 (.tmp 1) rfl (some 5) rfl (w.heap.size + 1) (by simp) (vb nonce) rfl ?_))
  generalize (w.alloc (Obj.cells (vb k) 22)).alloc (Obj.cells (vb nonce) 24) = Z at *
  have HB := Lib.hid hbx.bel
  clear hbx
  go_wp2_with fail
  refine bodyPost_ret (results_tmp2 rfl _ _ _) rfl ?_
  exact ⟨rfl, HB.out⟩
set_option maxRecDepth 100000 in
set_option maxHeartbeats 8000000 in
theorem ropen_c (A1 A2 : Option Addr) (c1 c2 : Nat) (k nonce beside sealed : List Nat) (w : World) (hk : k.length = 32) (hkl : ∀ c ∈ k, c < 256) (hc : nonce.length = 12) (hcl : ∀ c ∈ nonce, c < 256)
    (hr1 : Rd w w.heap.size A1 (byt beside)) (hr2 : Rd w w.heap.size A2 (byt sealed)) (hb1 : ∀ c ∈ beside, c < 256) (hb2 : ∀ c ∈ sealed, c < 256) (hl1 : beside.length ≤ 4200) (h16 : 16 ≤ sealed.length) (hl2 : sealed.length ≤ 4112) (hcap : sealed.length ≤ c2) :
    Calls Tryd.prog 14 #[.agg (vb k), .agg (vb nonce), .slice A1 beside.length c1, .slice A2 sealed.length c2] w fun e w' => ∃ v, e = .returned (.tuple #[v, .int .i64 (openErr k nonce beside sealed : Nat)]) ∧ OwnB w' w.heap.size v (openL k nonce beside sealed) ∧ Below w.heap.size w w' := by
  obtain ⟨ad, rfl, _, _⟩ := hr2.byte (k := 0) (by omega)
  obtain ⟨m, hm⟩ : ∃ m, m = sealed.length - 16 := ⟨_, rfl⟩
  obtain ⟨un, hun⟩ : ∃ un, un = sealed.take m := ⟨_, rfl⟩
  obtain ⟨tl, htl⟩ : ∃ tl, tl = sealed.drop m := ⟨_, rfl⟩
  have hul : un.length = m := by rw [hun, List.length_take]; omega
  have htl16 : tl.length = 16 := by rw [htl, List.length_drop]; omega
  have hunl : ∀ c ∈ un, c < 256 := by rw [hun]; exact fun c hc => hb2 c (List.mem_of_mem_take hc)
  have HER := Lib.hid (show openErr k nonce beside sealed = if tagL k nonce beside un == tl then 0 else 5 by unfold openErr; rw [if_neg (by omega), if_neg (by omega), ← hm, ← hun, ← htl])
  have HOL := Lib.hid (show openL k nonce beside sealed = if openErr k nonce beside sealed = 0 then xorL k nonce 1 un else [] by unfold openL; rw [← hm, ← hun])
  have HEQ := Lib.hid (show (sealL k nonce beside (xorL k nonce 1 un) == sealed) = (tagL k nonce beside un == tl) by
    rw [← seal_eq k nonce beside un tl htl16, hun, htl, List.take_append_drop])
  have hru : Rd w w.heap.size (some ad) (byt un) := by rw [hun]; exact hr2.take_ m
  have f0 : IntKind.i64.wrap ((sealed.length : Int) - 16) = (m : Int) := by simp [IntKind.wrap, IntKind.signed, IntKind.bits]; omega
  have q1 : ¬ (sealed.length : Int) < 16 := by omega
  have q2 : ¬ (4112 : Int) < (sealed.length : Int) := by omega
  have HIK := Lib.hid (b32Ln hk)
  have HIN := Lib.hid (n12Ln hc)
  have HIK2 := Lib.hid (b32Sz hk)
  have HIN2 := Lib.hid (n12Sz hc)
  have HXC := Lib.hid (show ∀ W, Below w.heap.size w W → Calls Tryd.prog 21 #[.agg (vb k), .agg (vb nonce), .int .u32 1, .slice (some ad) m c2] W (Gives (xorL k nonce 1 un) W) from fun W hW => by
    have h := rxor_c w.heap.size (some ad) c2 k nonce 1 un W hk hkl (by decide) hc hcl (hru.below hW) hW.size hunl (by omega)
    rw [hul] at h
    exact h)
  have HX1L := Lib.hid (xorL_len k nonce 1 un)
  have HX1T := Lib.hid (xorL_lt k nonce 1 hunl)
  have HSC := Lib.hid (fun W A c (hW : Below w.heap.size w W) (h : Rd W W.heap.size A (byt (xorL k nonce 1 un))) => rseal_c A1 A c1 c k nonce beside (xorL k nonce 1 un) W hk hkl hc hcl ((hr1.below hW).more hW.size) h hb1 HX1T.out hl1 (by rw [HX1L.out]; omega))
  have HSL := Lib.hid (show (sealL k nonce beside (xorL k nonce 1 un)).length ≤ 10000 by unfold sealL; rw [List.length_append, xorL_len, tagL_len, xorL_len]; omega)
  have HST := Lib.hid (show ∀ c ∈ sealL k nonce beside (xorL k nonce 1 un), c < 256 from fun c hc => by
    unfold sealL at hc
    rcases List.mem_append.1 hc with h | h
    · exact xorL_lt k nonce 1 HX1T.out c h
    · exact form_lt _ _ c h)
  have HR2 := Lib.hid hr2
  have HB2 := Lib.hid hb2
  clear hkl hcl hr1 hr2 hb1 hb2 hru hunl
  have hmc : m ≤ c2 := by omega
  have p3 : (m : Int) ≤ (c2 : Int) := by omega
  have p4 : (0 : Int) ≤ (m : Int) := by omega
  clear hun htl hul hm
  generalize sealL k nonce beside (xorL k nonce 1 un) = sl at *
  generalize xorL k nonce 1 un = X1 at *
  generalize (tagL k nonce beside un == tl) = bb at *
  have hbx := Rbx.begin2 w k nonce
  go_enter Tryd.func14, Tryd.ntmps14
  go_upto_region 1 with (first
    | (refine Go.Great.wpList_boxTo rfl 22 (.tmp 0) rfl (some 4) rfl w.heap.size rfl (vb k) rfl ?_)
    | (refine Go.Great.wpList_boxTo rfl 24 (.tmp 1) rfl (some 5) rfl (w.heap.size + 1) (by simp) (vb nonce) rfl ?_))
  generalize (w.alloc (Obj.cells (vb k) 22)).alloc (Obj.cells (vb nonce) 24) = Z at *
  have HB := Lib.hid hbx
  clear hbx
  go_upto_region 5 with fail
  refine wp_region_loudTail 8 Z [24] (fun _ u W => OwnB W Z.heap.size u X1) (by kernel_rfl) (by kernel_rfl) (by kernel_rfl) (by kernel_rfl) (fun _ _ _ _ h hb => OwnB.next h hb) (Below.refl _ _).drew ?_
  simp only [List.take_succ_cons, List.take_zero, List.drop_succ_cons, List.drop_zero]
  repeat (first
    | (refine wpLoud_load rfl rfl 22 (.tmp 4) rfl w.heap.size 0 rfl (byt k) _ (fun y => range_all (HB.out.kA.below y.bel HB.out.kA.lt)) Tryd.underlying22 rfl HIK.out _ (by simp only [Act.put, List.setIfInBounds_toArray, List.set_cons_succ, List.set_cons_zero]; rfl) ?_)
    | (refine wpLoud_load rfl rfl 24 (.tmp 5) rfl (w.heap.size + 1) 0 rfl (byt nonce) _ (fun y => range_all (HB.out.nA.below y.bel HB.out.nA.lt)) Tryd.underlying24 rfl HIN.out _ (by simp only [Act.put, List.setIfInBounds_toArray, List.set_cons_succ, List.set_cons_zero]; rfl) ?_)
    | (refine wpLoud_call 24 rfl [] tok 21 (fun g => #[.agg (vb k), .agg (vb nonce), .int .u32 1, .slice (some ad) m c2]) rfl (fun _ _ h => by cases h) rfl (fun g w => by kernel_rfl) (fun g y hg => by
        refine (HXC.out y.wd (HB.out.bel.trans (y.bel.mono HB.out.bel.size))).mono ?_
        rintro e w' ⟨u, rfl, ho, hb⟩
        exact ⟨u, rfl, hb, own_base_le ho y.2.size⟩) _ (by simp only [Act.put, List.setIfInBounds_toArray, List.set_cons_succ, List.set_cons_zero]; rfl) ?_)
    | (refine wpLoud_valD 21 rfl rfl (by kernel_rfl) (fun _ _ h => by cases h) (.int .i64 (sealed.length : Nat)) (fun x => by kernel_rfl) _ (by simp only [Act.put, List.setIfInBounds_toArray, List.set_cons_succ, List.set_cons_zero]; rfl) ?_)
    | (refine wpLoud_plain rfl rfl rfl ?_; intro K hK; go_big_quiet_op; go_big_quiet_on))
  refine wpLoud_end [24] (by rfl) ?_
  intro g z hg
  have h9 : OwnB z.wd Z.heap.size (g 24) X1 := hg 24 (by simp)
  obtain ⟨A9, k9, e9, _, _, r9⟩ := h9.rd
  have HR9 := Lib.hid r9
  have HBY := Lib.hid (HB.out.next (z.bel.mono HB.out.sz))
  rw [e9] at h9
  have HO9 := Lib.hid h9
  generalize z.wd = Y2 at *
  simp only [fill, Act.put, List.setIfInBounds_toArray, List.set_cons_succ, List.set_cons_zero]
  rw [e9]
  have HZS := Lib.hid HB.out.bel.size
  clear hg h9 r9 e9 HB HXC
  have HR2Y := Lib.hid (HR2.out.below HBY.out.bel)
  go_upto_region 6 with fail
  go_upto_if 32 with (first
    | (refine wpList_load_row rfl 22 (.tmp 4) rfl w.heap.size rfl 22 (vb k) (0, 0) _ HBY.out.kA Tryd.underlying22 rfl HIK2.out ?_)
    | (refine wpList_load_row rfl 24 (.tmp 5) rfl (w.heap.size + 1) rfl 24 (vb nonce) (0, 0) _ HBY.out.nA Tryd.underlying24 rfl HIN2.out ?_)
    | (go_at_call 12; (refine (HSC.out Y2 A9 k9 HBY.out.bel HR9.out).mono ?_); rintro e W3 ⟨v3, rfl, ho, hb⟩; obtain ⟨A3, k3, rfl, _, _, r3⟩ := ho.rd; have HR3 := Lib.hid r3; have HO3 := Lib.hid (HO9.out.next hb); have HB3 := Lib.hid (HBY.out.bel.trans (hb.mono HBY.out.bel.size)); have HR23 := Lib.hid (HR2Y.out.below (hb.mono HBY.out.bel.size)); clear ho hb r3)
    | (go_at_call 11; (refine (same_c W3.heap.size w.heap.size A3 (some ad) k3 c2 sl sealed W3 HST.out HB2.out HR3.out HR23.out (by have := HSL.out; omega) (by omega)).mono ?_); rintro e W4 ⟨rfl, q, rfl⟩; rw [HEQ.out]))
  have HO4 := Lib.hid (HO3.out.drewN q)
  have HB4 := Lib.hid (belowDrewN q HB3.out)
  generalize W3.drewN q = W4 at *
  clear HO9 HBY HR2Y HR3 HO3 HB3 HR23 HEQ
  by_cases hsm : bb = true
  · have h0 : openErr k nonce beside sealed = 0 := by rw [HER.out, if_pos hsm]
    have hl : openL k nonce beside sealed = X1 := by rw [HOL.out, if_pos h0]
    have HE0 := Lib.hid h0
    have HL0 := Lib.hid hl
    clear HER HOL h0 hl
    subst hsm
    go_wp2_with fail
    refine bodyPost_ret (results_tmp2 rfl _ _ _) rfl ?_
    exact ⟨_, by rw [HE0.out]; rfl, by rw [HL0.out]; exact own_base_le HO4.out HZS.out, HB4.out⟩
  · have h5 : openErr k nonce beside sealed = 5 := by rw [HER.out, if_neg hsm]
    have hl : openL k nonce beside sealed = [] := by rw [HOL.out, h5, if_neg (by decide)]
    have hf : bb = false := by simpa using hsm
    have HE0 := Lib.hid h5
    have HL0 := Lib.hid hl
    clear HER HOL h5 hl hsm
    subst hf
    go_wp2_with fail
    refine bodyPost_ret (results_tmp2 rfl _ _ _) rfl ?_
    exact ⟨_, by rw [HE0.out]; rfl, by rw [HL0.out]; exact OwnB.nil_ _ _, HB4.out⟩
end Go.Proofs.YtfblpkjablgafaaDoor
