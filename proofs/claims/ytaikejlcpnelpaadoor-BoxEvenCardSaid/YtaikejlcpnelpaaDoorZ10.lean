/- Parts, one behind the other: Bx5 Ce3 Bx6 Dl2 Df9 Lift LiftQ OpQ OpP. -/
import Derived.Test.YtaikejlcpnelpaaDoorZ09
import Derived.Test.YtaikejlcpnelpaaDoorRows
import Derived.Laws.StructEq
import Derived.ProofKit
import Derived.OpenShut
import Derived.ShutString
import Derived.ChangeOld
import Derived.Below
import Derived.LaidMore
import Derived.Lib.LaidTab
import Derived.MakeChecks
import Derived.Stop.Joined
import Derived.DataElems
/- Contracts: the document's sealing of pieces; whether two boxes are one. -/
namespace Go.Proofs.YtaikejlcpnelpaaDoor
open Go.RowKit
set_option linter.unusedVariables false
set_option linter.unusedSimpArgs false
/-- a box handed back -/
def RBox (t : ByteArray) (ep : Nat) (nn body : List Nat) (base : Nat) (u : Value) (W : World) : Prop := ∃ A c, u = .agg (bxV t ep nn A body.length c) ∧ OwnB W base (.slice A body.length c) body
theorem RBox.next {t : ByteArray} {ep : Nat} {nn body : List Nat} {base : Nat} {u : Value} {W W' : World} (h : RBox t ep nn body base u W) (hb : Below W.heap.size W W') : RBox t ep nn body base u W' := by
  obtain ⟨A, c, e, h⟩ := h
  exact ⟨A, c, e, h.next hb⟩
set_option maxRecDepth 100000 in
set_option maxHeartbeats 4000000 in
theorem rseal16_c (k nn : List Nat) (t : ByteArray) (ep : Nat) (A : Option Addr) (ca : Nat) (l : List Pc) (w : World) (hk : k.length = 32) (hkl : ∀ c ∈ k, c < 256) (hn : nn.length = 12) (hnl : ∀ c ∈ nn, c < 256) (ht : t.size ≤ 1000) (he : ep < 4294967296) (hr : RdP w w.heap.size A l) (h1 : l.length ≤ 100000) (hok : ∀ p ∈ l, PcOk p ∧ p.s.size ≤ 1000000) (h0 : chkL l = 0) :
    Calls Tryd.prog 15 #[.agg (vb k), .agg (vb nn), .string t, .int .u32 (ep : Nat), .slice A l.length ca] w fun e w' => ∃ u, e = .returned u ∧ RBox t ep nn (boxL k nn t ep l) w.heap.size u w' ∧ Below w.heap.size w w' := by
  have zf := zero_bx
  have zs1 : zBx.size = 15 := by rfl
  have zs2 : ¬ zBx = #[] := by intro h; have := congrArg Array.size h; rw [zs1] at this; cases this
  have HBX := Lib.hid (Sbx.begin w k nn)
  have hL0 : layR l = layL l := by unfold layR; rw [if_pos h0]
  have hLl : (layL l).length ≤ 4096 := by rw [← hL0]; exact layR_le (fun p hp => (hok p hp).1)
  have hLb : ∀ c ∈ layL l, c < 256 := by rw [← hL0]; exact layR_lt l
  have hbl := beside_len 66 t ep
  have HBS := Lib.hid (fun W => rbeside_c 66 t ep W he (by omega))
  have HLY := Lib.hid (fun W (hb : Below w.heap.size w W) => rlay_c A ca l W (Rd.ups (Rd.below hr hb) hb.size) h1 hok h0)
  have HSC := Lib.hid (fun W A1 A2 c1 c2 (hr1 : Rd W W.heap.size A1 (byt (besideL 66 t ep))) (hr2 : Rd W W.heap.size A2 (byt (layL l))) => rseal_c A1 A2 c1 c2 k nn (besideL 66 t ep) (layL l) W hk hkl hn hnl hr1 hr2 (beside_lt 66 t ep (by decide)) hLb (by omega) (by omega))
  have HSB := Lib.hid (show sealL k nn (besideL 66 t ep) (layL l) = boxL k nn t ep l from rfl)
  rw [HSB.out] at HSC
  have HBT := Lib.hid (fun A n c => built_bx t ep (nn := nn) A n c hn)
  have HBI := Lib.hid (fun A n c => bxSz t ep (nn := nn) A n c hn)
  have HBQ := Lib.hid (fun A n c => show zBx.size = (bxV t ep nn A n c).size by rw [zBx_size]; unfold bxV; rw [List.size_toArray, bxL_len t ep A n c hn])
  have HNL := Lib.hid (show (Tryd.prog.info? 25).map (·.size) = some (vb nn).toList.length by rw [Array.length_toList]; exact nnSz hn)
  have HKL := Lib.hid (show (Tryd.prog.info? 23).map (·.size) = some (vb k).toList.length by rw [Array.length_toList]; exact keySz hk)
  generalize boxL k nn t ep l = body at *
  generalize layL l = L at *
  generalize besideL 66 t ep = bs at *
  clear hr hok hkl hnl h0 hL0 hLl hLb hbl HSB
  go_enter Tryd.func15, Tryd.ntmps15
  go_upto_region 1 with (first
    | (refine Go.Great.wpList_boxTo rfl 23 (.tmp 0) rfl (some 5) rfl w.heap.size rfl (vb k) rfl ?_)
    | (refine Go.Great.wpList_boxTo rfl 25 (.tmp 1) rfl (some 6) rfl (w.heap.size + 1) (by simp) (vb nn) rfl ?_))
  generalize ((w.alloc (Obj.cells (vb k) 23)).alloc (Obj.cells (vb nn) 25)).alloc (Obj.cells zBx 32) = Z at *
  clear zf zs1 zs2
  refine wp_region_loudTail 11 Z [18, 20, 21] (fun k u W => if k = 18 then OwnB W Z.heap.size u bs else if k = 20 then OwnB W Z.heap.size u L else OwnB W Z.heap.size u body) (by kernel_rfl) (by kernel_rfl) (by kernel_rfl) (by kernel_rfl) (fun k u w1 w2 h hb => by
    by_cases h33 : k = 18
    · rw [if_pos h33] at h ⊢; exact OwnB.next h hb
    · rw [if_neg h33] at h ⊢
      by_cases h35 : k = 20
      · rw [if_pos h35] at h ⊢; exact OwnB.next h hb
      · rw [if_neg h35] at h ⊢; exact OwnB.next h hb) (Below.refl _ _).drew ?_
  simp only [List.take_succ_cons, List.take_zero, List.drop_succ_cons, List.drop_zero]
  repeat (first
    | (refine wpLoud_loadB rfl rfl 23 (.tmp 5) rfl w.heap.size 0 rfl (vb k) _ (fun z => by have h2 := rangeAt_blk (HBX.out.kb.kA.below z.bel HBX.out.kb.kA.lt); simpa [vb] using h2) Tryd.underlying23 rfl HKL.out _ (by simp only [Act.put, List.setIfInBounds_toArray, List.set_cons_succ, List.set_cons_zero]; rfl) ?_)
    | (refine wpLoud_loadB rfl rfl 25 (.tmp 6) rfl (w.heap.size + 1) 0 rfl (vb nn) _ (fun z => by have h2 := rangeAt_blk (HBX.out.kb.nA.below z.bel HBX.out.kb.nA.lt); simpa [vb] using h2) Tryd.underlying25 rfl HNL.out _ (by simp only [Act.put, List.setIfInBounds_toArray, List.set_cons_succ, List.set_cons_zero]; rfl) ?_)
    | (refine wpLoud_call 18 rfl [] tok 20 (fun g => #[.int .u8 66, .string t, .int .u32 (ep : Int)]) rfl (fun _ _ h => by cases h) rfl (fun g w => by kernel_rfl) (fun g y hg => by
        refine (HBS.out y.wd).mono ?_
        rintro e w' ⟨u, rfl, ho, hb⟩
        exact ⟨u, rfl, hb, own_base_le ho y.bel.size⟩) _ (by simp only [Act.put, List.setIfInBounds_toArray, List.set_cons_succ, List.set_cons_zero]; rfl) ?_)
    | (refine wpLoud_call 20 rfl [] tok 22 (fun g => #[.slice A l.length ca]) rfl (fun _ _ h => by cases h) rfl (fun g w => by kernel_rfl) (fun g y hg => by
        refine (HLY.out y.wd (HBX.out.kb.bel.trans (y.bel.mono HBX.out.kb.bel.size))).mono ?_
        rintro e w' ⟨u, rfl, ho, hb⟩
        exact ⟨u, rfl, hb, own_base_le ho y.bel.size⟩) _ (by simp only [Act.put, List.setIfInBounds_toArray, List.set_cons_succ, List.set_cons_zero]; rfl) ?_)
    | (refine wpLoud_call 21 rfl [18, 20] tok 26 (fun g => #[.agg (vb k), .agg (vb nn), g 18, g 20]) rfl (fun _ _ h => by cases h) rfl (fun g w => by kernel_rfl) (fun g y hg => by
        have h18 : OwnB y.wd Z.heap.size (g 18) bs := hg 18 (by simp)
        have h20 : OwnB y.wd Z.heap.size (g 20) L := hg 20 (by simp)
        obtain ⟨A3, c3, e3, _, _, r3⟩ := h18.rd
        obtain ⟨A4, c4, e4, _, _, r4⟩ := h20.rd
        show Calls _ _ #[_, _, g 18, g 20] _ _
        rw [e3, e4]
        refine (HSC.out y.wd A3 A4 c3 c4 r3 r4).mono ?_
        rintro e w' ⟨v, rfl, ho, hb⟩
        exact ⟨v, rfl, hb, own_base_le ho y.bel.size⟩) _ (by simp only [Act.put, List.setIfInBounds_toArray, List.set_cons_succ, List.set_cons_zero]; rfl) ?_)
    | (refine wpLoud_plain rfl rfl rfl ?_; intro K hK; go_big_quiet_op; go_big_quiet_on))
  refine wpLoud_end [18, 20, 21] (by rfl) ?_
  intro gg z hg
  have h21 : OwnB z.wd Z.heap.size (gg 21) body := hg 21 (by simp)
  obtain ⟨A5, c5, e21, _, _, _⟩ := h21.rd
  have HO5 := Lib.hid h21
  have HX5 := Lib.hid (HBX.out.next z.bel)
  generalize z.wd = Y at *
  simp only [fill, Act.put, List.setIfInBounds_toArray, List.set_cons_succ, List.set_cons_zero]
  rw [e21] at HO5 ⊢
  clear hg h21 e21
  generalize gg 18 = x18 at *
  generalize gg 20 = x20 at *
  refine wpList_valG (by kernel_rfl) (.agg (bxV t ep nn A5 body.length c5)) (by exact run_built _ 32 [(0, .string t), (1, .int .u32 (ep : Int)), (2, .agg (vb nn)), (3, .slice A5 body.length c5)] (bxV t ep nn A5 body.length c5) (HBT.out A5 body.length c5) #[(0, .tmp 11), (1, .tmp 12), (2, .tmp 13), (3, .tmp 21)] rfl (by kernel_rfl)) ?_
  simp only [Act.put, List.setIfInBounds_toArray, List.set_cons_succ, List.set_cons_zero]
  refine wpList_store_rowTo rfl 32 (.tmp 10) (.tmp 22) rfl rfl (w.heap.size + 1 + 1) (bxV t ep nn A5 body.length c5) rfl rfl 32 zBx (by exact HX5.out.r) (HBI.out ..) (HBQ.out ..) (bx_all _ _ _ _ _ _) ?_
  go_wp2_with fail
  refine bodyPost_ret (results_cell_row rfl _ _ (w.heap.size + 1 + 1) 32 (bxV t ep nn A5 body.length c5) (0, 0) _ rfl (setRow_heap _ _ zBx _ 32 (0, 0) HX5.out.r) Tryd.underlying32 rfl (HBI.out ..)) rfl ?_
  refine ⟨_, rfl, ⟨A5, c5, rfl, ?_⟩, below_row HX5.out.kb.bel (by omega) _⟩
  have hlt := HBX.out.r.lt
  exact own_base_le (own_keep HO5.out (only_setRow Y (w.heap.size + 1 + 1) _) (fun g hg hs => by have h2 := own_base HO5.out g hg; omega)) (by omega)
def sameBx (t1 : ByteArray) (ep1 : Nat) (nn1 l1 : List Nat) (t2 : ByteArray) (ep2 : Nat) (nn2 l2 : List Nat) : Bool := (t1.toList == t2.toList) && ((ep1 == ep2) && ((nn1 == nn2) && (l1 == l2)))
structure Twx (w W : World) (B1 B2 : Array Value) : Prop where
  bel : Below w.heap.size w W
  a : Blk W w.heap.size 32 B1
  b : Blk W (w.heap.size + 1) 32 B2
theorem Twx.begin (w : World) (B1 B2 : Array Value) : Twx w ((w.alloc (Obj.cells B1 32)).alloc (Obj.cells B2 32)) B1 B2 :=
  ⟨((Below.refl _ _).alloc (Nat.le_refl _) _).alloc (by simp) _, (Blk.new w _ _).alloc _, heap2 w _ _⟩
set_option maxRecDepth 100000 in
set_option maxHeartbeats 4000000 in
theorem rsame16_c (t1 t2 : ByteArray) (ep1 ep2 : Nat) (nn1 nn2 l1 l2 : List Nat) (A1 A2 : Option Addr) (c1 c2 : Nat) (w : World) (hn1 : nn1.length = 12) (hn2 : nn2.length = 12) (hb1 : ∀ c ∈ nn1, c < 256) (hb2 : ∀ c ∈ nn2, c < 256)
    (hr1 : Rd w w.heap.size A1 (byt l1)) (hr2 : Rd w w.heap.size A2 (byt l2)) (hl1 : ∀ c ∈ l1, c < 256) (hl2 : ∀ c ∈ l2, c < 256) (h1 : l1.length ≤ 1000000) (h2 : l2.length ≤ 1000000) :
    Calls Tryd.prog 12 #[.agg (bxV t1 ep1 nn1 A1 l1.length c1), .agg (bxV t2 ep2 nn2 A2 l2.length c2)] w fun e w' => e = .returned (.bool (sameBx t1 ep1 nn1 l1 t2 ep2 nn2 l2)) ∧ Below w.heap.size w w' := by
  have HS := Lib.hid (fun W (hb : Below w.heap.size w W) => same_c w.heap.size w.heap.size A1 A2 c1 c2 l1 l2 W hl1 hl2 (hr1.below hb) (hr2.below hb) (by omega) (by omega))
  have l3 : ∀ W, (Op.equalIn 10000 25 (.agg (vb nn1)) (.agg (vb nn2))).run Tryd.prog W = .ok (nn1 == nn2) W := fun W => run_equalIn_barr Tryd.underlying25 Tryd.underlying5 (by kernel_rfl) (by kernel_rfl) nn1 nn2 hn1 hn2 hb1 hb2 W
  have HX := Lib.hid (Twx.begin w (bxV t1 ep1 nn1 A1 l1.length c1) (bxV t2 ep2 nn2 A2 l2.length c2))
  have HN1 := Lib.hid (nnSz hn1)
  have HN2 := Lib.hid (nnSz hn2)
  have HN1l := Lib.hid (show (Tryd.prog.info? 25).map (·.size) = some (byt nn1).length by rw [byt_len]; have h := nnSz hn1; rw [vb_size] at h; exact h)
  have HN2l := Lib.hid (show (Tryd.prog.info? 25).map (·.size) = some (byt nn2).length by rw [byt_len]; have h := nnSz hn2; rw [vb_size] at h; exact h)
  have HV := Lib.hid (show sameBx t1 ep1 nn1 l1 t2 ep2 nn2 l2 = ((t1.toList == t2.toList) && ((ep1 == ep2) && ((nn1 == nn2) && (l1 == l2)))) from rfl)
  obtain ⟨r, hr⟩ : ∃ r, r = sameBx t1 ep1 nn1 l1 t2 ep2 nn2 l2 := ⟨_, rfl⟩
  rw [← hr] at HV ⊢
  have HH1 := Lib.hid hn1
  have HH2 := Lib.hid hn2
  clear hr hr1 hr2 hl1 hl2 hb1 hb2 hn1 hn2
  go_enter Tryd.func12, Tryd.ntmps12
  go_upto_region 1 with (first
    | (refine Go.Great.wpList_boxTo rfl 32 (.tmp 0) rfl (some 2) rfl w.heap.size rfl (bxV t1 ep1 nn1 A1 l1.length c1) rfl ?_)
    | (refine Go.Great.wpList_boxTo rfl 32 (.tmp 1) rfl (some 3) rfl (w.heap.size + 1) (by simp) (bxV t2 ep2 nn2 A2 l2.length c2) rfl ?_))
  generalize (w.alloc (Obj.cells (bxV t1 ep1 nn1 A1 l1.length c1) 32)).alloc (Obj.cells (bxV t2 ep2 nn2 A2 l2.length c2) 32) = Z at *
  have c0 : Z.cell? ⟨w.heap.size, 0, none⟩ = some (.string t1) := (HX.out.a.cell 0).trans (bx_c0 ..)
  have c1' : Z.cell? ⟨w.heap.size, 1, none⟩ = some (.int .u32 (ep1 : Int)) := (HX.out.a.cell 1).trans (bx_c1 ..)
  have c14 : Z.cell? ⟨w.heap.size, 14, none⟩ = some (.slice A1 l1.length c1) := (HX.out.a.cell 14).trans (bx_c14 _ _ _ _ _ HH1.out)
  have d0 : Z.cell? ⟨w.heap.size + 1, 0, none⟩ = some (.string t2) := (HX.out.b.cell 0).trans (bx_c0 ..)
  have d1 : Z.cell? ⟨w.heap.size + 1, 1, none⟩ = some (.int .u32 (ep2 : Int)) := (HX.out.b.cell 1).trans (bx_c1 ..)
  have d14 : Z.cell? ⟨w.heap.size + 1, 14, none⟩ = some (.slice A2 l2.length c2) := (HX.out.b.cell 14).trans (bx_c14 _ _ _ _ _ HH2.out)
  rcases (show (t1.toList == t2.toList) = false ∨ (t1.toList == t2.toList) = true by cases (t1.toList == t2.toList) <;> simp) with ht | ht
  · have HF := Lib.hid (show r = false by rw [HV.out, ht]; rfl)
    go_wp2_with fail
    go_ret
    exact ⟨by rw [HF.out]; rfl, HX.out.bel⟩
  · by_cases hep : ep1 = ep2
    · have e1 : ((ep1 : Int) == (ep2 : Int)) = true := by rw [beq_iff_eq]; omega
      have HEP := Lib.hid (show (ep1 == ep2) = true by rw [beq_iff_eq]; exact hep)
      clear hep
      rcases (show (nn1 == nn2) = false ∨ (nn1 == nn2) = true by cases (nn1 == nn2) <;> simp) with hnn | hnn
      · have HF := Lib.hid (show r = false by rw [HV.out, ht, HEP.out, hnn]; rfl)
        rw [hnn] at l3
        unfold vb at l3
        clear hnn
        go_wp2_with (first
          | (refine wpList_loadG rfl 25 (.tmp 18) rfl w.heap.size 2 rfl (byt nn1) _ (bx_nonce HX.out.a) Tryd.underlying25 rfl HN1l.out ?_)
          | (refine wpList_loadG rfl 25 (.tmp 20) rfl (w.heap.size + 1) 2 rfl (byt nn2) _ (bx_nonce HX.out.b) Tryd.underlying25 rfl HN2l.out ?_))
        go_ret
        exact ⟨by rw [HF.out]; rfl, HX.out.bel⟩
      · have HF := Lib.hid (show r = (l1 == l2) by rw [HV.out, ht, HEP.out, hnn]; simp)
        rw [hnn] at l3
        unfold vb at l3
        clear hnn
        have HQ := Lib.hid (HS.out Z HX.out.bel)
        rw [← HF.out] at HQ
        clear HS
        go_wp2_with (first
          | (refine wpList_loadG rfl 25 (.tmp 18) rfl w.heap.size 2 rfl (byt nn1) _ (bx_nonce HX.out.a) Tryd.underlying25 rfl HN1l.out ?_)
          | (refine wpList_loadG rfl 25 (.tmp 20) rfl (w.heap.size + 1) 2 rfl (byt nn2) _ (bx_nonce HX.out.b) Tryd.underlying25 rfl HN2l.out ?_)
          | (go_at_call 21; (refine HQ.out.mono ?_); rintro e W1 ⟨rfl, q, rfl⟩))
        go_ret
        exact ⟨rfl, belowDrewN q HX.out.bel⟩
    · have e1 : ((ep1 : Int) == (ep2 : Int)) = false := by rw [beq_eq_false_iff_ne]; omega
      have HF := Lib.hid (show r = false by rw [HV.out, ht, show (ep1 == ep2) = false by rw [beq_eq_false_iff_ne]; exact hep]; rfl)
      clear hep
      go_wp2_with fail
      go_ret
      exact ⟨by rw [HF.out]; rfl, HX.out.bel⟩
end Go.Proofs.YtaikejlcpnelpaaDoor
/- Contracts: opened, and nonces, by the document. -/
namespace Go.Proofs.YtaikejlcpnelpaaDoor
set_option maxRecDepth 100000
open Go.RowKit
set_option linter.unusedVariables false
set_option linter.unusedSimpArgs false
theorem range_all {w : World} {g : Nat} {T : TypeId} {l : List Nat} (h : Blk w g T (vb l)) : w.rangeAt g 0 (byt l) := by
  have := range_take h l.length
  rwa [List.take_length] at this
theorem b32Ln {L : List Nat} (h : L.length = 32) : (Tryd.prog.info? 22).map (·.size) = some (byt L).length := by rw [byt_len, h]; kernel_rfl
theorem n12Ln {L : List Nat} (h : L.length = 12) : (Tryd.prog.info? 24).map (·.size) = some (byt L).length := by rw [byt_len, h]; kernel_rfl
theorem xorL_twice (k nonce : List Nat) (n : Nat) (b : List Nat) : xorL k nonce n (xorL k nonce n b) = b := by
  apply List.ext_getElem
  · simp [xorL_len]
  · intro i h1 h2
    have hi : i < b.length := h2
    have hx : (xorL k nonce n b).getD i 0 = xorB k nonce n b i := by
      unfold xorL
      rw [List.getD_eq_getElem?_getD, List.getElem?_map, List.getElem?_range hi]
      rfl
    have e : (xorL k nonce n (xorL k nonce n b))[i]'h1 = xorB k nonce n (xorL k nonce n b) i := by
      simp [xorL]
    rw [e]
    unfold xorB
    rw [hx]
    unfold xorB
    rw [Nat.xor_assoc, Nat.xor_self, Nat.xor_zero, List.getD_eq_getElem?_getD, List.getElem?_eq_getElem hi]
    rfl
theorem seal_eq (k nonce beside un tl : List Nat) (h : tl.length = 16) : (sealL k nonce beside (xorL k nonce 1 un) == un ++ tl) = (tagL k nonce beside un == tl) := by
  unfold sealL
  rw [xorL_twice]
  rw [Bool.eq_iff_iff]
  simp
set_option maxRecDepth 100000 in
set_option maxHeartbeats 4000000 in
theorem ropenShort_c (A1 A2 : Option Addr) (c1 c2 n1 n2 : Nat) (k nonce : List Nat) (w : World) (h : n2 < 16) :
    Calls Tryd.prog 19 #[.agg (vb k), .agg (vb nonce), .slice A1 n1 c1, .slice A2 n2 c2] w fun e w' => e = .returned (.tuple #[.slice none 0 0, .int .i64 2]) ∧ Below w.heap.size w w' := by
  have p1 : (n2 : Int) < 16 := by omega
  have hbx := Rbx.begin2 w k nonce
  go_enter Tryd.func19, Tryd.ntmps19
  go_upto_region 1 with (first
    | (refine Go.Great.wpList_boxTo rfl 22 (.tmp 0) rfl (some 4) rfl w.heap.size rfl (vb k) rfl ?_)
    | (refine Go.Great.wpList_boxTo rfl 24 (.tmp 1) rfl (some 5) rfl (w.heap.size + 1) (by simp) (vb nonce) rfl ?_))
  generalize (w.alloc (Obj.cells (vb k) 22)).alloc (Obj.cells (vb nonce) 24) = Z at *
  have HB := Lib.hid hbx.bel
  clear hbx
  go_wp2_with fail
  refine bodyPost_ret (results_tmp2 rfl _ _ _) rfl ?_
  exact ⟨rfl, HB.out⟩
set_option maxRecDepth 100000 in
set_option maxHeartbeats 8000000 in
theorem ropen_c (A1 A2 : Option Addr) (c1 c2 : Nat) (k nonce beside sealed : List Nat) (w : World) (hk : k.length = 32) (hkl : ∀ c ∈ k, c < 256) (hc : nonce.length = 12) (hcl : ∀ c ∈ nonce, c < 256)
    (hr1 : Rd w w.heap.size A1 (byt beside)) (hr2 : Rd w w.heap.size A2 (byt sealed)) (hb1 : ∀ c ∈ beside, c < 256) (hb2 : ∀ c ∈ sealed, c < 256) (hl1 : beside.length ≤ 4200) (h16 : 16 ≤ sealed.length) (hl2 : sealed.length ≤ 4112) (hcap : sealed.length ≤ c2) :
    Calls Tryd.prog 19 #[.agg (vb k), .agg (vb nonce), .slice A1 beside.length c1, .slice A2 sealed.length c2] w fun e w' => ∃ v, e = .returned (.tuple #[v, .int .i64 (openErr k nonce beside sealed : Nat)]) ∧ OwnB w' w.heap.size v (openL k nonce beside sealed) ∧ Below w.heap.size w w' := by
  obtain ⟨ad, rfl, _, _⟩ := hr2.byte (k := 0) (by omega)
  obtain ⟨m, hm⟩ : ∃ m, m = sealed.length - 16 := ⟨_, rfl⟩
  obtain ⟨un, hun⟩ : ∃ un, un = sealed.take m := ⟨_, rfl⟩
  obtain ⟨tl, htl⟩ : ∃ tl, tl = sealed.drop m := ⟨_, rfl⟩
  have hul : un.length = m := by rw [hun, List.length_take]; omega
  have htl16 : tl.length = 16 := by rw [htl, List.length_drop]; omega
  have hunl : ∀ c ∈ un, c < 256 := by rw [hun]; exact fun c hc => hb2 c (List.mem_of_mem_take hc)
  have HER := Lib.hid (show openErr k nonce beside sealed = if tagL k nonce beside un == tl then 0 else 5 by unfold openErr; rw [if_neg (by omega), if_neg (by omega), ← hm, ← hun, ← htl])
  have HOL := Lib.hid (show openL k nonce beside sealed = if openErr k nonce beside sealed = 0 then xorL k nonce 1 un else [] by unfold openL; rw [← hm, ← hun])
  have HEQ := Lib.hid (show (sealL k nonce beside (xorL k nonce 1 un) == sealed) = (tagL k nonce beside un == tl) by
    rw [← seal_eq k nonce beside un tl htl16, hun, htl, List.take_append_drop])
  have hru : Rd w w.heap.size (some ad) (byt un) := by rw [hun]; exact hr2.take_ m
  have f0 : IntKind.i64.wrap ((sealed.length : Int) - 16) = (m : Int) := by simp [IntKind.wrap, IntKind.signed, IntKind.bits]; omega
  have q1 : ¬ (sealed.length : Int) < 16 := by omega
  have q2 : ¬ (4112 : Int) < (sealed.length : Int) := by omega
  have HIK := Lib.hid (b32Ln hk)
  have HIN := Lib.hid (n12Ln hc)
  have HIK2 := Lib.hid (b32Sz hk)
  have HIN2 := Lib.hid (n12Sz hc)
  have HXC := Lib.hid (show ∀ W, Below w.heap.size w W → Calls Tryd.prog 37 #[.agg (vb k), .agg (vb nonce), .int .u32 1, .slice (some ad) m c2] W (Gives (xorL k nonce 1 un) W) from fun W hW => by
    have h := rxor_c w.heap.size (some ad) c2 k nonce 1 un W hk hkl (by decide) hc hcl (hru.below hW) hW.size hunl (by omega)
    rw [hul] at h
    exact h)
  have HX1L := Lib.hid (xorL_len k nonce 1 un)
  have HX1T := Lib.hid (xorL_lt k nonce 1 hunl)
  have HSC := Lib.hid (fun W A c (hW : Below w.heap.size w W) (h : Rd W W.heap.size A (byt (xorL k nonce 1 un))) => rseal_c A1 A c1 c k nonce beside (xorL k nonce 1 un) W hk hkl hc hcl ((hr1.below hW).more hW.size) h hb1 HX1T.out hl1 (by rw [HX1L.out]; omega))
  have HSL := Lib.hid (show (sealL k nonce beside (xorL k nonce 1 un)).length ≤ 10000 by unfold sealL; rw [List.length_append, xorL_len, tagL_len, xorL_len]; omega)
  have HST := Lib.hid (show ∀ c ∈ sealL k nonce beside (xorL k nonce 1 un), c < 256 from fun c hc => by
    unfold sealL at hc
    rcases List.mem_append.1 hc with h | h
    · exact xorL_lt k nonce 1 HX1T.out c h
    · exact form_lt _ _ c h)
  have HR2 := Lib.hid hr2
  have HB2 := Lib.hid hb2
  clear hkl hcl hr1 hr2 hb1 hb2 hru hunl
  have hmc : m ≤ c2 := by omega
  have p3 : (m : Int) ≤ (c2 : Int) := by omega
  have p4 : (0 : Int) ≤ (m : Int) := by omega
  clear hun htl hul hm
  generalize sealL k nonce beside (xorL k nonce 1 un) = sl at *
  generalize xorL k nonce 1 un = X1 at *
  generalize (tagL k nonce beside un == tl) = bb at *
  have hbx := Rbx.begin2 w k nonce
  go_enter Tryd.func19, Tryd.ntmps19
  go_upto_region 1 with (first
    | (refine Go.Great.wpList_boxTo rfl 22 (.tmp 0) rfl (some 4) rfl w.heap.size rfl (vb k) rfl ?_)
    | (refine Go.Great.wpList_boxTo rfl 24 (.tmp 1) rfl (some 5) rfl (w.heap.size + 1) (by simp) (vb nonce) rfl ?_))
  generalize (w.alloc (Obj.cells (vb k) 22)).alloc (Obj.cells (vb nonce) 24) = Z at *
  have HB := Lib.hid hbx
  clear hbx
  go_upto_region 5 with fail
  refine wp_region_loudTail 8 Z [24] (fun _ u W => OwnB W Z.heap.size u X1) (by kernel_rfl) (by kernel_rfl) (by kernel_rfl) (by kernel_rfl) (fun _ _ _ _ h hb => OwnB.next h hb) (Below.refl _ _).drew ?_
  simp only [List.take_succ_cons, List.take_zero, List.drop_succ_cons, List.drop_zero]
  repeat (first
    | (refine wpLoud_load rfl rfl 22 (.tmp 4) rfl w.heap.size 0 rfl (byt k) _ (fun y => range_all (HB.out.kA.below y.bel HB.out.kA.lt)) Tryd.underlying22 rfl HIK.out _ (by simp only [Act.put, List.setIfInBounds_toArray, List.set_cons_succ, List.set_cons_zero]; rfl) ?_)
    | (refine wpLoud_load rfl rfl 24 (.tmp 5) rfl (w.heap.size + 1) 0 rfl (byt nonce) _ (fun y => range_all (HB.out.nA.below y.bel HB.out.nA.lt)) Tryd.underlying24 rfl HIN.out _ (by simp only [Act.put, List.setIfInBounds_toArray, List.set_cons_succ, List.set_cons_zero]; rfl) ?_)
    | (refine wpLoud_call 24 rfl [] tok 37 (fun g => #[.agg (vb k), .agg (vb nonce), .int .u32 1, .slice (some ad) m c2]) rfl (fun _ _ h => by cases h) rfl (fun g w => by kernel_rfl) (fun g y hg => by
        refine (HXC.out y.wd (HB.out.bel.trans (y.bel.mono HB.out.bel.size))).mono ?_
        rintro e w' ⟨u, rfl, ho, hb⟩
        exact ⟨u, rfl, hb, own_base_le ho y.2.size⟩) _ (by simp only [Act.put, List.setIfInBounds_toArray, List.set_cons_succ, List.set_cons_zero]; rfl) ?_)
    | (refine wpLoud_valD 21 rfl rfl (by kernel_rfl) (fun _ _ h => by cases h) (.int .i64 (sealed.length : Nat)) (fun x => by kernel_rfl) _ (by simp only [Act.put, List.setIfInBounds_toArray, List.set_cons_succ, List.set_cons_zero]; rfl) ?_)
    | (refine wpLoud_plain rfl rfl rfl ?_; intro K hK; go_big_quiet_op; go_big_quiet_on))
  refine wpLoud_end [24] (by rfl) ?_
  intro g z hg
  have h9 : OwnB z.wd Z.heap.size (g 24) X1 := hg 24 (by simp)
  obtain ⟨A9, k9, e9, _, _, r9⟩ := h9.rd
  have HR9 := Lib.hid r9
  have HBY := Lib.hid (HB.out.next (z.bel.mono HB.out.sz))
  rw [e9] at h9
  have HO9 := Lib.hid h9
  generalize z.wd = Y2 at *
  simp only [fill, Act.put, List.setIfInBounds_toArray, List.set_cons_succ, List.set_cons_zero]
  rw [e9]
  have HZS := Lib.hid HB.out.bel.size
  clear hg h9 r9 e9 HB HXC
  have HR2Y := Lib.hid (HR2.out.below HBY.out.bel)
  go_upto_region 6 with fail
  go_upto_if 32 with (first
    | (refine wpList_load_row rfl 22 (.tmp 4) rfl w.heap.size rfl 22 (vb k) (0, 0) _ HBY.out.kA Tryd.underlying22 rfl HIK2.out ?_)
    | (refine wpList_load_row rfl 24 (.tmp 5) rfl (w.heap.size + 1) rfl 24 (vb nonce) (0, 0) _ HBY.out.nA Tryd.underlying24 rfl HIN2.out ?_)
    | (go_at_call 26; (refine (HSC.out Y2 A9 k9 HBY.out.bel HR9.out).mono ?_); rintro e W3 ⟨v3, rfl, ho, hb⟩; obtain ⟨A3, k3, rfl, _, _, r3⟩ := ho.rd; have HR3 := Lib.hid r3; have HO3 := Lib.hid (HO9.out.next hb); have HB3 := Lib.hid (HBY.out.bel.trans (hb.mono HBY.out.bel.size)); have HR23 := Lib.hid (HR2Y.out.below (hb.mono HBY.out.bel.size)); clear ho hb r3)
    | (go_at_call 21; (refine (same_c W3.heap.size w.heap.size A3 (some ad) k3 c2 sl sealed W3 HST.out HB2.out HR3.out HR23.out (by have := HSL.out; omega) (by omega)).mono ?_); rintro e W4 ⟨rfl, q, rfl⟩; rw [HEQ.out]))
  have HO4 := Lib.hid (HO3.out.drewN q)
  have HB4 := Lib.hid (belowDrewN q HB3.out)
  generalize W3.drewN q = W4 at *
  clear HO9 HBY HR2Y HR3 HO3 HB3 HR23 HEQ
  by_cases hsm : bb = true
  · have h0 : openErr k nonce beside sealed = 0 := by rw [HER.out, if_pos hsm]
    have hl : openL k nonce beside sealed = X1 := by rw [HOL.out, if_pos h0]
    have HE0 := Lib.hid h0
    have HL0 := Lib.hid hl
    clear HER HOL h0 hl
    subst hsm
    go_wp2_with fail
    refine bodyPost_ret (results_tmp2 rfl _ _ _) rfl ?_
    exact ⟨_, by rw [HE0.out]; rfl, by rw [HL0.out]; exact own_base_le HO4.out HZS.out, HB4.out⟩
  · have h5 : openErr k nonce beside sealed = 5 := by rw [HER.out, if_neg hsm]
    have hl : openL k nonce beside sealed = [] := by rw [HOL.out, h5, if_neg (by decide)]
    have hf : bb = false := by simpa using hsm
    have HE0 := Lib.hid h5
    have HL0 := Lib.hid hl
    clear HER HOL h5 hl hsm
    subst hf
    go_wp2_with fail
    refine bodyPost_ret (results_tmp2 rfl _ _ _) rfl ?_
    exact ⟨_, by rw [HE0.out]; rfl, by rw [HL0.out]; exact OwnB.nil_ _ _, HB4.out⟩
end Go.Proofs.YtaikejlcpnelpaaDoor
/- Contract: the document's example of a box. -/
namespace Go.Proofs.YtaikejlcpnelpaaDoor
open Go.RowKit
set_option linter.unusedVariables false
set_option linter.unusedSimpArgs false
theorem seal_len (k nonce beside plain : List Nat) : (sealL k nonce beside plain).length = plain.length + 16 := by
  unfold sealL; rw [List.length_append, xorL_len, tagL_len]
theorem seal_open (k nonce beside plain : List Nat) (h : plain.length ≤ 4096) : openErr k nonce beside (sealL k nonce beside plain) = 0 ∧ openL k nonce beside (sealL k nonce beside plain) = plain := by
  have hl := seal_len k nonce beside plain
  have e1 : (sealL k nonce beside plain).take ((sealL k nonce beside plain).length - 16) = xorL k nonce 1 plain := by
    rw [hl, Nat.add_sub_cancel]
    unfold sealL
    rw [List.take_append_of_le_length (by rw [xorL_len]; exact Nat.le_refl _), List.take_of_length_le (by rw [xorL_len]; exact Nat.le_refl _)]
  have e2 : (sealL k nonce beside plain).drop ((sealL k nonce beside plain).length - 16) = tagL k nonce beside (xorL k nonce 1 plain) := by
    rw [hl, Nat.add_sub_cancel]
    unfold sealL
    rw [List.drop_append_of_le_length (by rw [xorL_len]; exact Nat.le_refl _), List.drop_of_length_le (by rw [xorL_len]; exact Nat.le_refl _), List.nil_append]
  have he : openErr k nonce beside (sealL k nonce beside plain) = 0 := by
    unfold openErr
    rw [if_neg (by omega), if_neg (by omega), e1, e2, beq_self_eq_true, if_pos rfl]
  refine ⟨he, ?_⟩
  unfold openL
  rw [if_pos he, e1, xorL_twice]

def tT : ByteArray := ByteArray.mk #[116]
def exK1 : List Nat := 1 :: List.replicate 31 0
def exK2 : List Nat := 2 :: List.replicate 31 0
def exN2 : List Nat := 2 :: List.replicate 11 0
theorem ex_name : nameB tT = true ∧ chkL [] = 0 := by decide +kernel
theorem ex_box : (boxL exK1 exN2 tT 3 []).length = 20 ∧ opE exK1 tT 3 exN2 (boxL exK1 exN2 tT 3 []) = 0 ∧ (opP exK1 tT 3 exN2 (boxL exK1 exN2 tT 3 [])).length = 0 ∧ opE exK2 tT 3 exN2 (boxL exK1 exN2 tT 3 []) = 5 := by decide +kernel
theorem boxL_lt {k nn : List Nat} {t : ByteArray} {ep : Nat} {l : List Pc} (hl : ∀ c ∈ layL l, c < 256) : ∀ c ∈ boxL k nn t ep l, c < 256 := fun c hc => by
  unfold boxL sealL at hc
  rcases List.mem_append.1 hc with h | h
  · exact xorL_lt k nn 1 hl c h
  · unfold tagL polT at h; exact form_lt _ _ c h
set_option maxRecDepth 100000 in
set_option maxHeartbeats 8000000 in
theorem awake16_c (w : World) (hq : QuartersAt w) : Calls Tryd.prog 9 #[] w fun e w' => e = .returned (.bool true) ∧ Below w.heap.size w w' := by
  obtain ⟨x1, x2⟩ := ex_name
  obtain ⟨y1, y2, y3, y4⟩ := ex_box
  have zf := zero_bx
  have zs1 : zBx.size = 15 := by rfl
  have zs2 : ¬ zBx = #[] := by intro h; have := congrArg Array.size h; rw [zs1] at this; cases this
  have HSE := Lib.hid (sealYes_c exK1 exN2 tT 3 none 0 [] w rfl (by decide) rfl (by decide) (by decide) (by decide) (Rd.nil_ _ _ _) (Nat.le_refl _) (by decide) (fun p hp => by cases hp) x1 x2 hq)
  have hbl : ∀ c ∈ boxL exK1 exN2 tT 3 [], c < 256 := boxL_lt (by
    have h := layR_lt []
    unfold layR at h
    rw [if_pos x2] at h
    exact h)
  have HO1 := Lib.hid (fun A c W (hb : Below w.heap.size w W) (h : Rd W W.heap.size A (byt (boxL exK1 exN2 tT 3 []))) (hc : (boxL exK1 exN2 tT 3 []).length ≤ c) => openBox_c exK1 exN2 (boxL exK1 exN2 tT 3 []) tT 3 A c W rfl (by decide) rfl (by decide) (by decide) (by decide) h hbl hc (by omega) (hq.next hb))
  have HO2 := Lib.hid (fun A c W (hb : Below w.heap.size w W) (h : Rd W W.heap.size A (byt (boxL exK1 exN2 tT 3 []))) (hc : (boxL exK1 exN2 tT 3 []).length ≤ c) => openBox_c exK2 exN2 (boxL exK1 exN2 tT 3 []) tT 3 A c W rfl (by decide) rfl (by decide) (by decide) (by decide) h hbl hc (by omega) (hq.next hb))
  unfold OpenR at HO1 HO2
  rw [y2] at HO1
  have HY3 := Lib.hid y3
  generalize opP exK1 tT 3 exN2 (boxL exK1 exN2 tT 3 []) = P1 at *
  rw [y4] at HO2
  generalize opP exK2 tT 3 exN2 (boxL exK1 exN2 tT 3 []) = P2 at *
  have HY1 := Lib.hid y1
  clear y2 y3 y4 x1 x2 hq hbl
  generalize boxL exK1 exN2 tT 3 [] = body at *
  have HBI := Lib.hid (fun A c => bxSz tT 3 (nn := exN2) A body.length c rfl)
  have HBQ := Lib.hid (fun A c => show zBx.size = (bxV tT 3 exN2 A body.length c).size by rw [zBx_size]; unfold bxV; rw [List.size_toArray, bxL_len tT 3 A body.length c rfl])
  rw [y1] at HO1 HO2 HBI HBQ
  clear y1
  go_enter Tryd.func9, Tryd.ntmps9
  go_upto_region 2 with (first
    | (go_at_call 10; (refine HSE.out.mono ?_); rintro e W1 ⟨A1, c1, rfl, ho, hb⟩; rw [HY1.out] at ho ⊢; have HOB := Lib.hid ho; have HB1 := Lib.hid hb; clear ho hb)
    | (refine wpList_store_rowTo rfl 32 (.tmp 1) (.tmp 11) rfl rfl W1.heap.size (bxV tT 3 exN2 A1 20 c1) rfl rfl 32 zBx (by exact Blk.new W1 _ _) (HBI.out ..) (HBQ.out ..) (bx_all _ _ _ _ _ _) ?_))
  have hnr := new_rowP W1 32 zBx (bxV tT 3 exN2 A1 20 c1)
  have HX2 := Lib.hid hnr.1
  have HB2 := Lib.hid (HB1.out.trans (hnr.2.mono HB1.out.size))
  have hob2 := OwnB.next (l := body) (show OwnB W1 w.heap.size _ body from HOB.out) hnr.2
  obtain ⟨A9, c9, e9, hc9, _, r9⟩ := hob2.rd
  injection e9 with e9a e9b e9c
  subst e9a e9c
  have HR2 := Lib.hid r9
  have HC2 := Lib.hid (show 20 ≤ c1 by have := HY1.out; omega)
  generalize (W1.alloc (Obj.cells zBx 32)).setRow W1.heap.size (bxV tT 3 exN2 A1 20 c1) = W2 at *
  generalize W1.heap.size = gb at *
  clear hnr hob2 r9 hc9 e9b zf zs1 zs2
  go_upto_region 3 with (first
    | (refine wpList_load_row rfl 32 (.tmp 1) rfl gb rfl 32 (bxV tT 3 exN2 A1 20 c1) (0, 0) _ HX2.out Tryd.underlying32 rfl (HBI.out ..) ?_)
    | (go_at_call 14; ((refine (HO1.out A1 c1 W2 HB2.out HR2.out HC2.out).mono ?_); rintro e W3 ⟨v3, rfl, ho, hb⟩; obtain ⟨A3, c3, rfl, _, _, _⟩ := ho.rd; rw [HY3.out]; have HX3 := Lib.hid (HX2.out.below hb HX2.out.lt); have HB3 := Lib.hid (HB2.out.trans (hb.mono HB2.out.size)); have HR3 := Lib.hid (Rd.ups (Rd.below HR2.out hb) hb.size); clear ho hb)))
  go_upto_region 4 with (first
    | (refine wpList_load_row rfl 32 (.tmp 1) rfl gb rfl 32 (bxV tT 3 exN2 A1 20 c1) (0, 0) _ HX3.out Tryd.underlying32 rfl (HBI.out ..) ?_)
    | (go_at_call 14; ((refine (HO2.out A1 c1 W3 HB3.out HR3.out HC2.out).mono ?_); rintro e W4 ⟨v4, rfl, ho, hb⟩; have HX4 := Lib.hid (HX3.out.below hb HX3.out.lt); have HB4 := Lib.hid (HB3.out.trans (hb.mono HB3.out.size)); clear ho hb)))
  have c14 : W4.cell? ⟨gb, 14, none⟩ = some (.slice A1 20 c1) := (HX4.out.cell 14).trans (bx_c14 _ _ _ _ _ rfl)
  go_wp2_with fail
  go_ret
  exact ⟨rfl, HB4.out⟩
end Go.Proofs.YtaikejlcpnelpaaDoor
/- Contract: whether two rows of pieces are the same. -/
namespace Go.Proofs.YtaikejlcpnelpaaDoor
set_option maxRecDepth 100000
open Go.RowKit
set_option linter.unusedVariables false
set_option linter.unusedSimpArgs false
def eqP (p q : Pc) : Bool := (p.s.toList == q.s.toList) && ((p.t == q.t) && ((p.v == q.v) && ((p.n == q.n) && (p.d == q.d))))
theorem eqP_iff (p q : Pc) : eqP p q = true ↔ p = q := by
  unfold eqP
  simp only [Bool.and_eq_true, beq_iff_eq]
  constructor
  · rintro ⟨h1, h2, h3, h4, h5⟩
    cases p; cases q
    simp only at h1 h2 h3 h4 h5
    rw [toList_inj h1, h2, h3, h4, h5]
  · rintro rfl; simp
theorem int_beq (a b : Nat) : ((a : Int) == (b : Int)) = (a == b) := by
  rw [Bool.eq_iff_iff, beq_iff_eq, beq_iff_eq]; omega
set_option maxRecDepth 100000 in
theorem run_eq_id (n d n2 d2 : Nat) (w : World) (D : Nat) :
    (Op.equalIn (D + 2) 55 (.agg (idV n d)) (.agg (idV n2 d2))).run Tryd.prog w = .ok ((n == n2) && (d == d2)) w := by
  have hf : ∃ f0 f1 : Field, Tryd.prog.underlying 55 = some (.struct #[f0, f1]) ∧ f0.offset = 0 ∧ f1.offset = 1 ∧ f0.type = 52 ∧ f1.type = 53 ∧ f0.name ≠ "_" ∧ f1.name ≠ "_" := ⟨_, _, Tryd.underlying55, rfl, rfl, rfl, rfl, by decide, by decide⟩
  obtain ⟨f0, f1, hu, o0, o1, k0, k1, n0, n1⟩ := hf
  have hF : Tryd.prog.fieldsOf 55 = #[f0, f1] := by unfold Program.fieldsOf; rw [hu]
  rw [run_equalIn_struct w (D + 1) _ _ _ (by rw [hF]; exact hu) (by kernel_rfl), hF]
  have p0 : ∀ (a b : Value), (part 52 #[a, b] 0).run Tryd.prog w = .ok a w := by intro a b; kernel_rfl
  have p1 : ∀ (a b : Value), (part 53 #[a, b] 1).run Tryd.prog w = .ok b w := by intro a b; kernel_rfl
  have q0 := run_equalIn_int (P := Tryd.prog) w D 52 .u64 .u64 (n : Int) (n2 : Int) Tryd.underlying52
  have q1 := run_equalIn_int (P := Tryd.prog) w D 53 .u16 .u16 (d : Int) (d2 : Int) Tryd.underlying53
  simp only [Op.eqFields, n0, n1, k0, k1, o0, o1, idV, p0, p1, q0, q1, Sem.run_bind, Sem.run_ite, Sem.run_pure, Result.andThen_ok, ne_eq, not_false_eq_true, if_true, int_beq]
  cases (n == n2) <;> cases (d == d2) <;> simp
set_option maxRecDepth 100000 in
theorem run_eq_piece (p q : Pc) (w : World) : (Op.equalIn 10000 57 (.agg (pcV p)) (.agg (pcV q))).run Tryd.prog w = .ok (eqP p q) w := by
  have hf : ∃ f0 f1 f2 f3 : Field, Tryd.prog.underlying 57 = some (.struct #[f0, f1, f2, f3]) ∧ f0.offset = 0 ∧ f1.offset = 1 ∧ f2.offset = 2 ∧ f3.offset = 3 ∧ f0.type = 9 ∧ f1.type = 2 ∧ f2.type = 2 ∧ f3.type = 55 ∧ f0.name ≠ "_" ∧ f1.name ≠ "_" ∧ f2.name ≠ "_" ∧ f3.name ≠ "_" := ⟨_, _, _, _, Tryd.underlying57, rfl, rfl, rfl, rfl, rfl, rfl, rfl, rfl, by decide, by decide, by decide, by decide⟩
  obtain ⟨f0, f1, f2, f3, hu, o0, o1, o2, o3, k0, k1, k2, k3, n0, n1, n2, n3⟩ := hf
  have hF : Tryd.prog.fieldsOf 57 = #[f0, f1, f2, f3] := by unfold Program.fieldsOf; rw [hu]
  rw [show 10000 = 9999 + 1 from rfl, run_equalIn_struct w 9999 _ _ _ (by rw [hF]; exact hu) (by kernel_rfl), hF]
  have p0 : ∀ (a b c d e : Value), (part 9 #[a, b, c, d, e] 0).run Tryd.prog w = .ok a w := by intro a b c d e; kernel_rfl
  have p1 : ∀ (a b c d e : Value), (part 2 #[a, b, c, d, e] 1).run Tryd.prog w = .ok b w := by intro a b c d e; kernel_rfl
  have p2 : ∀ (a b c d e : Value), (part 2 #[a, b, c, d, e] 2).run Tryd.prog w = .ok c w := by intro a b c d e; kernel_rfl
  have p3 : ∀ (a b c d e : Value), (part 55 #[a, b, c, d, e] 3).run Tryd.prog w = .ok (.agg #[d, e]) w := by intro a b c d e; kernel_rfl
  have q0 := run_equalIn_string (P := Tryd.prog) w 9998 9 p.s q.s Tryd.underlying9
  have q1 := run_equalIn_int (P := Tryd.prog) w 9998 2 .i64 .i64 p.t q.t Tryd.underlying2
  have q2 := run_equalIn_int (P := Tryd.prog) w 9998 2 .i64 .i64 p.v q.v Tryd.underlying2
  have q3 := run_eq_id p.n p.d q.n q.d w 9997
  simp only [idV] at q3
  simp only [Op.eqFields, n0, n1, n2, n3, k0, k1, k2, k3, o0, o1, o2, o3, pcV, pcL, p0, p1, p2, p3, q0, q1, q2, q3, Sem.run_bind, Sem.run_ite, Sem.run_pure, Result.andThen_ok, ne_eq, not_false_eq_true, if_true]
  unfold eqP
  cases (p.s.toList == q.s.toList) <;> cases (p.t == q.t) <;> cases (p.v == q.v) <;> cases (p.n == q.n) <;> cases (p.d == q.d) <;> simp
set_option maxRecDepth 100000 in
set_option maxHeartbeats 2000000 in
theorem rsameP_c (B1 B2 : Nat) (A1 A2 : Option Addr) (c1 c2 : Nat) (l : List Pc) (w : World) (hr1 : RdP w B1 A1 l) (hr2 : RdP w B2 A2 l) (hn : l.length ≤ 9223372036854775807) :
    Calls Tryd.prog 16 #[.slice A1 l.length c1, .slice A2 l.length c2] w (Quietly (.bool true) w) := by
  have HR1 := Lib.hid hr1
  have HR2 := Lib.hid hr2
  clear hr1 hr2
  go_enter Tryd.func16, Tryd.ntmps16
  go_wp2_with fail
  go_loopw [5] (fun i wr => ∃ k z : Nat, k ≤ l.length ∧ i = .int .i64 k ∧ wr = w.drewN z) (fun i _ => l.length - (intOf i).toNat)
  case atStart => exact ⟨0, 0, by omega, rfl, rfl⟩
  case round =>
    obtain ⟨k, z, hk, rfl, rfl⟩ := hrel
    by_cases hlt : k < l.length
    · have hr1 := HR1.out
      have hr2 := HR2.out
      obtain ⟨al, rfl, _, h1⟩ := hr1.open_ (by omega)
      obtain ⟨bl, rfl, _, h2⟩ := hr2.open_ (by omega)
      have R1 := Lib.hid (fun (W : World) (h : ∃ z, W = w.drewN z) => (show AtA W (al.add (k * 5)) (pcL (l.getD k pc0)) by obtain ⟨z, rfl⟩ := h; exact h1.piece k hlt))
      have R2 := Lib.hid (fun (W : World) (h : ∃ z, W = w.drewN z) => (show AtA W (bl.add (k * 5)) (pcL (l.getD k pc0)) by obtain ⟨z, rfl⟩ := h; exact h2.piece k hlt))
      have HSB := Lib.hid (pcLn (l.getD k pc0))
      have hkn : (k : Int) < (l.length : Int) := by omega
      have l3 : ∀ W, (Op.equalIn 10000 57 (.agg (pcV (l.getD k pc0))) (.agg (pcV (l.getD k pc0)))).run Tryd.prog W = .ok true W := fun W => by
        rw [run_eq_piece, (eqP_iff _ _).2 rfl]
      clear h1 h2 hr1 hr2
      generalize l.getD k pc0 = p at *
      unfold pcV at l3
      go_wp2_with fail
      refine wp_region_class (fun z => w.drewN z) (by kernel_rfl) (by kernel_rfl) ⟨z + 1, rfl⟩ ?_
      repeat (first
        | (refine wpQuiet_loadA 57 (.tmp 19) rfl rfl (al.add (k * 5)) rfl (pcL p) _ R1.out Tryd.underlying57 rfl HSB.out _ (by simp only [Act.put, List.setIfInBounds_toArray, List.set_cons_succ, List.set_cons_zero]; rfl) ?_)
        | (refine wpQuiet_loadA 57 (.tmp 23) rfl rfl (bl.add (k * 5)) rfl (pcL p) _ R2.out Tryd.underlying57 rfl HSB.out _ (by simp only [Act.put, List.setIfInBounds_toArray, List.set_cons_succ, List.set_cons_zero]; rfl) ?_)
        | go_big_quiet_step (fail))
      refine wpQuiet_nil ?_
      rintro _ ⟨z3, rfl⟩
      go_wp2_with fail
      go_roundw
      case rel =>
        go_light
        exact ⟨k + 1, z3, by omega, by go_num, rfl⟩
      case measure => simp [intOf]; omega
    · have hkn : k = l.length := by omega
      have h0 : decide (k < l.length) = false := decide_eq_false hlt
      clear hkn
      go_wp2_with fail
      go_ret
      exact ⟨rfl, z, rfl⟩
end Go.Proofs.YtaikejlcpnelpaaDoor
/- Contract: whether pieces may be laid, by the document. -/
namespace Go.Proofs.YtaikejlcpnelpaaDoor
set_option maxRecDepth 100000
open Go.RowKit
set_option linter.unusedVariables false
set_option linter.unusedSimpArgs false
theorem okAt_zero' (l : List Pc) : okAt l 0 = ckP (l.getD 0 pc0) := by unfold okAt; simp
theorem okAt_succ' (l : List Pc) (j : Nat) : okAt l (j + 1) = (ckP (l.getD (j + 1) pc0) && okPair (l.getD j pc0) (l.getD (j + 1) pc0)) := by unfold okAt; simp
theorem AtA.tim' {w : World} {a : Addr} {p : Pc} (h : AtA w a (pcL p)) : w.cell? ⟨a.block, a.off + 1, none⟩ = some (.int .i64 p.t) := h 1 _ rfl
set_option maxRecDepth 100000 in
set_option maxHeartbeats 4000000 in
theorem rcheck_c (A : Option Addr) (c : Nat) (l : List Pc) (w : World) (hr : RdP w w.heap.size A l) (h1 : l.length ≤ 100000) (hs : ∀ p ∈ l, p.s.size ≤ 1000000) :
    Calls Tryd.prog 13 #[.slice A l.length c] w fun e w' => e = .returned (.int .i64 (chkL l : Nat)) ∧ Below w.heap.size w w' := by
  have HR := Lib.hid hr
  have HRC := Lib.hid (rroom_c w.heap.size A c l w hr (by omega) hs)
  have HSZ := Lib.hid (show ∀ k, (l.getD k pc0).s.size ≤ 1000000 from fun k => by
    rcases Nat.lt_or_ge k l.length with h | h
    · exact hs _ (by simp [List.getD_eq_getElem?_getD, h])
    · rw [List.getD_eq_getElem?_getD, List.getElem?_eq_none h]; decide)
  have HCH := Lib.hid (show chkL l = if 256 < l.length ∨ 4096 < roomL l then 3 else if okTo l l.length then 0 else 1 from rfl)
  obtain ⟨r, hr'⟩ : ∃ r, r = chkL l := ⟨_, rfl⟩
  rw [← hr'] at HCH ⊢
  clear hr hs hr'
  by_cases hg : 256 < l.length
  · have HRV := Lib.hid (show r = 3 by rw [HCH.out, if_pos (.inl hg)])
    have p1 : decide ((256 : Int) < (l.length : Int)) = true := decide_eq_true (by omega)
    go_enter Tryd.func13, Tryd.ntmps13
    go_wp2_with fail
    go_ret
    exact ⟨by rw [HRV.out]; rfl, Below.refl _ _⟩
  · have p1 : decide ((256 : Int) < (l.length : Int)) = false := decide_eq_false (by omega)
    by_cases hg2 : 4096 < roomL l
    · have HRV := Lib.hid (show r = 3 by rw [HCH.out, if_pos (.inr hg2)])
      have p2 : decide ((4096 : Int) < ((roomL l : Nat) : Int)) = true := decide_eq_true (by omega)
      generalize roomL l = rm at *
      clear hg
      go_enter Tryd.func13, Tryd.ntmps13
      go_wp2_with (go_at_call 32; (refine HRC.out.mono ?_); rintro e W1 ⟨rfl, q1, rfl⟩)
      go_ret
      exact ⟨by rw [HRV.out]; rfl, belowDrewN q1 (Below.refl _ _)⟩
    · have HRV := Lib.hid (show r = if okTo l l.length then 0 else 1 by rw [HCH.out, if_neg (by omega)])
      have p2 : decide ((4096 : Int) < ((roomL l : Nat) : Int)) = false := decide_eq_false (by omega)
      have hlen : l.length ≤ 256 := by omega
      generalize roomL l = rm at *
      clear hg hg2
      go_enter Tryd.func13, Tryd.ntmps13
      go_wp2_with (go_at_call 32; (refine HRC.out.mono ?_); rintro e W1 ⟨rfl, q1, rfl⟩)
      have HB1 := Lib.hid (belowDrewN q1 (Below.refl w.heap.size w))
      generalize w.drewN q1 = W1 at *
      go_loopw [3] (fun i wr => ∃ k : Nat, k ≤ l.length ∧ i = .int .i64 k ∧ okTo l k = true ∧ Below w.heap.size w wr) (fun i _ => l.length - (intOf i).toNat)
      case atStart => exact ⟨0, Nat.zero_le _, rfl, rfl, HB1.out⟩
      case round =>
        rename World => wr
        obtain ⟨k, hk, rfl, hok, hb⟩ := hrel
        have HOK := Lib.hid hok
        have HB := Lib.hid hb
        clear hok hb HB1 p1 p2
        by_cases hlt : k < l.length
        · have q1 : (k : Int) < (l.length : Int) := by omega
          have hrr := HR.out
          obtain ⟨ad, rfl, hab, hat⟩ := hrr.open_ (by omega)
          have HAT := Lib.hid (hat.below HB.out hab)
          have HAB := Lib.hid (show ad.block < wr.heap.size from Nat.lt_of_lt_of_le hab HB.out.size)
          have HPA := Lib.hid (HAT.out.piece k hlt)
          have HPI := Lib.hid (pcLn (l.getD k pc0))
          have HPC := Lib.hid (fun W => rpcheck_c (l.getD k pc0) W (by have := HSZ.out k; omega))
          have HNO := Lib.hid (okTo_not l k l.length hlt)
          have HNX := Lib.hid (okTo_succ l k)
          have HO0 := Lib.hid (show k = 0 → okAt l k = ckP (l.getD k pc0) from fun h => by rw [h]; exact okAt_zero' l)
          have HOJ := Lib.hid (show ∀ j, k = j + 1 → okAt l k = (ckP (l.getD k pc0) && okPair (l.getD j pc0) (l.getD k pc0)) from fun j h => by rw [h]; exact okAt_succ' l j)
          clear hat hab hrr
          generalize l.getD k pc0 = p at *
          by_cases hck : ckP p = true
          · rw [hck] at HPC
            go_upto_region 8 with (first
              | (refine wpList_loadA rfl 57 (.tmp 20) rfl (ad.add (k * 5)) rfl (pcL p) _ HPA.out Tryd.underlying57 rfl HPI.out ?_)
              | (go_at_call 33; (refine (HPC.out wr).mono ?_); rintro e W2 ⟨rfl, hb2⟩; have HW2 := Lib.hid hb2; clear hb2))
            have HT2 := Lib.hid (HB.out.trans (HW2.out.mono HB.out.size))
            have HPB := Lib.hid (HPA.out.below HW2.out (by rw [add_block]; exact HAB.out))
            rcases Nat.eq_zero_or_pos k with h0 | h0
            · have d0 : decide (0 < k) = false := decide_eq_false (by omega)
              have HOKN := Lib.hid (show okTo l (k + 1) = true by rw [HNX.out, HOK.out, HO0.out h0, hck]; rfl)
              clear h0 hck
              go_quiet (fail)
              have HW3 := Lib.hid (belowDrewN nq HT2.out)
              generalize W2.drewN nq = Y2 at *
              go_wp2_with fail
              go_roundw
              case rel => exact ⟨k + 1, by omega, by go_num, HOKN.out, HW3.out⟩
              case measure => simp only [intOf]; omega
            · obtain ⟨j, hj⟩ : ∃ j, k = j + 1 := ⟨k - 1, by omega⟩
              have d0 : decide (0 < k) = true := decide_eq_true (by omega)
              have fj : IntKind.i64.wrap ((k : Int) - 1) = (j : Int) := by rw [IntWalk.i64_in _ (by omega)]; omega
              have hjl : (j : Int) < (l.length : Int) := by omega
              have hj0 : (0 : Int) ≤ (j : Int) := by omega
              have HQA := Lib.hid (((HAT.out.below HW2.out HAB.out)).piece j (by omega))
              have HOK2 := Lib.hid (show okAt l k = okPair (l.getD j pc0) p by rw [HOJ.out j hj, hck]; rfl)
              clear hj h0 hck HOJ HO0
              generalize l.getD j pc0 = q at *
              have e0 := HQA.out.ser
              have e1 := HQA.out.tim'
              have e2 := HPB.out.ser
              have e3 := HPB.out.tim'
              have HPR := Lib.hid (show okPair q p = (Op.bytesLess q.s.toList p.s.toList || (q.s.toList == p.s.toList && decide (q.t < p.t))) from rfl)
              rcases (show Op.bytesLess p.s.toList q.s.toList = true ∨ Op.bytesLess p.s.toList q.s.toList = false by cases Op.bytesLess p.s.toList q.s.toList <;> simp) with hL | hL
              · have HBADN := Lib.hid (show r = 1 by
                  rw [HRV.out, HNO.out (by
                    rw [HOK2.out, HPR.out, bless_asym _ _ hL, Bool.false_or]
                    have : (q.s.toList == p.s.toList) = false := by
                      rw [beq_eq_false_iff_ne]
                      intro h; rw [h, bless_irr] at hL; cases hL
                    rw [this]; rfl)]
                  rfl)
                go_quiet (fail)
                have HW3 := Lib.hid (belowDrewN nq HT2.out)
                generalize W2.drewN nq = Y2 at *
                go_wp2_with fail
                go_ret
                exact ⟨by rw [HBADN.out]; rfl, HW3.out⟩
              · rcases (show (p.s.toList == q.s.toList) = true ∨ (p.s.toList == q.s.toList) = false by cases (p.s.toList == q.s.toList) <;> simp) with hS | hS
                · have hS2 : (q.s.toList == p.s.toList) = true := by rw [beq_iff_eq] at hS ⊢; exact hS.symm
                  have hL2 : Op.bytesLess q.s.toList p.s.toList = false := by rw [beq_iff_eq] at hS; rw [hS]; exact bless_irr _
                  by_cases hT : p.t ≤ q.t
                  · have hT1 : decide (p.t ≤ q.t) = true := decide_eq_true hT
                    have HBADN := Lib.hid (show r = 1 by rw [HRV.out, HNO.out (by rw [HOK2.out, HPR.out, hL2, hS2, decide_eq_false (show ¬ q.t < p.t by omega)]; rfl)]; rfl)
                    clear hT hS2 hL2
                    go_quiet (fail)
                    have HW3 := Lib.hid (belowDrewN nq HT2.out)
                    generalize W2.drewN nq = Y2 at *
                    go_wp2_with fail
                    go_ret
                    exact ⟨by rw [HBADN.out]; rfl, HW3.out⟩
                  · have hT1 : decide (p.t ≤ q.t) = false := decide_eq_false hT
                    have HOKN := Lib.hid (show okTo l (k + 1) = true by rw [HNX.out, HOK.out, HOK2.out, HPR.out, hS2, decide_eq_true (show q.t < p.t by omega)]; simp)
                    clear hT hS2 hL2
                    go_quiet (fail)
                    have HW3 := Lib.hid (belowDrewN nq HT2.out)
                    generalize W2.drewN nq = Y2 at *
                    go_wp2_with fail
                    go_roundw
                    case rel => exact ⟨k + 1, by omega, by go_num, HOKN.out, HW3.out⟩
                    case measure => simp only [intOf]; omega
                · have HOKN := Lib.hid (show okTo l (k + 1) = true by
                    rw [HNX.out, HOK.out, HOK2.out, HPR.out, bless_tri _ _ (by rw [beq_eq_false_iff_ne] at hS; exact hS) hL]; rfl)
                  go_quiet (fail)
                  have HW3 := Lib.hid (belowDrewN nq HT2.out)
                  generalize W2.drewN nq = Y2 at *
                  go_wp2_with fail
                  go_roundw
                  case rel => exact ⟨k + 1, by omega, by go_num, HOKN.out, HW3.out⟩
                  case measure => simp only [intOf]; omega
          · have hck' : ckP p = false := by simpa using hck
            rw [hck'] at HPC
            have HRV1 := Lib.hid (show r = 1 by
              rw [HRV.out, HNO.out (by
                rcases Nat.eq_zero_or_pos k with h | h
                · rw [HO0.out h, hck']
                · rw [HOJ.out (k - 1) (by omega), hck', Bool.false_and])]
              rfl)
            clear hck hck'
            go_wp2_with (first
              | (refine wpList_loadA rfl 57 (.tmp 20) rfl (ad.add (k * 5)) rfl (pcL p) _ HPA.out Tryd.underlying57 rfl HPI.out ?_)
              | (go_at_call 33; (refine (HPC.out wr).mono ?_); rintro e W2 ⟨rfl, hb2⟩; have HW2 := Lib.hid (HB.out.trans (hb2.mono HB.out.size)); clear hb2))
            go_ret
            exact ⟨by rw [HRV1.out]; rfl, HW2.out⟩
        · obtain rfl : k = l.length := by omega
          have HRV1 := Lib.hid (show r = 0 by rw [HRV.out, HOK.out]; rfl)
          go_wp2_with fail
          go_ret
          exact ⟨by rw [HRV1.out]; rfl, HB.out⟩
end Go.Proofs.YtaikejlcpnelpaaDoor
/- From a law's walk (it returns true, and nothing that was there has turned) to the law's row. -/
namespace Go.Proofs.YtaikejlcpnelpaaDoor
set_option maxRecDepth 100000
open Go.ChangeShapes Go.WideShapes Go.ChangeAt Go.RowKit
theorem own : ownKnob Tryd.prog.godebug = none := by kernel_rfl
theorem laidOut : laidOutB Tryd.prog = true := by kernel_rfl
theorem trodAll_below {H : Type} {enc : TypeId × Value → H} {P : Program} (hl : laidOutB P = true) {W W' : World} (hb : Below W.heap.size W W') :
    ∀ (ts : List TypeId) (vs : List Value) (ds : List (DataW H)) (ps : List MemPlace), (∀ t ∈ ts, P.readableRec t = true ∧ t < P.types.size) →
      DataW.TrodAll enc P W 0 (fun _ => true) true ts vs ds ps → (∀ x ∈ ps, x.block < W.heap.size) →
      DataW.TrodAll enc P W' 0 (fun b => decide (b < W.heap.size)) true ts vs ds ps
  | [], vs, ds, ps, _, h, _ => by
    obtain ⟨rfl, rfl, rfl⟩ := trodAll_nil h
    exact trodAll_mk0
  | t :: ts, vs, ds, ps, ht, h, hlt => by
    obtain ⟨v0, vs0, d0, ds0, p0, q0, rfl, rfl, rfl, h0, r0⟩ := trodAll_cons h
    have h1 := ht t (by simp)
    exact trodAll_cons_mk (Below.trod hl h1.1 h1.2 h0 hb (fun x hx => hlt x (by simp [hx])))
      (trodAll_below hl hb ts vs0 ds0 q0 (fun t' h' => ht t' (by simp [h'])) r0 (fun x hx => hlt x (by simp [hx])))
theorem trodAll_length {H : Type} {enc : TypeId × Value → H} {P : Program} {W : World} {b : Nat} {sp : Nat → Bool} {hd : Bool} :
    ∀ (ts : List TypeId) (vs : List Value) (ds : List (DataW H)) (ps : List MemPlace), DataW.TrodAll enc P W b sp hd ts vs ds ps → ds.length = ts.length
  | [], vs, ds, ps, h => by
    obtain ⟨rfl, rfl, rfl⟩ := trodAll_nil h
    rfl
  | t :: ts, vs, ds, ps, h => by
    obtain ⟨v0, vs0, d0, ds0, p0, q0, rfl, rfl, rfl, h0, r0⟩ := trodAll_cons h
    simp [trodAll_length ts vs0 ds0 q0 r0]
/-- the law's specification: true, and the input as it was -/
def LawSpec (s : ChangeSpec) (n : Nat) : Prop := s.vars = [] ∧ ∀ (H : Type) (ds : List (DataW H)), ds.length = n → s.fn H ds = { results := [.lit (.bool true)], args := ds }
theorem lift {os : Os} (started : os.Started) {H : Type} {enc : TypeId × Value → H} (f : FuncId) {fn : Func} {s : ChangeSpec} {conds : List PathCond} (hconds : conds = [])
    (noInit : Tryd.checked.prog.inits.idxOf? f = none) (hfn : Tryd.checked.prog.funcs[f]? = some fn) (hs : LawSpec s fn.params.toList.length) (hres : fn.resultTypes = #[4])
    (hts : ∀ t ∈ fn.params.toList, Tryd.prog.readableRec t = true ∧ t < Tryd.prog.types.size)
    (witness : ∃ (w : World) (tape : Tape) (i : Input), w.os = os ∧ (w.forCall tape i).Shaped Tryd.checked.prog ∧ i.vars = [] ∧ Input.okWide Tryd.checked.prog (w.forCall tape i) .any w.heap.size f i ∧
      s.pre6 enc Tryd.checked.prog fn conds false (w.forCall tape i).memory i.args ∧ Assume.holds {} Tryd.checked.prog (lone (Frame.enter Tryd.checked.prog f i.args .normal) [] (w.forCall tape i)))
    (walk : ∀ (W : World) (base : Nat) (args : Array Value) (ds : List (DataW H)) (ps : List MemPlace),
      (∀ (j : Nat) t v, fn.params[j]? = some t → args[j]? = some v → Value.okWide Tryd.prog W .any base t v) →
      DataW.TrodAll enc Tryd.prog W 0 (fun _ => true) true fn.params.toList args.toList ds ps → (∀ x ∈ ps, x.block < W.heap.size) → Calls Tryd.prog f args W (Yes W)) :
    ReturnsInHanded {} Tryd.checked os f .any (s.pre6 enc Tryd.prog fn conds false) (s.post enc Tryd.prog fn false true false false) := by
  subst hconds
  refine returnsInHanded_of_change (C := Tryd.checked) own started noInit hfn witness ?_
  intro W base args ds gs before hval hW _ _
  have hW' := hW
  have hlt : ∀ p ∈ before, p.block < W.heap.size := fun p hp => hW.lt p hp
  obtain ⟨p, q, hA, hV, hbef, hfz, hnd⟩ := hW
  rw [hs.1] at hV
  obtain ⟨rfl, rfl⟩ := trodVars_none hV
  rw [List.append_nil] at hbef
  subst hbef
  refine (walk W base args ds _ hval hA hlt).mono fun e W' ⟨he, bel⟩ => ?_
  subst he
  have hlen := trodAll_length _ _ _ _ hA
  have hfn' := hs.2 H ds hlen
  refine ⟨_, rfl, ?_⟩
  refine ⟨ds, [], before, [], before, [], hW', ?_, ?_, ?_, bel.frame _, fun h => by cases h⟩
  · rw [List.append_nil, hfn', hres]
    exact trodAll_mk1 (shut_bool Tryd.underlying4 _)
  · rw [List.append_nil, hfn']
    exact trodAll_below laidOut bel _ _ _ _ hts hA hlt
  · rw [List.append_nil, hfn', hs.1]; rfl
theorem block_lt {w : World} {a : Addr} {v : Value} (h : w.cell? a = some v) : a.block < w.heap.size := by
  rcases Nat.lt_or_ge a.block w.heap.size with h1 | h1
  · exact h1
  · simp [World.cell?, Array.getElem?_eq_none h1] at h
/-- a []byte that came in -/
theorem open_bytes {H : Type} {enc : TypeId × Value → H} {W : World} {base : Nat} {v : Value} {d : DataW H} {p : List MemPlace} (hv : Value.okWide Tryd.prog W .any base 30 v)
    (h : DataW.Trod enc Tryd.prog W 0 (fun _ => true) true 30 v d p) :
    ∃ (A : Option Addr) (l : List Nat) (cap : Nat), v = .slice A l.length cap ∧ (∀ c ∈ l, c < 256) ∧ Rd W W.heap.size A (byt l) ∧ l.length ≤ maxLen := by
  obtain ⟨A, len, cap, rfl⟩ := okWide_slice Tryd.underlying30 hv
  obtain ⟨fuel, hf⟩ := h
  rcases open_ints Tryd.underlying30 Tryd.underlying5 (by kernel_rfl) hf with ⟨hcs, _⟩ | ⟨x, l, c, zs, hcs, _, hl, hm, hz, _, hcell, hwz⟩
  · simp [Value.cells] at hcs
    obtain ⟨rfl, rfl, rfl⟩ := hcs
    exact ⟨none, [], 0, rfl, by simp, Rd.nil_ _ _ _, by simp⟩
  · simp [Value.cells] at hcs
    obtain ⟨rfl, rfl, rfl⟩ := hcs
    have hz' : zs.length = cap := by simpa using hz
    have hlen : ((zs.take len).map Int.toNat).length = len := by simp; omega
    refine ⟨some x, (zs.take len).map Int.toNat, cap, by rw [hlen], ?_, ?_, by rw [hlen]; omega⟩
    · intro c hc
      obtain ⟨z, hz1, rfl⟩ := List.mem_map.1 hc
      have := bounds_u8 (hwz z (List.mem_of_mem_take hz1))
      omega
    · intro hne
      have h0 : 0 < len := by
        rcases Nat.eq_zero_or_pos len with h0 | h0
        · subst h0; simp [byt] at hne
        · exact h0
      have hc0 := hcell 0 (by omega)
      refine ⟨x, rfl, by have := block_lt hc0; rwa [add_block] at this, fun j u hu => ?_⟩
      have hj : j < len := by
        rcases Nat.lt_or_ge j len with h1 | h1
        · exact h1
        · rw [List.getElem?_eq_none (by rw [byt_len, hlen]; exact h1)] at hu; cases hu
      have hjz : j < zs.length := by omega
      rw [hcell j hjz]
      rw [byt_at (by rw [hlen]; exact hj)] at hu
      rw [← hu, List.getD_eq_getElem?_getD, List.getD_eq_getElem?_getD, List.getElem?_map, List.getElem?_take_of_lt hj, List.getElem?_eq_getElem hjz]
      have := bounds_u8 (hwz zs[j] (List.getElem_mem _))
      simp
      omega
end Go.Proofs.YtaikejlcpnelpaaDoor
/- From a law's walk to the law's row, where the row lists the quarters' table. -/
namespace Go.Proofs.YtaikejlcpnelpaaDoor
set_option maxRecDepth 100000
open Go.ChangeShapes Go.WideShapes Go.ChangeAt Go.RowKit
theorem cells_of_tab2 {H : Type} {enc : TypeId × Value → H} {P : Program} {w : World} {base : Nat} {sp : Nat → Bool} {held : Bool} {fuel : Nat} {t t2 e : TypeId} {n m : Nat} {k : IntKind} {cs : List Value} {zss : List (List Int)} {p : List MemPlace}
    (ht : P.underlying t = some (.array n t2)) (ht2 : P.underlying t2 = some (.array m e)) (he : P.underlying e = some (.int k)) (hce : P.cellsOf e = 1) (hct2 : P.cellsOf t2 = m)
    (h : DataW.trod enc P w base sp held fuel t cs = some (.agg (zss.map (Lib.tabData k)), p)) (i : Nat) (hi : i < n) : (cs.drop (i * m)).take m = (zss.getD i []).map fun z => Value.int k z := by
  cases fuel with
  | zero => simp [DataW.trod] at h
  | succ fuel =>
    simp only [DataW.trod, ht, hct2] at h
    split at h
    · rename_i hl
      obtain ⟨xs, hm, hx⟩ := Option.map_eq_some_iff.1 h
      have hxs : xs.map (·.1) = zss.map (Lib.tabData (H := H) k) := by
        have := congrArg Prod.fst hx
        simpa using this
      obtain ⟨b, hb, hf⟩ := Lib.mapM_at hm i i (by simp [hi])
      have h2 : (xs.map (·.1))[i]? = some b.1 := by simp [hb]
      rw [hxs] at h2
      simp only [List.getElem?_map, Option.map_eq_some_iff] at h2
      obtain ⟨zs, hzs, e1⟩ := h2
      obtain ⟨b1, b2⟩ := b
      simp only at e1
      subst e1
      rw [List.getD_eq_getElem?_getD, hzs]
      exact Lib.cells_of_tab ht2 he hce hct2 hf
    · cases h
def qz : List (List Int) := [[0, 4, 8, 12], [1, 5, 9, 13], [2, 6, 10, 14], [3, 7, 11, 15], [0, 5, 10, 15], [1, 6, 11, 12], [2, 7, 8, 13], [3, 4, 9, 14]]
def laidQ : List (String × DataW Unit) := [("quaestor/chacha.quarters", Rows.laid_quaestor_chacha_quarters)]
theorem laidQ_tab : laidQ = [("quaestor/chacha.quarters", .agg (qz.map (Lib.tabData .i64)))] := rfl
theorem gQuarters : Tryd.prog.globalNamed "quaestor/chacha.quarters" = some 0 := by kernel_rfl
theorem gQuartersT : (Tryd.prog.globals[0]?).map (·.type) = some 126 := by kernel_rfl
theorem cellsI : Tryd.prog.cellsOf 3 = 1 := by kernel_rfl
theorem cells4 : Tryd.prog.cellsOf 125 = 4 := by kernel_rfl
theorem cells84 : Tryd.prog.cellsOf 126 = 32 := by kernel_rfl
theorem door_met (os : Os) (args : Array Value) : laidMetH Tryd.prog laidQ ((World.doorLaid Tryd.prog 400 os).forCall (fun _ _ => 0) ⟨#[], args, []⟩).memory :=
  laidMetH_of_parts3 (fuel := 8) (laidMet_of_run' 8 (by kernel_rfl) (by kernel_rfl)) (by kernel_rfl) (by kernel_rfl)
theorem q_rows : (List.range 8).flatMap (fun i => (qz.getD i []).map fun z => Value.int .i64 z) = qcells.toList := by rfl
theorem rows_of (cs : List Value) (h : ∀ i, i < 8 → (cs.drop (i * 4)).take 4 = (qz.getD i []).map fun z => Value.int .i64 z) : cs.take 32 = qcells.toList := by
  rw [← q_rows]
  have e : ∀ n, n ≤ 8 → cs.take (n * 4) = (List.range n).flatMap (fun i => (qz.getD i []).map fun z => Value.int .i64 z) := by
    intro n
    induction n with
    | zero => intro _; simp
    | succ n ih =>
      intro hn
      rw [List.range_succ, List.flatMap_append, ← ih (by omega), List.flatMap_cons, List.flatMap_nil, List.append_nil, ← h n (by omega), Nat.succ_mul, List.take_add]
  exact e 8 (Nat.le_refl _)
theorem of_laidQ {W : World} (h : laidMetH Tryd.prog laidQ W) : QuartersAt W := by
  rw [MakeChecks.laidMetH_plain _ _ _ (by kernel_rfl), laidQ_tab] at h
  obtain ⟨ps, ⟨g', t', cs, fuel, p, q, hg', ht', hvar, hd, _, _⟩, _⟩ := h
  obtain rfl := Option.some.inj (gQuarters.symm.trans hg')
  obtain rfl := Option.some.inj (gQuartersT.symm.trans ht')
  have h32 := rows_of cs.toList (fun i hi => cells_of_tab2 Tryd.underlying126 Tryd.underlying125 Tryd.underlying3 cellsI cells4 hd i hi)
  have hc : ∀ i v, qcells.toList[i]? = some v → W.cell? ⟨0, 0 + i, none⟩ = some v := fun i v hv => by
    have hi : i < 32 := by
      have h1 := (List.getElem?_eq_some_iff.1 hv).1
      exact h1
    rw [← h32, List.getElem?_take, if_pos hi] at hv
    rw [Nat.zero_add]
    exact (World.var?_cell gQuarters hvar i).trans (by simpa using hv)
  exact ⟨hc, block_lt (hc 0 _ rfl)⟩
theorem liftQ {os : Os} (started : os.Started) {H : Type} {enc : TypeId × Value → H} (f : FuncId) {fn : Func} {s : ChangeSpec} {conds : List PathCond} (hconds : conds = [])
    (noInit : Tryd.checked.prog.inits.idxOf? f = none) (hfn : Tryd.checked.prog.funcs[f]? = some fn) (hs : LawSpec s fn.params.toList.length) (hres : fn.resultTypes = #[4])
    (hts : ∀ t ∈ fn.params.toList, Tryd.prog.readableRec t = true ∧ t < Tryd.prog.types.size)
    (witness : ∃ (w : World) (tape : Tape) (i : Input), w.os = os ∧ (w.forCall tape i).Shaped Tryd.checked.prog ∧ i.vars = [] ∧ Input.okWide Tryd.checked.prog (w.forCall tape i) .any w.heap.size f i ∧
      ((s.pre enc Tryd.checked.prog fn conds false (w.forCall tape i).memory i.args ∧ laidMetH Tryd.prog laidQ (w.forCall tape i).memory) ∧ sizedMet enc Tryd.checked.prog fn (OpenSpec.ofChange s) false (w.forCall tape i).memory i.args) ∧ Assume.holds {} Tryd.checked.prog (lone (Frame.enter Tryd.checked.prog f i.args .normal) [] (w.forCall tape i)))
    (walk : ∀ (W : World) (base : Nat) (args : Array Value) (ds : List (DataW H)) (ps : List MemPlace), QuartersAt W →
      (∀ (j : Nat) t v, fn.params[j]? = some t → args[j]? = some v → Value.okWide Tryd.prog W .any base t v) →
      DataW.TrodAll enc Tryd.prog W 0 (fun _ => true) true fn.params.toList args.toList ds ps → (∀ x ∈ ps, x.block < W.heap.size) → Calls Tryd.prog f args W (Yes W)) :
    ReturnsInHanded {} Tryd.checked os f .any (fun w args => (s.pre enc Tryd.prog fn conds false w args ∧ laidMetH Tryd.prog laidQ w) ∧ sizedMet enc Tryd.prog fn (OpenSpec.ofChange s) false w args) (s.post enc Tryd.prog fn false true false false) := by
  subst hconds
  refine returnsInHanded_of_change_and (C := Tryd.checked) (X := fun w _ => laidMetH Tryd.prog laidQ w) (fun _ _ _ hh h => h.of_heap hh) own started noInit hfn witness ?_
  intro W base args ds gs before hval hW _ _ hL _
  have hW' := hW
  have hlt : ∀ p ∈ before, p.block < W.heap.size := fun p hp => hW.lt p hp
  obtain ⟨p, q, hA, hV, hbef, hfz, hnd⟩ := hW
  rw [hs.1] at hV
  obtain ⟨rfl, rfl⟩ := trodVars_none hV
  rw [List.append_nil] at hbef
  subst hbef
  refine (walk W base args ds _ (of_laidQ hL) hval hA hlt).mono fun e W' ⟨he, bel⟩ => ?_
  subst he
  have hlen := trodAll_length _ _ _ _ hA
  have hfn' := hs.2 H ds hlen
  refine ⟨_, rfl, ?_⟩
  refine ⟨ds, [], before, [], before, [], hW', ?_, ?_, ?_, bel.frame _, fun h => by cases h⟩
  · rw [List.append_nil, hfn', hres]
    exact trodAll_mk1 (shut_bool Tryd.underlying4 _)
  · rw [List.append_nil, hfn']
    exact trodAll_below laidOut bel _ _ _ _ hts hA hlt
  · rw [List.append_nil, hfn', hs.1]; rfl
end Go.Proofs.YtaikejlcpnelpaaDoor
/- Keys, nonces that came in by value, opened; handed bytes lie within their room. -/
namespace Go.Proofs.YtaikejlcpnelpaaDoor
set_option maxRecDepth 100000
open Go.ChangeShapes Go.WideShapes Go.ChangeAt Go.RowKit
theorem byt_of : ∀ cs : List Value, (∀ i, i < cs.length → ∃ n : Nat, n < 256 ∧ (cs.drop i).take 1 = [.int .u8 (n : Int)]) → ∃ l : List Nat, cs = byt l ∧ ∀ c ∈ l, c < 256
  | [], _ => ⟨[], rfl, by simp⟩
  | u :: cs, h => by
    obtain ⟨n, hn, hu⟩ := h 0 (by simp)
    obtain ⟨l, hl, hs⟩ := byt_of cs (fun i hi => by simpa using h (i + 1) (by simp; omega))
    refine ⟨n :: l, ?_, ?_⟩
    · simp at hu; rw [hu, hl]; rfl
    · intro c hc
      rcases List.mem_cons.1 hc with rfl | hc
      · exact hn
      · exact hs c hc
/-- an array of bytes reads as a list of bytes -/
theorem barr_of {H : Type} {enc : TypeId × Value → H} {W : World} {b fuel T n : Nat} {sp : Nat → Bool} {hd : Bool} {cs : List Value} {x : DataW H × List MemPlace}
    (ht : Tryd.prog.underlying T = some (.array n 5)) (hc : Tryd.prog.cellsOf T = n) (h : DataW.trod enc Tryd.prog W b sp hd fuel T cs = some x) : ∃ l : List Nat, cs = byt l ∧ l.length = n ∧ ∀ c ∈ l, c < 256 := by
  obtain ⟨xs, m, _, _, hlen, hx, hg⟩ := DataW.trod_array ht h
  have h1 : Tryd.prog.cellsOf 5 = 1 := by kernel_rfl
  rw [hc] at hlen
  obtain ⟨l, hl, hs⟩ := byt_of cs (fun i hi => by
    have hgi := hg i (by omega)
    rw [h1, Nat.mul_one] at hgi
    have hxi : xs[i]? = some (xs[i]'(by omega)) := List.getElem?_eq_getElem (by omega)
    rw [hxi] at hgi
    obtain ⟨z, hz, _, wz⟩ := DataW.trod_int Tryd.underlying5 hgi
    have hb := bounds_u8 wz
    exact ⟨z.toNat, by omega, by rw [hz, Int.toNat_of_nonneg hb.1]⟩)
  exact ⟨l, hl, by rw [← byt_len, ← hl]; exact hlen, hs⟩
theorem okWide_array {P : Program} {w : World} {r : Reach} {base n : Nat} {t e : TypeId} {v : Value} (ht : P.underlying t = some (.array n e)) (h : Value.okWide P w r base t v) : ∃ cs, v = .agg cs ∧ cs.size = P.cellsOf t := by
  simp only [Value.okWide, ht] at h
  obtain ⟨cs, h1, h2, _⟩ := h
  exact ⟨cs, h1, h2⟩
theorem open_key {H : Type} {enc : TypeId × Value → H} {W : World} {base : Nat} {v : Value} {d : DataW H} {p : List MemPlace} (hv : Value.okWide Tryd.prog W .any base 23 v)
    (h : DataW.Trod enc Tryd.prog W 0 (fun _ => true) true 23 v d p) : ∃ l : List Nat, v = .agg (vb l) ∧ l.length = 32 ∧ ∀ c ∈ l, c < 256 := by
  obtain ⟨cs, rfl, hsz⟩ := okWide_array Tryd.underlying23 hv
  have hC : Tryd.prog.cellsOf 23 = 32 := by kernel_rfl
  obtain ⟨fuel, hf⟩ := h
  simp only [Value.cells] at hf
  obtain ⟨l, e, hl, hs⟩ := barr_of Tryd.underlying23 hC hf
  exact ⟨l, by congr 1; apply Array.toList_inj.1; rw [e]; simp [vb], hl, hs⟩
theorem open_nonce {H : Type} {enc : TypeId × Value → H} {W : World} {base : Nat} {v : Value} {d : DataW H} {p : List MemPlace} (hv : Value.okWide Tryd.prog W .any base 25 v)
    (h : DataW.Trod enc Tryd.prog W 0 (fun _ => true) true 25 v d p) : ∃ l : List Nat, v = .agg (vb l) ∧ l.length = 12 ∧ ∀ c ∈ l, c < 256 := by
  obtain ⟨cs, rfl, hsz⟩ := okWide_array Tryd.underlying25 hv
  have hC : Tryd.prog.cellsOf 25 = 12 := by kernel_rfl
  obtain ⟨fuel, hf⟩ := h
  simp only [Value.cells] at hf
  obtain ⟨l, e, hl, hs⟩ := barr_of Tryd.underlying25 hC hf
  exact ⟨l, by congr 1; apply Array.toList_inj.1; rw [e]; simp [vb], hl, hs⟩
theorem cap_bytes {H : Type} {enc : TypeId × Value → H} {W : World} {A : Option Addr} {n cap : Nat} {d : DataW H} {p : List MemPlace}
    (h : DataW.Trod enc Tryd.prog W 0 (fun _ => true) true 30 (.slice A n cap) d p) : n ≤ cap := by
  obtain ⟨fuel, hf⟩ := h
  rcases open_ints Tryd.underlying30 Tryd.underlying5 (by kernel_rfl) hf with ⟨hcs, _⟩ | ⟨x, l, c, zs, hcs, _, hl, hm, hz, _, hcell, hwz⟩
  · simp [Value.cells] at hcs
    omega
  · simp [Value.cells] at hcs
    obtain ⟨rfl, rfl, rfl⟩ := hcs
    exact hl
end Go.Proofs.YtaikejlcpnelpaaDoor
/- Pieces, int64s that came in, opened. -/
namespace Go.Proofs.YtaikejlcpnelpaaDoor
set_option maxRecDepth 100000
open Go.ChangeShapes Go.WideShapes Go.ChangeAt Go.RowKit
set_option linter.unusedVariables false
theorem cut_eqP {cs : List Value} {n : Nat} (a : Nat) (xs : List Value) (hx : xs.length = n) (h : (cs.drop a).take n = xs) : cs.drop a = xs ++ cs.drop (a + n) := by
  rw [← h, ← List.drop_drop, List.take_append_drop]
theorem mark_of {H : Type} {enc : TypeId × Value → H} {W : World} {fuel : Nat} {cs : List Value} {y : DataW H × List MemPlace} (hf : DataW.trod enc Tryd.prog W 0 (fun _ => true) true fuel 55 cs = some y) :
    ∃ n d : Nat, n < 18446744073709551616 ∧ d < 65536 ∧ cs = [.int .u64 (n : Int), .int .u16 (d : Int)] := by
  obtain ⟨f0, f1, hs, ⟨o0, o1⟩, k0, k1⟩ : ∃ f0 f1 : Field, Tryd.prog.underlying 55 = some (.struct #[f0, f1]) ∧ (f0.offset = 0 ∧ f1.offset = 1) ∧ f0.type = 52 ∧ f1.type = 53 := ⟨_, _, Tryd.underlying55, ⟨rfl, rfl⟩, rfl, rfl⟩
  obtain ⟨xs, n, _, hx, hlc, hlen, hg⟩ := DataW.trod_struct hs hf
  have hlen' : xs.length = 2 := hlen
  have hC : Tryd.prog.cellsOf 55 = 2 := by kernel_rfl
  rw [hC] at hlc
  have h64 : Tryd.prog.cellsOf 52 = 1 := by kernel_rfl
  have h16 : Tryd.prog.cellsOf 53 = 1 := by kernel_rfl
  have g0 := hg 0 f0 rfl
  rw [k0, o0, h64, List.getElem?_eq_getElem (by omega)] at g0
  have g1 := hg 1 f1 rfl
  rw [k1, o1, h16, List.getElem?_eq_getElem (by omega)] at g1
  obtain ⟨z0, e0, _, w0⟩ := DataW.trod_int Tryd.underlying52 g0
  have b0 := bounds_u64 w0
  obtain ⟨n0, rfl⟩ := Int.eq_ofNat_of_zero_le b0.1
  obtain ⟨z1, e1, _, w1⟩ := DataW.trod_int Tryd.underlying53 g1
  have b1 := bounds_u16 w1
  obtain ⟨n1, rfl⟩ := Int.eq_ofNat_of_zero_le b1.1
  refine ⟨n0, n1, by omega, by omega, ?_⟩
  have c0 := cut_eqP (n := 1) 0 [_] rfl e0
  have c1 := cut_eqP (n := 1) 1 [_] rfl e1
  rw [List.drop_zero] at c0
  rw [c0, show 0 + 1 = 1 from rfl, c1, List.drop_eq_nil_of_le (by omega)]
  rfl
theorem piece_of {H : Type} {enc : TypeId × Value → H} {W : World} {fuel : Nat} {cs : List Value} {y : DataW H × List MemPlace} (hf : DataW.trod enc Tryd.prog W 0 (fun _ => true) true fuel 57 cs = some y) :
    ∃ p : Pc, cs = pcL p ∧ PcOk p ∧ p.s.size ≤ 9223372036854775807 := by
  obtain ⟨f0, f1, f2, f3, hs, ⟨o0, o1, o2, o3⟩, k0, k1, k2, k3⟩ : ∃ f0 f1 f2 f3 : Field, Tryd.prog.underlying 57 = some (.struct #[f0, f1, f2, f3]) ∧ (f0.offset = 0 ∧ f1.offset = 1 ∧ f2.offset = 2 ∧ f3.offset = 3) ∧ f0.type = 9 ∧ f1.type = 2 ∧ f2.type = 2 ∧ f3.type = 55 := ⟨_, _, _, _, Tryd.underlying57, ⟨rfl, rfl, rfl, rfl⟩, rfl, rfl, rfl, rfl⟩
  obtain ⟨xs, n, _, hx, hlc, hlen, hg⟩ := DataW.trod_struct hs hf
  have hlen' : xs.length = 4 := hlen
  have hC : Tryd.prog.cellsOf 57 = 5 := by kernel_rfl
  rw [hC] at hlc
  have hst : Tryd.prog.cellsOf 9 = 1 := by kernel_rfl
  have h64 : Tryd.prog.cellsOf 2 = 1 := by kernel_rfl
  have hid : Tryd.prog.cellsOf 55 = 2 := by kernel_rfl
  have g0 := hg 0 f0 rfl
  rw [k0, o0, hst, List.getElem?_eq_getElem (by omega)] at g0
  have g1 := hg 1 f1 rfl
  rw [k1, o1, h64, List.getElem?_eq_getElem (by omega)] at g1
  have g2 := hg 2 f2 rfl
  rw [k2, o2, h64, List.getElem?_eq_getElem (by omega)] at g2
  have g3 := hg 3 f3 rfl
  rw [k3, o3, hid, List.getElem?_eq_getElem (by omega)] at g3
  obtain ⟨s, e0, _, hsz⟩ := DataW.trod_string Tryd.underlying9 g0
  obtain ⟨z1, e1, _, w1⟩ := DataW.trod_int Tryd.underlying2 g1
  have b1 := bounds_i64 w1
  obtain ⟨z2, e2, _, w2⟩ := DataW.trod_int Tryd.underlying2 g2
  have b2 := bounds_i64 w2
  obtain ⟨n3, d3, hn, hd, e3⟩ := mark_of g3
  refine ⟨⟨s, z1, z2, n3, d3⟩, ?_, ⟨b1.1, by show z1 ≤ _; omega, b2.1, by show z2 ≤ _; omega, hn, hd⟩, by simpa [maxLen] using hsz⟩
  have c0 := cut_eqP (n := 1) 0 [_] rfl e0
  have c1 := cut_eqP (n := 1) 1 [_] rfl e1
  have c2 := cut_eqP (n := 1) 2 [_] rfl e2
  have c3 := cut_eqP (n := 2) 3 [_, _] rfl e3
  rw [List.drop_zero] at c0
  rw [c0, show 0 + 1 = 1 from rfl, c1, show 1 + 1 = 2 from rfl, c2, show 2 + 1 = 3 from rfl, c3, List.drop_eq_nil_of_le (by omega)]
  rfl
theorem open_pieces {H : Type} {enc : TypeId × Value → H} {W : World} {base : Nat} {v : Value} {d : DataW H} {p : List MemPlace} (hv : Value.okWide Tryd.prog W .any base 27 v)
    (h : DataW.Trod enc Tryd.prog W 0 (fun _ => true) true 27 v d p) :
    ∃ (A : Option Addr) (l : List Pc) (cap : Nat), v = .slice A l.length cap ∧ l.length ≤ cap ∧ l.length ≤ 9223372036854775807 ∧ (∀ p ∈ l, PcOk p ∧ p.s.size ≤ 9223372036854775807) ∧ RdP W W.heap.size A l := by
  have hC : Tryd.prog.cellsOf 57 = 5 := by kernel_rfl
  obtain ⟨A, len, cap, rfl⟩ := okWide_slice Tryd.underlying27 hv
  obtain ⟨fuel, hf⟩ := h
  rcases DataW.trod_slice Tryd.underlying27 hf with ⟨hcs, _⟩ | ⟨a, len', cap', elems, rest, n, _, hcs, _, hb, hl, hm, hlen, helem, _, _⟩
  · simp [Value.cells] at hcs
    obtain ⟨rfl, rfl, rfl⟩ := hcs
    exact ⟨none, [], 0, rfl, Nat.le_refl _, by simp, by simp, Rd.nil_ _ _ _⟩
  · simp [Value.cells] at hcs
    obtain ⟨rfl, rfl, rfl⟩ := hcs
    have key : ∀ m, m ≤ len → ∃ L : List Pc, L.length = m ∧ (∀ p ∈ L, PcOk p ∧ p.s.size ≤ 9223372036854775807) ∧ AtA W a (pcs L) := by
      intro m
      induction m with
      | zero => intro _; exact ⟨[], rfl, by simp, by intro j u hu; simp [pcs_nil] at hu⟩
      | succ m ih =>
        intro hm1
        obtain ⟨L, hL, hLs, hLc⟩ := ih (by omega)
        have he := helem m (by omega)
        have hem : elems[m]? = some (elems[m]'(by omega)) := List.getElem?_eq_getElem (by omega)
        rw [hem, hC, Option.bind_eq_some_iff] at he
        obtain ⟨cs', hcs', hy⟩ := he
        obtain ⟨q, rfl, hq⟩ := piece_of hy
        obtain ⟨_, _, hcell⟩ := World.cells?_some hcs'
        refine ⟨L ++ [q], by rw [List.length_append, hL]; rfl, fun c hc => (List.mem_append.1 hc).elim (hLs c) (fun h => by rw [List.mem_singleton.1 h]; exact hq), fun j u hu => ?_⟩
        rw [pcs_app] at hu
        rcases Nat.lt_or_ge j (m * 5) with hj | hj
        · rw [List.getElem?_append_left (by rw [pcs_len, hL]; exact hj)] at hu
          exact hLc j u hu
        · rw [List.getElem?_append_right (by rw [pcs_len, hL]; exact hj), pcs_len, hL, pcs_cons, pcs_nil, List.append_nil] at hu
          have hj2 : j - m * 5 < 5 := by
            rcases Nat.lt_or_ge (j - m * 5) 5 with h1 | h1
            · exact h1
            · rw [List.getElem?_eq_none (by simp [pcL]; omega)] at hu; cases hu
          have h2 := hcell (j - m * 5) hj2
          rw [Addr.add_add, show m * 5 + (j - m * 5) = j by omega] at h2
          rw [h2, hu]
    obtain ⟨L, hL, hLs, hLc⟩ := key len (Nat.le_refl _)
    refine ⟨some a, L, cap, by rw [hL], by rw [hL]; exact hl, by rw [hL]; simp only [maxLen] at hm; omega, hLs, fun hne => ?_⟩
    have h0 : 0 < (pcs L).length := by
      rcases Nat.eq_zero_or_pos (pcs L).length with h0 | h0
      · exact absurd (List.eq_nil_of_length_eq_zero h0) hne
      · exact h0
    have hc0 := hLc 0 _ (List.getElem?_eq_getElem h0)
    refine ⟨a, rfl, by have := cell_lt hc0; rwa [add_block] at this, hLc⟩
theorem open_i64s {H : Type} {enc : TypeId × Value → H} {W : World} {base : Nat} {v : Value} {d : DataW H} {p : List MemPlace} (hv : Value.okWide Tryd.prog W .any base 51 v)
    (h : DataW.Trod enc Tryd.prog W 0 (fun _ => true) true 51 v d p) :
    ∃ (A : Option Addr) (l : List Int) (cap : Nat), v = .slice A l.length cap ∧ (∀ z ∈ l, -9223372036854775808 ≤ z ∧ z ≤ 9223372036854775807) ∧ Rd W W.heap.size A (l.map fun z => .int .i64 z) ∧ l.length ≤ maxLen := by
  obtain ⟨A, len, cap, rfl⟩ := okWide_slice Tryd.underlying51 hv
  obtain ⟨fuel, hf⟩ := h
  rcases open_ints Tryd.underlying51 Tryd.underlying2 (by kernel_rfl) hf with ⟨hcs, _⟩ | ⟨x, l, c, zs, hcs, _, hl, hm, hz, _, hcell, hwz⟩
  · simp [Value.cells] at hcs
    obtain ⟨rfl, rfl, rfl⟩ := hcs
    exact ⟨none, [], 0, rfl, by simp, Rd.nil_ _ _ _, by simp⟩
  · simp [Value.cells] at hcs
    obtain ⟨rfl, rfl, rfl⟩ := hcs
    have hz' : zs.length = cap := by simpa using hz
    have hlen : (zs.take len).length = len := by simp; omega
    refine ⟨some x, zs.take len, cap, by rw [hlen], fun z hz1 => ?_, ?_, by rw [hlen]; omega⟩
    · have := bounds_i64 (hwz z (List.mem_of_mem_take hz1))
      omega
    · intro hne
      have h0 : 0 < len := by
        rcases Nat.eq_zero_or_pos len with h0 | h0
        · subst h0; simp at hne
        · exact h0
      have hc0 := hcell 0 (by omega)
      refine ⟨x, rfl, by have := block_lt hc0; rwa [add_block] at this, fun j u hu => ?_⟩
      have hj : j < len := by
        rcases Nat.lt_or_ge j len with h1 | h1
        · exact h1
        · rw [List.getElem?_eq_none (by rw [List.length_map, hlen]; exact h1)] at hu; cases hu
      have hjz : j < zs.length := by omega
      rw [hcell j hjz, ← hu, List.getElem?_map, List.getElem?_take_of_lt hj, List.getD_eq_getElem?_getD, List.getElem?_eq_getElem hjz]
      rfl
end Go.Proofs.YtaikejlcpnelpaaDoor
