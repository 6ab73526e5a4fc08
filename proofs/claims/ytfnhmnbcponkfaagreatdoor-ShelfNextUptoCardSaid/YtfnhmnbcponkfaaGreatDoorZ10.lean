/- Parts, one behind the other: Bx5 Mg0 Bk0 Bl0 Bl1 Bl2 Df9 Bl4 Ce3 Bx6 Dl2 Bx7 Bl5 Mg1 Mg2 Mv0 Bl6 Mv1 Rfa. -/
import Derived.Test.YtfnhmnbcponkfaaGreatDoorZ09
import Derived.Laws.StructEq
import Derived.Shelf.SlSortCmp.Insertion
import Derived.Maps.OwnSet
import Derived.WideKeyArgs
import Derived.DeepKeys4
import Derived.Maps.Range
import Derived.Shelf.SlIter.Collect
import Derived.RangeFuncKeeps
import Derived.RangeFuncBox
import Derived.RangeFuncGives
import Derived.Shelf.SlIter.Keys
import Derived.RangeFuncFrom
set_option maxRecDepth 100000
set_option linter.unusedVariables false
set_option linter.unusedSimpArgs false
set_option maxHeartbeats 4000000
namespace Go.Proofs.YtfnhmnbcponkfaaGreatDoor
open Go.RowKit
def RBox (t : ByteArray) (ep : Nat) (nn body : List Nat) (base : Nat) (u : Value) (W : World) : Prop := ∃ A c, u = .agg (bxV t ep nn A body.length c) ∧ OwnB W base (.slice A body.length c) body
theorem RBox.next {t : ByteArray} {ep : Nat} {nn body : List Nat} {base : Nat} {u : Value} {W W' : World} (h : RBox t ep nn body base u W) (hb : Below W.heap.size W W') : RBox t ep nn body base u W' := by
 obtain ⟨A, c, e, h⟩ := h
 exact ⟨A, c, e, h.next hb⟩
theorem rseal16_c (k nn : List Nat) (t : ByteArray) (ep : Nat) (A : Option Addr) (ca : Nat) (l : List Pc) (w : World) (hk : k.length = 32) (hkl : ∀ c ∈ k, c < 256) (hn : nn.length = 12) (hnl : ∀ c ∈ nn, c < 256) (ht : t.size ≤ 1000) (he : ep < 4294967296) (hr : RdP w w.heap.size A l) (h1 : l.length ≤ 100000) (hok : ∀ p ∈ l, PcOk p ∧ p.s.size ≤ 1000000) (h0 : chkL l = 0) :
  Calls Tryz.prog 16 #[.agg (vb k), .agg (vb nn), .string t, .int .u32 (ep : Nat), .slice A l.length ca] w fun e w' => ∃ u, e = .returned u ∧ RBox t ep nn (boxL k nn t ep l) w.heap.size u w' ∧ Below w.heap.size w w' := by
 have zf := zero_bx
 have zs1 : zBx.size = 15 := by rfl
 have zs2 : ¬ zBx = #[] := by intro h; have := congrArg Array.size h; rw [zs1] at this; cases this
 have HBX := Li (Sbx.begin w k nn)
 have hL0 : layR l = layL l := by unfold layR; rw [if_pos h0]
 have hLl : (layL l).length ≤ 4096 := by rw [← hL0]; exact layR_le (fun p hp => (hok p hp).1)
 have hLb : ∀ c ∈ layL l, c < 256 := by rw [← hL0]; exact layR_lt l
 have hbl := beside_len 66 t ep
 have HBS := Li (fun W => rbeside_c 66 t ep W he (by omega))
 have HLY := Li (fun W (hb : Below w.heap.size w W) => rlay_c A ca l W (Rd.ups (Rd.below hr hb) hb.size) h1 hok h0)
 have HSC := Li (fun W A1 A2 c1 c2 (hr1 : Rd W W.heap.size A1 (byt (besideL 66 t ep))) (hr2 : Rd W W.heap.size A2 (byt (layL l))) => rseal_c A1 A2 c1 c2 k nn (besideL 66 t ep) (layL l) W hk hkl hn hnl hr1 hr2 (beside_lt 66 t ep (by decide)) hLb (by omega) (by omega))
 have HSB := Li (show sealL k nn (besideL 66 t ep) (layL l) = boxL k nn t ep l from rfl)
 rw [HSB.out] at HSC
 have HBT := Li (fun A n c => built_bx t ep (nn := nn) A n c hn)
 have HBI := Li (fun A n c => bxSz t ep (nn := nn) A n c hn)
 have HBQ := Li (fun A n c => show zBx.size = (bxV t ep nn A n c).size by rw [zBx_size]; unfold bxV; rw [List.size_toArray, bxL_len t ep A n c hn])
 have HNL := Li (show (Tryz.prog.info? 57).map (·.size) = some (vb nn).toList.length by rw [Array.length_toList]; exact nnSz hn)
 have HKL := Li (show (Tryz.prog.info? 45).map (·.size) = some (vb k).toList.length by rw [Array.length_toList]; exact keySz hk)
 generalize boxL k nn t ep l = body at *
 generalize layL l = L at *
 generalize besideL 66 t ep = bs at *
 clear hr hok hkl hnl h0 hL0 hLl hLb hbl HSB
 go_enter Tryz.func16, Tryz.ntmps16
 go_upto_region 1 with (first
  | (refine Go.Great.wpList_boxTo rfl 45 (.tmp 0) rfl (some 5) rfl w.heap.size rfl (vb k) rfl ?_)
  | (refine Go.Great.wpList_boxTo rfl 57 (.tmp 1) rfl (some 6) rfl (w.heap.size + 1) (by simp) (vb nn) rfl ?_))
 generalize ((w.alloc (Obj.cells (vb k) 45)).alloc (Obj.cells (vb nn) 57)).alloc (Obj.cells zBx 61) = Z at *
 clear zf zs1 zs2
 refine wp_region_loudTail 11 Z [18, 20, 21] (fun k u W => if k = 18 then OwnB W Z.heap.size u bs else if k = 20 then OwnB W Z.heap.size u L else OwnB W Z.heap.size u body) (by kernel_rfl) (by kernel_rfl) (by kernel_rfl) (by kernel_rfl) (fun k u w1 w2 h hb => by
  by_cases h33 : k = 18
  ·rw [if_pos h33] at h ⊢; exact OwnB.next h hb
  ·rw [if_neg h33] at h ⊢
   by_cases h35 : k = 20
   ·rw [if_pos h35] at h ⊢; exact OwnB.next h hb
   ·rw [if_neg h35] at h ⊢; exact OwnB.next h hb) (jE _ _).drew ?_
 simp only [List.take_succ_cons, List.take_zero, List.drop_succ_cons, List.drop_zero]
 repeat (first
  | (refine wpLoud_loadB rfl rfl 45 (.tmp 5) rfl w.heap.size 0 rfl (vb k) _ (fun z => by have h2 := rangeAt_blk (HBX.out.kb.kA.below z.bel HBX.out.kb.kA.lt); simpa [vb] using h2) Tryz.underlying45 rfl HKL.out _ (by simp only [Act.put, sI, sS, sZ]; rfl) ?_)
  | (refine wpLoud_loadB rfl rfl 57 (.tmp 6) rfl (w.heap.size + 1) 0 rfl (vb nn) _ (fun z => by have h2 := rangeAt_blk (HBX.out.kb.nA.below z.bel HBX.out.kb.nA.lt); simpa [vb] using h2) Tryz.underlying57 rfl HNL.out _ (by simp only [Act.put, sI, sS, sZ]; rfl) ?_)
  | (refine wpLoud_call 18 rfl [] tok 33 (fun g => #[.int .u8 66, .string t, .int .u32 (ep : Int)]) rfl (fun _ _ h => by cases h) rfl (fun g w => by kernel_rfl) (fun g y hg => by
    refine (HBS.out y.wd).mono ?_
    rintro e w' ⟨u, rfl, ho, hb⟩
    exact ⟨u, rfl, hb, own_base_le ho y.bel.size⟩) _ (by simp only [Act.put, sI, sS, sZ]; rfl) ?_)
  | (refine wpLoud_call 20 rfl [] tok 34 (fun g => #[.slice A l.length ca]) rfl (fun _ _ h => by cases h) rfl (fun g w => by kernel_rfl) (fun g y hg => by
    refine (HLY.out y.wd (HBX.out.kb.bel.trans (y.bel.mono HBX.out.kb.bel.size))).mono ?_
    rintro e w' ⟨u, rfl, ho, hb⟩
    exact ⟨u, rfl, hb, own_base_le ho y.bel.size⟩) _ (by simp only [Act.put, sI, sS, sZ]; rfl) ?_)
  | (refine wpLoud_call 21 rfl [18, 20] tok 32 (fun g => #[.agg (vb k), .agg (vb nn), g 18, g 20]) rfl (fun _ _ h => by cases h) rfl (fun g w => by kernel_rfl) (fun g y hg => by
    have h18 : OwnB y.wd Z.heap.size (g 18) bs := hg 18 (by simp)
    have h20 : OwnB y.wd Z.heap.size (g 20) L := hg 20 (by simp)
    obtain ⟨A3, c3, e3, _, _, r3⟩ := h18.rd
    obtain ⟨A4, c4, e4, _, _, r4⟩ := h20.rd
    show Calls _ _ #[_, _, g 18, g 20] _ _
    rw [e3, e4]
    refine (HSC.out y.wd A3 A4 c3 c4 r3 r4).mono ?_
    rintro e w' ⟨v, rfl, ho, hb⟩
    exact ⟨v, rfl, hb, own_base_le ho y.bel.size⟩) _ (by simp only [Act.put, sI, sS, sZ]; rfl) ?_)
  | (refine wpLoud_plain rfl rfl rfl ?_; intro K hK; go_big_quiet_op; go_big_quiet_on))
 refine wpLoud_end [18, 20, 21] (by rfl) ?_
 intro gg z hg
 have h21 : OwnB z.wd Z.heap.size (gg 21) body := hg 21 (by simp)
 obtain ⟨A5, c5, e21, _, _, _⟩ := h21.rd
 have HO5 := Li h21
 have HX5 := Li (HBX.out.next z.bel)
 generalize z.wd = Y at *
 simp only [fill, Act.put, sI, sS, sZ]
 rw [e21] at HO5 ⊢
 clear hg h21 e21
 generalize gg 18 = x18 at *
 generalize gg 20 = x20 at *
 refine wpList_valG (by kernel_rfl) (.agg (bxV t ep nn A5 body.length c5)) (by exact run_built _ 61 [(0, .string t), (1, .int .u32 (ep : Int)), (2, .agg (vb nn)), (3, .slice A5 body.length c5)] (bxV t ep nn A5 body.length c5) (HBT.out A5 body.length c5) #[(0, .tmp 11), (1, .tmp 12), (2, .tmp 13), (3, .tmp 21)] rfl (by kernel_rfl)) ?_
 simp only [Act.put, sI, sS, sZ]
 refine wpList_store_rowTo rfl 61 (.tmp 10) (.tmp 22) rfl rfl (w.heap.size + 1 + 1) (bxV t ep nn A5 body.length c5) rfl rfl 61 zBx (by exact HX5.out.r) (HBI.out ..) (HBQ.out ..) (bx_all _ _ _ _ _ _) ?_
 go_wp2_with fail
 refine bodyPost_ret (results_cell_row rfl _ _ (w.heap.size + 1 + 1) 61 (bxV t ep nn A5 body.length c5) (0, 0) _ rfl (setRow_heap _ _ zBx _ 61 (0, 0) HX5.out.r) Tryz.underlying61 rfl (HBI.out ..)) rfl ?_
 refine ⟨_, rfl, ⟨A5, c5, rfl, ?_⟩, below_row HX5.out.kb.bel (by omega) _⟩
 have hlt := HBX.out.r.lt
 exact own_base_le (own_keep HO5.out (only_setRow Y (w.heap.size + 1 + 1) _) (fun g hg hs => by have h2 := own_base HO5.out g hg; omega)) (by omega)
def sameBx (t1 : ByteArray) (ep1 : Nat) (nn1 l1 : List Nat) (t2 : ByteArray) (ep2 : Nat) (nn2 l2 : List Nat) : Bool := (t1.toList == t2.toList) && ((ep1 == ep2) && ((nn1 == nn2) && (l1 == l2)))
structure Twx (w W : World) (B1 B2 : Array Value) : Prop where
 bel : Below w.heap.size w W
 a : Blk W w.heap.size 61 B1
 b : Blk W (w.heap.size + 1) 61 B2
theorem Twx.begin (w : World) (B1 B2 : Array Value) : Twx w ((w.alloc (Obj.cells B1 61)).alloc (Obj.cells B2 61)) B1 B2 :=
 ⟨((jE _ _).alloc (jD _) _).alloc (by simp) _, (Blk.new w _ _).alloc _, heap2 w _ _⟩
theorem rsame16_c (t1 t2 : ByteArray) (ep1 ep2 : Nat) (nn1 nn2 l1 l2 : List Nat) (A1 A2 : Option Addr) (c1 c2 : Nat) (w : World) (hn1 : nn1.length = 12) (hn2 : nn2.length = 12) (hb1 : ∀ c ∈ nn1, c < 256) (hb2 : ∀ c ∈ nn2, c < 256)
  (hr1 : Rd w w.heap.size A1 (byt l1)) (hr2 : Rd w w.heap.size A2 (byt l2)) (hl1 : ∀ c ∈ l1, c < 256) (hl2 : ∀ c ∈ l2, c < 256) (h1 : l1.length ≤ 1000000) (h2 : l2.length ≤ 1000000) :
  Calls Tryz.prog 15 #[.agg (bxV t1 ep1 nn1 A1 l1.length c1), .agg (bxV t2 ep2 nn2 A2 l2.length c2)] w fun e w' => e = .returned (.bool (sameBx t1 ep1 nn1 l1 t2 ep2 nn2 l2)) ∧ Below w.heap.size w w' := by
 have HS := Li (fun W (hb : Below w.heap.size w W) => same_c w.heap.size w.heap.size A1 A2 c1 c2 l1 l2 W hl1 hl2 (hr1.below hb) (hr2.below hb) (by omega) (by omega))
 have l3 : ∀ W, (Op.equalIn 10000 57 (.agg (vb nn1)) (.agg (vb nn2))).run Tryz.prog W = .ok (nn1 == nn2) W := fun W => run_equalIn_barr Tryz.underlying57 Tryz.underlying5 (by kernel_rfl) (by kernel_rfl) nn1 nn2 hn1 hn2 hb1 hb2 W
 have HX := Li (Twx.begin w (bxV t1 ep1 nn1 A1 l1.length c1) (bxV t2 ep2 nn2 A2 l2.length c2))
 have HN1 := Li (nnSz hn1)
 have HN2 := Li (nnSz hn2)
 have HN1l := Li (show (Tryz.prog.info? 57).map (·.size) = some (byt nn1).length by rw [byt_len]; have h := nnSz hn1; rw [vb_size] at h; exact h)
 have HN2l := Li (show (Tryz.prog.info? 57).map (·.size) = some (byt nn2).length by rw [byt_len]; have h := nnSz hn2; rw [vb_size] at h; exact h)
 have HV := Li (show sameBx t1 ep1 nn1 l1 t2 ep2 nn2 l2 = ((t1.toList == t2.toList) && ((ep1 == ep2) && ((nn1 == nn2) && (l1 == l2)))) from rfl)
 obtain ⟨r, hr⟩ : ∃ r, r = sameBx t1 ep1 nn1 l1 t2 ep2 nn2 l2 := ⟨_, rfl⟩
 rw [← hr] at HV ⊢
 have HH1 := Li hn1
 have HH2 := Li hn2
 clear hr hr1 hr2 hl1 hl2 hb1 hb2 hn1 hn2
 go_enter Tryz.func15, Tryz.ntmps15
 go_upto_region 1 with (first
  | (refine Go.Great.wpList_boxTo rfl 61 (.tmp 0) rfl (some 2) rfl w.heap.size rfl (bxV t1 ep1 nn1 A1 l1.length c1) rfl ?_)
  | (refine Go.Great.wpList_boxTo rfl 61 (.tmp 1) rfl (some 3) rfl (w.heap.size + 1) (by simp) (bxV t2 ep2 nn2 A2 l2.length c2) rfl ?_))
 generalize (w.alloc (Obj.cells (bxV t1 ep1 nn1 A1 l1.length c1) 61)).alloc (Obj.cells (bxV t2 ep2 nn2 A2 l2.length c2) 61) = Z at *
 have c0 : Z.cell? ⟨w.heap.size, 0, none⟩ = some (.string t1) := (HX.out.a.cell 0).trans (bx_c0 ..)
 have c1' : Z.cell? ⟨w.heap.size, 1, none⟩ = some (.int .u32 (ep1 : Int)) := (HX.out.a.cell 1).trans (bx_c1 ..)
 have c14 : Z.cell? ⟨w.heap.size, 14, none⟩ = some (.slice A1 l1.length c1) := (HX.out.a.cell 14).trans (bx_c14 _ _ _ _ _ HH1.out)
 have d0 : Z.cell? ⟨w.heap.size + 1, 0, none⟩ = some (.string t2) := (HX.out.b.cell 0).trans (bx_c0 ..)
 have d1 : Z.cell? ⟨w.heap.size + 1, 1, none⟩ = some (.int .u32 (ep2 : Int)) := (HX.out.b.cell 1).trans (bx_c1 ..)
 have d14 : Z.cell? ⟨w.heap.size + 1, 14, none⟩ = some (.slice A2 l2.length c2) := (HX.out.b.cell 14).trans (bx_c14 _ _ _ _ _ HH2.out)
 rcases (show (t1.toList == t2.toList) = false ∨ (t1.toList == t2.toList) = true by cases (t1.toList == t2.toList) <;> simp) with ht | ht
 ·have HF := Li (show r = false by rw [HV.out, ht]; rfl)
  go_wp2_with fail
  go_ret
  exact ⟨by rw [HF.out]; rfl, HX.out.bel⟩
 ·by_cases hep : ep1 = ep2
  ·have e1 : ((ep1 : Int) == (ep2 : Int)) = true := by rw [beq_iff_eq]; omega
   have HEP := Li (show (ep1 == ep2) = true by rw [beq_iff_eq]; exact hep)
   clear hep
   rcases (show (nn1 == nn2) = false ∨ (nn1 == nn2) = true by cases (nn1 == nn2) <;> simp) with hnn | hnn
   ·have HF := Li (show r = false by rw [HV.out, ht, HEP.out, hnn]; rfl)
    rw [hnn] at l3
    unfold vb at l3
    clear hnn
    go_wp2_with (first
     | (refine wpList_loadG rfl 57 (.tmp 18) rfl w.heap.size 2 rfl (byt nn1) _ (bx_nonce HX.out.a) Tryz.underlying57 rfl HN1l.out ?_)
     | (refine wpList_loadG rfl 57 (.tmp 20) rfl (w.heap.size + 1) 2 rfl (byt nn2) _ (bx_nonce HX.out.b) Tryz.underlying57 rfl HN2l.out ?_))
    go_ret
    exact ⟨by rw [HF.out]; rfl, HX.out.bel⟩
   ·have HF := Li (show r = (l1 == l2) by rw [HV.out, ht, HEP.out, hnn]; simp)
    rw [hnn] at l3
    unfold vb at l3
    clear hnn
    have HQ := Li (HS.out Z HX.out.bel)
    rw [← HF.out] at HQ
    clear HS
    go_wp2_with (first
     | (refine wpList_loadG rfl 57 (.tmp 18) rfl w.heap.size 2 rfl (byt nn1) _ (bx_nonce HX.out.a) Tryz.underlying57 rfl HN1l.out ?_)
     | (refine wpList_loadG rfl 57 (.tmp 20) rfl (w.heap.size + 1) 2 rfl (byt nn2) _ (bx_nonce HX.out.b) Tryz.underlying57 rfl HN2l.out ?_)
     | (go_at_call 31; (refine HQ.out.mono ?_); rintro e W1 ⟨rfl, q, rfl⟩))
    go_ret
    exact ⟨rfl, belowDrewN q HX.out.bel⟩
  ·have e1 : ((ep1 : Int) == (ep2 : Int)) = false := by rw [beq_eq_false_iff_ne]; omega
   have HF := Li (show r = false by rw [HV.out, ht, show (ep1 == ep2) = false by rw [beq_eq_false_iff_ne]; exact hep]; rfl)
   clear hep
   go_wp2_with fail
   go_ret
   exact ⟨by rw [HF.out]; rfl, HX.out.bel⟩
theorem bless_trans : ∀ l m k : List UInt8, Op.bytesLess l m = true → Op.bytesLess m k = true → Op.bytesLess l k = true
 | [], _, [], h1, h2 => by
  rename_i m
  cases m <;> simp [Op.bytesLess] at h2
 | [], m, c :: k, _, _ => rfl
 | a :: l, [], k, h, _ => by simp [Op.bytesLess] at h
 | a :: l, b :: m, [], _, h => by simp [Op.bytesLess] at h
 | a :: l, b :: m, c :: k, h1, h2 => by
  rw [Op.bytesLess] at h1 h2 ⊢
  simp only [Bool.or_eq_true, Bool.and_eq_true, decide_eq_true_eq, beq_iff_eq] at h1 h2 ⊢
  rcases h1 with h1 | ⟨rfl, h1⟩ <;> rcases h2 with h2 | ⟨rfl, h2⟩
  ·left; rw [UInt8.lt_iff_toNat_lt] at h1 h2 ⊢; omega
  ·exact .inl h1
  ·exact .inl h2
  ·exact .inr ⟨rfl, bless_trans l m k h1 h2⟩
def samePl (a b : Pc) : Bool := (a.s.toList == b.s.toList) && (a.t == b.t)
theorem samePl_iff (a b : Pc) : samePl a b = true ↔ a.s = b.s ∧ a.t = b.t := by
 unfold samePl
 simp only [Bool.and_eq_true, beq_iff_eq]
 exact ⟨fun h => ⟨toList_inj h.1, h.2⟩, fun h => ⟨by rw [h.1], h.2⟩⟩
theorem okPair_iff (a b : Pc) : okPair a b = true ↔ ltS a.s b.s = true ∨ (a.s = b.s ∧ a.t < b.t) := by
 unfold okPair
 simp only [Bool.or_eq_true, Bool.and_eq_true, beq_iff_eq, decide_eq_true_eq]
 exact ⟨fun h => h.imp id (fun h => ⟨toList_inj h.1, h.2⟩), fun h => h.imp id (fun h => ⟨by rw [h.1], h.2⟩)⟩
theorem ltS_irr (s : ByteArray) : ltS s s = false := bless_irr _
theorem ltS_trans {a b c : ByteArray} (h1 : ltS a b = true) (h2 : ltS b c = true) : ltS a c = true := bless_trans _ _ _ h1 h2
theorem okPair_irr (a b : Pc) (h : samePl a b = true) : okPair a b = false := by
 rw [samePl_iff] at h
 cases hk : okPair a b with
 | false => rfl
 | true =>
  rw [okPair_iff] at hk
  rcases hk with h1 | h1
  ·rw [h.1, ltS_irr] at h1; cases h1
  ·have := h1.2; omega
theorem okPair_trans {a b c : Pc} (h1 : okPair a b = true) (h2 : okPair b c = true) : okPair a c = true := by
 rw [okPair_iff] at *
 rcases h1 with h1 | ⟨e1, h1⟩ <;> rcases h2 with h2 | ⟨e2, h2⟩
 ·exact .inl (ltS_trans h1 h2)
 ·left; rw [← e2]; exact h1
 ·left; rw [e1]; exact h2
 ·exact .inr ⟨e1.trans e2, by omega⟩
theorem okPair_tri {a b : Pc} (h1 : samePl a b = false) (h2 : okPair a b = false) : okPair b a = true := by
 rw [okPair_iff]
 have n1 : ¬ (a.s = b.s ∧ a.t = b.t) := fun h => by rw [(samePl_iff a b).2 h] at h1; cases h1
 have n2 : ¬ (ltS a.s b.s = true ∨ (a.s = b.s ∧ a.t < b.t)) := fun h => by rw [(okPair_iff a b).2 h] at h2; cases h2
 by_cases he : a.s = b.s
 ·right
  refine ⟨he.symm, ?_⟩
  have m1 : ¬ a.t = b.t := fun h => n1 ⟨he, h⟩
  have m2 : ¬ a.t < b.t := fun h => n2 (.inr ⟨he, h⟩)
  omega
 ·left
  have m2 : ltS a.s b.s = false := by
   cases h : ltS a.s b.s with
   | false => rfl
   | true => exact absurd (.inl h) n2
  exact bless_tri _ _ (fun h => he (toList_inj h)) m2
theorem samePl_comm (a b : Pc) : samePl a b = samePl b a := by
 rw [Bool.eq_iff_iff, samePl_iff, samePl_iff]
 exact ⟨fun h => ⟨h.1.symm, h.2.symm⟩, fun h => ⟨h.1.symm, h.2.symm⟩⟩
theorem samePl_refl (a : Pc) : samePl a a = true := (samePl_iff a a).2 ⟨rfl, rfl⟩
theorem samePl_trans {a b c : Pc} (h1 : samePl a b = true) (h2 : samePl b c = true) : samePl a c = true := by
 rw [samePl_iff] at *
 exact ⟨h1.1.trans h2.1, h1.2.trans h2.2⟩
theorem okPair_congr {a b c : Pc} (h : samePl a b = true) : okPair a c = okPair b c ∧ okPair c a = okPair c b := by
 rw [samePl_iff] at h
 constructor
 ·rw [Bool.eq_iff_iff, okPair_iff, okPair_iff, h.1, h.2]
 ·rw [Bool.eq_iff_iff, okPair_iff, okPair_iff, h.1, h.2]
def better (p q : Pc) : Bool := decide (q.n < p.n) || ((q.n == p.n) && (decide (q.d < p.d) || ((q.d == p.d) && decide (q.v < p.v))))
theorem better_iff (p q : Pc) : better p q = true ↔ q.n < p.n ∨ (q.n = p.n ∧ (q.d < p.d ∨ (q.d = p.d ∧ q.v < p.v))) := by
 unfold better
 simp only [Bool.or_eq_true, Bool.and_eq_true, beq_iff_eq, decide_eq_true_eq]
theorem better_no (p q : Pc) : better p q = false ↔ ¬ (q.n < p.n ∨ (q.n = p.n ∧ (q.d < p.d ∨ (q.d = p.d ∧ q.v < p.v)))) := by
 rw [← better_iff]; simp
theorem better_irr (p : Pc) : better p p = false := by rw [better_no]; omega
theorem better_asym {p q : Pc} (h : better p q = true) : better q p = false := by rw [better_iff] at h; rw [better_no]; omega
theorem better_trans {p q r : Pc} (h1 : better p q = true) (h2 : better q r = true) : better p r = true := by rw [better_iff] at *; omega
theorem better_over {p q r : Pc} (h1 : better p q = true) (h2 : better r q = false) : better p r = true := by rw [better_iff] at *; rw [better_no] at h2; omega
theorem better_ntrans {p q r : Pc} (h1 : better p q = false) (h2 : better q r = false) : better p r = false := by rw [better_no] at *; omega
theorem rank_eq {p q : Pc} (h0 : samePl p q = true) (h1 : better p q = false) (h2 : better q p = false) : p = q := by
 rw [samePl_iff] at h0
 rw [better_no] at h1 h2
 cases p with
 | mk s t v n d => cases q with
  | mk s' t' v' n' d' =>
   simp only at h0 h1 h2
   obtain ⟨rfl, rfl⟩ := h0
   have e1 : n = n' := by omega
   have e2 : d = d' := by omega
   have e3 : v = v' := by omega
   subst e1 e2 e3
   rfl
def insP (p : Pc) : List Pc → List Pc
 | [] => [p]
 | q :: M => if samePl q p then (if better p q then p :: M else q :: M) else if okPair q p then q :: insP p M else p :: q :: M
def mgTo (M : List Pc) : List Pc → List Pc
 | [] => M
 | p :: l => mgTo (if ckP p then insP p M else M) l
def mergeL (l : List Pc) : List Pc := mgTo [] l
theorem mgTo_app (M l m : List Pc) : mgTo M (l ++ m) = mgTo (mgTo M l) m := by
 induction l generalizing M with
 | nil => rfl
 | cons p l ih => rw [List.cons_append, mgTo, mgTo, ih]
def SortP (M : List Pc) : Prop := M.Pairwise fun a b => okPair a b = true
theorem ins_mem (p : Pc) : ∀ (M : List Pc) x, x ∈ insP p M → x = p ∨ x ∈ M
 | [], x, h => by simp [insP] at h; exact .inl h
 | q :: M, x, h => by
  rw [insP] at h
  split at h
  ·split at h
   ·rcases List.mem_cons.1 h with h | h
    ·exact .inl h
    ·exact .inr (List.mem_cons_of_mem _ h)
   ·exact .inr h
  ·split at h
   ·rcases List.mem_cons.1 h with h | h
    ·exact .inr (by rw [h]; exact List.mem_cons_self ..)
    ·exact (ins_mem p M x h).imp id (List.mem_cons_of_mem _)
   ·rcases List.mem_cons.1 h with h | h
    ·exact .inl h
    ·exact .inr h
theorem ins_sorted (p : Pc) : ∀ {M : List Pc}, SortP M → SortP (insP p M)
 | [], _ => by unfold SortP; simp [insP]
 | q :: M, h => by
  obtain ⟨h1, h2⟩ := List.pairwise_cons.1 h
  rw [insP]
  by_cases hs : samePl q p = true
  ·rw [if_pos hs]
   split
   ·refine List.pairwise_cons.2 ⟨fun x hx => ?_, h2⟩
    rw [← (okPair_congr hs).1]
    exact h1 x hx
   ·exact h
  ·rw [if_neg hs]
   have hsf : samePl q p = false := by simpa using hs
   by_cases ho : okPair q p = true
   ·rw [if_pos ho]
    refine List.pairwise_cons.2 ⟨fun x hx => ?_, ins_sorted p h2⟩
    rcases ins_mem p M x hx with rfl | hx
    ·exact ho
    ·exact h1 x hx
   ·rw [if_neg ho]
    have hpq := okPair_tri hsf (by simpa using ho)
    refine List.pairwise_cons.2 ⟨fun x hx => ?_, h⟩
    rcases List.mem_cons.1 hx with rfl | hx
    ·exact hpq
    ·exact okPair_trans hpq (h1 x hx)
theorem mem_ins (p : Pc) : ∀ {M : List Pc}, SortP M → ∀ x, x ∈ insP p M ↔ (x ∈ M ∧ (samePl x p = true → better p x = false)) ∨ (x = p ∧ ∀ q ∈ M, samePl q p = true → better p q = true)
 | [], _, x => by simp [insP]
 | q :: M, h, x => by
  obtain ⟨h1, h2⟩ := List.pairwise_cons.1 h
  rw [insP]
  by_cases hs : samePl q p = true
  ·rw [if_pos hs]
   -- nobody else has this place
   have hno : ∀ y ∈ M, samePl y p = false := fun y hy => by
    cases hyp : samePl y p with
    | false => rfl
    | true =>
     have hqy : samePl q y = true := samePl_trans hs (by rw [samePl_comm]; exact hyp)
     have := okPair_irr q y hqy
     rw [h1 y hy] at this
     cases this
   by_cases hb : better p q = true
   ·rw [if_pos hb]
    constructor
    ·intro hx
     rcases List.mem_cons.1 hx with rfl | hx
     ·refine .inr ⟨rfl, fun y hy hyp => ?_⟩
      rcases List.mem_cons.1 hy with rfl | hy
      ·exact hb
      ·rw [hno y hy] at hyp; cases hyp
     ·exact .inl ⟨List.mem_cons_of_mem _ hx, fun hxp => by rw [hno x hx] at hxp; cases hxp⟩
    ·rintro (⟨hx, hxb⟩ | ⟨rfl, _⟩)
     ·rcases List.mem_cons.1 hx with rfl | hx
      ·rw [hxb hs] at hb; cases hb
      ·exact List.mem_cons_of_mem _ hx
     ·exact List.mem_cons_self ..
   ·rw [if_neg hb]
    have hbf : better p q = false := by simpa using hb
    constructor
    ·intro hx
     refine .inl ⟨hx, fun hxp => ?_⟩
     rcases List.mem_cons.1 hx with rfl | hx
     ·exact hbf
     ·rw [hno x hx] at hxp; cases hxp
    ·rintro (⟨hx, _⟩ | ⟨rfl, hall⟩)
     ·exact hx
     ·exact absurd (hall q (List.mem_cons_self ..) hs) hb
  ·rw [if_neg hs]
   have hsf : samePl q p = false := by simpa using hs
   by_cases ho : okPair q p = true
   ·rw [if_pos ho, List.mem_cons, mem_ins p h2 x]
    constructor
    ·rintro (rfl | ⟨hx, hxb⟩ | ⟨rfl, hall⟩)
     ·exact .inl ⟨List.mem_cons_self .., fun hxp => by rw [hsf] at hxp; cases hxp⟩
     ·exact .inl ⟨List.mem_cons_of_mem _ hx, hxb⟩
     ·refine .inr ⟨rfl, fun y hy hyp => ?_⟩
      rcases List.mem_cons.1 hy with rfl | hy
      ·rw [hsf] at hyp; cases hyp
      ·exact hall y hy hyp
    ·rintro (⟨hx, hxb⟩ | ⟨rfl, hall⟩)
     ·rcases List.mem_cons.1 hx with rfl | hx
      ·exact .inl rfl
      ·exact .inr (.inl ⟨hx, hxb⟩)
     ·exact .inr (.inr ⟨rfl, fun y hy hyp => hall y (List.mem_cons_of_mem _ hy) hyp⟩)
   ·rw [if_neg ho]
    have hpq := okPair_tri hsf (by simpa using ho)
    -- all of them stand behind p
    have hno : ∀ y ∈ q :: M, samePl y p = false := fun y hy => by
     have hpy : okPair p y = true := by
      rcases List.mem_cons.1 hy with rfl | hy
      ·exact hpq
      ·exact okPair_trans hpq (h1 y hy)
     cases hyp : samePl y p with
     | false => rfl
     | true =>
      have := okPair_irr p y (by rw [samePl_comm]; exact hyp)
      rw [hpy] at this
      cases this
    constructor
    ·intro hx
     rcases List.mem_cons.1 hx with rfl | hx
     ·exact .inr ⟨rfl, fun y hy hyp => by rw [hno y hy] at hyp; cases hyp⟩
     ·exact .inl ⟨hx, fun hxp => by rw [hno x hx] at hxp; cases hxp⟩
    ·rintro (⟨hx, _⟩ | ⟨rfl, _⟩)
     ·exact List.mem_cons_of_mem _ hx
     ·exact List.mem_cons_self ..
def IsWin (L : List Pc) (x : Pc) : Prop := x ∈ L ∧ ckP x = true ∧ ∀ q ∈ L, ckP q = true → samePl q x = true → better q x = false
theorem exists_win : ∀ (pre : List Pc) (q : Pc), q ∈ pre → ckP q = true → ∃ w0, IsWin pre w0 ∧ samePl w0 q = true ∧ better q w0 = false := by
 intro pre
 induction pre with
 | nil => intro q hq; cases hq
 | cons p pre ih =>
  intro q hq hcq
  -- the best of those that stand at q's place
  have hbest : ∃ w1, w1 ∈ p :: pre ∧ ckP w1 = true ∧ samePl w1 q = true ∧ (∀ y ∈ p :: pre, ckP y = true → samePl y q = true → better y w1 = false) := by
   by_cases hin : ∃ y ∈ pre, ckP y = true ∧ samePl y q = true
   ·obtain ⟨y, hy, hcy, hyq⟩ := hin
    obtain ⟨w0, ⟨b1, b2, b3⟩, c1, c2⟩ := ih y hy hcy
    have hwq : samePl w0 q = true := samePl_trans c1 hyq
    by_cases hp : ckP p = true ∧ samePl p q = true ∧ better p w0 = true
    ·refine ⟨p, List.mem_cons_self .., hp.1, hp.2.1, fun z hz hcz hzq => ?_⟩
     rcases List.mem_cons.1 hz with rfl | hz
     ·exact better_irr _
     ·have h3 := b3 z hz hcz (samePl_trans hzq (by rw [samePl_comm]; exact hwq))
      exact better_asym (better_over hp.2.2 h3)
    ·refine ⟨w0, List.mem_cons_of_mem _ b1, b2, hwq, fun z hz hcz hzq => ?_⟩
     rcases List.mem_cons.1 hz with rfl | hz
     ·cases hbz : better z w0 with
      | false => rfl
      | true => exact absurd ⟨hcz, hzq, hbz⟩ hp
     ·exact b3 z hz hcz (samePl_trans hzq (by rw [samePl_comm]; exact hwq))
   ·rcases List.mem_cons.1 hq with rfl | hq
    ·refine ⟨q, List.mem_cons_self .., hcq, samePl_refl q, fun z hz hcz hzq => ?_⟩
     rcases List.mem_cons.1 hz with rfl | hz
     ·exact better_irr _
     ·exact absurd ⟨z, hz, hcz, hzq⟩ hin
    ·exact absurd ⟨q, hq, hcq, samePl_refl q⟩ hin
  obtain ⟨w1, d1, d2, d3, d4⟩ := hbest
  refine ⟨w1, ⟨d1, d2, fun z hz hcz hzw => d4 z hz hcz (samePl_trans hzw d3)⟩, d3, d4 q hq hcq (samePl_refl q)⟩
theorem mgTo_spec : ∀ (l pre M : List Pc), SortP M → (∀ x, x ∈ M ↔ IsWin pre x) → SortP (mgTo M l) ∧ ∀ x, x ∈ mgTo M l ↔ IsWin (pre ++ l) x
 | [], pre, M, h1, h2 => by rw [List.append_nil]; exact ⟨h1, h2⟩
 | p :: l, pre, M, h1, h2 => by
  rw [mgTo]
  have e : pre ++ p :: l = (pre ++ [p]) ++ l := by simp
  rw [e]
  by_cases hc : ckP p = true
  ·rw [if_pos hc]
   refine mgTo_spec l (pre ++ [p]) _ (ins_sorted p h1) (fun x => ?_)
   rw [mem_ins p h1 x]
   constructor
   ·rintro (⟨hx, hb⟩ | ⟨rfl, hall⟩)
    ·obtain ⟨a1, a2, a3⟩ := (h2 x).1 hx
     refine ⟨List.mem_append_left _ a1, a2, fun q hq hcq hqx => ?_⟩
     rcases List.mem_append.1 hq with hq | hq
     ·exact a3 q hq hcq hqx
     ·obtain rfl := List.mem_singleton.1 hq
      exact hb (by rw [samePl_comm]; exact hqx)
    ·refine ⟨List.mem_append_right _ (by simp), hc, fun q hq hcq hqx => ?_⟩
     rcases List.mem_append.1 hq with hq | hq
     ·-- the winner at that place is beaten by x; q does not beat the winner
      obtain ⟨w0, hw0, hqw⟩ := exists_win pre q hq hcq
      have hw1 : samePl w0 x = true := samePl_trans hqw.1 hqx
      have hb := hall w0 ((h2 w0).2 hw0) hw1
      cases hqb : better q x with
      | false => rfl
      | true =>
       have h3 := better_trans hqb hb
       rw [hqw.2] at h3
       cases h3
     ·obtain rfl := List.mem_singleton.1 hq
      exact better_irr _
   ·rintro ⟨a1, a2, a3⟩
    rcases List.mem_append.1 a1 with hx | hx
    ·left
     refine ⟨(h2 x).2 ⟨hx, a2, fun q hq => a3 q (List.mem_append_left _ hq)⟩, fun hxp => ?_⟩
     exact a3 p (List.mem_append_right _ (by simp)) hc (by rw [samePl_comm]; exact hxp)
    ·obtain rfl := List.mem_singleton.1 hx
     by_cases hin : ∃ q ∈ M, samePl q x = true ∧ better x q = false
     ·obtain ⟨q, hq, hqx, hqb⟩ := hin
      have hqw := (h2 q).1 hq
      have hxq := a3 q (List.mem_append_left _ hqw.1) hqw.2.1 hqx
      have heq := rank_eq hqx hxq hqb
      subst heq
      exact .inl ⟨hq, fun _ => better_irr _⟩
     ·right
      refine ⟨rfl, fun q hq hqx => ?_⟩
      cases hb : better x q with
      | true => rfl
      | false => exact absurd ⟨q, hq, hqx, hb⟩ hin
  ·rw [if_neg hc]
   refine mgTo_spec l (pre ++ [p]) _ h1 (fun x => ?_)
   rw [h2 x]
   constructor
   ·rintro ⟨a1, a2, a3⟩
    refine ⟨List.mem_append_left _ a1, a2, fun q hq hcq hqx => ?_⟩
    rcases List.mem_append.1 hq with hq | hq
    ·exact a3 q hq hcq hqx
    ·obtain rfl := List.mem_singleton.1 hq
     exact absurd hcq hc
   ·rintro ⟨a1, a2, a3⟩
    refine ⟨?_, a2, fun q hq => a3 q (List.mem_append_left _ hq)⟩
    rcases List.mem_append.1 a1 with hx | hx
    ·exact hx
    ·obtain rfl := List.mem_singleton.1 hx
     exact absurd a2 hc
theorem merge_sorted (L : List Pc) : SortP (mergeL L) := (mgTo_spec L [] [] List.Pairwise.nil (fun x => by simp [IsWin])).1
theorem mem_merge (L : List Pc) (x : Pc) : x ∈ mergeL L ↔ IsWin L x := by
 have h := (mgTo_spec L [] [] List.Pairwise.nil (fun x => by simp [IsWin])).2 x
 rwa [List.nil_append] at h
theorem sort_uniq : ∀ {M N : List Pc}, SortP M → SortP N → (∀ x, x ∈ M ↔ x ∈ N) → M = N
 | [], [], _, _, _ => rfl
 | [], b :: N, _, _, h => absurd ((h b).2 (List.mem_cons_self ..)) (by simp)
 | a :: M, [], _, _, h => absurd ((h a).1 (List.mem_cons_self ..)) (by simp)
 | a :: M, b :: N, h1, h2, h => by
  obtain ⟨p1, p2⟩ := List.pairwise_cons.1 h1
  obtain ⟨q1, q2⟩ := List.pairwise_cons.1 h2
  have hab : a = b := by
   rcases List.mem_cons.1 ((h a).1 (List.mem_cons_self ..)) with ha | ha
   ·exact ha
   ·rcases List.mem_cons.1 ((h b).2 (List.mem_cons_self ..)) with hb | hb
    ·exact hb.symm
    ·have h3 := okPair_trans (p1 b hb) (q1 a ha)
     rw [okPair_irr a a (samePl_refl a)] at h3
     cases h3
  subst hab
  have hirr : ∀ {K : List Pc}, (∀ y ∈ K, okPair a y = true) → a ∉ K := fun hK ha => by
   have := hK a ha
   rw [okPair_irr a a (samePl_refl a)] at this
   cases this
  rw [sort_uniq p2 q2 fun x => by
   constructor
   ·intro hx
    rcases List.mem_cons.1 ((h x).1 (List.mem_cons_of_mem _ hx)) with rfl | h3
    ·exact absurd hx (hirr p1)
    ·exact h3
   ·intro hx
    rcases List.mem_cons.1 ((h x).2 (List.mem_cons_of_mem _ hx)) with rfl | h3
    ·exact absurd hx (hirr q1)
    ·exact h3]
theorem merge_ahead (L K : List Pc) : mergeL (mergeL L ++ K) = mergeL (L ++ K) :=
 sort_uniq (merge_sorted _) (merge_sorted _) fun x => by
  rw [mem_merge, mem_merge]
  constructor
  ·rintro ⟨a, b, c⟩
   have c' : ∀ q ∈ L ++ K, ckP q = true → samePl q x = true → better q x = false := fun q hq hcq hqx => by
    rcases List.mem_append.1 hq with hq | hq
    ·obtain ⟨w0, hw, h1, h2⟩ := exists_win L q hq hcq
     have h3 := c w0 (List.mem_append_left _ ((mem_merge L w0).2 hw)) hw.2.1 (samePl_trans h1 hqx)
     exact better_ntrans h2 h3
    ·exact c q (List.mem_append_right _ hq) hcq hqx
   refine ⟨?_, b, c'⟩
   rcases List.mem_append.1 a with ha | ha
   ·exact List.mem_append_left _ ((mem_merge L x).1 ha).1
   ·exact List.mem_append_right _ ha
  ·rintro ⟨a, b, c⟩
   refine ⟨?_, b, fun q hq hcq hqx => ?_⟩
   ·rcases List.mem_append.1 a with ha | ha
    ·exact List.mem_append_left _ ((mem_merge L x).2 ⟨ha, b, fun q hq => c q (List.mem_append_left _ hq)⟩)
    ·exact List.mem_append_right _ ha
   ·rcases List.mem_append.1 hq with hq | hq
    ·exact c q (List.mem_append_left _ ((mem_merge L q).1 hq).1) hcq hqx
    ·exact c q (List.mem_append_right _ hq) hcq hqx
theorem merge_sub (L : List Pc) : ∀ x ∈ mergeL L, x ∈ L := fun x hx => ((mem_merge L x).1 hx).1
theorem sort_nodup {M : List Pc} (h : SortP M) : M.Nodup := by
 unfold List.Nodup
 exact List.Pairwise.imp (fun {a b} h e => by rw [e, okPair_irr b b (samePl_refl b)] at h; cases h) h
theorem ins_len (p : Pc) : ∀ M : List Pc, (insP p M).length ≤ M.length + 1
 | [] => by simp [insP]
 | q :: M => by
  rw [insP]
  split
  ·split <;> simp
  ·split
   ·have := ins_len p M; simp only [List.length_cons]; omega
   ·simp
theorem mgTo_len : ∀ (l M : List Pc), (mgTo M l).length ≤ M.length + l.length
 | [], M => by simp [mgTo]
 | p :: l, M => by
  rw [mgTo]
  have h1 := mgTo_len l (if ckP p then insP p M else M)
  have h2 := ins_len p M
  simp only [List.length_cons]
  by_cases hc : ckP p = true
  ·rw [if_pos hc] at h1 ⊢; omega
  ·rw [if_neg hc] at h1 ⊢; omega
theorem merge_len (L : List Pc) : (mergeL L).length ≤ L.length := by
 have := mgTo_len L []
 simpa [mergeL] using this
theorem chk_vals (l : List Pc) : chkL l = 0 ∨ chkL l = 1 ∨ chkL l = 3 := by
 unfold chkL
 split
 ·exact .inr (.inr rfl)
 ·split
  ·exact .inl rfl
  ·exact .inr (.inl rfl)
theorem merge_id {M : List Pc} (hS : SortP M) (hk : ∀ p ∈ M, ckP p = true) : mergeL M = M :=
 sort_uniq (merge_sorted M) hS fun x => by
  rw [mem_merge]
  constructor
  ·exact fun h => h.1
  ·intro hx
   refine ⟨hx, hk x hx, fun q hq _ hqx => ?_⟩
   have hone : ∀ {M : List Pc}, SortP M → ∀ {a b : Pc}, a ∈ M → b ∈ M → samePl a b = true → a = b := by
    intro M
    induction M with
    | nil => intro _ a b ha; cases ha
    | cons c M ih =>
     intro hS a b ha hb hab
     obtain ⟨h1, h2⟩ := List.pairwise_cons.1 hS
     rcases List.mem_cons.1 ha with e1 | ha2
     ·rcases List.mem_cons.1 hb with e2 | hb2
      ·exact e1.trans e2.symm
      ·have := h1 b hb2
       rw [← e1, okPair_irr a b hab] at this
       cases this
     ·rcases List.mem_cons.1 hb with e2 | hb2
      ·have := h1 a ha2
       rw [← e2, okPair_irr b a (by rw [samePl_comm]; exact hab)] at this
       cases this
      ·exact ih h2 ha2 hb2 hab
   rw [hone hS hq hx hqx]
   exact better_irr _
structure Bxo where
 t : ByteArray
 ep : Nat
 nn : List Nat
 body : List Nat
def bo0 : Bxo := ⟨ByteArray.empty, 0, n12z, []⟩
structure BoOk (b : Bxo) : Prop where
 nl : b.nn.length = 12
 nb : ∀ c ∈ b.nn, c < 256
 bb : ∀ c ∈ b.body, c < 256
 ep : b.ep < 4294967296
def BxC (W : World) (B : Nat) (u : List Value) (b : Bxo) : Prop := ∃ A c, u = bxL b.t b.ep b.nn A b.body.length c ∧ b.body.length ≤ c ∧ Rd W B A (byt b.body)
theorem BxC.next {W W' : World} {u : List Value} {b : Bxo} (h : BxC W W.heap.size u b) (hb : Below W.heap.size W W') : BxC W' W'.heap.size u b := by
 obtain ⟨A, c, h1, h2, h3⟩ := h
 exact ⟨A, c, h1, h2, (h3.below hb).more hb.size⟩
structure BsV (W : World) (us : List (List Value)) (bs : List Bxo) : Prop where
 len : us.length = bs.length
 at_ : ∀ i, i < bs.length → BxC W W.heap.size (us.getD i []) (bs.getD i bo0)
 ok : ∀ b ∈ bs, BoOk b
theorem BsV.next {W W' : World} {us : List (List Value)} {bs : List Bxo} (h : BsV W us bs) (hb : Below W.heap.size W W') : BsV W' us bs := ⟨h.len, fun i hi => (h.at_ i hi).next hb, h.ok⟩
theorem BsV.nil_ (W : World) : BsV W [] [] := ⟨rfl, fun i hi => by simp at hi, fun b hb => by cases hb⟩
theorem BsV.snoc {W : World} {us : List (List Value)} {bs : List Bxo} {u : List Value} {b : Bxo} (h : BsV W us bs) (hu : BxC W W.heap.size u b) (hok : BoOk b) : BsV W (us ++ [u]) (bs ++ [b]) := by
 refine ⟨by simp [h.len], fun i hi => ?_, fun x hx => ?_⟩
 ·by_cases hl : i < bs.length
  ·have e1 : (us ++ [u]).getD i [] = us.getD i [] := by rw [jA, List.getElem?_append_left (by rw [h.len]; exact hl), jA]
   have e2 : (bs ++ [b]).getD i bo0 = bs.getD i bo0 := by rw [jA, List.getElem?_append_left hl, jA]
   rw [e1, e2]
   exact h.at_ i hl
  ·have hi' : i = bs.length := by simp at hi; omega
   subst hi'
   have e1 : (us ++ [u]).getD bs.length [] = u := by rw [← h.len, jA, List.getElem?_append_right (jD _)]; simp
   have e2 : (bs ++ [b]).getD bs.length bo0 = b := by rw [jA, List.getElem?_append_right (jD _)]; simp
   rw [e1, e2]
   exact hu
 ·rcases List.mem_append.1 hx with h1 | h1
  ·exact h.ok x h1
  ·rw [List.mem_singleton.1 h1]; exact hok
theorem BsV.lens {W : World} : ∀ {us : List (List Value)} {bs : List Bxo}, BsV W us bs → ∀ u ∈ us, u.length = 15 := fun {us bs} h u hu => by
 obtain ⟨i, hi, e⟩ := List.getElem_of_mem hu
 have hi2 : i < bs.length := by rw [← h.len]; exact hi
 obtain ⟨A, c, h1, _, _⟩ := h.at_ i hi2
 rw [jA, jB hi] at h1
 have hb : BoOk (bs.getD i bo0) := h.ok _ (by rw [jA, jB hi2]; exact List.getElem_mem hi2)
 rw [← e, show us[i] = _ from h1, bxL_len _ _ _ _ _ hb.nl]
theorem flat_drop {k : Nat} : ∀ (us : List (List Value)) (i : Nat), (∀ u ∈ us, u.length = k) → us.flatten.drop (i * k) = (us.drop i).flatten
 | [], i, _ => by simp
 | u :: us, 0, _ => by simp
 | u :: us, i + 1, h => by
  have hu := h u (List.mem_cons_self ..)
  rw [List.flatten_cons, List.drop_succ_cons, ← flat_drop us i (fun v hv => h v (List.mem_cons_of_mem _ hv)), show (i + 1) * k = u.length + i * k by rw [hu, Nat.add_mul]; omega, List.drop_length_add_append]
def RdX (W : World) (A : Option Addr) (bs : List Bxo) : Prop := ∃ us, BsV W us bs ∧ Rd W W.heap.size A us.flatten
theorem RdX.next {W W' : World} {A : Option Addr} {bs : List Bxo} (h : RdX W A bs) (hb : Below W.heap.size W W') : RdX W' A bs := by
 obtain ⟨us, h1, h2⟩ := h
 exact ⟨us, h1.next hb, (h2.below hb).more hb.size⟩
theorem RdX.nil_ (W : World) (A : Option Addr) : RdX W A [] := ⟨[], BsV.nil_ W, Rd.nil_ _ _ _⟩
theorem RdX.box {W : World} {A : Option Addr} {bs : List Bxo} (h : RdX W A bs) {i : Nat} (hi : i < bs.length) :
  ∃ ad Ai ci, A = some ad ∧ ad.block < W.heap.size ∧ AtA W (ad.add (i * 15)) (bxL (bs.getD i bo0).t (bs.getD i bo0).ep (bs.getD i bo0).nn Ai (bs.getD i bo0).body.length ci) ∧ (bs.getD i bo0).body.length ≤ ci ∧ Rd W W.heap.size Ai (byt (bs.getD i bo0).body) ∧ BoOk (bs.getD i bo0) := by
 obtain ⟨us, h1, h2⟩ := h
 have hiu : i < us.length := by rw [h1.len]; exact hi
 obtain ⟨Ai, ci, e, h3, h4⟩ := h1.at_ i hi
 have hl := h1.lens
 have hgu : us.getD i [] = us[i] := by rw [jA, jB hiu]; rfl
 obtain ⟨ad, rfl, hb, hat⟩ := h2 (by
  intro h0
  have h5 : (us[i]).length = 0 := by
   have := List.flatten_eq_nil_iff.1 h0 us[i] (List.getElem_mem hiu)
   rw [this]; rfl
  rw [hl _ (List.getElem_mem hiu)] at h5
  cases h5)
 refine ⟨ad, Ai, ci, rfl, hb, ?_, h3, h4, h1.ok _ (by rw [jA, jB hi]; exact List.getElem_mem hi)⟩
 have h6 := (show AtA W ad us.flatten from hat).drop (i * 15) 15
 rw [flat_drop us i hl, List.drop_eq_getElem_cons hiu, List.flatten_cons, List.take_left' (hl _ (List.getElem_mem hiu)), ← hgu, e] at h6
 exact h6
def OwnX (W : World) (base : Nat) (v : Value) (us : List (List Value)) : Prop := W.ownsRow base 61 15 v us.length us.flatten
theorem OwnX.next {W W' : World} {base : Nat} {v : Value} {us : List (List Value)} (h : OwnX W base v us) (hb : Below W.heap.size W W') : OwnX W' base v us := own_keep (S := fun _ => False) h (Only.of_below hb) (fun _ _ h => h)
theorem OwnX.nil_ (W : World) (base : Nat) : OwnX W base (.slice none 0 0) [] := ⟨rfl, .inl ⟨rfl, rfl⟩⟩
theorem OwnX.rd {W : World} {base : Nat} {v : Value} {us : List (List Value)} {bs : List Bxo} (h : OwnX W base v us) (hv : BsV W us bs) : ∃ A cap, v = .slice A bs.length cap ∧ bs.length ≤ cap ∧ cap ≤ maxLen ∧ RdX W A bs := by
 obtain ⟨A, cap, e, h1, h2, h3⟩ := own_rd h
 rw [hv.len] at e h1
 exact ⟨A, cap, e, h1, h2, us, hv, h3⟩
theorem OwnX.snoc {W W' : World} {base : Nat} {v v' : Value} {us : List (List Value)} {u : List Value} (h : Apped W base 61 15 v W' v' (us.length + 1) (us.flatten ++ u)) : OwnX W' base v' (us ++ [u]) := by
 have h1 := h.own
 unfold OwnX
 rw [jC, List.flatten_append, show [u].flatten = u by simp]
 exact h1
theorem room_small (l : List Pc) (hk : ∀ p ∈ l, ckP p = true) : ∀ k, k ≤ l.length → roomTo l k ≤ 4 + k * 238
 | 0, _ => by rw [roomTo_zero]; omega
 | k + 1, h => by
  have ih := room_small l hk k (by omega)
  have hc := hk (l.getD k pc0) (by rw [jA, jB (by omega)]; exact List.getElem_mem (by omega))
  have hs : (l.getD k pc0).s.size ≤ 200 := by
   unfold ckP at hc
   simp only [Bool.and_eq_true, decide_eq_true_eq] at hc
   exact hc.2
  rw [roomTo_succ l k (by omega)]
  split <;> omega
theorem ok_sorted (l : List Pc) (hS : SortP l) (hk : ∀ p ∈ l, ckP p = true) : okTo l l.length = true := by
 unfold okTo
 rw [List.all_eq_true]
 intro i hi
 rw [List.mem_range] at hi
 unfold okAt
 rw [Bool.and_eq_true]
 refine ⟨hk _ (by rw [jA, jB hi]; exact List.getElem_mem hi), ?_⟩
 by_cases h0 : i = 0
 ·simp [h0]
 ·rw [Bool.or_eq_true]
  right
  have := List.pairwise_iff_getElem.1 hS (i - 1) i (by omega) hi (by omega)
  rw [jA, jA, jB hi, jB (show i - 1 < l.length by omega)]
  exact this
theorem chk_small (l : List Pc) (hS : SortP l) (hk : ∀ p ∈ l, ckP p = true) (hl : l.length ≤ 12) : chkL l = 0 := by
 have h1 := room_small l hk l.length (jD _)
 rw [roomTo_all] at h1
 have h2 : l.length * 238 ≤ 12 * 238 := Nat.mul_le_mul_right _ hl
 unfold chkL
 rw [if_neg (by omega), if_pos (ok_sorted l hS hk)]
theorem okAt_zero' (l : List Pc) : okAt l 0 = ckP (l.getD 0 pc0) := by unfold okAt; simp
theorem okAt_succ' (l : List Pc) (j : Nat) : okAt l (j + 1) = (ckP (l.getD (j + 1) pc0) && okPair (l.getD j pc0) (l.getD (j + 1) pc0)) := by unfold okAt; simp
theorem AtA.tim' {w : World} {a : Addr} {p : Pc} (h : AtA w a (pcL p)) : w.cell? ⟨a.block, a.off + 1, none⟩ = some (.int .i64 p.t) := h 1 _ rfl
theorem rcheck_c (A : Option Addr) (c : Nat) (l : List Pc) (w : World) (hr : RdP w w.heap.size A l) (h1 : l.length ≤ 100000) (hs : ∀ p ∈ l, p.s.size ≤ 1000000) :
  Calls Tryz.prog 14 #[.slice A l.length c] w fun e w' => e = .returned (.int .i64 (chkL l : Nat)) ∧ Below w.heap.size w w' := by
 have HR := Li hr
 have HRC := Li (rroom_c w.heap.size A c l w hr (by omega) hs)
 have HSZ := Li (show ∀ k, (l.getD k pc0).s.size ≤ 1000000 from fun k => by
  rcases Nat.lt_or_ge k l.length with h | h
  ·exact hs _ (by simp [jA, h])
  ·rw [jA, List.getElem?_eq_none h]; decide)
 have HCH := Li (show chkL l = if 256 < l.length ∨ 4096 < roomL l then 3 else if okTo l l.length then 0 else 1 from rfl)
 obtain ⟨r, hr'⟩ : ∃ r, r = chkL l := ⟨_, rfl⟩
 rw [← hr'] at HCH ⊢
 clear hr hs hr'
 by_cases hg : 256 < l.length
 ·have HRV := Li (show r = 3 by rw [HCH.out, if_pos (.inl hg)])
  have p1 : decide ((256 : Int) < (l.length : Int)) = true := jF (by omega)
  go_enter Tryz.func14, Tryz.ntmps14
  go_wp2_with fail
  go_ret
  exact ⟨by rw [HRV.out]; rfl, jE _ _⟩
 ·have p1 : decide ((256 : Int) < (l.length : Int)) = false := jG (by omega)
  by_cases hg2 : 4096 < roomL l
  ·have HRV := Li (show r = 3 by rw [HCH.out, if_pos (.inr hg2)])
   have p2 : decide ((4096 : Int) < ((roomL l : Nat) : Int)) = true := jF (by omega)
   generalize roomL l = rm at *
   clear hg
   go_enter Tryz.func14, Tryz.ntmps14
   go_wp2_with (go_at_call 29; (refine HRC.out.mono ?_); rintro e W1 ⟨rfl, q1, rfl⟩)
   go_ret
   exact ⟨by rw [HRV.out]; rfl, belowDrewN q1 (jE _ _)⟩
  ·have HRV := Li (show r = if okTo l l.length then 0 else 1 by rw [HCH.out, if_neg (by omega)])
   have p2 : decide ((4096 : Int) < ((roomL l : Nat) : Int)) = false := jG (by omega)
   have hlen : l.length ≤ 256 := by omega
   generalize roomL l = rm at *
   clear hg hg2
   go_enter Tryz.func14, Tryz.ntmps14
   go_wp2_with (go_at_call 29; (refine HRC.out.mono ?_); rintro e W1 ⟨rfl, q1, rfl⟩)
   have HB1 := Li (belowDrewN q1 (jE w.heap.size w))
   generalize w.drewN q1 = W1 at *
   go_loopw [3] (fun i wr => ∃ k : Nat, k ≤ l.length ∧ i = .int .i64 k ∧ okTo l k = true ∧ Below w.heap.size w wr) (fun i _ => l.length - (intOf i).toNat)
   case atStart => exact ⟨0, Nat.zero_le _, rfl, rfl, HB1.out⟩
   case round =>
    rename World => wr
    obtain ⟨k, hk, rfl, hok, hb⟩ := hrel
    have HOK := Li hok
    have HB := Li hb
    clear hok hb HB1 p1 p2
    by_cases hlt : k < l.length
    ·have q1 : (k : Int) < (l.length : Int) := by omega
     have hrr := HR.out
     obtain ⟨ad, rfl, hab, hat⟩ := hrr.open_ (by omega)
     have HAT := Li (hat.below HB.out hab)
     have HAB := Li (show ad.block < wr.heap.size from jH hab HB.out.size)
     have HPA := Li (HAT.out.piece k hlt)
     have HPI := Li (pcLn (l.getD k pc0))
     have HPC := Li (fun W => rpcheck_c (l.getD k pc0) W (by have := HSZ.out k; omega))
     have HNO := Li (okTo_not l k l.length hlt)
     have HNX := Li (okTo_succ l k)
     have HO0 := Li (show k = 0 → okAt l k = ckP (l.getD k pc0) from fun h => by rw [h]; exact okAt_zero' l)
     have HOJ := Li (show ∀ j, k = j + 1 → okAt l k = (ckP (l.getD k pc0) && okPair (l.getD j pc0) (l.getD k pc0)) from fun j h => by rw [h]; exact okAt_succ' l j)
     clear hat hab hrr
     generalize l.getD k pc0 = p at *
     by_cases hck : ckP p = true
     ·rw [hck] at HPC
      go_upto_region 8 with (first
       | (refine wpList_loadA rfl 77 (.tmp 20) rfl (ad.add (k * 5)) rfl (pcL p) _ HPA.out Tryz.underlying77 rfl HPI.out ?_)
       | (go_at_call 30; (refine (HPC.out wr).mono ?_); rintro e W2 ⟨rfl, hb2⟩; have HW2 := Li hb2; clear hb2))
      have HT2 := Li (HB.out.trans (HW2.out.mono HB.out.size))
      have HPB := Li (HPA.out.below HW2.out (by rw [add_block]; exact HAB.out))
      rcases Nat.eq_zero_or_pos k with h0 | h0
      ·have d0 : decide (0 < k) = false := jG (by omega)
       have HOKN := Li (show okTo l (k + 1) = true by rw [HNX.out, HOK.out, HO0.out h0, hck]; rfl)
       clear h0 hck
       go_quiet (fail)
       have HW3 := Li (belowDrewN nq HT2.out)
       generalize W2.drewN nq = Y2 at *
       go_wp2_with fail
       go_roundw
       case rel => exact ⟨k + 1, by omega, by go_num, HOKN.out, HW3.out⟩
       case measure => simp only [intOf]; omega
      ·obtain ⟨j, hj⟩ : ∃ j, k = j + 1 := ⟨k - 1, by omega⟩
       have d0 : decide (0 < k) = true := jF (by omega)
       have fj : IntKind.i64.wrap ((k : Int) - 1) = (j : Int) := by rw [IntWalk.i64_in _ (by omega)]; omega
       have hjl : (j : Int) < (l.length : Int) := by omega
       have hj0 : (0 : Int) ≤ (j : Int) := by omega
       have HQA := Li (((HAT.out.below HW2.out HAB.out)).piece j (by omega))
       have HOK2 := Li (show okAt l k = okPair (l.getD j pc0) p by rw [HOJ.out j hj, hck]; rfl)
       clear hj h0 hck HOJ HO0
       generalize l.getD j pc0 = q at *
       have e0 := HQA.out.ser
       have e1 := HQA.out.tim'
       have e2 := HPB.out.ser
       have e3 := HPB.out.tim'
       have HPR := Li (show okPair q p = (Op.bytesLess q.s.toList p.s.toList || (q.s.toList == p.s.toList && decide (q.t < p.t))) from rfl)
       rcases (show Op.bytesLess p.s.toList q.s.toList = true ∨ Op.bytesLess p.s.toList q.s.toList = false by cases Op.bytesLess p.s.toList q.s.toList <;> simp) with hL | hL
       ·have HBADN := Li (show r = 1 by
         rw [HRV.out, HNO.out (by
          rw [HOK2.out, HPR.out, bless_asym _ _ hL, Bool.false_or]
          have : (q.s.toList == p.s.toList) = false := by
           rw [beq_eq_false_iff_ne]
           intro h; rw [h, bless_irr] at hL; cases hL
          rw [this]; rfl)]
         rfl)
        go_quiet (fail)
        have HW3 := Li (belowDrewN nq HT2.out)
        generalize W2.drewN nq = Y2 at *
        go_wp2_with fail
        go_ret
        exact ⟨by rw [HBADN.out]; rfl, HW3.out⟩
       ·rcases (show (p.s.toList == q.s.toList) = true ∨ (p.s.toList == q.s.toList) = false by cases (p.s.toList == q.s.toList) <;> simp) with hS | hS
        ·have hS2 : (q.s.toList == p.s.toList) = true := by rw [beq_iff_eq] at hS ⊢; exact hS.symm
         have hL2 : Op.bytesLess q.s.toList p.s.toList = false := by rw [beq_iff_eq] at hS; rw [hS]; exact bless_irr _
         by_cases hT : p.t ≤ q.t
         ·have hT1 : decide (p.t ≤ q.t) = true := jF hT
          have HBADN := Li (show r = 1 by rw [HRV.out, HNO.out (by rw [HOK2.out, HPR.out, hL2, hS2, jG (show ¬ q.t < p.t by omega)]; rfl)]; rfl)
          clear hT hS2 hL2
          go_quiet (fail)
          have HW3 := Li (belowDrewN nq HT2.out)
          generalize W2.drewN nq = Y2 at *
          go_wp2_with fail
          go_ret
          exact ⟨by rw [HBADN.out]; rfl, HW3.out⟩
         ·have hT1 : decide (p.t ≤ q.t) = false := jG hT
          have HOKN := Li (show okTo l (k + 1) = true by rw [HNX.out, HOK.out, HOK2.out, HPR.out, hS2, jF (show q.t < p.t by omega)]; simp)
          clear hT hS2 hL2
          go_quiet (fail)
          have HW3 := Li (belowDrewN nq HT2.out)
          generalize W2.drewN nq = Y2 at *
          go_wp2_with fail
          go_roundw
          case rel => exact ⟨k + 1, by omega, by go_num, HOKN.out, HW3.out⟩
          case measure => simp only [intOf]; omega
        ·have HOKN := Li (show okTo l (k + 1) = true by
          rw [HNX.out, HOK.out, HOK2.out, HPR.out, bless_tri _ _ (by rw [beq_eq_false_iff_ne] at hS; exact hS) hL]; rfl)
         go_quiet (fail)
         have HW3 := Li (belowDrewN nq HT2.out)
         generalize W2.drewN nq = Y2 at *
         go_wp2_with fail
         go_roundw
         case rel => exact ⟨k + 1, by omega, by go_num, HOKN.out, HW3.out⟩
         case measure => simp only [intOf]; omega
     ·have hck' : ckP p = false := by simpa using hck
      rw [hck'] at HPC
      have HRV1 := Li (show r = 1 by
       rw [HRV.out, HNO.out (by
        rcases Nat.eq_zero_or_pos k with h | h
        ·rw [HO0.out h, hck']
        ·rw [HOJ.out (k - 1) (by omega), hck', Bool.false_and])]
       rfl)
      clear hck hck'
      go_wp2_with (first
       | (refine wpList_loadA rfl 77 (.tmp 20) rfl (ad.add (k * 5)) rfl (pcL p) _ HPA.out Tryz.underlying77 rfl HPI.out ?_)
       | (go_at_call 30; (refine (HPC.out wr).mono ?_); rintro e W2 ⟨rfl, hb2⟩; have HW2 := Li (HB.out.trans (hb2.mono HB.out.size)); clear hb2))
      go_ret
      exact ⟨by rw [HRV1.out]; rfl, HW2.out⟩
    ·obtain rfl : k = l.length := by omega
     have HRV1 := Li (show r = 0 by rw [HRV.out, HOK.out]; rfl)
     go_wp2_with fail
     go_ret
     exact ⟨by rw [HRV1.out]; rfl, HB.out⟩
def nnI (i : Nat) : List Nat := [i % 256, i / 256 % 256, 7] ++ List.replicate 9 0
def nns (n : Nat) : List (List Nat) := (List.range n).map nnI
def nnC (ns : List (List Nat)) : List Value := (ns.map byt).flatten
theorem nnC_app (a b : List (List Nat)) : nnC (a ++ b) = nnC a ++ nnC b := by simp [nnC]
theorem nnC_len : ∀ (ns : List (List Nat)), (∀ x ∈ ns, x.length = 12) → (nnC ns).length = ns.length * 12
 | [], _ => rfl
 | x :: ns, h => by
  have h1 := h x (List.mem_cons_self ..)
  have h2 := nnC_len ns (fun y hy => h y (List.mem_cons_of_mem _ hy))
  show (byt x ++ nnC ns).length = (ns.length + 1) * 12
  rw [jC, h2, byt_len, h1]
  omega
theorem nnC_drop : ∀ (ns : List (List Nat)) (i : Nat), (∀ x ∈ ns, x.length = 12) → (nnC ns).drop (i * 12) = nnC (ns.drop i)
 | [], i, _ => by simp [nnC]
 | x :: ns, 0, _ => by simp
 | x :: ns, i + 1, h => by
  have h1 := h x (List.mem_cons_self ..)
  show (byt x ++ nnC ns).drop ((i + 1) * 12) = nnC (ns.drop i)
  rw [← nnC_drop ns i (fun y hy => h y (List.mem_cons_of_mem _ hy)), show (i + 1) * 12 = (byt x).length + i * 12 by rw [byt_len, h1]; omega, List.drop_length_add_append]
theorem nnC_one : ∀ (ns : List (List Nat)), ∀ u ∈ nnC ns, u.oneCell' = true
 | [], u, h => by simp [nnC] at h
 | x :: ns, u, h => by
  rcases List.mem_append.1 (show u ∈ byt x ++ nnC ns from h) with h1 | h1
  ·exact byt_one x u h1
  ·exact nnC_one ns u h1
def RdN (W : World) (B : Nat) (A : Option Addr) (ns : List (List Nat)) : Prop := Rd W B A (nnC ns)
theorem RdN.at_ {W : World} {B : Nat} {A : Option Addr} {ns : List (List Nat)} (h : RdN W B A ns) (hl : ∀ x ∈ ns, x.length = 12) {i : Nat} (hi : i < ns.length) : ∃ ad, A = some ad ∧ ad.block < B ∧ AtA W (ad.add (i * 12)) (byt (ns.getD i [])) := by
 obtain ⟨ad, rfl, hb, hat⟩ := h (by
  intro h0
  have h1 := nnC_len ns hl
  rw [h0, List.length_nil] at h1
  omega)
 refine ⟨ad, rfl, hb, ?_⟩
 have h6 := (show AtA W ad (nnC ns) from hat).drop (i * 12) 12
 have hx : (ns[i]).length = 12 := hl _ (List.getElem_mem hi)
 rw [nnC_drop ns i hl, List.drop_eq_getElem_cons hi] at h6
 have h7 : (nnC (ns[i] :: ns.drop (i + 1))).take 12 = byt ns[i] := by
  show (byt ns[i] ++ nnC (ns.drop (i + 1))).take 12 = _
  rw [List.take_left' (by rw [byt_len, hx])]
 rw [h7] at h6
 rw [jA, jB hi]
 exact h6
theorem xorL_twice (k nonce : List Nat) (n : Nat) (b : List Nat) : xorL k nonce n (xorL k nonce n b) = b := by
 apply List.ext_getElem
 ·simp [xorL_len]
 ·intro i h1 h2
  have hi : i < b.length := h2
  have hx : (xorL k nonce n b).getD i 0 = xorB k nonce n b i := by
   unfold xorL
   rw [jA, List.getElem?_map, List.getElem?_range hi]
   rfl
  have e : (xorL k nonce n (xorL k nonce n b))[i]'h1 = xorB k nonce n (xorL k nonce n b) i := by
   simp [xorL]
  rw [e]
  unfold xorB
  rw [hx]
  unfold xorB
  rw [Nat.xor_assoc, Nat.xor_self, Nat.xor_zero, jA, jB hi]
  rfl
theorem seal_len (k nonce beside plain : List Nat) : (sealL k nonce beside plain).length = plain.length + 16 := by
 unfold sealL; rw [jC, xorL_len, tagL_len]
theorem seal_open (k nonce beside plain : List Nat) (h : plain.length ≤ 4096) : openErr k nonce beside (sealL k nonce beside plain) = 0 ∧ openL k nonce beside (sealL k nonce beside plain) = plain := by
 have hl := seal_len k nonce beside plain
 have e1 : (sealL k nonce beside plain).take ((sealL k nonce beside plain).length - 16) = xorL k nonce 1 plain := by
  rw [hl, Nat.add_sub_cancel]
  unfold sealL
  rw [List.take_append_of_le_length (by rw [xorL_len]; exact jD _), List.take_of_length_le (by rw [xorL_len]; exact jD _)]
 have e2 : (sealL k nonce beside plain).drop ((sealL k nonce beside plain).length - 16) = tagL k nonce beside (xorL k nonce 1 plain) := by
  rw [hl, Nat.add_sub_cancel]
  unfold sealL
  rw [List.drop_append_of_le_length (by rw [xorL_len]; exact jD _), List.drop_of_length_le (by rw [xorL_len]; exact jD _), List.nil_append]
 have he : openErr k nonce beside (sealL k nonce beside plain) = 0 := by
  unfold openErr
  rw [if_neg (by omega), if_neg (by omega), e1, e2, beq_self_eq_true, if_pos rfl]
 refine ⟨he, ?_⟩
 unfold openL
 rw [if_pos he, e1, xorL_twice]
theorem boxL_lt {k nn : List Nat} {t : ByteArray} {ep : Nat} {l : List Pc} (hl : ∀ c ∈ layL l, c < 256) : ∀ c ∈ boxL k nn t ep l, c < 256 := fun c hc => by
 unfold boxL sealL at hc
 rcases List.mem_append.1 hc with h | h
 ·exact xorL_lt k nn 1 hl c h
 ·unfold tagL polT at h; exact form_lt _ _ c h
def eqP (p q : Pc) : Bool := (p.s.toList == q.s.toList) && ((p.t == q.t) && ((p.v == q.v) && ((p.n == q.n) && (p.d == q.d))))
theorem eqP_iff (p q : Pc) : eqP p q = true ↔ p = q := by
 unfold eqP
 simp only [Bool.and_eq_true, beq_iff_eq]
 constructor
 ·rintro ⟨h1, h2, h3, h4, h5⟩
  cases p; cases q
  simp only at h1 h2 h3 h4 h5
  rw [toList_inj h1, h2, h3, h4, h5]
 ·rintro rfl; simp
theorem int_beq (a b : Nat) : ((a : Int) == (b : Int)) = (a == b) := by
 rw [Bool.eq_iff_iff, beq_iff_eq, beq_iff_eq]; omega
theorem run_eq_id (n d n2 d2 : Nat) (w : World) (D : Nat) :
  (Op.equalIn (D + 2) 75 (.agg (idV n d)) (.agg (idV n2 d2))).run Tryz.prog w = .ok ((n == n2) && (d == d2)) w := by
 have hf : ∃ f0 f1 : Field, Tryz.prog.underlying 75 = some (.struct #[f0, f1]) ∧ f0.offset = 0 ∧ f1.offset = 1 ∧ f0.type = 43 ∧ f1.type = 73 ∧ f0.name ≠ "_" ∧ f1.name ≠ "_" := ⟨_, _, Tryz.underlying75, rfl, rfl, rfl, rfl, by decide, by decide⟩
 obtain ⟨f0, f1, hu, o0, o1, k0, k1, n0, n1⟩ := hf
 have hF : Tryz.prog.fieldsOf 75 = #[f0, f1] := by unfold Program.fieldsOf; rw [hu]
 rw [run_equalIn_struct w (D + 1) _ _ _ (by rw [hF]; exact hu) (by kernel_rfl), hF]
 have p0 : ∀ (a b : Value), (part 43 #[a, b] 0).run Tryz.prog w = .ok a w := by intro a b; kernel_rfl
 have p1 : ∀ (a b : Value), (part 73 #[a, b] 1).run Tryz.prog w = .ok b w := by intro a b; kernel_rfl
 have q0 := run_equalIn_int (P := Tryz.prog) w D 43 .u64 .u64 (n : Int) (n2 : Int) Tryz.underlying43
 have q1 := run_equalIn_int (P := Tryz.prog) w D 73 .u16 .u16 (d : Int) (d2 : Int) Tryz.underlying73
 simp only [Op.eqFields, n0, n1, k0, k1, o0, o1, idV, p0, p1, q0, q1, Sem.run_bind, Sem.run_ite, Sem.run_pure, Result.andThen_ok, ne_eq, not_false_eq_true, if_true, int_beq]
 cases (n == n2) <;> cases (d == d2) <;> simp
theorem run_eq_piece (p q : Pc) (w : World) : (Op.equalIn 10000 77 (.agg (pcV p)) (.agg (pcV q))).run Tryz.prog w = .ok (eqP p q) w := by
 have hf : ∃ f0 f1 f2 f3 : Field, Tryz.prog.underlying 77 = some (.struct #[f0, f1, f2, f3]) ∧ f0.offset = 0 ∧ f1.offset = 1 ∧ f2.offset = 2 ∧ f3.offset = 3 ∧ f0.type = 9 ∧ f1.type = 2 ∧ f2.type = 2 ∧ f3.type = 75 ∧ f0.name ≠ "_" ∧ f1.name ≠ "_" ∧ f2.name ≠ "_" ∧ f3.name ≠ "_" := ⟨_, _, _, _, Tryz.underlying77, rfl, rfl, rfl, rfl, rfl, rfl, rfl, rfl, by decide, by decide, by decide, by decide⟩
 obtain ⟨f0, f1, f2, f3, hu, o0, o1, o2, o3, k0, k1, k2, k3, n0, n1, n2, n3⟩ := hf
 have hF : Tryz.prog.fieldsOf 77 = #[f0, f1, f2, f3] := by unfold Program.fieldsOf; rw [hu]
 rw [show 10000 = 9999 + 1 from rfl, run_equalIn_struct w 9999 _ _ _ (by rw [hF]; exact hu) (by kernel_rfl), hF]
 have p0 : ∀ (a b c d e : Value), (part 9 #[a, b, c, d, e] 0).run Tryz.prog w = .ok a w := by intro a b c d e; kernel_rfl
 have p1 : ∀ (a b c d e : Value), (part 2 #[a, b, c, d, e] 1).run Tryz.prog w = .ok b w := by intro a b c d e; kernel_rfl
 have p2 : ∀ (a b c d e : Value), (part 2 #[a, b, c, d, e] 2).run Tryz.prog w = .ok c w := by intro a b c d e; kernel_rfl
 have p3 : ∀ (a b c d e : Value), (part 75 #[a, b, c, d, e] 3).run Tryz.prog w = .ok (.agg #[d, e]) w := by intro a b c d e; kernel_rfl
 have q0 := run_equalIn_string (P := Tryz.prog) w 9998 9 p.s q.s Tryz.underlying9
 have q1 := run_equalIn_int (P := Tryz.prog) w 9998 2 .i64 .i64 p.t q.t Tryz.underlying2
 have q2 := run_equalIn_int (P := Tryz.prog) w 9998 2 .i64 .i64 p.v q.v Tryz.underlying2
 have q3 := run_eq_id p.n p.d q.n q.d w 9997
 simp only [idV] at q3
 simp only [Op.eqFields, n0, n1, n2, n3, k0, k1, k2, k3, o0, o1, o2, o3, pcV, pcL, p0, p1, p2, p3, q0, q1, q2, q3, Sem.run_bind, Sem.run_ite, Sem.run_pure, Result.andThen_ok, ne_eq, not_false_eq_true, if_true]
 unfold eqP
 cases (p.s.toList == q.s.toList) <;> cases (p.t == q.t) <;> cases (p.v == q.v) <;> cases (p.n == q.n) <;> cases (p.d == q.d) <;> simp
theorem rsameP_c (B1 B2 : Nat) (A1 A2 : Option Addr) (c1 c2 : Nat) (l : List Pc) (w : World) (hr1 : RdP w B1 A1 l) (hr2 : RdP w B2 A2 l) (hn : l.length ≤ 9223372036854775807) :
  Calls Tryz.prog 11 #[.slice A1 l.length c1, .slice A2 l.length c2] w (Quietly (.bool true) w) := by
 have HR1 := Li hr1
 have HR2 := Li hr2
 clear hr1 hr2
 go_enter Tryz.func11, Tryz.ntmps11
 go_wp2_with fail
 go_loopw [5] (fun i wr => ∃ k z : Nat, k ≤ l.length ∧ i = .int .i64 k ∧ wr = w.drewN z) (fun i _ => l.length - (intOf i).toNat)
 case atStart => exact ⟨0, 0, by omega, rfl, rfl⟩
 case round =>
  obtain ⟨k, z, hk, rfl, rfl⟩ := hrel
  by_cases hlt : k < l.length
  ·have hr1 := HR1.out
   have hr2 := HR2.out
   obtain ⟨al, rfl, _, h1⟩ := hr1.open_ (by omega)
   obtain ⟨bl, rfl, _, h2⟩ := hr2.open_ (by omega)
   have R1 := Li (fun (W : World) (h : ∃ z, W = w.drewN z) => (show AtA W (al.add (k * 5)) (pcL (l.getD k pc0)) by obtain ⟨z, rfl⟩ := h; exact h1.piece k hlt))
   have R2 := Li (fun (W : World) (h : ∃ z, W = w.drewN z) => (show AtA W (bl.add (k * 5)) (pcL (l.getD k pc0)) by obtain ⟨z, rfl⟩ := h; exact h2.piece k hlt))
   have HSB := Li (pcLn (l.getD k pc0))
   have hkn : (k : Int) < (l.length : Int) := by omega
   have l3 : ∀ W, (Op.equalIn 10000 77 (.agg (pcV (l.getD k pc0))) (.agg (pcV (l.getD k pc0)))).run Tryz.prog W = .ok true W := fun W => by
    rw [run_eq_piece, (eqP_iff _ _).2 rfl]
   clear h1 h2 hr1 hr2
   generalize l.getD k pc0 = p at *
   unfold pcV at l3
   go_wp2_with fail
   refine wp_region_class (fun z => w.drewN z) (by kernel_rfl) (by kernel_rfl) ⟨z + 1, rfl⟩ ?_
   repeat (first
    | (refine wpQuiet_loadA 77 (.tmp 19) rfl rfl (al.add (k * 5)) rfl (pcL p) _ R1.out Tryz.underlying77 rfl HSB.out _ (by simp only [Act.put, sI, sS, sZ]; rfl) ?_)
    | (refine wpQuiet_loadA 77 (.tmp 23) rfl rfl (bl.add (k * 5)) rfl (pcL p) _ R2.out Tryz.underlying77 rfl HSB.out _ (by simp only [Act.put, sI, sS, sZ]; rfl) ?_)
    | go_big_quiet_step (fail))
   refine wpQuiet_nil ?_
   rintro _ ⟨z3, rfl⟩
   go_wp2_with fail
   go_roundw
   case rel =>
    go_light
    exact ⟨k + 1, z3, by omega, by go_num, rfl⟩
   case measure => simp [intOf]; omega
  ·have hkn : k = l.length := by omega
   have h0 : decide (k < l.length) = false := jG hlt
   clear hkn
   go_wp2_with fail
   go_ret
   exact ⟨rfl, z, rfl⟩
theorem sameBx_self (t : ByteArray) (ep : Nat) (nn l : List Nat) : sameBx t ep nn l t ep nn l = true := by unfold sameBx; simp
theorem open_sealed (k nn : List Nat) (t : ByteArray) (ep : Nat) (l : List Pc) (hn : nameB t = true) (h0 : chkL l = 0) (hl : ∀ p ∈ l, PcOk p) : opE k t ep nn (boxL k nn t ep l) = 0 ∧ opP k t ep nn (boxL k nn t ep l) = l := by
 have hL0 : layR l = layL l := by unfold layR; rw [if_pos h0]
 have hLl : (layL l).length ≤ 4096 := by rw [← hL0]; exact layR_le hl
 obtain ⟨h1, h2⟩ := seal_open k nn (besideL 66 t ep) (layL l) hLl
 obtain ⟨h3, h4⟩ := read_lay h0 hl
 have hlen : (boxL k nn t ep l).length = (layL l).length + 16 := seal_len ..
 have hck : checkB t (boxL k nn t ep l).length = true := by
  unfold checkB
  rw [hn, hlen]
  simp
  omega
 have hE : opE k t ep nn (boxL k nn t ep l) = 0 := by
  unfold opE
  rw [hck, if_pos rfl]
  unfold boxL
  rw [if_pos h1, h2]
  exact h3
 refine ⟨hE, ?_⟩
 unfold opP
 rw [if_pos hE]
 unfold boxL
 rw [h2, h4]
def boI (k : List Nat) (t : ByteArray) (ep i : Nat) (g : List Pc) : Bxo := ⟨t, ep, nnI i, boxL k (nnI i) t ep g⟩
theorem boxL_lt5 (k nn : List Nat) (t : ByteArray) (ep : Nat) (l : List Pc) (h0 : chkL l = 0) : ∀ c ∈ boxL k nn t ep l, c < 256 := by
 have hL0 : layR l = layL l := by unfold layR; rw [if_pos h0]
 exact boxL_lt (by rw [← hL0]; exact layR_lt l)
theorem boxL_le5 (k nn : List Nat) (t : ByteArray) (ep : Nat) (l : List Pc) (h0 : chkL l = 0) (hl : ∀ p ∈ l, PcOk p) : (boxL k nn t ep l).length ≤ 4112 := by
 have hL0 : layR l = layL l := by unfold layR; rw [if_pos h0]
 have hLl : (layL l).length ≤ 4096 := by rw [← hL0]; exact layR_le hl
 have : (boxL k nn t ep l).length = (layL l).length + 16 := seal_len ..
 omega
def bosTo (K : Nat → List Nat) (t : ByteArray) (E : Nat → Nat) (G : Nat → List Pc) (n : Nat) : List Bxo := (List.range n).map fun i => boI (K i) t (E i) i (G i)
def opB (kf : Nat → Option (List Nat)) (b : Bxo) : List Pc := match kf b.ep with
 | some k => opP k b.t b.ep b.nn b.body
 | none => []
structure OpOk (kf : Nat → Option (List Nat)) (b : Bxo) : Prop where
 ok : BoOk b
 ts : b.t.size ≤ 1000
 bs : b.body.length ≤ 100000
 key : ∀ k, kf b.ep = some k → k.length = 32 ∧ (∀ c ∈ k, c < 256) ∧ opE k b.t b.ep b.nn b.body = 0
 len : (opB kf b).length ≤ 1000
 pcs : ∀ p ∈ opB kf b, PcOk p ∧ p.s.size ≤ 9223372036854775807
open Go.Sort (SWO PermIn SortedIn)
theorem orL2_neg (a b : Int) : orL [a, b] < 0 ↔ a < 0 ∨ (a = 0 ∧ b < 0) := by
 simp only [orL]
 split <;> (try split) <;> omega
theorem orL3_neg (a b c : Int) : orL [a, b, c] < 0 ↔ a < 0 ∨ (a = 0 ∧ (b < 0 ∨ (b = 0 ∧ c < 0))) := by
 simp only [orL]
 split <;> (try split) <;> (try split) <;> omega
def rankLt (a b : Pc) : Prop := a.t < b.t ∨ (a.t = b.t ∧ (a.n < b.n ∨ (a.n = b.n ∧ a.d < b.d)))
theorem cmpP_neg (a b : Pc) : cmpP a b < 0 ↔ ltS a.s b.s = true ∨ (a.s = b.s ∧ rankLt a b) := by
 unfold cmpP cmpD rankLt
 rw [orL3_neg, orL2_neg, cmpS_neg, cmpS_zero, cmpI_neg, cmpI_zero, cmpI_neg, cmpI_zero, cmpI_neg]
 simp only [Int.ofNat_lt, Int.ofNat_inj]
theorem ltS_tri {a b : ByteArray} (h : a ≠ b) (h2 : ltS a b = false) : ltS b a = true := bless_tri _ _ (fun e => h (toList_inj e)) h2
theorem cmpP_swo : SWO (ltOf cmpP) where
 irrefl x := by
  unfold ltOf
  rw [decide_eq_false_iff_not, cmpP_neg, ltS_irr]
  rintro (h | ⟨_, h⟩)
  ·cases h
  ·unfold rankLt at h; omega
 trans x y z h1 h2 := by
  unfold ltOf at *
  rw [decide_eq_true_iff, cmpP_neg] at *
  rcases h1 with h1 | ⟨e1, h1⟩ <;> rcases h2 with h2 | ⟨e2, h2⟩
  ·exact .inl (ltS_trans h1 h2)
  ·left; rw [← e2]; exact h1
  ·left; rw [e1]; exact h2
  ·refine .inr ⟨e1.trans e2, ?_⟩
   unfold rankLt at *
   omega
 ntrans x y z h1 h2 := by
  unfold ltOf at *
  rw [decide_eq_false_iff_not, cmpP_neg] at *
  intro h3
  have n1 : ltS x.s y.s = false := by
   cases h : ltS x.s y.s with
   | false => rfl
   | true => exact absurd (.inl h) h1
  have n2 : ltS y.s z.s = false := by
   cases h : ltS y.s z.s with
   | false => rfl
   | true => exact absurd (.inl h) h2
  by_cases e1 : x.s = y.s
  ·by_cases e2 : y.s = z.s
   ·have h4 : ¬ rankLt x y := fun h => h1 (.inr ⟨e1, h⟩)
    have h5 : ¬ rankLt y z := fun h => h2 (.inr ⟨e2, h⟩)
    rcases h3 with h3 | ⟨_, h3⟩
    ·rw [e1, e2, ltS_irr] at h3; cases h3
    ·unfold rankLt at *; omega
   ·rcases h3 with h3 | ⟨h3, _⟩
    ·rw [e1, n2] at h3; cases h3
    ·exact e2 (e1.symm.trans h3)
  ·have h4 := ltS_tri e1 n1
   rcases h3 with h3 | ⟨h3, _⟩
   ·rw [ltS_trans h4 h3] at n2; cases n2
   ·rw [← h3, h4] at n2; cases n2
theorem pair_total {M : List Pc} (h : SortP M) : ∀ {a b : Pc}, a ∈ M → b ∈ M → a ≠ b → okPair a b = true ∨ okPair b a = true := by
 induction M with
 | nil => intro a b ha; cases ha
 | cons q M ih =>
  obtain ⟨h1, h2⟩ := List.pairwise_cons.1 h
  intro a b ha hb hne
  rcases List.mem_cons.1 ha with e1 | ha2
  ·rcases List.mem_cons.1 hb with e2 | hb2
   ·exact absurd (e1.trans e2.symm) hne
   ·rw [e1]; exact .inl (h1 b hb2)
  ·rcases List.mem_cons.1 hb with e2 | hb2
   ·rw [e2]; exact .inr (h1 a ha2)
   ·exact ih h2 ha2 hb2 hne
theorem sort_place {M : List Pc} (h : SortP M) {a b : Pc} (ha : a ∈ M) (hb : b ∈ M) (hs : samePl a b = true) : a = b := by
 by_cases he : a = b
 ·exact he
 ·rcases pair_total h ha hb he with h1 | h1
  ·rw [okPair_irr a b hs] at h1; cases h1
  ·rw [okPair_irr b a (by rw [samePl_comm]; exact hs)] at h1; cases h1
theorem okPair_cmp {a b : Pc} (h : okPair a b = true) : cmpP a b < 0 := by
 rw [cmpP_neg]
 rw [okPair_iff] at h
 rcases h with h | ⟨e, h⟩
 ·exact .inl h
 ·exact .inr ⟨e, .inl h⟩
instance : Inhabited Pc := ⟨pc0⟩
theorem sorted_eq {M ss : List Pc} {d' : Array Pc} (hM : SortP M) (hmem : ∀ p, p ∈ ss ↔ p ∈ M) (hnd : ss.Nodup)
  (hp : PermIn 0 ss.toArray.size ss.toArray d') (hs : SortedIn (ltOf cmpP) 0 ss.toArray.size d') : d'.toList = M := by
 obtain ⟨h1, _, h3⟩ := hp
 have e1 : d'.extract 0 ss.toArray.size = d' := by rw [← h1]; simp
 have e2 : ss.toArray.extract 0 ss.toArray.size = ss.toArray := by simp
 rw [e1, e2] at h3
 have hperm : d'.toList.Perm ss := h3
 have hnd' : d'.toList.Nodup := (hperm.nodup_iff).2 hnd
 refine sort_uniq ?_ hM fun x => by rw [hperm.mem_iff, hmem]
 unfold SortP
 rw [List.pairwise_iff_getElem]
 intro i j hi hj hij
 have hi' : i < d'.size := by simpa using hi
 have hj' : j < d'.size := by simpa using hj
 have hlt := hs i j (Nat.zero_le _) hij (by rw [← h1]; exact hj')
 rw [getElem!_pos d' i hi', getElem!_pos d' j hj'] at hlt
 have m1 : d'.toList[i] ∈ M := (hmem _).1 (hperm.mem_iff.1 (List.getElem_mem hi))
 have m2 : d'.toList[j] ∈ M := (hmem _).1 (hperm.mem_iff.1 (List.getElem_mem hj))
 have hne : d'.toList[i] ≠ d'.toList[j] := fun e => by
  exact List.pairwise_iff_getElem.1 hnd' i j hi hj hij e
 rcases pair_total hM m1 m2 hne with h | h
 ·exact h
 ·have := okPair_cmp h
  unfold ltOf at hlt
  rw [decide_eq_false_iff_not] at hlt
  exact absurd this (by simpa using hlt)
def plL (p : Pc) : Lit := .string (keyBytes [.string p.s.data.toList, .int .i64 p.t])
theorem plL_same {p q : Pc} (h : samePl p q = true) : plL p = plL q := by
 rw [samePl_iff] at h
 unfold plL
 rw [h.1, h.2]
theorem plL_key (p : Pc) : WideAt.IsKeyLit (plL p) := trivial
def Pin (V : Pc → Prop) : Prop := ∀ p q, V p → V q → plL p = plL q → samePl p q = true
structure PM (D : DataW Value) (M : List Pc) : Prop where
 im : Maps.IsMap D
 at_ : ∀ p ∈ M, ∀ z, D.atKey (plL p) z = .held (.agg (pcV p))
 has : ∀ kl, Maps.has D kl = true → ∃ p ∈ M, kl = plL p
theorem PM.start : PM (.map []) [] := ⟨Maps.isMap_empty, fun p h => (by cases h), fun kl h => (by simp [Maps.has_eq] at h)⟩
theorem PM.has_mem {D : DataW Value} {M : List Pc} (h : PM D M) {p : Pc} (hp : p ∈ M) : Maps.has D (plL p) = true := Maps.has_true_of_atKey (h.at_ p hp)
theorem PM.hit {D : DataW Value} {M : List Pc} (h : PM D M) {p q : Pc} (hq : q ∈ M) (hs : samePl q p = true) : Maps.has D (plL p) = true ∧ ∀ z, D.atKey (plL p) z = .held (.agg (pcV q)) := by
 rw [← plL_same hs]
 exact ⟨h.has_mem hq, h.at_ q hq⟩
theorem PM.miss {V : Pc → Prop} (hV : Pin V) {D : DataW Value} {M : List Pc} (h : PM D M) (hM : ∀ q ∈ M, V q) {p : Pc} (hp : V p) (hs : ∀ q ∈ M, samePl q p = false) : Maps.has D (plL p) = false := by
 cases hh : Maps.has D (plL p) with
 | false => rfl
 | true =>
  obtain ⟨q, hq, e⟩ := h.has _ hh
  have := hV q p (hM q hq) hp e.symm
  rw [hs q hq] at this
  cases this
theorem PM.put {V : Pc → Prop} (hV : Pin V) {D : DataW Value} {M : List Pc} (h : PM D M) (hM : ∀ q ∈ M, V q) (hS : SortP M) {p : Pc} (hp : V p) (hb : ∀ q ∈ M, samePl q p = true → better p q = true) :
  PM (D.put (plL p) (.held (.agg (pcV p)))) (insP p M) := by
 refine ⟨h.im.put _ _, fun x hx z => ?_, fun kl hkl => ?_⟩
 ·rcases (mem_ins p hS x).1 hx with ⟨h1, h2⟩ | ⟨rfl, _⟩
  ·have hne : plL x ≠ plL p := fun e => by
    have h3 := hV x p (hM x h1) hp e
    have h4 := hb x h1 h3
    rw [h2 h3] at h4
    cases h4
   rw [Maps.atKey_put_other hne]
   exact h.at_ x h1 z
  ·exact Maps.atKey_put_same h.im (plL_key _) _ _
 ·by_cases e : kl = plL p
  ·exact ⟨p, (mem_ins p hS p).2 (.inr ⟨rfl, hb⟩), e⟩
  ·rw [Maps.has_put_other e] at hkl
   obtain ⟨q, hq, rfl⟩ := h.has kl hkl
   exact ⟨q, (mem_ins p hS q).2 (.inl ⟨hq, fun hs => absurd (plL_same hs) e⟩), rfl⟩
theorem ins_stay {M : List Pc} (hS : SortP M) {p q : Pc} (hq : q ∈ M) (hs : samePl q p = true) (hb : better p q = false) : insP p M = M :=
 sort_uniq (ins_sorted p hS) hS fun x => by
  rw [mem_ins p hS x]
  constructor
  ·rintro (⟨h, _⟩ | ⟨rfl, h⟩)
   ·exact h
   ·rw [h q hq hs] at hb; cases hb
  ·intro hx
   refine .inl ⟨hx, fun hxs => ?_⟩
   have := sort_place hS hx hq (samePl_trans hxs (by rw [samePl_comm]; exact hs))
   rw [this]; exact hb
def Coll (M : List Pc) (left : Lit → Bool) (ss : List Pc) : Prop := ss.Nodup ∧ ∀ p, p ∈ ss ↔ (p ∈ M ∧ left (plL p) = false)
theorem Coll.start {D : DataW Value} {M : List Pc} (h : PM D M) : Coll M (Maps.has D) [] := ⟨List.nodup_nil, fun p => by
 constructor
 ·intro h; cases h
 ·rintro ⟨h1, h2⟩; rw [h.has_mem h1] at h2; cases h2⟩
theorem Coll.step {V : Pc → Prop} (hV : Pin V) {D : DataW Value} {M : List Pc} {left : Lit → Bool} {ss : List Pc} (hC : Coll M left ss) (h : PM D M) (hM : ∀ q ∈ M, V q) (hS : SortP M) {kl : Lit} {y : DataW Value} {v : Value}
  (hlk : left kl = true) (hv : y = .held v) (hat : ∀ z, D.atKey kl z = y) : ∃ p, p ∈ M ∧ v = .agg (pcV p) ∧ Coll M (fun z => left z && !z.sameKey kl) (ss ++ [p]) := by
 obtain ⟨p, hp, rfl⟩ := h.has kl (Maps.has_true_of_atKey hat)
 have h1 := h.at_ p hp .nil
 rw [hat, hv] at h1
 injection h1 with h1
 refine ⟨p, hp, h1, ?_, fun q => ?_⟩
 ·rw [List.nodup_append]
  refine ⟨hC.1, by simp, fun a ha b hb e => ?_⟩
  rw [List.mem_singleton] at hb
  subst hb e
  have := ((hC.2 a).1 ha).2
  rw [hlk] at this
  cases this
 ·rw [List.mem_append, List.mem_singleton, hC.2 q]
  constructor
  ·rintro (⟨h2, h3⟩ | rfl)
   ·exact ⟨h2, by simp [h3]⟩
   ·exact ⟨hp, by simp [WideAt.sameKey_self (plL_key q)]⟩
  ·rintro ⟨h2, h3⟩
   simp only [Bool.and_eq_false_iff, Bool.not_eq_false'] at h3
   rcases h3 with h3 | h3
   ·exact .inl ⟨h2, h3⟩
   ·right
    exact sort_place hS h2 hp (hV q p (hM q h2) (hM p hp) (WideAt.sameKey_eq h3))
theorem Coll.done {M : List Pc} {left : Lit → Bool} {ss : List Pc} (hC : Coll M left ss) (h : ∀ kl, left kl = false) : ss.Nodup ∧ ∀ p, p ∈ ss ↔ p ∈ M := ⟨hC.1, fun p => by rw [hC.2 p, h]; simp⟩
theorem laidOutP : laidOutB Tryz.prog = true := by kernel_rfl
theorem placeRow : (100 : TypeId) < Tryz.prog.types.size := of_decide_eq_true (by kernel_rfl)
theorem placeWide : (match Tryz.prog.underlying 100 with | some (.array _ _) | some (.struct _) => true | _ => false) = true := by rw [Tryz.underlying100]
theorem placeLaw : WideMaps.KeyLaw Tryz.prog 100 := deep_law_laid laidOutP (m := 2) (by omega) placeRow (by kernel_rfl) placeWide
theorem placeKeyed : Maps.Keyed Tryz.prog 100 := Maps.Keyed.of_law placeLaw
def plV (p : Pc) : Value := .agg #[.string p.s, .int .i64 p.t]
def PcIn (p : Pc) : Prop := p.s.size ≤ maxLen ∧ -9223372036854775808 ≤ p.t ∧ p.t ≤ 9223372036854775807
theorem place_key (p : Pc) (h : PcIn p) : keyOf Tryz.prog 100 (plV p) = some (plL p) := by
 obtain ⟨h1, h2, h3⟩ := h
 have hw : (Lit.int .i64 p.t).wf = true := WalkArith.wf_i64 ⟨h2, h3⟩
 have hkt : Tryz.prog.keyType 100 = true := by kernel_rfl
 obtain ⟨n, hn⟩ : ∃ n, Tryz.prog.types.size + 1 = n + 1 + 1 := ⟨Tryz.prog.types.size - 1, by have h : (100 : Nat) < Tryz.prog.types.size := placeRow; omega⟩
 have hc : Tryz.prog.cellsOf 100 = 2 := by kernel_rfl
 have hcs : Tryz.prog.cellsOf 9 = 1 := by kernel_rfl
 have hci : Tryz.prog.cellsOf 2 = 1 := by kernel_rfl
 unfold keyOf plV
 rw [Tryz.underlying100]
 simp only [hkt, Value.formed, Tryz.underlying100, hc, Value.cells, hn]
 simp [Program.keyLits, Tryz.underlying100, Tryz.underlying9, Tryz.underlying2, hc, hcs, hci, h1, hw, plL]
theorem place_pin : Pin PcIn := fun p q hp hq h => by
 have h1 := place_key p hp
 rw [h] at h1
 have h2 := placeLaw.inj h1 (place_key q hq)
 unfold plV at h2
 simp only [Value.agg.injEq] at h2
 rw [samePl_iff]
 have h3 : (#[Value.string p.s, .int .i64 p.t] : Array Value).toList = [.string q.s, .int .i64 q.t] := by rw [h2]
 simp at h3
 exact h3
def asIs (v : Value) : Option (DataW Value × List MemPlace) := some (.held v, [])
def MapAt (w : World) (b n : Nat) (M : List Pc) : Prop := ∃ D : DataW Value, w.ownsMap Tryz.prog 100 asIs b n D ∧ PM D M ∧ SortP M ∧ ∀ q ∈ M, PcIn q
theorem MapAt.lt {w : World} {b n : Nat} {M : List Pc} (h : MapAt w b n M) : b < w.heap.size := by
 obtain ⟨D, h1, _⟩ := h
 exact h1.lt
theorem MapAt.made (w : World) : MapAt (w.alloc (.map #[] 0)) w.heap.size 0 [] := ⟨_, World.ownsMap_made w _ _ _, PM.start, List.Pairwise.nil, by simp⟩
theorem ownsMap_only {H : Type} {P : Program} {k : TypeId} {R : Value → Option (DataW H × List MemPlace)} {w w' : World} {b n : Nat} {D : DataW H} {S : Nat → Prop} (h : w.ownsMap P k R b n D) (ho : Only S w w') (hb : ¬ S b) : w'.ownsMap P k R b n D := by
 have hl := h.lt
 obtain ⟨es, clock, hb', r⟩ := h
 exact ⟨es, clock, (ho.block b hl hb).trans hb', r⟩
theorem MapAt.only {w w' : World} {b n : Nat} {M : List Pc} {S : Nat → Prop} (h : MapAt w b n M) (ho : Only S w w') (hb : ¬ S b) : MapAt w' b n M := by
 obtain ⟨D, h1, r⟩ := h
 exact ⟨D, ownsMap_only h1 ho hb, r⟩
theorem MapAt.next {w w' : World} {b n : Nat} {M : List Pc} (h : MapAt w b n M) (hb : Below w.heap.size w w') : MapAt w' b n M := h.only (S := fun _ => False) (Only.of_below hb) (fun h => h)
theorem MapAt.mono {w : World} {b n n' : Nat} {M : List Pc} (h : MapAt w b n M) (hn : n ≤ n') : MapAt w b n' M := by
 obtain ⟨D, h1, r⟩ := h
 exact ⟨D, h1.mono hn, r⟩
theorem MapAt.look {w : World} {b n : Nat} {M : List Pc} (h : MapAt w b n M) {t : TypeId} (ht : Tryz.prog.underlying t = some (.map 100 77)) {p : Pc} (hp : PcIn p) :
  (∃ q, q ∈ M ∧ samePl q p = true ∧ (Instr.lookup t (.map (some b)) (plV p) true).run Tryz.prog w = .ok (.tuple #[.agg (pcV q), .bool true]) w) ∨
  ((∀ q ∈ M, samePl q p = false) ∧ (Instr.lookup t (.map (some b)) (plV p) true).run Tryz.prog w = .ok (.tuple #[.agg zPc, .bool false]) w) := by
 obtain ⟨D, h1, h2, h3, h4⟩ := h
 obtain ⟨v, ps, hrun, hv⟩ := h1.look_ok placeKeyed ht (zero_pc w) (zd := .held (.agg zPc)) (zp := []) rfl (place_key p hp)
 simp only [asIs, Option.some.injEq, Prod.mk.injEq] at hv
 by_cases hm : ∃ q ∈ M, samePl q p = true
 ·obtain ⟨q, hq, hs⟩ := hm
  obtain ⟨h5, h6⟩ := h2.hit hq hs
  rw [h6] at hv
  have h7 := hv.1
  injection h7 with h7
  rw [h5, h7] at hrun
  exact .inl ⟨q, hq, hs, hrun⟩
 ·have hm' : ∀ q ∈ M, samePl q p = false := fun q hq => by
   cases hs : samePl q p with
   | false => rfl
   | true => exact absurd ⟨q, hq, hs⟩ hm
  have h5 := h2.miss place_pin h4 hp hm'
  rw [Maps.atKey_of_not_has h5] at hv
  have h7 := hv.1
  injection h7 with h7
  rw [h5, h7] at hrun
  exact .inr ⟨hm', hrun⟩
theorem MapAt.store {w : World} {b n : Nat} {M : List Pc} (h : MapAt w b n M) {t : TypeId} (ht : Tryz.prog.underlying t = some (.map 100 77)) (hn : n < maxLen) {p : Pc} (hp : PcIn p) (hb : ∀ q ∈ M, samePl q p = true → better p q = true) :
  ∃ w', (Instr.mapUpdate t (.map (some b)) (plV p) (.agg (pcV p))).run Tryz.prog w = .ok () w' ∧ MapAt w' b (n + 1) (insP p M) ∧ w.grownBy w' (some b) := by
 obtain ⟨D, h1, h2, h3, h4⟩ := h
 obtain ⟨w', hrun, h5, h6⟩ := h1.store placeKeyed ht hn (place_key p hp) (d := .held (.agg (pcV p))) (ps := []) rfl
 refine ⟨w', hrun, ⟨_, h5, h2.put place_pin h4 h3 hp hb, ins_sorted p h3, fun q hq => ?_⟩, h6.grown⟩
 rcases ins_mem p M q hq with rfl | hq
 ·exact hp
 ·exact h4 q hq
section
variable {F : Fence} {n : Nat} {P : Program} {ops : Array Oper} {Q : Exit → Act → World → Prop} {a : Act} {w : World} {rest : List Oper} {o : Oper}
theorem wpListIn_run (hg : o.guard = none) (hab : o.about P w a.eval = none) (hnd : ∀ c, o.op ≠ .defer c) (v : Value) (w' : World) (hrun : (execOp a.eval o).run P w = .ok (.value v) w')
  (h : wpListIn F n P ops Q rest (a.put o.dst v) w') : wpListIn F n P ops Q (o :: rest) a w := by
 refine wpListIn_plain hg fun K' hK' => ?_
 unfold Oper.wpIn
 refine ⟨fun f hf => (by rw [hab] at hf; cases hf), ?_⟩
 rw [Oper.semAt_plain F _ _ hnd, hrun]
 exact hK' _ _ h
theorem wpListIn_skipR (hg : o.guard = none) (hab : o.about P w a.eval = none) (hnd : ∀ c, o.op ≠ .defer c) (w' : World) (hrun : (execOp a.eval o).run P w = .ok .skip w')
  (h : wpListIn F n P ops Q rest (a.put o.dst undef) w') : wpListIn F n P ops Q (o :: rest) a w := by
 refine wpListIn_plain hg fun K' hK' => ?_
 unfold Oper.wpIn
 refine ⟨fun f hf => (by rw [hab] at hf; cases hf), ?_⟩
 rw [Oper.semAt_plain F _ _ hnd, hrun]
 exact hK' _ _ h
theorem wpListIn_storeP (hgd : o.guard = none) (ty : TypeId) (x y : Operand) (ho : o.op = .store ty x y)
  (hd : o.dst = none) (g : Nat) (cells : Array Value) (hx : a.eval x = .pointer (some ⟨g, 0, none⟩)) (hy : a.eval y = .agg cells)
  (t : TypeId) (old : Array Value) (hg : w.heap[g]? = some (.cells old t (0, 0))) (hi : (P.info? ty).map (·.size) = some cells.size)
  (hold : old.size = cells.size) (h1 : cells.all (·.oneCell') = true)
  (h : wpListIn F n P ops Q rest a (w.setRow g cells)) : wpListIn F n P ops Q (o :: rest) a w :=
 wpListIn_skipR hgd (by unfold Oper.about; rw [ho]) (by rw [ho]; intro c hc; cases hc) (w.setRow g cells) (by
  unfold execOp
  simp only [ho, hx, hy, Instr.storeAt, Instr.sureAddr, Sem.run_bind, Sem.run_pure, Result.andThen_ok, run_storeVar_row w g t ty old cells hg hi hold h1]) (by rw [hd]; exact h)
theorem wpListIn_loadP (hgd : o.guard = none) (ty : TypeId) (x : Operand) (ho : o.op = .load ty x) (b : Addr) (hx : a.eval x = .pointer (some b)) (cs : List Value) (d : TypeDesc) (hc : AtA w b cs)
  (hu : P.underlying ty = some d) (hd : d.isRow = true) (hi : (P.info? ty).map (·.size) = some cs.length)
  (h : wpListIn F n P ops Q rest (a.put o.dst (.agg cs.toArray)) w) : wpListIn F n P ops Q (o :: rest) a w :=
 wpListIn_run hgd (by unfold Oper.about; rw [ho]) (by rw [ho]; intro c hc; cases hc) (.agg cs.toArray) w (by
  unfold execOp
  simp only [ho, hx, Instr.loadAt, Instr.sureAddr, Sem.run_bind, Sem.run_pure, Result.andThen_ok, run_loadVar_at w b ty cs d hc hu hd hi]) h
end
theorem atA_blk {w : World} {g : Nat} {T : TypeId} {cs : List Value} (h : Blk w g T cs.toArray) : AtA w ⟨g, 0, none⟩ cs := fun j u hu => by
 rw [Addr.add_mid, Nat.zero_add, h.cell]
 simpa using hu
theorem run_onePc (w : World) (p : Pc) {o : Oper} {ρ : Operand → Value} (x : Operand) (ho : o.op = .buildSlice 31 1 #[(0, x)]) (hx : ρ x = .agg (pcV p)) :
  (execOp ρ o).run Tryz.prog w = .ok (.value (.slice (some ⟨w.heap.size, 0, none⟩) 1 1)) (w.alloc (.cells (pcV p) 77)) := by
 obtain ⟨i, hi, hz, hs, _⟩ := piece_parts
 have h1 := run_buildSlice (P := Tryz.prog) w 31 77 1 #[(0, .agg (pcV p))] (pcV p) i _ Tryz.underlying31 hi hz (by rw [hs]; omega) (by rw [hs]; omega) (by rw [hs]; kernel_rfl)
 unfold execOp
 simp only [ho, Sem.run_bind, List.map_toArray, List.map_cons, List.map_nil, hx, h1, Result.andThen_ok]
 rfl
theorem grown_none {A B : World} (h : Below A.heap.size A B) : A.grownBy B none := ⟨h.os, h.tape, h.output, h.size, fun k hk _ => h.block k hk⟩
def ovlB (cs : Array Value) (off : Nat) (l : List Value) : Array Value := (l.zipIdx 0).foldl (fun cs (x : Value × Nat) => cs.setIfInBounds (off + x.2) x.1) cs
theorem ovlB_fold (off : Nat) : ∀ (l : List Value) (k : Nat) (cs : Array Value), ((l.zipIdx k).foldl (fun cs (x : Value × Nat) => cs.setIfInBounds (off + x.2) x.1) cs).size = cs.size ∧
  (∀ j, (j < off + k ∨ off + k + l.length ≤ j) → ((l.zipIdx k).foldl (fun cs (x : Value × Nat) => cs.setIfInBounds (off + x.2) x.1) cs)[j]? = cs[j]?) ∧
  (off + k + l.length ≤ cs.size → ∀ j, j < l.length → ((l.zipIdx k).foldl (fun cs (x : Value × Nat) => cs.setIfInBounds (off + x.2) x.1) cs)[off + k + j]? = l[j]?)
 | [], k, cs => ⟨rfl, fun j _ => rfl, fun _ j hj => by cases hj⟩
 | v :: r, k, cs => by
  obtain ⟨a, b, c⟩ := ovlB_fold off r (k + 1) (cs.setIfInBounds (off + k) v)
  simp only [List.zipIdx_cons, List.foldl_cons]
  refine ⟨by rw [a]; simp, fun j hj => ?_, fun hs j hj => ?_⟩
  ·simp only [List.length_cons] at hj
   rw [b j (by omega), Array.getElem?_setIfInBounds_ne (by omega)]
  ·simp only [List.length_cons] at hs hj
   cases j with
   | zero =>
    rw [b (off + k + 0) (by omega), Nat.add_zero, Array.getElem?_setIfInBounds_self_of_lt (by omega)]
    rfl
   | succ j =>
    have := c (by rw [Array.size_setIfInBounds]; omega) j (by omega)
    rw [show off + k + (j + 1) = off + (k + 1) + j by omega, this]
    rfl
theorem ovlB_all (cells cs : Array Value) (h : cells.size = cs.size) : ovlB cells 0 cs.toList = cs := by
 unfold ovlB
 obtain ⟨h1, h2, h3⟩ := ovlB_fold 0 cs.toList 0 cells
 simp only [Nat.zero_add] at h1 h2 h3 ⊢
 refine Array.ext_getElem? fun j => ?_
 rcases Nat.lt_or_ge j cs.size with hj | hj
 ·have := h3 (by rw [Array.length_toList, h]; exact jD _) j (by rw [Array.length_toList]; exact hj)
  rw [this, Array.getElem?_toList]
 ·rw [Array.getElem?_eq_none (by rw [h1, h]; exact hj), Array.getElem?_eq_none hj]
theorem fill_one (cells cs : Array Value) (n : Nat) (hc : cells.size = n) (hs : cs.size = n) : Instr.fill (fun i => some (i * n, n)) cells [(0, .agg cs)] = some cs := by
 rw [Instr.fill]
 simp only [Nat.zero_mul]
 rw [if_neg (by simp [Value.cells, hs, hc])]
 rw [Instr.fill]
 have h := ovlB_all cells cs (by rw [hc, hs])
 unfold ovlB at h
 have e : (cs.zipIdx).foldl (fun cs (x : Value × Nat) => cs.setIfInBounds (0 + x.2) x.1) cells = (cs.toList.zipIdx 0).foldl (fun cs (x : Value × Nat) => cs.setIfInBounds (0 + x.2) x.1) cells := by
  rw [← Array.foldl_toList, Array.toList_zipIdx]
 have h2 := e.trans h
 simp [Value.cells] at h2 ⊢
 exact h2
theorem run_oneG {T e : TypeId} {ie : TypeInfo} {z : Value} {n : Nat} (hT : Tryz.prog.underlying T = some (.slice e)) (hie : Tryz.prog.info? e = some ie) (hz : ie.zero = some z) (hn : ie.size = n) (hn0 : 0 < n) (hn1 : n ≤ 1000) (w : World) (cs : Array Value) (hcs : cs.size = n) {o : Oper} {ρ : Operand → Value} (x : Operand) (ho : o.op = .buildSlice T 1 #[(0, x)]) (hx : ρ x = .agg cs) :
  (execOp ρ o).run Tryz.prog w = .ok (.value (.slice (some ⟨w.heap.size, 0, none⟩) 1 1)) (w.alloc (.cells cs e)) := by
 have h1 := run_buildSlice (P := Tryz.prog) w T e 1 #[(0, .agg cs)] cs ie z hT hie hz (by rw [hn]; omega) (by rw [hn]; omega) (by rw [hn]; exact fill_one _ _ n (by simp) hcs)
 unfold execOp
 simp only [ho, Sem.run_bind, List.map_toArray, List.map_cons, List.map_nil, hx, h1, Result.andThen_ok]
 rfl
theorem nonceInfo : (Tryz.prog.info? 57).map (fun i => (i.zero, i.size, i.bytes)) = some (some (.agg (vb n12z)), 12, 12) := by kernel_rfl
theorem boxInfo : (Tryz.prog.info? 61).map (fun i => (i.zero, i.size, i.bytes)) = some (some (.agg zBx), 15, 56) := by kernel_rfl
theorem parts_of {e : TypeId} {z : Value} {n m : Nat} (h : (Tryz.prog.info? e).map (fun i => (i.zero, i.size, i.bytes)) = some (some z, n, m)) : ∃ i, Tryz.prog.info? e = some i ∧ i.zero = some z ∧ i.size = n ∧ i.bytes = m := by
 obtain ⟨i, hi, hi2⟩ := Option.map_eq_some_iff.1 h
 simp only [Prod.mk.injEq] at hi2
 exact ⟨i, hi, hi2.1, hi2.2.1, hi2.2.2⟩
def OwnN (w : World) (base : Nat) (v : Value) (ns : List (List Nat)) : Prop := w.ownsRow base 57 12 v ns.length (nnC ns)
theorem OwnN.next {w w' : World} {base : Nat} {v : Value} {ns : List (List Nat)} (h : OwnN w base v ns) (hb : Below w.heap.size w w') : OwnN w' base v ns := own_keep (S := fun _ => False) h (Only.of_below hb) (fun _ _ h => h)
theorem OwnN.nil_ (w : World) (base : Nat) : OwnN w base (.slice none 0 0) [] := ⟨rfl, .inl ⟨rfl, rfl⟩⟩
theorem OwnN.rd {w : World} {base : Nat} {v : Value} {ns : List (List Nat)} (h : OwnN w base v ns) : ∃ A cap, v = .slice A ns.length cap ∧ ns.length ≤ cap ∧ cap ≤ maxLen ∧ RdN w w.heap.size A ns := own_rd h
theorem OwnN.alloc {w : World} {base : Nat} {v : Value} {ns : List (List Nat)} (h : OwnN w base v ns) (o : Obj) : OwnN (w.alloc o) base v ns := World.ownsRow.alloc h o
theorem OwnN.snoc {W W' : World} {base : Nat} {v v' : Value} {ns : List (List Nat)} {x : List Nat} (h : Apped W base 57 12 v W' v' (ns.length + 1) (nnC ns ++ byt x)) : OwnN W' base v' (ns ++ [x]) := by
 have h1 := h.own
 unfold OwnN
 rw [jC, nnC_app, show nnC [x] = byt x by simp [nnC]]
 exact h1
attribute [local go_sem] Oper.semAt_some
theorem vals_in (n l Bm b nn : Nat) (M : List Pc) (hn : 1 ≤ n) (J Jx : List Pc → World → Prop)
  (hY0 : ∀ pre x W, J pre W → pre.length < nn → YieldAt Fence.wide (n - 1) Tryz.prog l #[.agg (pcV x)] W fun e W' =>
   (e = .returned (.bool true) ∧ J (pre ++ [x]) W' ∧ KeepsWalks W W') ∨ (e = .returned (.bool false) ∧ Jx (pre ++ [x]) W'))
  (W : World) (hJ : AbidesFrom W.heap.size J) (hm : W.cell? ⟨Bm, 0, none⟩ = some (.map (some b))) (hown : MapAt W b nn M) (h0 : J [] W) :
  CallsIn Fence.wide n Tryz.prog 66 #[.func (.yield l) #[] #[], .pointer (some ⟨Bm, 0, none⟩)] W fun e W' => (∃ v, e = .returned v) ∧
   ((∃ ss : List Pc, (ss.Nodup ∧ ∀ p, p ∈ ss ↔ p ∈ M) ∧ J ss W') ∨ (∃ pre, True ∧ Jx pre W')) := by
 obtain ⟨D, hown, hPM, hS, hV⟩ := hown
 have zf := zero_pc
 have zs1 : zPc.size = 5 := by rfl
 have zs2 : ¬ zPc = #[] := by intro h; have := congrArg Array.size h; rw [zs1] at this; cases this
 refine callsIn_of_wp Tryz.func66 rfl trivial ?_ rfl
 simp only [Tryz.ntmps66, List.size_toArray, List.length_cons, List.length_nil, Nat.reduceAdd, Nat.reduceSub, Array.replicate_succ, Array.replicate_zero, List.push_toArray, List.append_toArray, List.nil_append, List.cons_append]
 have HY0 := Li hY0
 have HPM := Li hPM
 have HS := Li hS
 have HV := Li hV
 have HJ := Li hJ
 clear hY0 hPM hS hV hJ
 gi_wp2_with (first
  | (gi_at_range; refine wpListIn_range_own _ rfl _ 97 rfl 100 77 placeKeyed Tryz.underlying97 _ b nn _ rfl hown ?_; intro w0 hrg0 hg0 hs0)
  | gi_in)
 go_frame
 gi_loopw [4] (fun _ wr => ∃ (left : Lit → Bool) (cnt : Nat) (ss : List Pc), wr.ranges Tryz.prog 100 asIs b W.heap.size nn D left cnt ∧ ss.length + cnt ≤ Maps.size D ∧ Coll M left ss ∧ J ss wr)
  (fun _ wr => wr.rangeLeft b W.heap.size)
 case atStart =>
  exact ⟨_, _, [], hrg0, by simp, Coll.start HPM.out, HJ.out [] W w0 none h0 hg0 (fun r e => by cases e)⟩
 case round =>
  obtain ⟨left, cnt, ss, hrg, hcs, hC, hJs⟩ := hrel
  gi_wp2_with (first
   | (gi_at_next; refine wpListIn_next_ranges _ rfl _ rfl 100 placeKeyed asIs (fun v : Value => v) (fun v : Value => v) (fun key kl hk => ⟨key, rfl⟩) (fun v _ _ => ⟨v, rfl⟩) b W.heap.size nn _ _ _ rfl hrg ?_ ?_)
   | gi_in)
  ·-- nothing is left
   intro hc0 hl0
   gi_wp2
   go_end0
   exact ⟨⟨_, rfl⟩, .inl ⟨ss, hC.done hl0, hJs⟩⟩
  ·-- a piece has come
   intro x c kl yd yp w2 cnt2 hkey hlk hv hat hrg2 hlt hg2 hs2 hen
   obtain ⟨p, hp, rfl, hC2⟩ := hC.step place_pin HPM.out HV.out HS.out hlk (by
    unfold asIs at hv
    simp only [Option.some.injEq, Prod.mk.injEq] at hv
    exact hv.1.symm) hat
   have hJ2 : J ss w2 := HJ.out ss wr w2 (some W.heap.size) hJs hg2 (fun r e => by cases e; exact ⟨jD _, hrg.iter_walk⟩)
   have HJ2 := Li hJ2
   have HC2 := Li hC2
   have HRG2 := Li hrg2
   have HN := Li (show ss.length < nn by have := hown.size_le; omega)
   have HCS := Li hcs
   have HLT := Li hlt
   have HRG := Li hrg
   clear hs2 hJ2 hC2 hrg2 hC hJs hcs hlt hrg hg2 hat hlk hv hkey
   gi_wp2_with (first
    | (refine wpListIn_storeP rfl 77 (.tmp 4) (.tmp 10) rfl rfl w2.heap.size (pcV p) rfl rfl 77 zPc (by exact heap_alloc_new _ _) (pcInfo p) rfl (pcV_one p) ?_
       obtain ⟨Y, hYe⟩ : ∃ Y, Y = (w2.alloc (Obj.cells zPc 77)).setRow w2.heap.size (pcV p) := ⟨_, rfl⟩
       have hnr := new_rowP w2 77 zPc (pcV p)
       rw [← hYe] at hnr ⊢
       have hgY := grown_none hnr.2
       have HBY := Li hnr.1
       have HRGY := Li (HRG2.out.kept hgY (by simp) (by simp))
       obtain ⟨fn, tmps, assign, body, hy, hR⟩ := HY0.out ss p Y (HJ.out ss w2 Y none HJ2.out hgY (fun r e => by cases e)) HN.out
       rw [show (Value.agg (pcV p)) = .agg (pcL p).toArray from rfl] at hy
       clear hYe hnr hgY hen
       generalize w2.heap.size = gY at *)
    | (refine wpListIn_loadP rfl 77 (.tmp 4) rfl ⟨gY, 0, none⟩ rfl (pcL p) _ (atA_blk HBY.out) Tryz.underlying77 rfl (pcLn p) ?_)
    | gi_in)
   clear HY0 HBY HJ2 HRG2
   refine hR.mono ?_
   rintro e W3 (⟨rfl, hJ3, hk3⟩ | ⟨rfl, hJx3⟩)
   ·have HJ3 := Li hJ3
    have hrg3 := HRGY.out.of_walks hk3
    have HRG3 := Li hrg3
    clear hJ3 hk3 hrg3 hy hR
    gi_wp2
    go_roundw
    case rel => exact ⟨_, cnt2, ss ++ [p], HRG3.out, by have := HCS.out; have := HLT.out; simp; omega, HC2.out, HJ3.out⟩
    case measure => rw [HRG3.out.left_eq, HRG.out.left_eq]; exact HLT.out
   ·have HX := Li hJx3
    clear hJx3 hy hR
    gi_wp2
    refine bodyPost_ret (results_none rfl _ _ _) rfl ?_
    exact ⟨⟨_, rfl⟩, .inr ⟨_, trivial, HX.out⟩⟩
theorem valsV_c (mb : Option Nat) (w : World) : Calls Tryz.prog 46 #[.map mb] w fun e w' =>
  e = .returned (.func (.func 66) #[] #[.pointer (some ⟨w.heap.size, 0, none⟩)]) ∧ w' = w.alloc (.cells #[.map mb] 97) := by
 go_enter Tryz.func46, Tryz.ntmps46
 go_wp2_with fail
 go_ret
 exact ⟨rfl, rfl⟩
theorem vals_stops (n Bm b nn : Nat) (M : List Pc) (hn : 1 ≤ n) (w : World) (hlt : Bm < w.heap.size) (hm : w.cell? ⟨Bm, 0, none⟩ = some (.map (some b))) (hown : MapAt w b nn M) :
  SeqStopsK Fence.wide n Tryz.prog 66 #[.pointer (some ⟨Bm, 0, none⟩)] (fun p : Pc => #[.agg (pcV p)]) KeepsWalks (fun ss => ss.Nodup ∧ ∀ p, p ∈ ss ↔ p ∈ M) (fun _ => True) nn w := fun l J Jx W hW hJ hJx hY h0 =>
 vals_in n l Bm b nn M hn J Jx hY W hJ ((hW.cell (p := ⟨Bm, 0, none⟩) hlt).trans hm) (hown.next hW) h0
theorem wpIn_rangeFunc_asg {P : Program} {n : Nat} {α : Type} {g : Operand} {ps : Array Tmp} {assign body : Code} {Q : Exit → Act → World → Prop} {a : Act} {w : World}
  (h1 : 1 ≤ n) {gf : Nat} {lb : Array Value} (hg : a.eval g = .func (.func gf) #[] lb) (eg : ∀ args w, (callFunc gf args).run P w = .ok (.enter gf args) w)
  {encs : α → Array Value} {Kp : World → World → Prop} {S Sp : List α → Prop} {N : Nat} {w0 : World} (hseq : SeqStopsK Fence.wide (n - 1) P gf lb encs Kp S Sp N w0)
  (hKt : ∀ {A B C : World}, Kp A B → Kp B C → Kp A C) (hKb : ∀ (W : World) (l : Nat) (o o' : Obj), w.heap.size ≤ l → W.heap[l]? = some o → o.isCells = false → o.isWalk = false → Kp W (W.putObj l o')) (hb0 : Below w0.heap.size w0 w) (hps : ∀ x, (encs x).size = ps.size)
  (I : List α → World → Prop) (I2 : List α → α → Act → World → Prop) (hI : OwnFrom w.heap.size I) (hI2 : ∀ pre x a1, OwnFrom w.heap.size (fun (_ : Unit) W => I2 pre x a1 W)) (h0 : I [] w)
  (hassign : ∀ (l : Nat) (pre : List α) (x : α) (W : World) (K : Act → World → Prop), I pre W → pre.length < N → (∀ a1 W1, KeepsOthers W W1 → Kp W W1 → I2 pre x a1 W1 → K a1 W1) →
   assign.wpIn (Fence.wide.inRound l) (n - 1 - 1) P (Exit.then K (fun _ _ _ => False)) { tmps := (ps.zip (encs x)).foldl (fun t (p, v) => t.setIfInBounds p v) a.tmps, defers := [] } W)
  (hbody : ∀ (l : Nat) (pre : List α) (x : α) (a1 : Act) (W : World), I2 pre x a1 W → pre.length < N → body.wpIn (Fence.wide.inRound l) (n - 1 - 1) P (fun e _ W' => e = .normal ∧ KeepsOthers W W' ∧ Kp W W' ∧ I (pre ++ [x]) W') a1 W)
  (hdone : ∀ (D : Nat) (xs : List α) (W : World), w.heap.size ≤ D → S xs → I xs W → W.heap[D]? = some (.deferred (some [])) → Q .normal { a with defers := { target := .collected D, args := #[] } :: a.defers } W) :
  (Code.rangeFunc g ps assign body).wpIn Fence.wide n P Q a w := by
 refine wpIn_rangeFunc ?_
 intro fn hfn
 show ∃ l : Nat, _
 obtain ⟨rec, hrec⟩ : ∃ rec : LoopState → Option Code → Loop, rec = fun st pe => { state := st, pending := pe, fn, tmps := a.tmps, params := ps, assign, body, defers := w.heap.size } := ⟨_, rfl⟩
 obtain ⟨W1, hW1⟩ : ∃ W1, W1 = (w.alloc (.deferred (some []))).alloc (.loop (rec .ready none)) := ⟨_, rfl⟩
 have hs1 : W1.heap.size = w.heap.size + 2 := by rw [hW1]; simp
 have hL1 : W1.heap[w.heap.size + 1]? = some (.loop (rec .ready none)) := by
  have h := World.alloc_heap_new (w.alloc (.deferred (some []))) (.loop (rec .ready none))
  rw [World.size_alloc] at h
  rw [hW1]; exact h
 have hK1 : W1.heap[w.heap.size]? = some (.deferred (some [])) := by
  rw [hW1]; exact (Below.heap_alloc _ _ _ (by simp)).trans (World.alloc_heap_new w _)
 have hI1 : I [] W1 := by rw [hW1]; exact hI.alloc _ (hI.alloc _ h0)
 have hb1 : Below w0.heap.size w0 W1 := by
  rw [hW1]; exact hb0.trans ((((jE _ w).alloc (jD _) _).alloc (by simp) _).mono hb0.size)
 refine ⟨w.heap.size + 1, [{ target := .collected w.heap.size, args := #[] }], W1, { target := .fn (.func gf) lb, args := #[.func (.yield (w.heap.size + 1)) #[] #[]] }, W1, gf,
  #[.func (.yield (w.heap.size + 1)) #[] #[]] ++ lb, W1, ?_, ?_, ?_, ?_, fun _ => h1, ?_⟩
 ·rw [hW1, hrec]; exact run_enterLoop_outer _ _ _ _ _
 ·simp only [resolve, hg]
  simp [go_sem]
 ·intro f' hf'; trivial
 ·simp [invoke, go_sem, eg]
 ·refine (hseq (w.heap.size + 1) (fun pre W => I pre W ∧ W.heap[w.heap.size + 1]? = some (.loop (rec .ready none)) ∧ W.heap[w.heap.size]? = some (.deferred (some []))) (fun _ _ => False) W1 hb1
   (fun s A B row hs hg' hr => ⟨hI s A B row hs.1 hg' (fun r e => by
     obtain ⟨hB, o, ho, hw⟩ := hr r e
     exact ⟨by omega, o, ho, Obj.not_cells_of_walk hw⟩), (grownBy_keeps hg' (fun r e => (hr r e).2) hs.2.1 rfl).trans hs.2.1, (grownBy_keeps hg' (fun r e => (hr r e).2) hs.2.2 rfl).trans hs.2.2⟩)
   (fun s A B row hs hg' hr => hs.elim) ?_ ⟨hI1, hL1, hK1⟩).mono ?_
  ·-- a round
   rintro pre x W ⟨hi, hl, hk⟩ hlen
   have hy := run_yield (P := P) (args := encs x) hl (by rw [hrec]; exact hps x)
   rw [hrec] at hy
   refine ⟨fn, _, assign, body, hy, roundIn_of_wpIn hfn (hassign _ pre x W _ hi hlen ?_)⟩
   intro a1 Wa ka kpa hi2
   have hla := ka.same _ _ hl rfl
   have hka := ka.same _ _ hk rfl
   have hlt : w.heap.size + 1 < Wa.heap.size := (Array.getElem?_eq_some_iff.1 hla).1
   refine ⟨_, run_beginRound hla (by rw [hrec]), ?_⟩
   obtain ⟨Wb, hWb⟩ : ∃ Wb, Wb = Wa.putObj (w.heap.size + 1) (.loop { rec .ready none with state := .busy }) := ⟨_, rfl⟩
   rw [← hWb]
   have hlb : Wb.heap[w.heap.size + 1]? = some (.loop { rec .ready none with state := .busy }) := by rw [hWb]; exact World.putObj_heap_same hlt
   have hkb : Wb.heap[w.heap.size]? = some (.deferred (some [])) := by rw [hWb]; exact (World.putObj_heap_other (by omega)).trans hka
   have hkpb : Kp Wa Wb := by rw [hWb]; exact hKb _ _ _ _ (by omega) hla rfl rfl
   have hi2b : I2 pre x a1 Wb := by rw [hWb]; exact OwnFrom.putObj (s := ()) (hI2 pre x a1) _ hi2 (by omega) hla rfl
   refine wpIn_mono (hbody _ pre x a1 Wb hi2b hlen) ?_
   rintro e a3 W3 ⟨rfl, hk3, hkp3, hi3⟩
   have hl3 := hk3.same _ _ hlb rfl
   have hd3 := hk3.same _ _ hkb rfl
   have hr := run_endRound (P := P) none hl3
   rw [hrec] at hr hl3
   refine ⟨_, _, hr, .inl ⟨rfl, ⟨hI.putObj _ hi3 (by omega) hl3 rfl, ?_, (World.putObj_heap_other (by omega)).trans hd3⟩, hKt (hKt kpa (hKt hkpb hkp3)) (hKb _ _ _ _ (by omega) hl3 rfl rfl)⟩⟩
   rw [hrec]
   exact World.putObj_heap_same (Array.getElem?_eq_some_iff.1 hl3).1
  ·-- behind the iterator
   rintro e W2 ⟨⟨v, rfl⟩, (⟨xs, hS, hi, hl, hk⟩ | ⟨pre, hSp, hf⟩)⟩
   ·exact ⟨none, _, by have := run_endLoop (P := P) hl (by rw [hrec]; simp); rw [hrec] at this; exact this, hdone _ xs _ (jD _) hS (hI.putObj _ hi (by omega) hl rfl) ((World.putObj_heap_other (by omega)).trans hk)⟩
   ·exact hf.elim
end Go.Proofs.YtfnhmnbcponkfaaGreatDoor
