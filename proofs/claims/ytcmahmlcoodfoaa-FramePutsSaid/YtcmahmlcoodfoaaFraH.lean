/- FramePuts: the walk. -/
import Derived.Test.YtcmahmlcoodfoaaFraE
import Derived.Test.YtcmahmlcoodfoaaFraF
import Derived.Test.YtcmahmlcoodfoaaFraG
namespace Go.Proofs.Ytcmahmlcoodfoaa
open Go.RowKit Go.Great
set_option linter.unusedVariables false
def puG (x : Fr) : Tmp → List Nat := fun _ => hdF x
set_option maxRecDepth 100000 in
set_option maxHeartbeats 1000000 in
theorem framePuts_long (x y : Fr) (A B : Option Addr) (ca cb : Nat) (w : World) (hx : FrOk x) (hy : FrOk y) (h : 5000 < x.d.length ∨ 5000 < y.d.length) :
    Calls Try.prog 7 #[.agg (frV x (.slice A x.d.length ca)), .agg (frV y (.slice B y.d.length cb))] w (Yes w) := by
  have HX := Lib.hid hx
  have HY := Lib.hid hy
  obtain ⟨bx, dx⟩ : ∃ b, decide ((5000 : Int) < (x.d.length : Int)) = b := ⟨_, rfl⟩
  obtain ⟨by_, dy⟩ : ∃ b, decide ((5000 : Int) < (y.d.length : Int)) = b := ⟨_, rfl⟩
  have hcase : bx = true ∨ (bx = false ∧ by_ = true) := by
    rcases h with h | h
    · left; rw [← dx]; exact decide_eq_true (by omega)
    · cases bx
      · right; exact ⟨rfl, by rw [← dy]; exact decide_eq_true (by omega)⟩
      · left; rfl
  clear hx hy h
  rcases hcase with rfl | ⟨rfl, rfl⟩
  all_goals
    go_enter Try.func7, Try.ntmps7
    go_upto_region 1 with (first
      | (refine wpList_boxTo rfl 43 (.tmp 0) rfl (some 2) rfl w.heap.size rfl (frV x (.slice A x.d.length ca)) rfl ?_)
      | (refine wpList_boxTo rfl 43 (.tmp 1) rfl (some 3) rfl (w.heap.size + 1) (by simp) (frV y (.slice B y.d.length cb)) rfl ?_))
    obtain ⟨Z, hZ⟩ : ∃ Z, Z = (w.alloc (.cells (frV x (.slice A x.d.length ca)) 43)).alloc (.cells (frV y (.slice B y.d.length cb)) 43) := ⟨_, rfl⟩
    have hfx : FrAt Z w.heap.size x (.slice A x.d.length ca) := FrAt.of HX.out (by rw [hZ]; exact (Blk.new w _ _).alloc _)
    have hfy : FrAt Z (w.heap.size + 1) y (.slice B y.d.length cb) := FrAt.of HY.out (by
      rw [hZ]
      have h := Blk.new (w.alloc (.cells (frV x (.slice A x.d.length ca)) 43)) 43 (frV y (.slice B y.d.length cb))
      rw [show (w.alloc (.cells (frV x (.slice A x.d.length ca)) 43)).heap.size = w.heap.size + 1 by simp] at h
      exact h)
    have hb : Below w.heap.size w Z := by rw [hZ]; exact ((Below.refl _ _).alloc (Nat.le_refl _) _).alloc (le_alloc (Nat.le_refl _)) _
    rw [← hZ]
    clear hZ
    have HF := Lib.hid hfx
    have HG := Lib.hid hfy
    have HB := Lib.hid hb
    have cd := hfx.cd
    have kd := hfy.cd
    clear hfx hfy hb
    go_wp2_with (go_at_call 13; ((with_reducible refine (awake21_c _).mono ?_); rintro e w3 ⟨rfl, hb3⟩))
    go_ret
    exact ⟨rfl, HB.out.trans (hb3.mono HB.out.size)⟩
set_option maxRecDepth 100000 in
set_option maxHeartbeats 8000000 in
theorem framePuts_ok (x y : Fr) (A B : Option Addr) (ca cb : Nat) (w : World) (hx : FrOk x) (hy : FrOk y) (hca : x.d.length ≤ ca) (hcb : y.d.length ≤ cb) (hra : Rd w w.heap.size A (byt x.d)) (hrb : Rd w w.heap.size B (byt y.d)) (l1 : x.d.length ≤ 5000) (l2 : y.d.length ≤ 5000) :
    Calls Try.prog 7 #[.agg (frV x (.slice A x.d.length ca)), .agg (frV y (.slice B y.d.length cb))] w (Yes w) := by
  have zf := zero_frame
  have zs1 : zF.size = 51 := by rfl
  have zs2 : ¬ zF = #[] := by intro h; have := congrArg Array.size h; rw [zs1] at this; cases this
  have HFX := Lib.hid (len_f hx (.slice A x.d.length ca))
  have HFY := Lib.hid (len_f hy (.slice B y.d.length cb))
  have hfin : ∀ W, Below w.heap.size w W → Fin W x (.slice A x.d.length ca) ∧ Fin W y (.slice B y.d.length cb) := fun W hW => ⟨⟨hx, by omega, A, ca, rfl, hca, (hra.below hW).more hW.size⟩, ⟨hy, by omega, B, cb, rfl, hcb, (hrb.below hW).more hW.size⟩⟩
  have hgt := fun (h : ckF x = true) => get_form hx h
  have HFL := Lib.hid (formF_lt hx)
  have hfl := formF_len hx
  have HLE := Lib.hid (show (formF x).length ≤ 100000 by omega)
  have HXX := Lib.hid ((sameF_iff hx hx).2 rfl)
  have HPT := Lib.hid (fun W hW => fput_c x _ W (hfin W hW).1)
  have HCK := Lib.hid (fun W => check_c x A ca W hx)
  have HRC := Lib.hid (fun W => rcheck_c x A ca W hx)
  have HHD := Lib.hid (fun W => head_c x (.slice A x.d.length ca) W hx)
  have HRH := Lib.hid (fun W => rhead_c x (.slice A x.d.length ca) W hx)
  have HFS := Lib.hid (fun W hW => same21_c x y _ _ W (hfin W hW).1 (hfin W hW).2)
  have HRS := Lib.hid (fun W hW => rsame_c x y _ _ W (hfin W hW).1 (hfin W hW).2)
  have HFF := Lib.hid (fun W hW => (show Calls Try.prog 28 #[.agg (frV x (.slice A x.d.length ca)), .agg (frV x (.slice A x.d.length ca))] W fun e w' => e = .returned (.bool true) ∧ Below W.heap.size W w' from by
    have h1 := same21_c x x _ _ W (hfin W hW).1 (hfin W hW).1
    rw [HXX.out] at h1
    exact h1))
  have HSM := Lib.hid (fun W base u v (hu : OwnB W base u (hdF x)) (hv : OwnB W base v (hdF x)) => (show Calls Try.prog 20 #[u, v] W fun e w'' => ∃ r, e = .returned r ∧ Below W.heap.size W w'' ∧ r = .bool true from by
    obtain ⟨A1, c1, rfl, _, _, r1⟩ := hu.rd
    obtain ⟨A2, c2, rfl, _, _, r2⟩ := hv.rd
    refine (same_c _ _ A1 A2 c1 c2 (hdF x) (hdF x) W (hdF_lt hx) (hdF_lt hx) r1 r2 (by rw [hdF_len]; decide) (by rw [hdF_len]; decide)).mono ?_
    intro e w' h
    obtain ⟨h1, h2⟩ := quietly_below h
    rw [beq_self_eq_true] at h1
    exact ⟨_, h1, h2, rfl⟩))
  have HX := Lib.hid hx
  have HY := Lib.hid hy
  have HFIN := Lib.hid hfin
  have HGT := Lib.hid hgt
  have HRA := Lib.hid hra
  clear hx hy hra hrb hfin hgt hfl
  generalize ckF x = ck at *
  generalize sameF x y = R at *
  obtain ⟨bx, dx⟩ : ∃ b, decide ((5000 : Int) < (x.d.length : Int)) = b := ⟨_, rfl⟩
  obtain ⟨by_, dy⟩ : ∃ b, decide ((5000 : Int) < (y.d.length : Int)) = b := ⟨_, rfl⟩
  obtain rfl : bx = false := by rw [← dx]; exact decide_eq_false (by omega)
  obtain rfl : by_ = false := by rw [← dy]; exact decide_eq_false (by omega)
  cases ck
  all_goals
    simp only [if_true, if_false, Bool.false_eq_true] at HPT HCK
    go_enter Try.func7, Try.ntmps7
    go_upto_region 1 with (first
      | (refine wpList_boxTo rfl 43 (.tmp 0) rfl (some 2) rfl w.heap.size rfl (frV x (.slice A x.d.length ca)) rfl ?_)
      | (refine wpList_boxTo rfl 43 (.tmp 1) rfl (some 3) rfl (w.heap.size + 1) (by simp) (frV y (.slice B y.d.length cb)) rfl ?_))
    obtain ⟨Z, hZ⟩ : ∃ Z, Z = (w.alloc (.cells (frV x (.slice A x.d.length ca)) 43)).alloc (.cells (frV y (.slice B y.d.length cb)) 43) := ⟨_, rfl⟩
    have hfx : FrAt Z w.heap.size x (.slice A x.d.length ca) := FrAt.of HX.out (by rw [hZ]; exact (Blk.new w _ _).alloc _)
    have hfy : FrAt Z (w.heap.size + 1) y (.slice B y.d.length cb) := FrAt.of HY.out (by
      rw [hZ]
      have h := Blk.new (w.alloc (.cells (frV x (.slice A x.d.length ca)) 43)) 43 (frV y (.slice B y.d.length cb))
      rw [show (w.alloc (.cells (frV x (.slice A x.d.length ca)) 43)).heap.size = w.heap.size + 1 by simp] at h
      exact h)
    have hb : Below w.heap.size w Z := by rw [hZ]; exact ((Below.refl _ _).alloc (Nat.le_refl _) _).alloc (le_alloc (Nat.le_refl _)) _
    rw [← hZ]
    clear hZ
    have HF := Lib.hid hfx
    have HG := Lib.hid hfy
    have HB := Lib.hid hb
    have cd := hfx.cd
    have kd := hfy.cd
    clear hfx hfy hb
    go_upto_region 5 with (first
      | (refine wpList_loadL 43 (.tmp 2) rfl w.heap.size 0 (frV x (.slice A x.d.length ca)) _ (by first | exact HF.out.al | exact (HF.out.next HB1.out).al) Try.underlying43 rfl HFX.out rfl rfl ?_)
      | (go_at_call 21; (refine (HPT.out _ HB.out).mono ?_); rintro e w1 ⟨v1, rfl, ho, hb⟩; obtain ⟨A1, k1, rfl, hk1, _, _⟩ := ho.rd; have HO1 := Lib.hid ho; have HB1 := Lib.hid hb; have HK1 := Lib.hid hk1; clear ho hb)
      | (go_at_call 25; (refine (HCK.out _).mono ?_); rintro e w2 ⟨rfl, hb⟩; have HB2 := Lib.hid hb; clear hb))
    have HF2 := Lib.hid ((HF.out.next HB1.out).next HB2.out)
    have HG2 := Lib.hid ((HG.out.next HB1.out).next HB2.out)
    have HW2 := Lib.hid (HB.out.trans ((HB1.out.trans (HB2.out.mono HB1.out.size)).mono HB.out.size))
    have HO2 := Lib.hid (HO1.out.next HB2.out)
    clear cd kd dx dy
    refine wp_region_loud w2 [39, 41] (fun k u W => OwnB W w.heap.size u (puG x k)) (by kernel_rfl) (by kernel_rfl) (by kernel_rfl) (by kernel_rfl) (fun _ _ _ _ h hb => OwnB.next h hb) (Below.refl _ _).drew ?_
    repeat (first
      | (refine wpLoud_loadL 43 (.tmp 2) rfl w.heap.size 0 (frV x (.slice A x.d.length ca)) _ (fun z => (HF2.out.ext z).al) Try.underlying43 rfl HFX.out rfl rfl rfl _ (by simp only [Act.put, List.setIfInBounds_toArray, List.set_cons_succ, List.set_cons_zero]; rfl) ?_)
      | (refine wpLoud_loadL 43 (.tmp 3) rfl (w.heap.size + 1) 0 (frV y (.slice B y.d.length cb)) _ (fun z => (HG2.out.ext z).al) Try.underlying43 rfl HFY.out rfl rfl rfl _ (by simp only [Act.put, List.setIfInBounds_toArray, List.set_cons_succ, List.set_cons_zero]; rfl) ?_)
      | (refine wpLoud_call 27 rfl [] _ 19 (fun g => #[.agg (frV x (.slice A x.d.length ca))]) rfl (fun _ _ h => by cases h) rfl (fun g w => by kernel_rfl) (fun g z hg => (HRC.out _).mono fun e w' h => ⟨_, h.1, h.2, rfl⟩) _ (by simp only [Act.put, List.setIfInBounds_toArray, List.set_cons_succ, List.set_cons_zero]; rfl) ?_)
      | (refine wpLoud_call 39 rfl [] tok 26 (fun g => #[.agg (frV x (.slice A x.d.length ca))]) rfl (fun _ _ h => by cases h) rfl (fun g w => by kernel_rfl) (fun g z hg => by
          refine (HHD.out _).mono ?_
          rintro e w' ⟨u, rfl, ho, hb⟩
          exact ⟨u, rfl, hb, ho.base (Nat.le_trans HW2.out.size z.bel.size)⟩) _ (by simp only [Act.put, List.setIfInBounds_toArray, List.set_cons_succ, List.set_cons_zero]; rfl) ?_)
      | (refine wpLoud_call 41 rfl [] tok 27 (fun g => #[.agg (frV x (.slice A x.d.length ca))]) rfl (fun _ _ h => by cases h) rfl (fun g w => by kernel_rfl) (fun g z hg => by
          refine (HRH.out _).mono ?_
          rintro e w' ⟨u, rfl, ho, hb⟩
          exact ⟨u, rfl, hb, ho.base (Nat.le_trans HW2.out.size z.bel.size)⟩) _ (by simp only [Act.put, List.setIfInBounds_toArray, List.set_cons_succ, List.set_cons_zero]; rfl) ?_)
      | (refine wpLoud_call 42 rfl [39, 41] (.bool true) 20 (fun g => #[g 39, g 41]) rfl (fun _ _ h => by cases h) rfl (fun g w => by kernel_rfl) (fun g z hg => HSM.out _ _ _ _ (hg 39 (by simp)) (hg 41 (by simp))) _ (by simp only [Act.put, List.setIfInBounds_toArray, List.set_cons_succ, List.set_cons_zero]; rfl) ?_)
      | (refine wpLoud_call 48 rfl [] (.bool R) 28 (fun g => #[.agg (frV x (.slice A x.d.length ca)), .agg (frV y (.slice B y.d.length cb))]) rfl (fun _ _ h => by cases h) rfl (fun g w => by kernel_rfl) (fun g z hg => (HFS.out _ (HW2.out.trans (z.bel.mono HW2.out.size))).mono fun e w' h => ⟨_, h.1, h.2, rfl⟩) _ (by simp only [Act.put, List.setIfInBounds_toArray, List.set_cons_succ, List.set_cons_zero]; rfl) ?_)
      | (refine wpLoud_call 51 rfl [] (.bool R) 17 (fun g => #[.agg (frV x (.slice A x.d.length ca)), .agg (frV y (.slice B y.d.length cb))]) rfl (fun _ _ h => by cases h) rfl (fun g w => by kernel_rfl) (fun g z hg => (HRS.out _ (HW2.out.trans (z.bel.mono HW2.out.size))).mono fun e w' h => ⟨_, h.1, h.2, rfl⟩) _ (by simp only [Act.put, List.setIfInBounds_toArray, List.set_cons_succ, List.set_cons_zero]; rfl) ?_)
      | (refine wpLoud_call 57 rfl [] (.bool true) 28 (fun g => #[.agg (frV x (.slice A x.d.length ca)), .agg (frV x (.slice A x.d.length ca))]) rfl (fun _ _ h => by cases h) rfl (fun g w => by kernel_rfl) (fun g z hg => (HFF.out _ (HW2.out.trans (z.bel.mono HW2.out.size))).mono fun e w' h => ⟨_, h.1, h.2, rfl⟩) _ (by simp only [Act.put, List.setIfInBounds_toArray, List.set_cons_succ, List.set_cons_zero]; rfl) ?_)
      | (refine wpLoud_plain rfl rfl rfl ?_; intro K hK; go_big_quiet_op; go_big_quiet_on)
      | (refine wpLoud_skip rfl _ (by simp only [Act.put, List.setIfInBounds_toArray, List.set_cons_succ, List.set_cons_zero]; rfl) ?_))
    refine wpLoud_end [] (by rfl) ?_
    intro g z hg
    have HF3 := Lib.hid (HF2.out.ext z)
    have HW3 := Lib.hid (HW2.out.trans (z.bel.mono HW2.out.size))
    have HO3 := Lib.hid (HO2.out.next z.bel)
    generalize z.wd = Y at *
    simp only [fill, Act.put, List.setIfInBounds_toArray, List.set_cons_succ, List.set_cons_zero]
    generalize g 39 = g39
    generalize g 41 = g41
    clear hg
  · go_wp2_with (go_at_call 13; ((with_reducible refine (awake21_c _).mono ?_); rintro e w3 ⟨rfl, hb3⟩))
    go_ret
    exact ⟨rfl, HW3.out.trans (hb3.mono HW3.out.size)⟩
  · have hget := fget_c A1 k1 (formF x) Y HFL.out HO3.out.rdAt HLE.out HK1.out
    rw [HGT.out (by simp)] at hget
    have HGET := Lib.hid hget
    clear hget
    go_upto_region 10 with (first
      | (go_at_call 15; ((refine HGET.out.mono ?_); rintro e w4 ⟨u, rfl, hf, hb⟩; have HFI4 := Lib.hid hf; have HB4 := Lib.hid hb; have HSF4 := Lib.hid (sizeF x u hf.ok); have HZQ4 := Lib.hid (show zF.size = (frV x u).size by rw [frV_size hf.ok]; rfl); clear hf hb))
      | (refine wpList_store_rowTo rfl 43 (.tmp 7) (.tmp 71) rfl rfl w4.heap.size (frV x u) rfl rfl 43 zF (by exact heap_alloc_new _ _) HSF4.out HZQ4.out HFI4.out.one ?_))
    obtain ⟨w5, hw5⟩ : ∃ w5, w5 = (w4.alloc (Obj.cells zF 43)).setRow w4.heap.size (frV x u) := ⟨_, rfl⟩
    have hb5 : Below w4.heap.size w4 w5 := by rw [hw5]; exact ((Below.refl _ _).alloc (Nat.le_refl _) _).trans (below_setRow (Below.refl _ _) (Nat.le_refl _) _)
    have hk5 : Blk w5 w4.heap.size 43 (frV x u) := by rw [hw5]; exact Blk.row (old := zF) (heap_alloc_new _ _)
    have HW5 := Lib.hid (HW3.out.trans ((HB4.out.trans (hb5.mono HB4.out.size)).mono HW3.out.size))
    have HO5 := Lib.hid ((HO3.out.next HB4.out).next hb5)
    have HFI5 := Lib.hid (HFI4.out.next hb5)
    have HA5 := Lib.hid (FrAt.of HX.out hk5)
    have HF5 := Lib.hid ((HF3.out.next HB4.out).next hb5)
    have HLU := Lib.hid (len_f HX.out u)
    rw [← hw5]
    clear hw5 hb5 hk5
    have hfm := fform_c x w.heap.size A ca w5 HX.out (HRA.out.below HW5.out) HW5.out.size (by omega)
    have HFM := Lib.hid hfm
    clear hfm
    have HSM2 := Lib.hid (fun W b1 b2 u v (hu : OwnB W b1 u (formF x)) (hv : OwnB W b2 v (formF x)) => (show Calls Try.prog 20 #[u, v] W fun e w'' => e = .returned (.bool true) ∧ Below W.heap.size W w'' from by
      obtain ⟨A1, c1, rfl, _, _, r1⟩ := hu.rd
      obtain ⟨A2, c2, rfl, _, _, r2⟩ := hv.rd
      refine (same_c _ _ A1 A2 c1 c2 (formF x) (formF x) W HFL.out HFL.out r1 r2 (by have := HLE.out; omega) (by have := HLE.out; omega)).mono ?_
      intro e w' h
      obtain ⟨h1, h2⟩ := quietly_below h
      rw [beq_self_eq_true] at h1
      exact ⟨h1, h2⟩))
    have HRS2 := Lib.hid (fun W (h1 : Fin W x u) (h2 : Fin W x (.slice A x.d.length ca)) => (show Calls Try.prog 17 #[.agg (frV x u), .agg (frV x (.slice A x.d.length ca))] W fun e w' => e = .returned (.bool true) ∧ Below W.heap.size W w' from by
      have h3 := rsame_c x x u _ W h1 h2
      rw [HXX.out] at h3
      exact h3))
    go_wp2_with (first
      | (refine wpList_loadL 43 (.tmp 2) rfl w.heap.size 0 (frV x (.slice A x.d.length ca)) _ (by first | exact HF5.out.al | exact ((HF5.out.next HB6.out).next HB7.out).al) Try.underlying43 rfl HFX.out rfl rfl ?_)
      | (refine wpList_loadL 43 (.tmp 7) rfl w4.heap.size 0 (frV x u) _ ((HA5.out.next HB6.out).next HB7.out).al Try.underlying43 rfl HLU.out rfl rfl ?_)
      | (go_at_call 29; (refine HFM.out.mono ?_); rintro e w6 ⟨v6, rfl, ho, hb⟩; have HO6 := Lib.hid ho; have HB6 := Lib.hid hb; clear ho hb)
      | (go_at_call 20; (refine (HSM2.out _ _ _ _ _ (HO5.out.next HB6.out) HO6.out).mono ?_); rintro e w7 ⟨rfl, hb⟩; have HB7 := Lib.hid hb; have HW7 := Lib.hid (HW5.out.trans ((HB6.out.trans (hb.mono HB6.out.size)).mono HW5.out.size)); clear hb)
      | (go_at_call 17; (refine (HRS2.out _ ((HFI5.out.next HB6.out).next HB7.out) (HFIN.out _ HW7.out).1).mono ?_); rintro e w8 ⟨rfl, hb⟩; have HB8 := Lib.hid hb; clear hb)
      | (go_at_call 13; ((with_reducible refine (awake21_c _).mono ?_); rintro e w9 ⟨rfl, hb9⟩)))
    go_ret
    exact ⟨rfl, HW7.out.trans ((HB8.out.trans (hb9.mono HB8.out.size)).mono HW7.out.size)⟩
theorem framePuts_w (x y : Fr) (A B : Option Addr) (ca cb : Nat) (w : World) (hx : FrOk x) (hy : FrOk y) (hca : x.d.length ≤ ca) (hcb : y.d.length ≤ cb) (hra : Rd w w.heap.size A (byt x.d)) (hrb : Rd w w.heap.size B (byt y.d)) :
    Calls Try.prog 7 #[.agg (frV x (.slice A x.d.length ca)), .agg (frV y (.slice B y.d.length cb))] w (Yes w) := by
  by_cases h : 5000 < x.d.length ∨ 5000 < y.d.length
  · exact framePuts_long x y A B ca cb w hx hy h
  · exact framePuts_ok x y A B ca cb w hx hy hca hcb hra hrb (by omega) (by omega)
end Go.Proofs.Ytcmahmlcoodfoaa
