/- FrameApart: the walk. -/
import Derived.Test.YtcmahmlcoodfoaaFraC
import Derived.Test.YtcmahmlcoodfoaaFraD
import Derived.Test.YtcmahmlcoodfoaaFraA
namespace Go.Proofs.Ytcmahmlcoodfoaa
open Go.RowKit Go.Great
set_option linter.unusedVariables false
section
variable {P : Program} {ops : Array Oper} {Z : World} {ls : List Tmp} {V : Tmp → Value → World → Prop} {Q : Act → Prop} {b : Act} {o : Oper} {rest : List Oper}
theorem wpLoud_loadL (ty : TypeId) (x : Operand) (ho : o.op = .load ty x) (n off : Nat) (cs : Array Value) (d : TypeDesc)
    (hc : ∀ y : Ext Z, y.wd.rangeAt n off cs.toList) (hu : P.underlying ty = some d) (hd : d.isRow = true) (hi : (P.info? ty).map (·.size) = some cs.toList.length) (hx : b.eval x = .pointer (some ⟨n, off, none⟩)) (hw : Region.wanted o (yielded ops b.tmps) = true) (hq : quietB ops ls o = true)
    (b' : Act) (hb : b.put o.dst (.agg cs) = b') (h : wpLoud P ops Z ls V Q rest b') : wpLoud P ops Z ls V Q (o :: rest) b := wpLoud_loadB hw hq ty x ho n off hx cs d hc hu hd hi b' hb h
end
theorem wpList_loadL {P : Program} {ops : Array Oper} {rest : List Oper} {o : Oper} {a : Act} {w : World} {Q : Exit → Act → World → Prop} (ty : TypeId) (x : Operand) (ho : o.op = .load ty x) (n off : Nat) (cs : Array Value) (d : TypeDesc)
    (hc : w.rangeAt n off cs.toList) (hu : P.underlying ty = some d) (hd : d.isRow = true) (hi : (P.info? ty).map (·.size) = some cs.toList.length) (hx : a.eval x = .pointer (some ⟨n, off, none⟩)) (hw : Region.wanted o (yielded ops a.tmps) = true)
    (h : wpList P ops Q rest (a.put o.dst (.agg cs)) w) : wpList P ops Q (o :: rest) a w := wpList_loadG hw ty x ho n off hx cs.toList d hc hu hd hi (by rw [Array.toArray_toList]; exact h)
def apG (x y : Fr) : Tmp → List Nat := fun k => if k = 27 then formF x else formF y
set_option maxRecDepth 100000 in
set_option maxHeartbeats 4000000 in
theorem frameApart_w (x y : Fr) (A B : Option Addr) (ca cb : Nat) (w : World) (hx : FrOk x) (hy : FrOk y) (hca : x.d.length ≤ ca) (hcb : y.d.length ≤ cb) (hra : Rd w w.heap.size A (byt x.d)) (hrb : Rd w w.heap.size B (byt y.d)) :
    Calls Try.prog 5 #[.agg (frV x (.slice A x.d.length ca)), .agg (frV y (.slice B y.d.length cb))] w (Yes w) := by
  have HFX := Lib.hid (len_f hx (.slice A x.d.length ca))
  have HFY := Lib.hid (len_f hy (.slice B y.d.length cb))
  have HCX := Lib.hid (fun W => rcheck_c x A ca W hx)
  have HCY := Lib.hid (fun W => rcheck_c y B cb W hy)
  have HX := Lib.hid hx
  have HY := Lib.hid hy
  have HRA := Lib.hid hra
  have HRB := Lib.hid hrb
  have hcx : ∃ c, c = ckF x := ⟨_, rfl⟩
  have hcy : ∃ c, c = ckF y := ⟨_, rfl⟩
  obtain ⟨ckx, hcx⟩ := hcx
  obtain ⟨cky, hcy⟩ := hcy
  rw [← hcx] at HCX
  rw [← hcy] at HCY
  have HKX := Lib.hid hcx
  have HKY := Lib.hid hcy
  obtain ⟨bx, dx⟩ : ∃ b, decide ((5000 : Int) < (x.d.length : Int)) = b := ⟨_, rfl⟩
  obtain ⟨by_, dy⟩ : ∃ b, decide ((5000 : Int) < (y.d.length : Int)) = b := ⟨_, rfl⟩
  have hcase : bx = true ∨ (bx = false ∧ by_ = true) ∨ (bx = false ∧ by_ = false ∧ ckx = false) ∨ (bx = false ∧ by_ = false ∧ ckx = true ∧ cky = false) ∨ (bx = false ∧ by_ = false ∧ ckx = true ∧ cky = true) := by
    cases bx <;> cases by_ <;> cases ckx <;> cases cky <;> simp
  clear hx hy hra hrb hcx hcy
  rcases hcase with rfl | ⟨rfl, rfl⟩ | ⟨rfl, rfl, rfl⟩ | ⟨rfl, rfl, rfl, rfl⟩ | ⟨rfl, rfl, rfl, rfl⟩
  all_goals
    go_enter Try.func5, Try.ntmps5
    go_upto_region 1 with (first
      | (refine wpList_boxTo rfl 43 (.tmp 0) rfl (some 2) rfl w.heap.size rfl (frV x (.slice A x.d.length ca)) rfl ?_)
      | (refine wpList_boxTo rfl 43 (.tmp 1) rfl (some 3) rfl (w.heap.size + 1) (by simp) (frV y (.slice B y.d.length cb)) rfl ?_))
    obtain ⟨Z, hZ⟩ : ∃ Z, Z = (w.alloc (.cells (frV x (.slice A x.d.length ca)) 43)).alloc (.cells (frV y (.slice B y.d.length cb)) 43) := ⟨_, rfl⟩
    have hfx : FrAt Z w.heap.size x (.slice A x.d.length ca) := FrAt.of HX.out (by rw [hZ]; exact (Blk.new w _ _).alloc _)
    have hfy : FrAt Z (w.heap.size + 1) y (.slice B y.d.length cb) := FrAt.of HY.out (by
      rw [hZ]
      have h := Blk.new (w.alloc (.cells (frV x (.slice A x.d.length ca)) 43)) 43 (frV y (.slice B y.d.length cb))
      rw [show (w.alloc (.cells (frV x (.slice A x.d.length ca)) 43)).heap.size = w.heap.size + 1 by simp] at h
      exact h)
    have hb : Below w.heap.size w Z := by rw [hZ]; exact ((Below.refl _ _).alloc (Nat.le_refl _) _).alloc (le_alloc (Nat.le_refl _)) _
    rw [← hZ]
    clear hZ
    have HF := Lib.hid hfx
    have HG := Lib.hid hfy
    have HB := Lib.hid hb
    have cd := hfx.cd
    have kd := hfy.cd
    clear hfx hfy hb
  rotate_left 4
  · go_upto_region 3 with (first
      | (refine wpList_loadL 43 (.tmp 2) rfl w.heap.size 0 (frV x (.slice A x.d.length ca)) _ HF.out.al Try.underlying43 rfl HFX.out rfl rfl ?_)
      | (refine wpList_loadL 43 (.tmp 3) rfl (w.heap.size + 1) 0 (frV y (.slice B y.d.length cb)) _ (HG.out.next HB1.out).al Try.underlying43 rfl HFY.out rfl rfl ?_)
      | (go_at_call 19; (with_reducible refine (HCX.out _).mono ?_); rintro e w1 ⟨rfl, hb⟩; have HB1 := Lib.hid hb; clear hb)
      | (go_at_call 19; (with_reducible refine (HCY.out _).mono ?_); rintro e w2 ⟨rfl, hb⟩; have HB2 := Lib.hid hb; clear hb))
    have HFX2 := Lib.hid ((HF.out.next HB1.out).next HB2.out)
    have HFY2 := Lib.hid ((HG.out.next HB1.out).next HB2.out)
    have HW2 := Lib.hid (HB.out.trans ((HB1.out.trans (HB2.out.mono HB1.out.size)).mono HB.out.size))
    have l1 : x.d.length ≤ 5000 := by have := of_decide_eq_false dx; omega
    have l2 : y.d.length ≤ 5000 := by have := of_decide_eq_false dy; omega
    have hfin : ∀ W, Below w.heap.size w W → Fin W x (.slice A x.d.length ca) ∧ Fin W y (.slice B y.d.length cb) := fun W hW => ⟨⟨HX.out, by omega, A, ca, rfl, hca, (HRA.out.below hW).more hW.size⟩, ⟨HY.out, by omega, B, cb, rfl, hcb, (HRB.out.below hW).more hW.size⟩⟩
    have HPX := Lib.hid (fun W hW => (show Calls Try.prog 21 #[.agg (frV x (.slice A x.d.length ca))] W (Gives (formF x) W) from by
      have h1 := fput_c x _ W (hfin W hW).1
      rw [← HKX.out, if_pos rfl] at h1
      exact h1))
    have HPY := Lib.hid (fun W hW => (show Calls Try.prog 21 #[.agg (frV y (.slice B y.d.length cb))] W (Gives (formF y) W) from by
      have h1 := fput_c y _ W (hfin W hW).2
      rw [← HKY.out, if_pos rfl] at h1
      exact h1))
    have HRS := Lib.hid (fun W hW => rsame_c x y _ _ W (hfin W hW).1 (hfin W hW).2)
    have HSM := Lib.hid (fun W u v (hu : OwnB W w.heap.size u (formF x)) (hv : OwnB W w.heap.size v (formF y)) => (show Calls Try.prog 20 #[u, v] W fun e w'' => ∃ r, e = .returned r ∧ Below W.heap.size W w'' ∧ r = .bool (sameF x y) from by
      obtain ⟨A1, c1, rfl, _, _, r1⟩ := hu.rd
      obtain ⟨A2, c2, rfl, _, _, r2⟩ := hv.rd
      refine (same_c _ _ A1 A2 c1 c2 (formF x) (formF y) W (formF_lt HX.out) (formF_lt HY.out) r1 r2 (by have := formF_len HX.out; omega) (by have := formF_len HY.out; omega)).mono ?_
      intro e w' h
      obtain ⟨h1, h2⟩ := quietly_below h
      rw [form_same HX.out HY.out HKX.out.symm HKY.out.symm] at h1
      exact ⟨_, h1, h2, rfl⟩))
    generalize sameF x y = R at *
    refine wp_region_loud w2 [27, 29] (fun k u W => OwnB W w.heap.size u (apG x y k)) (by kernel_rfl) (by kernel_rfl) (by kernel_rfl) (by kernel_rfl) (fun _ _ _ _ h hb => OwnB.next h hb) (Below.refl _ _).drew ?_
    clear cd kd dx dy
    repeat (first
      | (refine wpLoud_loadL 43 (.tmp 2) rfl w.heap.size 0 (frV x (.slice A x.d.length ca)) _ (fun z => (HFX2.out.ext z).al) Try.underlying43 rfl HFX.out rfl rfl rfl _ (by simp only [Act.put, List.setIfInBounds_toArray, List.set_cons_succ, List.set_cons_zero]; rfl) ?_)
      | (refine wpLoud_loadL 43 (.tmp 3) rfl (w.heap.size + 1) 0 (frV y (.slice B y.d.length cb)) _ (fun z => (HFY2.out.ext z).al) Try.underlying43 rfl HFY.out rfl rfl rfl _ (by simp only [Act.put, List.setIfInBounds_toArray, List.set_cons_succ, List.set_cons_zero]; rfl) ?_)
      | (refine wpLoud_call 27 rfl [] tok 21 (fun g => #[.agg (frV x (.slice A x.d.length ca))]) rfl (fun _ _ h => by cases h) rfl (fun g w => by kernel_rfl) (fun g z hg => by
          refine (HPX.out _ (HW2.out.trans (z.bel.mono HW2.out.size))).mono ?_
          rintro e w' ⟨u, rfl, ho, hb⟩
          exact ⟨u, rfl, hb, ho.base (Nat.le_trans HW2.out.size z.bel.size)⟩) _ (by simp only [Act.put, List.setIfInBounds_toArray, List.set_cons_succ, List.set_cons_zero]; rfl) ?_)
      | (refine wpLoud_call 29 rfl [] tok 21 (fun g => #[.agg (frV y (.slice B y.d.length cb))]) rfl (fun _ _ h => by cases h) rfl (fun g w => by kernel_rfl) (fun g z hg => by
          refine (HPY.out _ (HW2.out.trans (z.bel.mono HW2.out.size))).mono ?_
          rintro e w' ⟨u, rfl, ho, hb⟩
          exact ⟨u, rfl, hb, ho.base (Nat.le_trans HW2.out.size z.bel.size)⟩) _ (by simp only [Act.put, List.setIfInBounds_toArray, List.set_cons_succ, List.set_cons_zero]; rfl) ?_)
      | (refine wpLoud_call 30 rfl [27, 29] _ 20 (fun g => #[g 27, g 29]) rfl (fun _ _ h => by cases h) rfl (fun g w => by kernel_rfl) (fun g z hg => HSM.out _ _ _ (hg 27 (by simp)) (hg 29 (by simp))) _ (by simp only [Act.put, List.setIfInBounds_toArray, List.set_cons_succ, List.set_cons_zero]; rfl) ?_)
      | (refine wpLoud_call 33 rfl [] (.bool R) 17 (fun g => #[.agg (frV x (.slice A x.d.length ca)), .agg (frV y (.slice B y.d.length cb))]) rfl (fun _ _ h => by cases h) rfl (fun g w => by kernel_rfl) (fun g z hg => (HRS.out _ (HW2.out.trans (z.bel.mono HW2.out.size))).mono fun e w' h => ⟨_, h.1, h.2, rfl⟩) _ (by simp only [Act.put, List.setIfInBounds_toArray, List.set_cons_succ, List.set_cons_zero]; rfl) ?_)
      | (refine wpLoud_call 36 rfl [] (.bool true) 13 (fun g => #[]) rfl (fun _ _ h => by cases h) rfl (fun g w => by kernel_rfl) (fun g z hg => (awake21_c _).mono fun e w' h => ⟨_, h.1, h.2, rfl⟩) _ (by simp only [Act.put, List.setIfInBounds_toArray, List.set_cons_succ, List.set_cons_zero]; rfl) ?_)
      | (refine wpLoud_plain rfl rfl rfl ?_; intro K hK; go_big_quiet_op; go_big_quiet_on))
    refine wpLoud_end [] rfl ?_
    intro g z hg
    have HBY := Lib.hid z.bel
    generalize z.wd = Y at *
    simp only [fill, Act.put, List.setIfInBounds_toArray, List.set_cons_succ, List.set_cons_zero]
    go_wp2_with fail
    go_ret
    exact ⟨rfl, HW2.out.trans (HBY.out.mono HW2.out.size)⟩
  all_goals
    go_wp2_with (first
      | (refine wpList_loadL 43 (.tmp 2) rfl w.heap.size 0 (frV x (.slice A x.d.length ca)) _ HF.out.al Try.underlying43 rfl HFX.out rfl rfl ?_)
      | (refine wpList_loadL 43 (.tmp 3) rfl (w.heap.size + 1) 0 (frV y (.slice B y.d.length cb)) _ (HG.out.next HB1.out).al Try.underlying43 rfl HFY.out rfl rfl ?_)
      | (go_at_call 19; (with_reducible refine (HCX.out _).mono ?_); rintro e w1 ⟨rfl, hb⟩; have HB1 := Lib.hid hb; clear hb)
      | (go_at_call 19; (with_reducible refine (HCY.out _).mono ?_); rintro e w2 ⟨rfl, hb⟩; have HB2 := Lib.hid hb; clear hb)
      | (go_at_call 13; ((with_reducible refine (awake21_c _).mono ?_); rintro e w3 ⟨rfl, hb3⟩)))
    go_ret
    first
      | exact ⟨rfl, HB.out.trans (((HB1.out.trans (HB2.out.mono HB1.out.size)).trans (hb3.mono (Nat.le_trans HB1.out.size HB2.out.size))).mono HB.out.size)⟩
      | exact ⟨rfl, HB.out.trans ((HB1.out.trans (hb3.mono HB1.out.size)).mono HB.out.size)⟩
      | exact ⟨rfl, HB.out.trans (hb3.mono HB.out.size)⟩
end Go.Proofs.Ytcmahmlcoodfoaa
