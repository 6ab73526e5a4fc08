/- Contract: the document's Same of frames. -/
import Derived.Test.YtcmahmlcoodfoaaFra4
namespace Go.Proofs.Ytcmahmlcoodfoaa
open Go.RowKit Go.Great
set_option linter.unusedVariables false
theorem vb_list (l : List Nat) : (vb l).toList = byt l := rfl
theorem beq_int (a b : Nat) : ((a : Int) == (b : Int)) = (a == b) := by rw [Bool.eq_iff_iff]; simp only [beq_iff_eq]; omega
/-- a frame handed in: its cells, its body's bytes -/
structure Fin (w : World) (x : Fr) (v : Value) : Prop where
  ok : FrOk x
  len : x.d.length ≤ 100000
  bd : ∃ A c, v = .slice A x.d.length c ∧ x.d.length ≤ c ∧ Rd w w.heap.size A (byt x.d)
theorem Fin.next {w w' : World} {x : Fr} {v : Value} (h : Fin w x v) (hb : Below w.heap.size w w') : Fin w' x v := by
  obtain ⟨A, c, e, h1, h2⟩ := h.bd
  exact ⟨h.ok, h.len, A, c, e, h1, (h2.below hb).more hb.size⟩
theorem pick_and (a b : Bool) : (if a then b else false) = (a && b) := by cases a <;> rfl
def sameG (x y : Fr) : Tmp → List Nat := fun k => if k = 6 then hdF x else hdF y
set_option maxRecDepth 100000 in
set_option maxHeartbeats 4000000 in
theorem rsame_c (x y : Fr) (vx vy : Value) (w : World) (hx : Fin w x vx) (hy : Fin w y vy) :
    Calls Try.prog 17 #[.agg (frV x vx), .agg (frV y vy)] w fun e w' => e = .returned (.bool (sameF x y)) ∧ Below w.heap.size w w' := by
  obtain ⟨A, ca, rfl, hca, hra⟩ := hx.bd
  obtain ⟨B, cb, rfl, hcb, hrb⟩ := hy.bd
  have HFX := Lib.hid (len_f hx.ok (.slice A x.d.length ca))
  have HFY := Lib.hid (len_f hy.ok (.slice B y.d.length cb))
  have HHX := Lib.hid (fun W => rhead_c x (.slice A x.d.length ca) W hx.ok)
  have HHY := Lib.hid (fun W => rhead_c y (.slice B y.d.length cb) W hy.ok)
  have HPX := Lib.hid (len_p x.p hx.ok.p)
  have HPY := Lib.hid (len_p y.p hy.ok.p)
  have HNX := Lib.hid (len_n x.n hx.ok.n)
  have HNY := Lib.hid (len_n y.n hy.ok.n)
  have qp := eq_p x.p y.p hx.ok.p hy.ok.p hx.ok.ps hy.ok.ps
  have qn := eq_n x.n y.n hx.ok.n hy.ok.n hx.ok.ns hy.ok.ns
  have qb := beq_int x.b y.b
  have qo := beq_int x.o y.o
  have hS : sameF x y = (hdF x == hdF y && x.b == y.b && x.o == y.o && x.p == y.p && x.n == y.n && x.d == y.d) := rfl
  have HLX := Lib.hid (hdF_len x)
  have HLY := Lib.hid (hdF_len y)
  have HTX := Lib.hid (hdF_lt hx.ok)
  have HTY := Lib.hid (hdF_lt hy.ok)
  have hsame : ∀ W u v (hu : OwnB W w.heap.size u (hdF x)) (hv : OwnB W w.heap.size v (hdF y)), Calls Try.prog 20 #[u, v] W fun e w'' => ∃ r, e = .returned r ∧ Below W.heap.size W w'' ∧ r = .bool (hdF x == hdF y) := fun W u v hu hv => by
    obtain ⟨A1, c1, rfl, _, _, r1⟩ := hu.rd
    obtain ⟨A2, c2, rfl, _, _, r2⟩ := hv.rd
    refine (same_c _ _ A1 A2 c1 c2 (hdF x) (hdF y) W HTX.out HTY.out r1 r2 (by rw [HLX.out]; decide) (by rw [HLY.out]; decide)).mono ?_
    intro e w' h
    obtain ⟨h1, h2⟩ := quietly_below h
    exact ⟨_, h1, h2, rfl⟩
  have hbody : ∀ W, Rd W w.heap.size A (byt x.d) → Rd W w.heap.size B (byt y.d) → Calls Try.prog 20 #[.slice A x.d.length ca, .slice B y.d.length cb] W fun e w'' => ∃ r, e = .returned r ∧ Below W.heap.size W w'' ∧ r = .bool (x.d == y.d) := fun W h1 h2 => by
    refine (same_c _ _ A B ca cb x.d y.d W hx.ok.ds hy.ok.ds h1 h2 (by have := hx.len; omega) (by have := hy.len; omega)).mono ?_
    intro e w' h
    obtain ⟨h1, h2⟩ := quietly_below h
    exact ⟨_, h1, h2, rfl⟩
  generalize sameF x y = R at *
  generalize (hdF x == hdF y) = e1 at *
  generalize (x.b == y.b) = e2 at *
  generalize (x.o == y.o) = e3 at *
  generalize (x.p == y.p) = e4 at *
  generalize (x.n == y.n) = e5 at *
  generalize (x.d == y.d) = e6 at *
  have HSM := Lib.hid hsame
  have HBD := Lib.hid hbody
  have HX := Lib.hid hx.ok
  have HY := Lib.hid hy.ok
  have hcase : e1 = false ∨ (e1 = true ∧ e2 = false) ∨ (e1 = true ∧ e2 = true ∧ e3 = false) ∨ (e1 = true ∧ e2 = true ∧ e3 = true ∧ e4 = false) ∨ (e1 = true ∧ e2 = true ∧ e3 = true ∧ e4 = true ∧ e5 = false) ∨ (e1 = true ∧ e2 = true ∧ e3 = true ∧ e4 = true ∧ e5 = true) := by
    cases e1 <;> cases e2 <;> cases e3 <;> cases e4 <;> cases e5 <;> simp
  clear hsame hbody hx hy
  rcases hcase with rfl | ⟨rfl, rfl⟩ | ⟨rfl, rfl, rfl⟩ | ⟨rfl, rfl, rfl, rfl⟩ | ⟨rfl, rfl, rfl, rfl, rfl⟩ | ⟨rfl, rfl, rfl, rfl, rfl⟩
  all_goals
    simp only [Bool.false_and, Bool.true_and, Bool.and_false] at hS
    subst hS
    go_enter Try.func17, Try.ntmps17
    go_upto_region 1 with (first
      | (refine wpList_boxTo rfl 43 (.tmp 0) rfl (some 2) rfl w.heap.size rfl (frV x (.slice A x.d.length ca)) rfl ?_)
      | (refine wpList_boxTo rfl 43 (.tmp 1) rfl (some 3) rfl (w.heap.size + 1) (by simp) (frV y (.slice B y.d.length cb)) rfl ?_))
    obtain ⟨Z, hZ⟩ : ∃ Z, Z = (w.alloc (.cells (frV x (.slice A x.d.length ca)) 43)).alloc (.cells (frV y (.slice B y.d.length cb)) 43) := ⟨_, rfl⟩
    have hfx : FrAt Z w.heap.size x (.slice A x.d.length ca) := FrAt.of HX.out (by rw [hZ]; exact (Blk.new w _ _).alloc _)
    have hfy : FrAt Z (w.heap.size + 1) y (.slice B y.d.length cb) := FrAt.of HY.out (by
      rw [hZ]
      have h := Blk.new (w.alloc (.cells (frV x (.slice A x.d.length ca)) 43)) 43 (frV y (.slice B y.d.length cb))
      rw [show (w.alloc (.cells (frV x (.slice A x.d.length ca)) 43)).heap.size = w.heap.size + 1 by simp] at h
      exact h)
    have hb : Below w.heap.size w Z := by rw [hZ]; exact ((Below.refl _ _).alloc (Nat.le_refl _) _).alloc (le_alloc (Nat.le_refl _)) _
    rw [← hZ]
    clear hZ
    have HF := Lib.hid hfx
    have HG := Lib.hid hfy
    have HB := Lib.hid hb
    have c4 := cell_ext hfx.c4
    have c5 := cell_ext hfx.c5
    have cd := cell_ext hfx.cd
    have k4 := cell_ext hfy.c4
    have k5 := cell_ext hfy.c5
    have kd := cell_ext hfy.cd
    clear hfx hfy hb
    refine wp_region_loud Z [6, 8] (fun k u W => OwnB W Z.heap.size u (sameG x y k)) (by kernel_rfl) (by kernel_rfl) (by kernel_rfl) (by kernel_rfl) (fun _ _ _ _ h hb => OwnB.next h hb) (Below.refl _ _).drew ?_
    repeat (first
      | (refine wpLoud_skip rfl _ (by simp only [Act.put, List.setIfInBounds_toArray, List.set_cons_succ, List.set_cons_zero]; rfl) ?_)
      | (refine wpLoud_loadB rfl rfl 43 (.tmp 2) rfl w.heap.size 0 rfl (frV x (.slice A x.d.length ca)) _ (fun z => (HF.out.ext z).al) Try.underlying43 rfl HFX.out _ (by simp only [Act.put, List.setIfInBounds_toArray, List.set_cons_succ, List.set_cons_zero]; rfl) ?_)
      | (refine wpLoud_loadB rfl rfl 43 (.tmp 3) rfl (w.heap.size + 1) 0 rfl (frV y (.slice B y.d.length cb)) _ (fun z => (HG.out.ext z).al) Try.underlying43 rfl HFY.out _ (by simp only [Act.put, List.setIfInBounds_toArray, List.set_cons_succ, List.set_cons_zero]; rfl) ?_)
      | (refine wpLoud_loadB rfl rfl 39 (.tmp 25) rfl w.heap.size 6 rfl (vb x.p) _ (fun z => (HF.out.ext z).cp) Try.underlying39 rfl HPX.out _ (by simp only [Act.put, List.setIfInBounds_toArray, List.set_cons_succ, List.set_cons_zero]; rfl) ?_)
      | (refine wpLoud_loadB rfl rfl 39 (.tmp 27) rfl (w.heap.size + 1) 6 rfl (vb y.p) _ (fun z => (HG.out.ext z).cp) Try.underlying39 rfl HPY.out _ (by simp only [Act.put, List.setIfInBounds_toArray, List.set_cons_succ, List.set_cons_zero]; rfl) ?_)
      | (refine wpLoud_loadB rfl rfl 41 (.tmp 32) rfl w.heap.size 38 rfl (vb x.n) _ (fun z => (HF.out.ext z).cn) Try.underlying41 rfl HNX.out _ (by simp only [Act.put, List.setIfInBounds_toArray, List.set_cons_succ, List.set_cons_zero]; rfl) ?_)
      | (refine wpLoud_loadB rfl rfl 41 (.tmp 34) rfl (w.heap.size + 1) 38 rfl (vb y.n) _ (fun z => (HG.out.ext z).cn) Try.underlying41 rfl HNY.out _ (by simp only [Act.put, List.setIfInBounds_toArray, List.set_cons_succ, List.set_cons_zero]; rfl) ?_)
      | (refine wpLoud_call 6 rfl [] tok 27 (fun g => #[.agg (frV x (.slice A x.d.length ca))]) rfl (fun _ _ h => by cases h) rfl (fun g w => by kernel_rfl) (fun g z hg => by
          refine (HHX.out _).mono ?_
          rintro e w' ⟨u, rfl, ho, hb⟩
          exact ⟨u, rfl, hb, ho.base z.2.size⟩) _ (by simp only [Act.put, List.setIfInBounds_toArray, List.set_cons_succ, List.set_cons_zero]; rfl) ?_)
      | (refine wpLoud_call 8 rfl [] tok 27 (fun g => #[.agg (frV y (.slice B y.d.length cb))]) rfl (fun _ _ h => by cases h) rfl (fun g w => by kernel_rfl) (fun g z hg => by
          refine (HHY.out _).mono ?_
          rintro e w' ⟨u, rfl, ho, hb⟩
          exact ⟨u, rfl, hb, ho.base z.2.size⟩) _ (by simp only [Act.put, List.setIfInBounds_toArray, List.set_cons_succ, List.set_cons_zero]; rfl) ?_)
      | (refine wpLoud_call 9 rfl [6, 8] _ 20 (fun g => #[g 6, g 8]) rfl (fun _ _ h => by cases h) rfl (fun g w => by kernel_rfl) (fun g z hg => HSM.out _ _ _ ((hg 6 (by simp)).base HB.out.size) ((hg 8 (by simp)).base HB.out.size)) _ (by simp only [Act.put, List.setIfInBounds_toArray, List.set_cons_succ, List.set_cons_zero]; rfl) ?_)
      | (refine wpLoud_call 43 rfl [] _ 20 (fun g => #[.slice A x.d.length ca, .slice B y.d.length cb]) rfl (fun _ _ h => by cases h) rfl (fun g w => by kernel_rfl) (fun g z hg => HBD.out _ (hra.below (HB.out.trans (z.bel.mono HB.out.size))) (hrb.below (HB.out.trans (z.bel.mono HB.out.size)))) _ (by simp only [Act.put, List.setIfInBounds_toArray, List.set_cons_succ, List.set_cons_zero]; rfl) ?_)
      | (refine wpLoud_plain rfl rfl rfl ?_; intro K hK; go_big_quiet_op; go_big_quiet_on))
    refine wpLoud_end [] rfl ?_
    intro g z hg
    have HBY := Lib.hid z.bel
    generalize z.wd = Y at *
    simp only [fill, Act.put, List.setIfInBounds_toArray, List.set_cons_succ, List.set_cons_zero]
    go_wp2_with fail
    go_ret
    exact ⟨rfl, HB.out.trans (HBY.out.mono HB.out.size)⟩
end Go.Proofs.Ytcmahmlcoodfoaa
