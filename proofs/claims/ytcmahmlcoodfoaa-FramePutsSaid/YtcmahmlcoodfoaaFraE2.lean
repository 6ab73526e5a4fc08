/- Contract: Same of frames, a part. -/
import Derived.Test.YtcmahmlcoodfoaaFraE0
namespace Go.Proofs.Ytcmahmlcoodfoaa
open Go.RowKit Go.Great
set_option linter.unusedVariables false
set_option maxRecDepth 100000 in
set_option maxHeartbeats 20000000 in
theorem same21_2 (x y : Fr) (vx vy : Value) (w : World) (hx : Fin w x vx) (hy : Fin w y vy) (hP : (((x.k == y.k) && (x.f == y.f) && (x.t == y.t) && (x.i == y.i)) = true ∧ ((x.b == y.b) && (x.o == y.o)) = false)) :
    Calls Try.prog 28 #[.agg (frV x vx), .agg (frV y vy)] w fun e w' => e = .returned (.bool (sameF x y)) ∧ Below w.heap.size w w' := by
  obtain ⟨A, ca, rfl, hca, hra⟩ := hx.bd
  obtain ⟨B, cb, rfl, hcb, hrb⟩ := hy.bd
  have HPX := Lib.hid (len_p x.p hx.ok.p)
  have HPY := Lib.hid (len_p y.p hy.ok.p)
  have HNX := Lib.hid (len_n x.n hx.ok.n)
  have HNY := Lib.hid (len_n y.n hy.ok.n)
  have qp := eq_p x.p y.p hx.ok.p hy.ok.p hx.ok.ps hy.ok.ps
  have qn := eq_n x.n y.n hx.ok.n hy.ok.n hx.ok.ns hy.ok.ns
  have q1 := beq_int x.k y.k
  have q2 := beq_int x.f y.f
  have q3 := beq_int x.t y.t
  have q4 := beq_int x.i y.i
  have q5 := beq_int x.b y.b
  have q6 := beq_int x.o y.o
  have hS := sameF_parts hx.ok hy.ok
  have hbody : ∀ W, Rd W w.heap.size A (byt x.d) → Rd W w.heap.size B (byt y.d) → Calls Try.prog 44 #[.slice A x.d.length ca, .slice B y.d.length cb] W fun e w'' => e = .returned (.bool (x.d == y.d)) ∧ Below W.heap.size W w'' := fun W h1 h2 => by
    refine (equal_c _ _ A B ca cb x.d y.d W hx.ok.ds hy.ok.ds h1 h2 (by have := hx.len; omega) (by have := hy.len; omega)).mono ?_
    intro e w' h
    exact quietly_below h
  have HX := Lib.hid hx.ok
  have HY := Lib.hid hy.ok
  generalize sameF x y = R at *
  generalize (x.k == y.k) = e1 at *
  generalize (x.f == y.f) = e2 at *
  generalize (x.t == y.t) = e3 at *
  generalize (x.i == y.i) = e4 at *
  generalize (x.b == y.b) = e5 at *
  generalize (x.o == y.o) = e6 at *
  generalize (x.p == y.p) = e7 at *
  generalize (x.n == y.n) = e8 at *
  generalize (x.d == y.d) = e9 at *
  have HBD := Lib.hid hbody
  have HRA := Lib.hid hra
  have HRB := Lib.hid hrb
  have hcase : (e1 = true ∧ e2 = true ∧ e3 = true ∧ e4 = true ∧ e5 = false) ∨ (e1 = true ∧ e2 = true ∧ e3 = true ∧ e4 = true ∧ e5 = true ∧ e6 = false) := by
    revert hP; cases e1 <;> cases e2 <;> cases e3 <;> cases e4 <;> cases e5 <;> cases e6 <;> cases e7 <;> cases e8 <;> simp
  clear hbody hx hy hra hrb hP
  rcases hcase with ⟨rfl, rfl, rfl, rfl, rfl⟩ | ⟨rfl, rfl, rfl, rfl, rfl, rfl⟩
  all_goals
    simp only [Bool.false_and, Bool.true_and, Bool.and_false] at hS
    subst hS
    go_enter Try.func28, Try.ntmps28
    go_upto_region 1 with (first
      | (refine wpList_boxTo rfl 43 (.tmp 0) rfl (some 2) rfl w.heap.size rfl (frV x (.slice A x.d.length ca)) rfl ?_)
      | (refine wpList_boxTo rfl 43 (.tmp 1) rfl (some 3) rfl (w.heap.size + 1) (by simp) (frV y (.slice B y.d.length cb)) rfl ?_))
    obtain ⟨Z, hZ⟩ : ∃ Z, Z = (w.alloc (.cells (frV x (.slice A x.d.length ca)) 43)).alloc (.cells (frV y (.slice B y.d.length cb)) 43) := ⟨_, rfl⟩
    have hfx : FrAt Z w.heap.size x (.slice A x.d.length ca) := FrAt.of HX.out (by rw [hZ]; exact (Blk.new w _ _).alloc _)
    have hfy : FrAt Z (w.heap.size + 1) y (.slice B y.d.length cb) := FrAt.of HY.out (by
      rw [hZ]
      have h := Blk.new (w.alloc (.cells (frV x (.slice A x.d.length ca)) 43)) 43 (frV y (.slice B y.d.length cb))
      rw [show (w.alloc (.cells (frV x (.slice A x.d.length ca)) 43)).heap.size = w.heap.size + 1 by simp] at h
      exact h)
    have hb : Below w.heap.size w Z := by rw [hZ]; exact ((Below.refl _ _).alloc (Nat.le_refl _) _).alloc (le_alloc (Nat.le_refl _)) _
    rw [← hZ]
    clear hZ
    have HF := Lib.hid hfx
    have HG := Lib.hid hfy
    have HB := Lib.hid hb
    have c0 := hfx.c0
    have c1 := hfx.c1
    have c2 := hfx.c2
    have c3 := hfx.c3
    have c4 := hfx.c4
    have c5 := hfx.c5
    have cd := hfx.cd
    have k0 := hfy.c0
    have k1 := hfy.c1
    have k2 := hfy.c2
    have k3 := hfy.c3
    have k4 := hfy.c4
    have k5 := hfy.c5
    have kd := hfy.cd
    clear hfx hfy hb
    go_wp2_with (first
      | (refine wpList_loadM 39 (.tmp 46) rfl w.heap.size 6 x.p _ HF.out.cp Try.underlying39 rfl HPX.out rfl rfl ?_)
      | (refine wpList_loadM 39 (.tmp 48) rfl (w.heap.size + 1) 6 y.p _ HG.out.cp Try.underlying39 rfl HPY.out rfl rfl ?_)
      | (refine wpList_loadM 41 (.tmp 53) rfl w.heap.size 38 x.n _ HF.out.cn Try.underlying41 rfl HNX.out rfl rfl ?_)
      | (refine wpList_loadM 41 (.tmp 55) rfl (w.heap.size + 1) 38 y.n _ HG.out.cn Try.underlying41 rfl HNY.out rfl rfl ?_)
      | (go_at_call 44; (refine (HBD.out _ (HRA.out.below HB.out) (HRB.out.below HB.out)).mono ?_); rintro e w5 ⟨rfl, hb⟩; have HB5 := Lib.hid hb; clear hb))
    go_ret
    first
      | exact ⟨rfl, HB.out.trans (HB5.out.mono HB.out.size)⟩
      | exact ⟨rfl, HB.out⟩
end Go.Proofs.Ytcmahmlcoodfoaa
