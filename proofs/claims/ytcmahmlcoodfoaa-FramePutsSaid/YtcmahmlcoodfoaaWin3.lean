import Derived.Test.YtcmahmlcoodfoaaWin2
namespace Go.Proofs.Ytcmahmlcoodfoaa
open Go.RowKit
def wz : Wst := ⟨false, 0, 0⟩
set_option maxRecDepth 100000 in
set_option maxHeartbeats 1000000 in
theorem awake21_c (w : World) : Calls Try.prog 13 #[] w (Yes w) := by
  have hb0 : Blk (w.alloc (.cells (wcells wz) 26)) w.heap.size 26 (wcells wz) := Blk.new _ _ _
  have ho0 : Only (fun k => k = w.heap.size) w (w.alloc (.cells (wcells wz) 26)) := (Only.refl _ _).alloc _
  go_enter Try.func13, Try.ntmps13
  go_wp2_with fail
  refine (take_c w.heap.size wz 5 _ hb0 (by decide) (by decide) (by decide)).mono ?_
  rintro e w1 ⟨rfl, hb1, ho1⟩
  go_wp2_with fail
  refine (take_c w.heap.size (wnext wz 5) 3 _ hb1 (by decide) (by decide) (by decide)).mono ?_
  rintro e w2 ⟨rfl, hb2, ho2⟩
  go_wp2_with fail
  refine (take_c w.heap.size (wnext (wnext wz 5) 3) 5 _ hb2 (by decide) (by decide) (by decide)).mono ?_
  rintro e w3 ⟨rfl, hb3, ho3⟩
  go_wp2_with fail
  refine (take_c w.heap.size (wnext (wnext (wnext wz 5) 3) 5) 70 _ hb3 (by decide) (by decide) (by decide)).mono ?_
  rintro e w4 ⟨rfl, hb4, ho4⟩
  go_wp2_with fail
  refine (take_c w.heap.size (wnext (wnext (wnext (wnext wz 5) 3) 5) 70) 6 _ hb4 (by decide) (by decide) (by decide)).mono ?_
  rintro e w5 ⟨rfl, hb5, ho5⟩
  have e1 : wgot wz 5 = true := by decide
  have e2 : wgot (wnext wz 5) 3 = true := by decide
  have e3 : wgot (wnext (wnext wz 5) 3) 5 = false := by decide
  have e4 : wgot (wnext (wnext (wnext wz 5) 3) 5) 70 = true := by decide
  have e5 : wgot (wnext (wnext (wnext (wnext wz 5) 3) 5) 70) 6 = false := by decide
  have ho := ((((ho0.trans ho1).trans ho2).trans ho3).trans ho4).trans ho5
  clear ho0 ho1 ho2 ho3 ho4 ho5 hb0 hb1 hb2 hb3 hb4 hb5
  have HO := Lib.hid (ho.below (B := w.heap.size) (fun i hi => by omega) (Nat.le_refl _))
  clear ho
  rw [e1, e2, e3, e4, e5]
  go_wp2
  go_ret
  exact ⟨rfl, HO.out⟩
end Go.Proofs.Ytcmahmlcoodfoaa
