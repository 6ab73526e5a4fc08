/- HkdfExpands: the walk. -/
import Derived.Test.YthlmlmkabjppeaaDoorExp2
namespace Go.Proofs.YthlmlmkabjppeaaDoor
open Go.RowKit
set_option linter.unusedVariables false
set_option linter.unusedSimpArgs false
set_option maxRecDepth 100000 in
set_option maxHeartbeats 8000000 in
theorem hkdfExpands_long (A D : Option Addr) (ca cb : Nat) (k m : List Nat) (x y : Int) (w : World) (hkl : ∀ c ∈ k, c < 256) (hml : ∀ c ∈ m, c < 256) (hk : Rd w w.heap.size A (byt k)) (hm : Rd w w.heap.size D (byt m)) (hR : RoundsAt w) (h : 200 < k.length ∨ (k.length ≤ 200 ∧ 200 < m.length)) :
    Calls Tryd.prog 5 #[.slice A k.length ca, .slice D m.length cb, .int .i64 x, .int .i64 y] w fun e w' => e = .returned (.bool true) ∧ Below w.heap.size w w' := by
  rcases h with h | ⟨h1, h⟩
  · have q1 : (200 : Int) < (k.length : Int) := by omega
    have HRO := Lib.hid hR
    go_enter Tryd.func5, Tryd.ntmps5
    go_wp2_with (go_at_call 11; (refine (awake03_c w HRO.out).mono ?_); rintro e w1 ⟨rfl, hb⟩; have HB1 := Lib.hid hb; clear hb)
    go_ret
    exact ⟨rfl, HB1.out⟩
  · have q1 : ¬ (200 : Int) < (k.length : Int) := by omega
    have q2 : (200 : Int) < (m.length : Int) := by omega
    have HRO := Lib.hid hR
    go_enter Tryd.func5, Tryd.ntmps5
    go_wp2_with (go_at_call 11; (refine (awake03_c w HRO.out).mono ?_); rintro e w1 ⟨rfl, hb⟩; have HB1 := Lib.hid hb; clear hb)
    go_ret
    exact ⟨rfl, HB1.out⟩
set_option maxRecDepth 100000 in
set_option maxHeartbeats 8000000 in
theorem hkdfExpands_mid (A D : Option Addr) (ca cb : Nat) (k m : List Nat) (x y : Int) (w : World) (hkl : ∀ c ∈ k, c < 256) (hml : ∀ c ∈ m, c < 256) (hk : Rd w w.heap.size A (byt k)) (hm : Rd w w.heap.size D (byt m)) (hR : RoundsAt w) (h1 : k.length ≤ 200) (h2 : m.length ≤ 200) (h : (200 < x ∧ x ≤ 8160) ∨ ((x ≤ 200 ∨ 8160 < x) ∧ 200 < y ∧ y ≤ 8160)) :
    Calls Tryd.prog 5 #[.slice A k.length ca, .slice D m.length cb, .int .i64 x, .int .i64 y] w fun e w' => e = .returned (.bool true) ∧ Below w.heap.size w w' := by
  have q1 : ¬ (200 : Int) < (k.length : Int) := by omega
  have q2 : ¬ (200 : Int) < (m.length : Int) := by omega
  rcases h with ⟨h3, h4⟩ | ⟨h3 | h3, h4, h5⟩
  · skip
    have HRO := Lib.hid hR
    go_enter Tryd.func5, Tryd.ntmps5
    go_wp2_with (go_at_call 11; (refine (awake03_c w HRO.out).mono ?_); rintro e w1 ⟨rfl, hb⟩; have HB1 := Lib.hid hb; clear hb)
    go_ret
    exact ⟨rfl, HB1.out⟩
  · have q3 : ¬ 200 < x := by omega
    have HRO := Lib.hid hR
    go_enter Tryd.func5, Tryd.ntmps5
    go_wp2_with (go_at_call 11; (refine (awake03_c w HRO.out).mono ?_); rintro e w1 ⟨rfl, hb⟩; have HB1 := Lib.hid hb; clear hb)
    go_ret
    exact ⟨rfl, HB1.out⟩
  · have q3 : 200 < x := by omega
    have q4 : ¬ x ≤ 8160 := by omega
    have HRO := Lib.hid hR
    go_enter Tryd.func5, Tryd.ntmps5
    go_wp2_with (go_at_call 11; (refine (awake03_c w HRO.out).mono ?_); rintro e w1 ⟨rfl, hb⟩; have HB1 := Lib.hid hb; clear hb)
    go_ret
    exact ⟨rfl, HB1.out⟩
set_option maxRecDepth 100000 in
set_option maxHeartbeats 8000000 in
theorem he_neg_neg (A D : Option Addr) (ca cb : Nat) (k m : List Nat) (x y : Int) (w : World) (hkl : ∀ c ∈ k, c < 256) (hml : ∀ c ∈ m, c < 256) (hk : Rd w w.heap.size A (byt k)) (hm : Rd w w.heap.size D (byt m)) (hR : RoundsAt w) (h1 : k.length ≤ 200) (h2 : m.length ≤ 200) (hx : x < 0) (hy : y < 0) :
    Calls Tryd.prog 5 #[.slice A k.length ca, .slice D m.length cb, .int .i64 x, .int .i64 y] w fun e w' => e = .returned (.bool true) ∧ Below w.heap.size w w' := by
  have q1 : ¬ (200 : Int) < (k.length : Int) := by omega
  have q2 : ¬ (200 : Int) < (m.length : Int) := by omega
  have HK := Lib.hid hk
  have HM := Lib.hid hm
  have HKL := Lib.hid hkl
  have HML := Lib.hid hml
  have HRO := Lib.hid hR
  clear hk hm hkl hml hR
  have a0 : ¬ 200 < x := by omega
  have a1 : x < 0 := by omega
  have b0 : ¬ 200 < y := by omega
  have b1 : y < 0 := by omega
  have HY := Lib.hid (fun W => expandBad_c A D ca cb k.length m.length y W (by omega))
  have HB2 := Lib.hid (Below.refl w.heap.size w)
  have HX := Lib.hid (fun W => expandBad_c A D ca cb k.length m.length x W (by omega))
  clear hx hy
  go_enter Tryd.func5, Tryd.ntmps5
  go_upto_region 4 with (go_at_call 24; (refine (HX.out _).mono ?_); rintro e w1 ⟨rfl, rfl⟩)
  go_upto_region 5 with (go_at_call 24; (with_reducible refine (HY.out _).mono ?_); rintro e w2 ⟨rfl, rfl⟩)
  have HAW := Lib.hid (awake03_c w (HRO.out.next HB2.out))
  go_wp2_with (go_at_call 11; (refine HAW.out.mono ?_); rintro e w3 ⟨rfl, hb⟩; have HB3 := Lib.hid (HB2.out.trans (hb.mono HB2.out.size)); clear hb)
  go_ret
  exact ⟨rfl, HB3.out⟩
set_option maxRecDepth 100000 in
set_option maxHeartbeats 8000000 in
theorem he_neg_hi (A D : Option Addr) (ca cb : Nat) (k m : List Nat) (x y : Int) (w : World) (hkl : ∀ c ∈ k, c < 256) (hml : ∀ c ∈ m, c < 256) (hk : Rd w w.heap.size A (byt k)) (hm : Rd w w.heap.size D (byt m)) (hR : RoundsAt w) (h1 : k.length ≤ 200) (h2 : m.length ≤ 200) (hx : x < 0) (hy : 8160 < y) :
    Calls Tryd.prog 5 #[.slice A k.length ca, .slice D m.length cb, .int .i64 x, .int .i64 y] w fun e w' => e = .returned (.bool true) ∧ Below w.heap.size w w' := by
  have q1 : ¬ (200 : Int) < (k.length : Int) := by omega
  have q2 : ¬ (200 : Int) < (m.length : Int) := by omega
  have HK := Lib.hid hk
  have HM := Lib.hid hm
  have HKL := Lib.hid hkl
  have HML := Lib.hid hml
  have HRO := Lib.hid hR
  clear hk hm hkl hml hR
  have a0 : ¬ 200 < x := by omega
  have a1 : x < 0 := by omega
  have b0 : 200 < y := by omega
  have b1 : ¬ y ≤ 8160 := by omega
  have HY := Lib.hid (fun W => expandBad_c A D ca cb k.length m.length y W (by omega))
  have HB2 := Lib.hid (Below.refl w.heap.size w)
  have HX := Lib.hid (fun W => expandBad_c A D ca cb k.length m.length x W (by omega))
  clear hx hy
  go_enter Tryd.func5, Tryd.ntmps5
  go_upto_region 4 with (go_at_call 24; (refine (HX.out _).mono ?_); rintro e w1 ⟨rfl, rfl⟩)
  go_upto_region 5 with (go_at_call 24; (with_reducible refine (HY.out _).mono ?_); rintro e w2 ⟨rfl, rfl⟩)
  have HAW := Lib.hid (awake03_c w (HRO.out.next HB2.out))
  go_wp2_with (go_at_call 11; (refine HAW.out.mono ?_); rintro e w3 ⟨rfl, hb⟩; have HB3 := Lib.hid (HB2.out.trans (hb.mono HB2.out.size)); clear hb)
  go_ret
  exact ⟨rfl, HB3.out⟩
set_option maxRecDepth 100000 in
set_option maxHeartbeats 8000000 in
theorem he_neg_ok (A D : Option Addr) (ca cb : Nat) (k m : List Nat) (x y : Int) (w : World) (hkl : ∀ c ∈ k, c < 256) (hml : ∀ c ∈ m, c < 256) (hk : Rd w w.heap.size A (byt k)) (hm : Rd w w.heap.size D (byt m)) (hR : RoundsAt w) (h1 : k.length ≤ 200) (h2 : m.length ≤ 200) (hx : x < 0) (hy : 0 ≤ y ∧ y ≤ 200) :
    Calls Tryd.prog 5 #[.slice A k.length ca, .slice D m.length cb, .int .i64 x, .int .i64 y] w fun e w' => e = .returned (.bool true) ∧ Below w.heap.size w w' := by
  have q1 : ¬ (200 : Int) < (k.length : Int) := by omega
  have q2 : ¬ (200 : Int) < (m.length : Int) := by omega
  have HK := Lib.hid hk
  have HM := Lib.hid hm
  have HKL := Lib.hid hkl
  have HML := Lib.hid hml
  have HRO := Lib.hid hR
  clear hk hm hkl hml hR
  have a0 : ¬ 200 < x := by omega
  have a1 : x < 0 := by omega
  have b0 : ¬ 200 < y := by omega
  obtain ⟨yn, rfl⟩ := Int.eq_ofNat_of_zero_le hy.1
  have HY := Lib.hid (fun W (hb : Below w.heap.size w W) => expand_c w.heap.size w.heap.size A D ca cb k m yn W (HK.out.ext hb) (HM.out.ext hb) hb.size hb.size HKL.out HML.out (by omega) (by omega) (by omega) (HRO.out.next hb))
  have HX := Lib.hid (fun W => expandBad_c A D ca cb k.length m.length x W (by omega))
  clear hx hy
  go_enter Tryd.func5, Tryd.ntmps5
  go_upto_region 4 with (go_at_call 24; (refine (HX.out _).mono ?_); rintro e w1 ⟨rfl, rfl⟩)
  go_upto_region 5 with (go_at_call 24; (with_reducible refine (HY.out _ (Below.refl _ _)).mono ?_); rintro e w2 ⟨A3, rfl, hr, hb⟩; have HB2 := Lib.hid hb; clear hr hb)
  have HAW := Lib.hid (awake03_c w2 (HRO.out.next HB2.out))
  go_wp2_with (go_at_call 11; (refine HAW.out.mono ?_); rintro e w3 ⟨rfl, hb⟩; have HB3 := Lib.hid (HB2.out.trans (hb.mono HB2.out.size)); clear hb)
  go_ret
  exact ⟨rfl, HB3.out⟩
set_option maxRecDepth 100000 in
set_option maxHeartbeats 8000000 in
theorem he_hi_neg (A D : Option Addr) (ca cb : Nat) (k m : List Nat) (x y : Int) (w : World) (hkl : ∀ c ∈ k, c < 256) (hml : ∀ c ∈ m, c < 256) (hk : Rd w w.heap.size A (byt k)) (hm : Rd w w.heap.size D (byt m)) (hR : RoundsAt w) (h1 : k.length ≤ 200) (h2 : m.length ≤ 200) (hx : 8160 < x) (hy : y < 0) :
    Calls Tryd.prog 5 #[.slice A k.length ca, .slice D m.length cb, .int .i64 x, .int .i64 y] w fun e w' => e = .returned (.bool true) ∧ Below w.heap.size w w' := by
  have q1 : ¬ (200 : Int) < (k.length : Int) := by omega
  have q2 : ¬ (200 : Int) < (m.length : Int) := by omega
  have HK := Lib.hid hk
  have HM := Lib.hid hm
  have HKL := Lib.hid hkl
  have HML := Lib.hid hml
  have HRO := Lib.hid hR
  clear hk hm hkl hml hR
  have a0 : 200 < x := by omega
  have a1 : ¬ x ≤ 8160 := by omega
  have a2 : ¬ x < 0 := by omega
  have a3 : 8160 < x := by omega
  have b0 : ¬ 200 < y := by omega
  have b1 : y < 0 := by omega
  have HY := Lib.hid (fun W => expandBad_c A D ca cb k.length m.length y W (by omega))
  have HB2 := Lib.hid (Below.refl w.heap.size w)
  have HX := Lib.hid (fun W => expandBad_c A D ca cb k.length m.length x W (by omega))
  clear hx hy
  go_enter Tryd.func5, Tryd.ntmps5
  go_upto_region 4 with (go_at_call 24; (refine (HX.out _).mono ?_); rintro e w1 ⟨rfl, rfl⟩)
  go_upto_region 5 with (go_at_call 24; (with_reducible refine (HY.out _).mono ?_); rintro e w2 ⟨rfl, rfl⟩)
  have HAW := Lib.hid (awake03_c w (HRO.out.next HB2.out))
  go_wp2_with (go_at_call 11; (refine HAW.out.mono ?_); rintro e w3 ⟨rfl, hb⟩; have HB3 := Lib.hid (HB2.out.trans (hb.mono HB2.out.size)); clear hb)
  go_ret
  exact ⟨rfl, HB3.out⟩
set_option maxRecDepth 100000 in
set_option maxHeartbeats 8000000 in
theorem he_hi_hi (A D : Option Addr) (ca cb : Nat) (k m : List Nat) (x y : Int) (w : World) (hkl : ∀ c ∈ k, c < 256) (hml : ∀ c ∈ m, c < 256) (hk : Rd w w.heap.size A (byt k)) (hm : Rd w w.heap.size D (byt m)) (hR : RoundsAt w) (h1 : k.length ≤ 200) (h2 : m.length ≤ 200) (hx : 8160 < x) (hy : 8160 < y) :
    Calls Tryd.prog 5 #[.slice A k.length ca, .slice D m.length cb, .int .i64 x, .int .i64 y] w fun e w' => e = .returned (.bool true) ∧ Below w.heap.size w w' := by
  have q1 : ¬ (200 : Int) < (k.length : Int) := by omega
  have q2 : ¬ (200 : Int) < (m.length : Int) := by omega
  have HK := Lib.hid hk
  have HM := Lib.hid hm
  have HKL := Lib.hid hkl
  have HML := Lib.hid hml
  have HRO := Lib.hid hR
  clear hk hm hkl hml hR
  have a0 : 200 < x := by omega
  have a1 : ¬ x ≤ 8160 := by omega
  have a2 : ¬ x < 0 := by omega
  have a3 : 8160 < x := by omega
  have b0 : 200 < y := by omega
  have b1 : ¬ y ≤ 8160 := by omega
  have HY := Lib.hid (fun W => expandBad_c A D ca cb k.length m.length y W (by omega))
  have HB2 := Lib.hid (Below.refl w.heap.size w)
  have HX := Lib.hid (fun W => expandBad_c A D ca cb k.length m.length x W (by omega))
  clear hx hy
  go_enter Tryd.func5, Tryd.ntmps5
  go_upto_region 4 with (go_at_call 24; (refine (HX.out _).mono ?_); rintro e w1 ⟨rfl, rfl⟩)
  go_upto_region 5 with (go_at_call 24; (with_reducible refine (HY.out _).mono ?_); rintro e w2 ⟨rfl, rfl⟩)
  have HAW := Lib.hid (awake03_c w (HRO.out.next HB2.out))
  go_wp2_with (go_at_call 11; (refine HAW.out.mono ?_); rintro e w3 ⟨rfl, hb⟩; have HB3 := Lib.hid (HB2.out.trans (hb.mono HB2.out.size)); clear hb)
  go_ret
  exact ⟨rfl, HB3.out⟩
set_option maxRecDepth 100000 in
set_option maxHeartbeats 8000000 in
theorem he_hi_ok (A D : Option Addr) (ca cb : Nat) (k m : List Nat) (x y : Int) (w : World) (hkl : ∀ c ∈ k, c < 256) (hml : ∀ c ∈ m, c < 256) (hk : Rd w w.heap.size A (byt k)) (hm : Rd w w.heap.size D (byt m)) (hR : RoundsAt w) (h1 : k.length ≤ 200) (h2 : m.length ≤ 200) (hx : 8160 < x) (hy : 0 ≤ y ∧ y ≤ 200) :
    Calls Tryd.prog 5 #[.slice A k.length ca, .slice D m.length cb, .int .i64 x, .int .i64 y] w fun e w' => e = .returned (.bool true) ∧ Below w.heap.size w w' := by
  have q1 : ¬ (200 : Int) < (k.length : Int) := by omega
  have q2 : ¬ (200 : Int) < (m.length : Int) := by omega
  have HK := Lib.hid hk
  have HM := Lib.hid hm
  have HKL := Lib.hid hkl
  have HML := Lib.hid hml
  have HRO := Lib.hid hR
  clear hk hm hkl hml hR
  have a0 : 200 < x := by omega
  have a1 : ¬ x ≤ 8160 := by omega
  have a2 : ¬ x < 0 := by omega
  have a3 : 8160 < x := by omega
  have b0 : ¬ 200 < y := by omega
  obtain ⟨yn, rfl⟩ := Int.eq_ofNat_of_zero_le hy.1
  have HY := Lib.hid (fun W (hb : Below w.heap.size w W) => expand_c w.heap.size w.heap.size A D ca cb k m yn W (HK.out.ext hb) (HM.out.ext hb) hb.size hb.size HKL.out HML.out (by omega) (by omega) (by omega) (HRO.out.next hb))
  have HX := Lib.hid (fun W => expandBad_c A D ca cb k.length m.length x W (by omega))
  clear hx hy
  go_enter Tryd.func5, Tryd.ntmps5
  go_upto_region 4 with (go_at_call 24; (refine (HX.out _).mono ?_); rintro e w1 ⟨rfl, rfl⟩)
  go_upto_region 5 with (go_at_call 24; (with_reducible refine (HY.out _ (Below.refl _ _)).mono ?_); rintro e w2 ⟨A3, rfl, hr, hb⟩; have HB2 := Lib.hid hb; clear hr hb)
  have HAW := Lib.hid (awake03_c w2 (HRO.out.next HB2.out))
  go_wp2_with (go_at_call 11; (refine HAW.out.mono ?_); rintro e w3 ⟨rfl, hb⟩; have HB3 := Lib.hid (HB2.out.trans (hb.mono HB2.out.size)); clear hb)
  go_ret
  exact ⟨rfl, HB3.out⟩
set_option maxRecDepth 100000 in
set_option maxHeartbeats 8000000 in
theorem he_ok_neg (A D : Option Addr) (ca cb : Nat) (k m : List Nat) (x y : Int) (w : World) (hkl : ∀ c ∈ k, c < 256) (hml : ∀ c ∈ m, c < 256) (hk : Rd w w.heap.size A (byt k)) (hm : Rd w w.heap.size D (byt m)) (hR : RoundsAt w) (h1 : k.length ≤ 200) (h2 : m.length ≤ 200) (hx : 0 ≤ x ∧ x ≤ 200) (hy : y < 0) :
    Calls Tryd.prog 5 #[.slice A k.length ca, .slice D m.length cb, .int .i64 x, .int .i64 y] w fun e w' => e = .returned (.bool true) ∧ Below w.heap.size w w' := by
  have q1 : ¬ (200 : Int) < (k.length : Int) := by omega
  have q2 : ¬ (200 : Int) < (m.length : Int) := by omega
  have HK := Lib.hid hk
  have HM := Lib.hid hm
  have HKL := Lib.hid hkl
  have HML := Lib.hid hml
  have HRO := Lib.hid hR
  clear hk hm hkl hml hR
  have a0 : ¬ 200 < x := by omega
  have a1 : ¬ x < 0 := by omega
  have a2 : ¬ 8160 < x := by omega
  have b0 : ¬ 200 < y := by omega
  have b1 : y < 0 := by omega
  obtain ⟨xn, rfl⟩ := Int.eq_ofNat_of_zero_le hx.1
  have HX := Lib.hid (fun W (hb : Below w.heap.size w W) => expand_c w.heap.size w.heap.size A D ca cb k m xn W (HK.out.ext hb) (HM.out.ext hb) hb.size hb.size HKL.out HML.out (by omega) (by omega) (by omega) (HRO.out.next hb))
  have HXR := Lib.hid (fun W (hb : Below w.heap.size w W) => rexpand_c w.heap.size w.heap.size A D ca cb k m xn W (HK.out.ext hb) (HM.out.ext hb) hb.size hb.size HKL.out HML.out (by omega) (by omega) (by omega))
  have HXL := Lib.hid (expd_len k m xn)
  have HXB := Lib.hid (expd_lt k m xn)
  have hxn : xn ≤ 200 := by omega
  have HY := Lib.hid (fun W => expandBad_c A D ca cb k.length m.length y W (by omega))
  generalize expd k m xn = EX at *
  clear hx hy
  go_enter Tryd.func5, Tryd.ntmps5
  go_upto_region 4 with (go_at_call 24; (refine (HX.out _ (Below.refl _ _)).mono ?_); rintro e w1 ⟨A2, rfl, hr, hb⟩; have HB1 := Lib.hid hb; have HRX := Lib.hid hr; clear hr hb)
  go_upto_region 5 with (go_at_call 24; (with_reducible refine (HY.out _).mono ?_); rintro e w2 ⟨rfl, rfl⟩; have HB2 := HB1; have HRX2 := HRX)
  go_upto_region 9 with (first
    | (go_at_call 25; (refine (HXR.out _ HB2.out).mono ?_); rintro e w3 ⟨A4, c4, rfl, hr, hb⟩; have HB3 := Lib.hid (HB2.out.trans (hb.mono HB2.out.size)); have HW3 := Lib.hid hb; have HRS := Lib.hid hr; have HSA := Lib.hid (show Calls Tryd.prog 15 #[.slice A2 xn xn, .slice A4 xn c4] w3 (Quietly (.bool true) w3) from (by have h1 := same_c _ _ A2 A4 xn c4 EX EX w3 HXB.out HXB.out (HRX2.out.ext hb) hr (by rw [HXL.out]; omega) (by rw [HXL.out]; omega); rw [beq_self_eq_true, HXL.out] at h1; exact h1)); clear hr hb)
    | (go_at_call 15; (refine HSA.out.mono ?_); rintro e w4 ⟨rfl, n4, rfl⟩))
  have HAW := Lib.hid (fun n => awake03_c (w3.drewN n) (HRO.out.next (belowDrewN n HB3.out)))
  go_wp2_with (go_at_call 11; (with_reducible refine (HAW.out _).mono ?_); rintro e w6 ⟨rfl, hb⟩; have HB6 := Lib.hid (HB3.out.trans ((show Below w3.heap.size w3 w6 from (belowDrewN _ (Below.refl _ _)).trans hb).mono HB3.out.size)); clear hb)
  go_ret
  exact ⟨rfl, HB6.out⟩
set_option maxRecDepth 100000 in
set_option maxHeartbeats 8000000 in
theorem he_ok_hi (A D : Option Addr) (ca cb : Nat) (k m : List Nat) (x y : Int) (w : World) (hkl : ∀ c ∈ k, c < 256) (hml : ∀ c ∈ m, c < 256) (hk : Rd w w.heap.size A (byt k)) (hm : Rd w w.heap.size D (byt m)) (hR : RoundsAt w) (h1 : k.length ≤ 200) (h2 : m.length ≤ 200) (hx : 0 ≤ x ∧ x ≤ 200) (hy : 8160 < y) :
    Calls Tryd.prog 5 #[.slice A k.length ca, .slice D m.length cb, .int .i64 x, .int .i64 y] w fun e w' => e = .returned (.bool true) ∧ Below w.heap.size w w' := by
  have q1 : ¬ (200 : Int) < (k.length : Int) := by omega
  have q2 : ¬ (200 : Int) < (m.length : Int) := by omega
  have HK := Lib.hid hk
  have HM := Lib.hid hm
  have HKL := Lib.hid hkl
  have HML := Lib.hid hml
  have HRO := Lib.hid hR
  clear hk hm hkl hml hR
  have a0 : ¬ 200 < x := by omega
  have a1 : ¬ x < 0 := by omega
  have a2 : ¬ 8160 < x := by omega
  have b0 : 200 < y := by omega
  have b1 : ¬ y ≤ 8160 := by omega
  obtain ⟨xn, rfl⟩ := Int.eq_ofNat_of_zero_le hx.1
  have HX := Lib.hid (fun W (hb : Below w.heap.size w W) => expand_c w.heap.size w.heap.size A D ca cb k m xn W (HK.out.ext hb) (HM.out.ext hb) hb.size hb.size HKL.out HML.out (by omega) (by omega) (by omega) (HRO.out.next hb))
  have HXR := Lib.hid (fun W (hb : Below w.heap.size w W) => rexpand_c w.heap.size w.heap.size A D ca cb k m xn W (HK.out.ext hb) (HM.out.ext hb) hb.size hb.size HKL.out HML.out (by omega) (by omega) (by omega))
  have HXL := Lib.hid (expd_len k m xn)
  have HXB := Lib.hid (expd_lt k m xn)
  have hxn : xn ≤ 200 := by omega
  have HY := Lib.hid (fun W => expandBad_c A D ca cb k.length m.length y W (by omega))
  generalize expd k m xn = EX at *
  clear hx hy
  go_enter Tryd.func5, Tryd.ntmps5
  go_upto_region 4 with (go_at_call 24; (refine (HX.out _ (Below.refl _ _)).mono ?_); rintro e w1 ⟨A2, rfl, hr, hb⟩; have HB1 := Lib.hid hb; have HRX := Lib.hid hr; clear hr hb)
  go_upto_region 5 with (go_at_call 24; (with_reducible refine (HY.out _).mono ?_); rintro e w2 ⟨rfl, rfl⟩; have HB2 := HB1; have HRX2 := HRX)
  go_upto_region 9 with (first
    | (go_at_call 25; (refine (HXR.out _ HB2.out).mono ?_); rintro e w3 ⟨A4, c4, rfl, hr, hb⟩; have HB3 := Lib.hid (HB2.out.trans (hb.mono HB2.out.size)); have HW3 := Lib.hid hb; have HRS := Lib.hid hr; have HSA := Lib.hid (show Calls Tryd.prog 15 #[.slice A2 xn xn, .slice A4 xn c4] w3 (Quietly (.bool true) w3) from (by have h1 := same_c _ _ A2 A4 xn c4 EX EX w3 HXB.out HXB.out (HRX2.out.ext hb) hr (by rw [HXL.out]; omega) (by rw [HXL.out]; omega); rw [beq_self_eq_true, HXL.out] at h1; exact h1)); clear hr hb)
    | (go_at_call 15; (refine HSA.out.mono ?_); rintro e w4 ⟨rfl, n4, rfl⟩))
  have HAW := Lib.hid (fun n => awake03_c (w3.drewN n) (HRO.out.next (belowDrewN n HB3.out)))
  go_wp2_with (go_at_call 11; (with_reducible refine (HAW.out _).mono ?_); rintro e w6 ⟨rfl, hb⟩; have HB6 := Lib.hid (HB3.out.trans ((show Below w3.heap.size w3 w6 from (belowDrewN _ (Below.refl _ _)).trans hb).mono HB3.out.size)); clear hb)
  go_ret
  exact ⟨rfl, HB6.out⟩
set_option maxRecDepth 100000 in
set_option maxHeartbeats 8000000 in
theorem he_ok_ok (A D : Option Addr) (ca cb : Nat) (k m : List Nat) (x y : Int) (w : World) (hkl : ∀ c ∈ k, c < 256) (hml : ∀ c ∈ m, c < 256) (hk : Rd w w.heap.size A (byt k)) (hm : Rd w w.heap.size D (byt m)) (hR : RoundsAt w) (h1 : k.length ≤ 200) (h2 : m.length ≤ 200) (hx : 0 ≤ x ∧ x ≤ 200) (hy : 0 ≤ y ∧ y ≤ 200) :
    Calls Tryd.prog 5 #[.slice A k.length ca, .slice D m.length cb, .int .i64 x, .int .i64 y] w fun e w' => e = .returned (.bool true) ∧ Below w.heap.size w w' := by
  have q1 : ¬ (200 : Int) < (k.length : Int) := by omega
  have q2 : ¬ (200 : Int) < (m.length : Int) := by omega
  have HK := Lib.hid hk
  have HM := Lib.hid hm
  have HKL := Lib.hid hkl
  have HML := Lib.hid hml
  have HRO := Lib.hid hR
  clear hk hm hkl hml hR
  have a0 : ¬ 200 < x := by omega
  have a1 : ¬ x < 0 := by omega
  have a2 : ¬ 8160 < x := by omega
  have b0 : ¬ 200 < y := by omega
  obtain ⟨xn, rfl⟩ := Int.eq_ofNat_of_zero_le hx.1
  have HX := Lib.hid (fun W (hb : Below w.heap.size w W) => expand_c w.heap.size w.heap.size A D ca cb k m xn W (HK.out.ext hb) (HM.out.ext hb) hb.size hb.size HKL.out HML.out (by omega) (by omega) (by omega) (HRO.out.next hb))
  have HXR := Lib.hid (fun W (hb : Below w.heap.size w W) => rexpand_c w.heap.size w.heap.size A D ca cb k m xn W (HK.out.ext hb) (HM.out.ext hb) hb.size hb.size HKL.out HML.out (by omega) (by omega) (by omega))
  have HXL := Lib.hid (expd_len k m xn)
  have HXB := Lib.hid (expd_lt k m xn)
  have hxn : xn ≤ 200 := by omega
  obtain ⟨yn, rfl⟩ := Int.eq_ofNat_of_zero_le hy.1
  have hyn : yn ≤ 200 := by omega
  have HY := Lib.hid (fun W (hb : Below w.heap.size w W) => expand_c w.heap.size w.heap.size A D ca cb k m yn W (HK.out.ext hb) (HM.out.ext hb) hb.size hb.size HKL.out HML.out (by omega) (by omega) (by omega) (HRO.out.next hb))
  have HYL := Lib.hid (expd_len k m yn)
  have HYB := Lib.hid (expd_lt k m yn)
  have HTK := Lib.hid (fun h : yn ≤ xn => expd_take k m yn xn h)
  generalize expd k m yn = EY at *
  generalize expd k m xn = EX at *
  clear hx hy
  go_enter Tryd.func5, Tryd.ntmps5
  go_upto_region 4 with (go_at_call 24; (refine (HX.out _ (Below.refl _ _)).mono ?_); rintro e w1 ⟨A2, rfl, hr, hb⟩; have HB1 := Lib.hid hb; have HRX := Lib.hid hr; clear hr hb)
  go_upto_region 5 with (go_at_call 24; (with_reducible refine (HY.out _ HB1.out).mono ?_); rintro e w2 ⟨A3, rfl, hr, hb⟩; have HB2 := Lib.hid (HB1.out.trans (hb.mono HB1.out.size)); have HRY := Lib.hid hr; have HRX2 := Lib.hid (HRX.out.ext hb); clear hr hb)
  go_upto_region 9 with (first
    | (go_at_call 25; (refine (HXR.out _ HB2.out).mono ?_); rintro e w3 ⟨A4, c4, rfl, hr, hb⟩; have HB3 := Lib.hid (HB2.out.trans (hb.mono HB2.out.size)); have HW3 := Lib.hid hb; have HRS := Lib.hid hr; have HSA := Lib.hid (show Calls Tryd.prog 15 #[.slice A2 xn xn, .slice A4 xn c4] w3 (Quietly (.bool true) w3) from (by have h1 := same_c _ _ A2 A4 xn c4 EX EX w3 HXB.out HXB.out (HRX2.out.ext hb) hr (by rw [HXL.out]; omega) (by rw [HXL.out]; omega); rw [beq_self_eq_true, HXL.out] at h1; exact h1)); clear hr hb)
    | (go_at_call 15; (refine HSA.out.mono ?_); rintro e w4 ⟨rfl, n4, rfl⟩))
  by_cases hyx : yn ≤ xn
  · have c1 : ¬ (xn : Int) < (yn : Int) := by omega
    have c2 : (0 : Int) ≤ (yn : Int) := by omega
    have c3 : (yn : Int) ≤ (xn : Int) := by omega
    have HSB := Lib.hid (show Calls Tryd.prog 15 #[.slice A3 yn yn, .slice A2 yn xn] (w3.drewN n4) (Quietly (.bool true) (w3.drewN n4)) from (by
      have h1 := same_c _ _ A3 A2 yn xn EY (EX.take yn) (w3.drewN n4) HYB.out (fun c hc => HXB.out c (List.mem_of_mem_take hc)) (HRY.out.ext (belowDrewN n4 HW3.out)) ((HRX2.out.ext (belowDrewN n4 HW3.out)).take_ yn) (by rw [HYL.out]; omega) (by rw [List.length_take, HXL.out]; omega)
      rw [HTK.out hyx, beq_self_eq_true, HYL.out] at h1
      exact h1))
    have HAW := Lib.hid (fun n => awake03_c (w3.drewN n) (HRO.out.next (belowDrewN n HB3.out)))
    go_wp2_with (first
      | (go_at_call 15; (refine HSB.out.mono ?_); rintro e w5 ⟨rfl, n5, rfl⟩; rw [World.drewN_drewN])
      | (go_at_call 11; (with_reducible refine (HAW.out _).mono ?_); rintro e w6 ⟨rfl, hb⟩; have HB6 := Lib.hid (HB3.out.trans ((show Below w3.heap.size w3 w6 from (belowDrewN _ (Below.refl _ _)).trans hb).mono HB3.out.size)); clear hb))
    go_ret
    exact ⟨rfl, HB6.out⟩
  · have c1 : (xn : Int) < (yn : Int) := by omega
    have HAW := Lib.hid (fun n => awake03_c (w3.drewN n) (HRO.out.next (belowDrewN n HB3.out)))
    go_wp2_with (go_at_call 11; (with_reducible refine (HAW.out _).mono ?_); rintro e w6 ⟨rfl, hb⟩; have HB6 := Lib.hid (HB3.out.trans ((show Below w3.heap.size w3 w6 from (belowDrewN _ (Below.refl _ _)).trans hb).mono HB3.out.size)); clear hb)
    go_ret
    exact ⟨rfl, HB6.out⟩
theorem hkdfExpands_w (A D : Option Addr) (ca cb : Nat) (k m : List Nat) (x y : Int) (w : World) (hkl : ∀ c ∈ k, c < 256) (hml : ∀ c ∈ m, c < 256) (hk : Rd w w.heap.size A (byt k)) (hm : Rd w w.heap.size D (byt m)) (hR : RoundsAt w) :
    Calls Tryd.prog 5 #[.slice A k.length ca, .slice D m.length cb, .int .i64 x, .int .i64 y] w fun e w' => e = .returned (.bool true) ∧ Below w.heap.size w w' := by
  by_cases h1 : k.length ≤ 200
  · by_cases h2 : m.length ≤ 200
    · by_cases h3 : 200 < x ∧ x ≤ 8160
      · exact hkdfExpands_mid A D ca cb k m x y w hkl hml hk hm hR h1 h2 (.inl h3)
      · by_cases h4 : 200 < y ∧ y ≤ 8160
        · exact hkdfExpands_mid A D ca cb k m x y w hkl hml hk hm hR h1 h2 (.inr ⟨by omega, h4⟩)
        · have hx : x < 0 ∨ 8160 < x ∨ (0 ≤ x ∧ x ≤ 200) := by omega
          have hy : y < 0 ∨ 8160 < y ∨ (0 ≤ y ∧ y ≤ 200) := by omega
          rcases hx with hx | hx | hx <;> rcases hy with hy | hy | hy
          · exact he_neg_neg A D ca cb k m x y w hkl hml hk hm hR h1 h2 hx hy
          · exact he_neg_hi A D ca cb k m x y w hkl hml hk hm hR h1 h2 hx hy
          · exact he_neg_ok A D ca cb k m x y w hkl hml hk hm hR h1 h2 hx hy
          · exact he_hi_neg A D ca cb k m x y w hkl hml hk hm hR h1 h2 hx hy
          · exact he_hi_hi A D ca cb k m x y w hkl hml hk hm hR h1 h2 hx hy
          · exact he_hi_ok A D ca cb k m x y w hkl hml hk hm hR h1 h2 hx hy
          · exact he_ok_neg A D ca cb k m x y w hkl hml hk hm hR h1 h2 hx hy
          · exact he_ok_hi A D ca cb k m x y w hkl hml hk hm hR h1 h2 hx hy
          · exact he_ok_ok A D ca cb k m x y w hkl hml hk hm hR h1 h2 hx hy
    · exact hkdfExpands_long A D ca cb k m x y w hkl hml hk hm hR (.inr ⟨h1, by omega⟩)
  · exact hkdfExpands_long A D ca cb k m x y w hkl hml hk hm hR (.inl (by omega))
end Go.Proofs.YthlmlmkabjppeaaDoor
