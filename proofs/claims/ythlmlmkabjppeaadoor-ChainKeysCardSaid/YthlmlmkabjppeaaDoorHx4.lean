/- ShaTexts: the walk. -/
import Derived.Test.YthlmlmkabjppeaaDoorAw02
namespace Go.Proofs.YthlmlmkabjppeaaDoor
open Go.RowKit
set_option linter.unusedVariables false
set_option linter.unusedSimpArgs false
def RoundsAt (w : World) : Prop := (∀ i, i < 64 → w.cell? ⟨0, i, none⟩ = some (.int .u32 (kc.getD i 0 : Nat))) ∧ 0 < w.heap.size
theorem RoundsAt.next {w w' : World} (h : RoundsAt w) (hb : Below w.heap.size w w') : RoundsAt w' := ⟨fun i hi => (hb.cell (p := ⟨0, i, none⟩) h.2).trans (h.1 i hi), Nat.lt_of_lt_of_le h.2 hb.size⟩
theorem awake02_r {w : World} (h : RoundsAt w) : Calls Tryd.prog 18 #[] w fun e w' => e = .returned (.bool true) ∧ Below w.heap.size w w' := awake02_c w h.1 h.2
set_option maxRecDepth 100000 in
set_option maxHeartbeats 4000000 in
theorem shaTexts_w (A : Option Addr) (ca : Nat) (l s : List Nat) (w : World) (hl : ∀ c ∈ l, c < 256) (hs : ∀ c ∈ s, c < 256) (hr : Rd w w.heap.size A (byt l)) (hR : RoundsAt w) :
    Calls Tryd.prog 6 #[.slice A l.length ca, .string (bstr s)] w fun e w' => e = .returned (.bool true) ∧ Below w.heap.size w w' := by
  have hsz := bstr_size s
  have HR := Lib.hid hr
  have HL := Lib.hid hl
  have HRO := Lib.hid hR
  clear hR
  by_cases h1 : l.length ≤ 1000
  · by_cases h2 : s.length ≤ 1000
    · have HU1 := Lib.hid (fun W => unhex_c s W hs (by omega))
      have HV1 := Lib.hid (fun W => runhex_c s W hs (by omega))
      have hu := unh_hexs hl
      have e1 : errU (hexs l) = 0 := by unfold errU; rw [hu]; rfl
      have e2 : resU (hexs l) = l := by unfold resU; rw [hu]; rfl
      have hu2 := fun W => unhex_c (hexs l) W (hexs_lt hl) (by rw [hexs_len]; omega)
      rw [e1, e2] at hu2
      have HU2 := Lib.hid hu2
      have HRL := Lib.hid (show ∀ c ∈ resU s, c < 256 by
        unfold resU
        cases h : unh s with
        | none => intro c hc; cases hc
        | some u => exact unh_lt h)
      have HRN := Lib.hid (show (resU s).length ≤ 1000 by
        unfold resU
        cases h : unh s with
        | none => exact Nat.zero_le _
        | some u => have := unh_len h; show u.length ≤ 1000; omega)
      have HHX := Lib.hid (fun W (hb : Below w.heap.size w W) => hex_c w.heap.size A ca l W (hr.ext hb) hb.size hl (by omega))
      have HRX := Lib.hid (fun W (hb : Below w.heap.size w W) => rhex_c w.heap.size A ca l W (hr.ext hb) hl (by omega))
      clear hu e1 e2 hu2 hr hl hs
      generalize hT : bstr (hexs l) = T at *
      generalize errU s = E at *
      generalize resU s = R at *
      generalize bstr s = S at *
      clear hT
      go_enter Tryd.func6, Tryd.ntmps6
      go_wp2_with (first
        | (go_at_call 26; (refine (HHX.out _ (Below.refl _ _)).mono ?_); rintro e w1 ⟨rfl, hb⟩; have HB1 := Lib.hid hb; clear hb)
        | (go_at_call 27; (with_reducible refine (HU1.out _).mono ?_); rintro e w2 ⟨v2, rfl, ho, hb⟩; obtain ⟨A2, c2, rfl, _, _, r2⟩ := ho.rd; have HR2 := Lib.hid r2; have HB2 := Lib.hid (HB1.out.trans (hb.mono HB1.out.size)); clear hb ho r2)
        | (go_at_call 28; (with_reducible refine (HV1.out _).mono ?_); rintro e w3 ⟨v3, rfl, ho, hb⟩; obtain ⟨A3, c3, rfl, _, _, r3⟩ := ho.rd; have HR3 := Lib.hid r3; have HR23 := Lib.hid (HR2.out.ext hb); have HB3 := Lib.hid (HB2.out.trans (hb.mono HB2.out.size)); clear hb ho r3)
        | (go_at_call 27; (with_reducible refine (HU2.out _).mono ?_); rintro e w4 ⟨v4, rfl, ho, hb⟩; obtain ⟨A4, c4, rfl, _, _, r4⟩ := ho.rd; have HR4 := Lib.hid r4; have HR24 := Lib.hid (HR23.out.ext hb); have HR34 := Lib.hid (HR3.out.ext hb); have HB4 := Lib.hid (HB3.out.trans (hb.mono HB3.out.size)); clear hb ho r4)
        | (go_at_call 29; (refine (HRX.out _ HB4.out).mono ?_); rintro e w5 ⟨rfl, n5, rfl⟩; have HSA := Lib.hid (fun n => same_c _ _ A2 A3 c2 c3 R R (w4.drewN n) HRL.out HRL.out HR24.out HR34.out (by have := HRN.out; omega) (by have := HRN.out; omega)); have HSB := Lib.hid (fun n => same_c _ _ A4 A c4 ca l l (w4.drewN n) HL.out HL.out HR4.out (HR.out.ext (belowDrewN n HB4.out)) (by omega) (by omega)); have HAW := Lib.hid (fun n => awake02_r (w := w4.drewN n) ((HRO.out.next HB4.out).next (belowDrewN n (Below.refl _ _)))))
        | (go_at_call 15; (with_reducible refine (HSA.out _).mono ?_); rintro e w6 ⟨rfl, n6, rfl⟩; rw [beq_self_eq_true, World.drewN_drewN])
        | (go_at_call 15; (with_reducible refine (HSB.out _).mono ?_); rintro e w7 ⟨rfl, n7, rfl⟩; rw [beq_self_eq_true, World.drewN_drewN])
        | (go_at_call 18; (with_reducible refine (HAW.out _).mono ?_); rintro e w8 ⟨rfl, hb⟩; have HB8 := Lib.hid (HB4.out.trans ((show Below w4.heap.size w4 w8 from (belowDrewN _ (Below.refl _ _)).trans hb).mono HB4.out.size)); clear hb))
      go_ret
      exact ⟨rfl, HB8.out⟩
    · have q1 : ¬ (1000 : Int) < (l.length : Int) := by omega
      have q2 : (1000 : Int) < (s.length : Int) := by omega
      go_enter Tryd.func6, Tryd.ntmps6
      generalize bstr s = S at *
      go_wp2_with (go_at_call 18; (refine (awake02_r HRO.out).mono ?_); rintro e w1 ⟨rfl, hb⟩; have HB1 := Lib.hid hb; clear hb)
      go_ret
      exact ⟨rfl, HB1.out⟩
  · have q1 : (1000 : Int) < (l.length : Int) := by omega
    go_enter Tryd.func6, Tryd.ntmps6
    generalize bstr s = S at *
    go_wp2_with (go_at_call 18; (refine (awake02_r HRO.out).mono ?_); rintro e w1 ⟨rfl, hb⟩; have HB1 := Lib.hid hb; clear hb)
    go_ret
    exact ⟨rfl, HB1.out⟩
end Go.Proofs.YthlmlmkabjppeaaDoor
