/- DeltaLays, walked. -/
import Derived.Test.YtlidfmbmlhaacaaDk5
import Derived.Test.YtlidfmbmlhaacaaDf9
import Derived.Test.YtlidfmbmlhaacaaDl2
import Derived.Test.YtlidfmbmlhaacaaDl3
namespace Go.Proofs.Ytlidfmbmlhaacaa
open Go.RowKit
set_option linter.unusedVariables false
set_option linter.unusedSimpArgs false
set_option maxRecDepth 100000 in
set_option maxHeartbeats 4000000 in
theorem lays_c (A : Option Addr) (c : Nat) (l : List Pc) (w : World) (hr : RdP w w.heap.size A l) (hc : l.length ≤ c) (hl : ∀ p ∈ l, PcOk p ∧ p.s.size ≤ 9223372036854775807) (h1 : l.length ≤ 9223372036854775807) :
    Calls Try.prog 4 #[.slice A l.length c] w fun e w' => e = .returned (.bool true) ∧ Below w.heap.size w w' := by
  have HG := Lib.hid (show ∀ W, RdP W w.heap.size A l → Calls Try.prog 8 #[.slice A l.length c, .int .i64 270] W fun e w' => e = .returned (.bool (greatB l 270)) ∧ W = w' from fun W h => great_c w.heap.size A c l 270 W h h1 (by decide) (fun p hp => (hl p hp).2))
  have HR := Lib.hid hr
  cases hgr : greatB l 270 with
  | true =>
    rw [hgr] at HG
    have HAW := Lib.hid (awake14_c w)
    go_enter Try.func4, Try.ntmps4
    go_wp2_with (first
      | (go_at_call 8; (refine (HG.out w HR.out).mono ?_); rintro e W0 ⟨rfl, rfl⟩)
      | (go_at_call 9; (refine HAW.out.mono ?_); rintro e W1 ⟨rfl, hb⟩; have HB := Lib.hid hb; clear hb))
    go_ret
    exact ⟨rfl, HB.out⟩
  | false =>
    rw [hgr] at HG
    obtain ⟨hn, hsz⟩ := greatB_no hgr
    have HK := Lib.hid (fun p (hp : p ∈ l) => show PcOk p ∧ p.s.size ≤ 1000000 from ⟨(hl p hp).1, by have := hsz p hp; omega⟩)
    have HOK := Lib.hid (fun p (hp : p ∈ l) => (hl p hp).1)
    have HRW := Lib.hid (fun W (hb : Below w.heap.size w W) => show RdP W w.heap.size A l from Rd.below hr hb)
    have HRX := Lib.hid (fun W (hb : Below w.heap.size w W) => show RdP W W.heap.size A l from Rd.ups (Rd.below hr hb) hb.size)
    have HLY := Lib.hid (lay_c A c l w hr hc (by omega) HK.out)
    have HRC := Lib.hid (fun W (hb : Below w.heap.size w W) => rcheck_c A c l W (HRX.out W hb) (by omega) (fun p hp => (HK.out p hp).2))
    have HCK := Lib.hid (fun W (hb : Below w.heap.size w W) => check_c A c l W (HRX.out W hb) hc (by omega) (fun p hp => (HK.out p hp).2))
    have HRM := Lib.hid (fun W (hb : Below w.heap.size w W) => room_c A c l W (HRX.out W hb) hc (by omega) (fun p hp => (HK.out p hp).2))
    have HRR := Lib.hid (fun W (hb : Below w.heap.size w W) => rroom_c w.heap.size A c l W (HRW.out W hb) (by omega) (fun p hp => (HK.out p hp).2))
    have HAW := Lib.hid (fun W => awake14_c W)
    have HLE := Lib.hid (layR_le (l := l) HOK.out)
    by_cases h0 : chkL l = 0
    · have HE := Lib.hid (show layR l = layL l by unfold layR; rw [if_pos h0])
      have HRL := Lib.hid (fun W hb => rlay_c A c l W (HRX.out W hb) (by omega) HK.out h0)
      obtain ⟨hre, hrl⟩ := read_lay h0 HOK.out
      have HRD := Lib.hid (fun W A' c' (h : Rd W W.heap.size A' (byt (layR l))) (h2 : (layR l).length ≤ c') (h3 : c' ≤ maxLen) => read_c A' c' (layR l) W h h2 h3 (layR_lt l) (by have := HLE.out; omega))
      rw [HE.out] at HRD
      unfold ReadPost at HRD
      rw [hre, hrl, ← HE.out] at HRD
      rw [← HE.out] at HRL
      rw [h0] at HLY HRC HCK
      have HSM := Lib.hid (fun W A1 A2 c1 c2 B1 B2 h h2 => same_c B1 B2 A1 A2 c1 c2 (layR l) (layR l) W (layR_lt l) (layR_lt l) h h2 (by have := HLE.out; omega) (by have := HLE.out; omega))
      rw [beq_self_eq_true] at HSM
      have HSP := Lib.hid (fun W A1 c1 B1 h h2 => rsameP_c B1 w.heap.size A1 A c1 c l W h h2 h1)
      generalize layR l = L at *
      generalize roomL l = rm at *
      clear h0 hre hrl hr hl hsz HK HOK HE
      go_enter Try.func4, Try.ntmps4
      go_upto_region 9 with (first
      | (go_at_call 8; (refine (HG.out w HR.out).mono ?_); rintro e W00 ⟨rfl, rfl⟩)
      | (go_at_call 10; (refine HLY.out.mono ?_); rintro e W1 ⟨v1, rfl, ho, hb⟩; have HO1 := Lib.hid ho; have HB1 := Lib.hid hb; clear ho hb)
      | (go_at_call 11; (refine (HRC.out W1 HB1.out).mono ?_); rintro e W2 ⟨rfl, hb⟩; have HO2 := Lib.hid (HO1.out.next hb); have HB2 := Lib.hid (HB1.out.trans (hb.mono HB1.out.size)); clear hb)
      | (go_at_call 12; (refine (HCK.out W2 HB2.out).mono ?_); rintro e W3 ⟨rfl, hb⟩; have HO3 := Lib.hid (HO2.out.next hb); have HB3 := Lib.hid (HB2.out.trans (hb.mono HB2.out.size)); clear hb)
      | (go_at_call 13; (refine (HRM.out W3 HB3.out).mono ?_); rintro e W4 ⟨rfl, hb⟩; have HO4 := Lib.hid (HO3.out.next hb); have HB4 := Lib.hid (HB3.out.trans (hb.mono HB3.out.size)); clear hb)
      | (go_at_call 14; (refine (HRR.out W4 HB4.out).mono ?_); rintro e W5 ⟨rfl, q, hq⟩; have HO5 := Lib.hid (show OwnB W5 w.heap.size _ (L) by rw [hq]; exact HO4.out.drewN q); have HB5 := Lib.hid (show Below w.heap.size w W5 by rw [hq]; exact belowDrewN q HB4.out); clear hq))
      obtain ⟨A5, c5, rfl, hc5, hm5, r5⟩ := HO5.out.rd
      have HR5 := Lib.hid r5
      have HRD5 := Lib.hid (HRD.out W5 A5 c5 r5 hc5 hm5)
      clear r5 HO1 HO2 HO3 HO4 HB1 HB2 HB3 HB4
      go_wp2_with (first
        | (go_at_call 15; (refine HRD5.out.mono ?_); rintro e W6 ⟨v6, rfl, ho, hb⟩; obtain ⟨A6, c6, rfl, _, _, r6⟩ := ho.rd; have HP6 := Lib.hid (show RdP W6 W6.heap.size A6 l from r6); have HB6 := Lib.hid (HB5.out.trans (hb.mono HB5.out.size)); have HR6 := Lib.hid (show Rd W6 W6.heap.size A5 (byt L) from Rd.ups (Rd.below HR5.out hb) hb.size); clear ho hb r6)
        | (go_at_call 17; (refine (HRL.out W6 HB6.out).mono ?_); rintro e W7 ⟨v7, rfl, ho, hb⟩; obtain ⟨A7, c7, rfl, _, _, r7⟩ := ho.rd; have HR7 := Lib.hid r7; have HP7 := Lib.hid (show RdP W7 W6.heap.size A6 l from Rd.below HP6.out hb); have HB7 := Lib.hid (HB6.out.trans (hb.mono HB6.out.size)); have HR57 := Lib.hid (Rd.below HR6.out hb); clear ho hb r7)
        | (go_at_call 16; (refine (HSM.out W7 A5 A7 c5 c7 _ _ HR57.out HR7.out).mono ?_); rintro e W8 ⟨rfl, q8, hq⟩; have HP8 := Lib.hid (show RdP W8 W6.heap.size A6 l by rw [hq]; exact HP7.out); have HB8 := Lib.hid (show Below w.heap.size w W8 by rw [hq]; exact belowDrewN q8 HB7.out); clear hq)
        | (go_at_call 18; (refine (HSP.out W8 A6 c6 _ HP8.out (HRW.out W8 HB8.out)).mono ?_); rintro e W9 ⟨rfl, q9, hq⟩; have HB9 := Lib.hid (show Below w.heap.size w W9 by rw [hq]; exact belowDrewN q9 HB8.out); clear hq)
        | (go_at_call 9; (refine (HAW.out W9).mono ?_); rintro e W10 ⟨rfl, hb⟩; have HB10 := Lib.hid (HB9.out.trans (hb.mono HB9.out.size)); clear hb))
      go_ret
      exact ⟨rfl, HB10.out⟩
    · have HE := Lib.hid (show layR l = [] by unfold layR; rw [if_neg h0])
      have hne : ((chkL l : Nat) : Int) ≠ 0 := by omega
      have hq0 : decide (((chkL l : Nat) : Int) = 0) = false := decide_eq_false (by omega)
      rw [HE.out] at HLY HLE
      generalize roomL l = rm at *
      generalize chkL l = e0 at *
      clear hr hl hsz HK HOK HE h0
      go_enter Try.func4, Try.ntmps4
      go_upto_region 7 with (first
      | (go_at_call 8; (refine (HG.out w HR.out).mono ?_); rintro e W00 ⟨rfl, rfl⟩)
      | (go_at_call 10; (refine HLY.out.mono ?_); rintro e W1 ⟨v1, rfl, ho, hb⟩; obtain ⟨A1, c1, rfl, _, _, _⟩ := ho.rd; have HO1 := Lib.hid ho; have HB1 := Lib.hid hb; clear ho hb)
      | (go_at_call 11; (refine (HRC.out W1 HB1.out).mono ?_); rintro e W2 ⟨rfl, hb⟩; have HO2 := Lib.hid (HO1.out.next hb); have HB2 := Lib.hid (HB1.out.trans (hb.mono HB1.out.size)); clear hb)
      | (go_at_call 12; (refine (HCK.out W2 HB2.out).mono ?_); rintro e W3 ⟨rfl, hb⟩; have HO3 := Lib.hid (HO2.out.next hb); have HB3 := Lib.hid (HB2.out.trans (hb.mono HB2.out.size)); clear hb)
      | (go_at_call 13; (refine (HRM.out W3 HB3.out).mono ?_); rintro e W4 ⟨rfl, hb⟩; have HO4 := Lib.hid (HO3.out.next hb); have HB4 := Lib.hid (HB3.out.trans (hb.mono HB3.out.size)); clear hb)
      | (go_at_call 14; (refine (HRR.out W4 HB4.out).mono ?_); rintro e W5 ⟨rfl, q, hq⟩; have HO5 := Lib.hid (show OwnB W5 w.heap.size _ ([]) by rw [hq]; exact HO4.out.drewN q); have HB5 := Lib.hid (show Below w.heap.size w W5 by rw [hq]; exact belowDrewN q HB4.out); clear hq))
      go_wp2_with (go_at_call 9; (refine (HAW.out W5).mono ?_); rintro e W10 ⟨rfl, hb⟩; have HB10 := Lib.hid (HB5.out.trans (hb.mono HB5.out.size)); clear hb)
      go_ret
      exact ⟨rfl, HB10.out⟩
end Go.Proofs.Ytlidfmbmlhaacaa
