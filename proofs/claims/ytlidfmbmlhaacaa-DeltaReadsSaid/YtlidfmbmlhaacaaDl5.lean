/- DeltaReads, walked. -/
import Derived.Test.YtlidfmbmlhaacaaDk5
import Derived.Test.YtlidfmbmlhaacaaDf9
import Derived.Test.YtlidfmbmlhaacaaDl3
namespace Go.Proofs.Ytlidfmbmlhaacaa
open Go.RowKit
set_option linter.unusedVariables false
set_option linter.unusedSimpArgs false
theorem LentAt.rdW {w : World} {g : Nat} {l : List Nat} (h : LentAt w g l) : Rd w w.heap.size (some ⟨g, 0, none⟩) (byt l) := Rd.ups h.rd (Blk.lt h)
theorem LentAt.next {w w' : World} {g : Nat} {l : List Nat} (h : LentAt w g l) (hb : Below w.heap.size w w') : LentAt w' g l := Blk.below h hb (Blk.lt h)
theorem readE_short {b : List Nat} (h : shortB b = true) : readE b = 2 := by unfold readE; rw [h]; rfl
theorem readE_cases (b : List Nat) (h : shortB b = false) : (readE b = 0 ∧ chkL (readL b) = 0 ∧ layL (readL b) = b ∧ readL b = (readB b).1) ∨ readE b = 4 := by
  unfold readL readE
  rw [h]
  simp only [Bool.false_eq_true, if_false]
  by_cases h1 : (readB b).2 = true
  · rw [h1]; right; rfl
  · rw [if_neg h1]
    by_cases h2 : chkL (readB b).1 = 0 ∧ layL (readB b).1 = b
    · rw [if_pos h2]
      left
      exact ⟨rfl, h2.1, h2.2, rfl⟩
    · rw [if_neg h2]
      right; rfl
theorem readL_not {b : List Nat} (h : readE b ≠ 0) : readL b = [] := by unfold readL; rw [if_neg h]
set_option maxRecDepth 100000 in
set_option maxHeartbeats 4000000 in
theorem reads_c (A : Option Addr) (ca : Nat) (b : List Nat) (w : World) (hr : Rd w w.heap.size A (byt b)) (hl : ∀ c ∈ b, c < 256) (hc : b.length ≤ ca) (hm : b.length ≤ maxLen) :
    Calls Try.prog 5 #[.slice A b.length ca] w fun e w' => e = .returned (.bool true) ∧ Below w.heap.size w w' := by
  have HAW := Lib.hid (fun W => awake14_c W)
  unfold maxLen at hm
  by_cases hbig : 1000 < b.length
  · go_enter Try.func5, Try.ntmps5
    go_wp2_with (go_at_call 9; (refine (HAW.out w).mono ?_); rintro e W1 ⟨rfl, hb⟩; have HB := Lib.hid hb; clear hb)
    go_ret
    exact ⟨rfl, HB.out⟩
  · have HLT := Lib.hid (lent_c A ca b w hl hr (by omega))
    have HKP := Lib.hid (fun W (hg : LentAt W w.heap.size b) (hb : Below w.heap.size w W) => kept_c w.heap.size w.heap.size A ca b W hl hg (hr.below hb) (by omega))
    have HRD := Lib.hid (fun W (h : Rd W W.heap.size (some ⟨w.heap.size, 0, none⟩) (byt b)) => read_c (some ⟨w.heap.size, 0, none⟩) (b.length + 8) b W h (by omega) (by simp only [maxLen]; omega) hl (by omega))
    unfold ReadPost at HRD
    have HRB := Lib.hid (fun W (hb : Below w.heap.size w W) => show Rd W w.heap.size A (byt b) from hr.below hb)
    have HL := Lib.hid hl
    by_cases hl2 : b.length < 2
    · have hsh : shortB b = true := by unfold shortB; rw [decide_eq_true hl2]; rfl
      have hre := readE_short hsh
      rw [hre, readL_not (by omega)] at HRD
      clear hsh hre hr hl
      go_enter Try.func5, Try.ntmps5
      go_wp2_with
        (first
        | (go_at_call 19; (refine HLT.out.mono ?_); rintro e W1 ⟨rfl, hg, hb⟩; have HG1 := Lib.hid hg; have HB1 := Lib.hid hb; have HR1 := Lib.hid (LentAt.rdW hg); clear hg hb)
        | (go_at_call 15; (refine (HRD.out W1 HR1.out).mono ?_); rintro e W2 ⟨v2, rfl, ho, hb⟩; obtain ⟨A2, c2, rfl, _, _, r2⟩ := ho.rd; have HP2 := Lib.hid r2; have HG2 := Lib.hid (HG1.out.next hb); have HB2 := Lib.hid (HB1.out.trans (hb.mono HB1.out.size)); clear ho hb r2)
        | (go_at_call 20; (refine (HKP.out W2 HG2.out HB2.out).mono ?_); rintro e W3 ⟨rfl, q3, hq⟩; have HB3 := Lib.hid (show Below w.heap.size w W3 by rw [hq]; exact belowDrewN q3 HB2.out); have HP3 := Lib.hid (show RdP W3 W2.heap.size A2 [] by rw [hq]; exact HP2.out); clear hq)
        | (go_at_call 21; (refine (HNU.out W3 HB3.out).mono ?_); rintro e W4 ⟨rfl, rfl⟩)
        | (go_at_call 9; (refine (HAW.out W3).mono ?_); rintro e W9 ⟨rfl, hb⟩; have HB9 := Lib.hid (HB3.out.trans (hb.mono HB3.out.size)); clear hb))
      go_ret
      exact ⟨rfl, HB9.out⟩
    · have hl0 : (b.take 2).length = 2 := by rw [List.length_take]; omega
      have hnum : number (b.take 2) < 65536 := num2_lt (fun c hc => hl c (List.mem_of_mem_take hc)) (by omega)
      have HNU := Lib.hid (fun W (hb : Below w.heap.size w W) => show Calls Try.prog 21 #[.slice A 2 ca] W fun e w' => e = .returned (.int .u64 (number (b.take 2) : Nat)) ∧ W = w' by
        have h := rnumber_c w.heap.size A ca (b.take 2) W (Rd.takeB (hr.below hb) 2) (fun c hc => hl c (List.mem_of_mem_take hc)) (by omega)
        rw [hl0] at h
        exact h)
      have hsb : shortB b = decide (b.length < number (b.take 2) + 2) := by unfold shortB; rw [decide_eq_false hl2, Bool.false_or]
      have hca : 2 ≤ ca := by omega
      by_cases hs : b.length < number (b.take 2) + 2
      · have hsh : shortB b = true := by rw [hsb]; exact decide_eq_true hs
        have hre := readE_short hsh
        rw [hre, readL_not (by omega)] at HRD
        generalize number (b.take 2) = n at *
        have f64 : IntKind.i64.wrap (n : Int) = (n : Int) := IntWalk.i64_in _ (by omega)
        have q1 : (b.length : Int) - 2 < (n : Int) := by omega
        clear hsh hre hr hl hsb hl0 hs
        go_enter Try.func5, Try.ntmps5
        go_wp2_with
        (first
        | (go_at_call 19; (refine HLT.out.mono ?_); rintro e W1 ⟨rfl, hg, hb⟩; have HG1 := Lib.hid hg; have HB1 := Lib.hid hb; have HR1 := Lib.hid (LentAt.rdW hg); clear hg hb)
        | (go_at_call 15; (refine (HRD.out W1 HR1.out).mono ?_); rintro e W2 ⟨v2, rfl, ho, hb⟩; obtain ⟨A2, c2, rfl, _, _, r2⟩ := ho.rd; have HP2 := Lib.hid r2; have HG2 := Lib.hid (HG1.out.next hb); have HB2 := Lib.hid (HB1.out.trans (hb.mono HB1.out.size)); clear ho hb r2)
        | (go_at_call 20; (refine (HKP.out W2 HG2.out HB2.out).mono ?_); rintro e W3 ⟨rfl, q3, hq⟩; have HB3 := Lib.hid (show Below w.heap.size w W3 by rw [hq]; exact belowDrewN q3 HB2.out); have HP3 := Lib.hid (show RdP W3 W2.heap.size A2 [] by rw [hq]; exact HP2.out); clear hq)
        | (go_at_call 21; (refine (HNU.out W3 HB3.out).mono ?_); rintro e W4 ⟨rfl, rfl⟩)
        | (go_at_call 9; (refine (HAW.out W3).mono ?_); rintro e W9 ⟨rfl, hb⟩; have HB9 := Lib.hid (HB3.out.trans (hb.mono HB3.out.size)); clear hb))
        go_ret
        exact ⟨rfl, HB9.out⟩
      · have hsh : shortB b = false := by rw [hsb]; exact decide_eq_false hs
        have hrf := readB_facts hl
        have HCS := Lib.hid (readE_cases b hsh)
        generalize number (b.take 2) = n at *
        have f64 : IntKind.i64.wrap (n : Int) = (n : Int) := IntWalk.i64_in _ (by omega)
        have q1 : decide ((b.length : Int) - 2 < (n : Int)) = false := decide_eq_false (by omega)
        have q2 : decide ((b.length : Int) < 2) = false := decide_eq_false (by omega)
        rcases HCS.out with ⟨h0, hck, hly, hbl⟩ | h4
        · rw [h0] at HRD
          rw [← hbl] at hrf
          have HF := Lib.hid hrf
          have hml : (readL b).length ≤ 1000 := by have := hrf.2; omega
          have HCK := Lib.hid (fun W A2 c2 (h : RdP W W.heap.size A2 (readL b)) => rcheck_c A2 c2 (readL b) W h (by omega) (fun p hp => by have := (HF.out.1 p hp).2; omega))
          have HLY := Lib.hid (fun W A2 c2 (h : RdP W W.heap.size A2 (readL b)) => rlay_c A2 c2 (readL b) W h (by omega) (fun p hp => ⟨(HF.out.1 p hp).1, by have := (HF.out.1 p hp).2; omega⟩) hck)
          rw [hck] at HCK
          rw [hly] at HLY
          have HSM := Lib.hid (fun W A1 c1 B1 (hb : Below w.heap.size w W) h => same_c B1 w.heap.size A1 A c1 ca b b W hl hl h (hr.below hb) (by omega) (by omega))
          rw [beq_self_eq_true] at HSM
          generalize readL b = m at *
          clear hsh hr hl hsb hl0 hs hrf h0 hck hly hbl HCS HF hml
          go_enter Try.func5, Try.ntmps5
          go_wp2_with
        (first
        | (go_at_call 19; (refine HLT.out.mono ?_); rintro e W1 ⟨rfl, hg, hb⟩; have HG1 := Lib.hid hg; have HB1 := Lib.hid hb; have HR1 := Lib.hid (LentAt.rdW hg); clear hg hb)
        | (go_at_call 15; (refine (HRD.out W1 HR1.out).mono ?_); rintro e W2 ⟨v2, rfl, ho, hb⟩; obtain ⟨A2, c2, rfl, _, _, r2⟩ := ho.rd; have HP2 := Lib.hid r2; have HG2 := Lib.hid (HG1.out.next hb); have HB2 := Lib.hid (HB1.out.trans (hb.mono HB1.out.size)); clear ho hb r2)
        | (go_at_call 20; (refine (HKP.out W2 HG2.out HB2.out).mono ?_); rintro e W3 ⟨rfl, q3, hq⟩; have HB3 := Lib.hid (show Below w.heap.size w W3 by rw [hq]; exact belowDrewN q3 HB2.out); have HP3 := Lib.hid (show RdP W3 W2.heap.size A2 m by rw [hq]; exact HP2.out); have HPX := Lib.hid (show RdP W3 W3.heap.size A2 m by rw [hq]; exact HP2.out); clear hq)
        | (go_at_call 21; (refine (HNU.out W3 HB3.out).mono ?_); rintro e W4 ⟨rfl, rfl⟩)
        | (go_at_call 11; (refine (HCK.out W3 A2 c2 HPX.out).mono ?_); rintro e W5 ⟨rfl, hb⟩; have HP5 := Lib.hid (show RdP W5 W5.heap.size A2 m from Rd.ups (Rd.below HPX.out hb) hb.size); have HB5 := Lib.hid (HB3.out.trans (hb.mono HB3.out.size)); clear hb)
        | (go_at_call 17; (refine (HLY.out W5 A2 c2 HP5.out).mono ?_); rintro e W6 ⟨v6, rfl, ho, hb⟩; obtain ⟨A6, c6, rfl, _, _, r6⟩ := ho.rd; have HR6 := Lib.hid r6; have HB6 := Lib.hid (HB5.out.trans (hb.mono HB5.out.size)); clear ho hb r6)
        | (go_at_call 16; (refine (HSM.out W6 A6 c6 _ HB6.out HR6.out).mono ?_); rintro e W7 ⟨rfl, q7, hq⟩; have HB7 := Lib.hid (show Below w.heap.size w W7 by rw [hq]; exact belowDrewN q7 HB6.out); clear hq)
        | (go_at_call 9; (refine (HAW.out W7).mono ?_); rintro e W9 ⟨rfl, hb⟩; have HB9 := Lib.hid (HB7.out.trans (hb.mono HB7.out.size)); clear hb))
          go_ret
          exact ⟨rfl, HB9.out⟩
        · rw [h4, readL_not (by omega)] at HRD
          clear hsh hr hl hsb hl0 hs hrf h4 HCS
          go_enter Try.func5, Try.ntmps5
          go_wp2_with
        (first
        | (go_at_call 19; (refine HLT.out.mono ?_); rintro e W1 ⟨rfl, hg, hb⟩; have HG1 := Lib.hid hg; have HB1 := Lib.hid hb; have HR1 := Lib.hid (LentAt.rdW hg); clear hg hb)
        | (go_at_call 15; (refine (HRD.out W1 HR1.out).mono ?_); rintro e W2 ⟨v2, rfl, ho, hb⟩; obtain ⟨A2, c2, rfl, _, _, r2⟩ := ho.rd; have HP2 := Lib.hid r2; have HG2 := Lib.hid (HG1.out.next hb); have HB2 := Lib.hid (HB1.out.trans (hb.mono HB1.out.size)); clear ho hb r2)
        | (go_at_call 20; (refine (HKP.out W2 HG2.out HB2.out).mono ?_); rintro e W3 ⟨rfl, q3, hq⟩; have HB3 := Lib.hid (show Below w.heap.size w W3 by rw [hq]; exact belowDrewN q3 HB2.out); have HP3 := Lib.hid (show RdP W3 W2.heap.size A2 [] by rw [hq]; exact HP2.out); clear hq)
        | (go_at_call 21; (refine (HNU.out W3 HB3.out).mono ?_); rintro e W4 ⟨rfl, rfl⟩)
        | (go_at_call 9; (refine (HAW.out W3).mono ?_); rintro e W9 ⟨rfl, hb⟩; have HB9 := Lib.hid (HB3.out.trans (hb.mono HB3.out.size)); clear hb))
          go_ret
          exact ⟨rfl, HB9.out⟩
end Go.Proofs.Ytlidfmbmlhaacaa
