/- Contract: the document's form of pieces. -/
import Derived.Test.YtlidfmbmlhaacaaDl0
import Derived.Test.YtlidfmbmlhaacaaDj1
import Derived.Deep.CutRange
namespace Go.Proofs.Ytlidfmbmlhaacaa
open Go.RowKit
set_option linter.unusedVariables false
set_option linter.unusedSimpArgs false
theorem AtA.fld {w : World} {a : Addr} {p : Pc} (h : AtA w a (pcL p)) : w.cell? ⟨a.block, a.off + 1, none⟩ = some (.int .i64 p.t) ∧ w.cell? ⟨a.block, a.off + 2, none⟩ = some (.int .i64 p.v) ∧ w.cell? ⟨a.block, a.off + 3, none⟩ = some (.int .u64 (p.n : Int)) ∧ w.cell? ⟨a.block, a.off + 4, none⟩ = some (.int .u16 (p.d : Int)) := ⟨h 1 _ rfl, h 2 _ rfl, h 3 _ rfl, h 4 _ rfl⟩
def contB (l : List Pc) (i k : Nat) : Bool := decide (k < l.length) && ((l.getD k pc0).s.toList == (l.getD i pc0).s.toList)
theorem contB_yes {l : List Pc} {i k : Nat} (h : contB l i k = true) : k < l.length ∧ run1 (l.getD i pc0).s (l.drop k) = run1 (l.getD i pc0).s (l.drop (k + 1)) + 1 := by
  unfold contB at h
  rw [Bool.and_eq_true, decide_eq_true_eq, beq_iff_eq] at h
  exact ⟨h.1, by rw [run1_atD _ h.1, if_pos (toList_inj h.2)]⟩
theorem contB_no {l : List Pc} {i k : Nat} (h : contB l i k = false) : run1 (l.getD i pc0).s (l.drop k) = 0 := by
  rcases Nat.lt_or_ge k l.length with hk | hk
  · unfold contB at h
    rw [decide_eq_true hk, Bool.true_and, beq_eq_false_iff_ne] at h
    rw [run1_atD _ hk, if_neg (fun e => h (by rw [e]))]
  · exact run1_end _ hk
def RowPost (T0 : List Nat) (base : Nat) (w wr : World) (ov : Value) (pre : List Nat) (more : List Nat) : Prop := T0 = pre ++ more ∧ OwnB wr base ov pre ∧ Below base w wr
set_option maxRecDepth 100000 in
set_option maxHeartbeats 4000000 in
theorem rformP_c (A : Option Addr) (c : Nat) (l : List Pc) (w : World) (hr : RdP w w.heap.size A l) (h1 : l.length ≤ 100000) (hk : ∀ p ∈ l, PcOk p ∧ p.s.size ≤ 1000000) (hT : (formP l).length ≤ 1000000) :
    Calls Try.prog 38 #[.slice A l.length c] w (Gives (formP l) w) := by
  obtain ⟨i0, hi, hz0, hz1, hz2⟩ := info_parts byteInfo
  have HR := Lib.hid hr
  have HOK := Lib.hid (fun p hp => (hk p hp).1)
  have HSZ := Lib.hid (show ∀ k, k < l.length → (l.getD k pc0).s.size ≤ 1000000 from fun k h => (hk _ (by simp [List.getD_eq_getElem?_getD, h])).2)
  have HPO := Lib.hid (show ∀ k, k < l.length → PcOk (l.getD k pc0) from fun k h => (hk _ (by simp [List.getD_eq_getElem?_getD, h])).1)
  obtain ⟨T0, hT0⟩ : ∃ T0, T0 = tailF l := ⟨_, rfl⟩
  obtain ⟨C0, hC0⟩ : ∃ C0, C0 = (grps l).length := ⟨_, rfl⟩
  have hCl : C0 ≤ l.length := by rw [hC0]; exact grps_len_le l
  have HF := Lib.hid (show formP l = sh C0 ++ T0 by rw [hT0, hC0]; rfl)
  have hTl : T0.length ≤ 1000000 := by have := HF.out; rw [this, List.length_append] at hT; omega
  obtain ⟨F, hF⟩ : ∃ F, F = formP l := ⟨_, rfl⟩
  rw [← hF] at HF hT ⊢
  have HT0 := Lib.hid hT0
  have HC0 := Lib.hid hC0
  clear hr hk hF hT0 hC0
  go_enter Try.func38, Try.ntmps38
  go_wp2_with fail
  go_loopw [3, 4, 5] (fun ov cv iv wr => ∃ (i cnt : Nat) (pre : List Nat), iv = .int .i64 i ∧ cv = .int .i64 cnt ∧ i ≤ l.length ∧ T0 = pre ++ tailF (l.drop i) ∧ C0 = cnt + (grps (l.drop i)).length ∧ OwnB wr w.heap.size ov pre ∧ Below w.heap.size w wr) (fun _ _ iv _ => l.length - (intOf iv).toNat)
  case atStart => exact ⟨0, 0, [], rfl, rfl, Nat.zero_le _, HT0.out, by rw [HC0.out]; simp, OwnB.nil_ _ _, Below.refl _ _⟩
  case round =>
    rename World => wr
    obtain ⟨i, cnt, pre, rfl, rfl, hil, htg, hcg, ho, hb⟩ := hrel
    have HTG := Lib.hid htg
    have HCG := Lib.hid hcg
    have HO := Lib.hid ho
    have HB := Lib.hid hb
    have hpl : pre.length ≤ 1000000 := by have h2 := congrArg List.length htg; rw [List.length_append] at h2; omega
    have hcnt : cnt ≤ C0 := by omega
    clear htg hcg ho hb HT0 HC0
    by_cases hlt : i < l.length
    · have q1 : (i : Int) < (l.length : Int) := by omega
      have hrr := HR.out
      obtain ⟨ad, rfl, hab, hat⟩ := hrr.open_ (by omega)
      have HAB := Lib.hid hab
      have HAT := Lib.hid hat
      have hrp := runAt_pos hlt
      have HTA := Lib.hid (tail_at hlt)
      have HGA := Lib.hid (show (grps (l.drop i)).length = 1 + (grps (l.drop (i + runAt l i))).length by rw [grps_atD hlt, List.length_cons]; omega)
      have HRE := Lib.hid (rows_end l i hlt)
      have HRN := Lib.hid (show runAt l i = run1 (l.getD i pc0).s (l.drop i) from rfl)
      have HRA := Lib.hid (fun j h0 h2 => rows_at (l := l) (i := i) (j := j) HOK.out h0 h2 hrp.2)
      clear hat hab hrr
      obtain ⟨r, hrd⟩ : ∃ r, r = runAt l i := ⟨_, rfl⟩
      rw [← hrd] at HTA HGA HRE HRN HRA hrp
      clear hrd
      obtain ⟨hr1, hr2⟩ := hrp
      have hsz := HSZ.out i hlt
      go_wp2_with fail
      go_loopw [6] (fun kv wx => ∃ k q : Nat, kv = .int .i64 k ∧ i ≤ k ∧ k ≤ l.length ∧ r = (k - i) + run1 (l.getD i pc0).s (l.drop k) ∧ wx = wr.drewN q) (fun kv _ => l.length - (intOf kv).toNat)
      case atStart => exact ⟨i, 0, rfl, Nat.le_refl _, hil, by rw [HRN.out]; omega, rfl⟩
      case round =>
        rename World => wx
        obtain ⟨k, q, rfl, hik, hkl, hrk, hwx⟩ := hrel
        have HRK := Lib.hid hrk
        have HW := Lib.hid hwx
        have HBX := Lib.hid (show Below w.heap.size w wx by rw [hwx]; exact belowDrewN q HB.out)
        have e1 : wx.cell? (ad.add (i * 5)) = some (.string (l.getD i pc0).s) := ((HAT.out.below HBX.out HAB.out).piece i hlt).ser
        have HE0 := Lib.hid (show k < l.length → wx.cell? (ad.add (k * 5)) = some (.string (l.getD k pc0).s) from fun h => ((HAT.out.below HBX.out HAB.out).piece k h).ser)
        have HCY := Lib.hid (contB_yes (l := l) (i := i) (k := k))
        have HCN := Lib.hid (contB_no (l := l) (i := i) (k := k))
        have HCD := Lib.hid (show contB l i k = (decide (k < l.length) && ((l.getD k pc0).s.toList == (l.getD i pc0).s.toList)) from rfl)
        obtain ⟨b, hb⟩ : ∃ b, b = contB l i k := ⟨_, rfl⟩
        rw [← hb] at HCY HCN HCD
        clear hrk hwx hb
        go_upto_region 6 with fail
        go_cut [32] from 16 to 32 (fun cv wy => cv = .bool b ∧ ∃ q2, wx.drewN q2 = wy)
        case first =>
          by_cases hkl2 : k < l.length
          · have p1 : (k : Int) < (l.length : Int) := by omega
            have e0 := HE0.out hkl2
            rcases (show ((l.getD k pc0).s.toList == (l.getD i pc0).s.toList) = true ∨ ((l.getD k pc0).s.toList == (l.getD i pc0).s.toList) = false by cases ((l.getD k pc0).s.toList == (l.getD i pc0).s.toList) <;> simp) with hse | hse
            · have HBV := Lib.hid (show b = true by rw [HCD.out, decide_eq_true hkl2, hse]; rfl)
              clear HE0 HCD
              generalize l.getD k pc0 = pk at *
              generalize l.getD i pc0 = pi at *
              go_quiet (fail)
              go_wp2_with fail
              go_meet
              exact ⟨by rw [HBV.out], nq, rfl⟩
            · have HBV := Lib.hid (show b = false by rw [HCD.out, decide_eq_true hkl2, hse]; rfl)
              clear HE0 HCD
              generalize l.getD k pc0 = pk at *
              generalize l.getD i pc0 = pi at *
              go_quiet (fail)
              go_wp2_with fail
              go_meet
              exact ⟨by rw [HBV.out], nq, rfl⟩
          · have HBV := Lib.hid (show b = false by rw [HCD.out, decide_eq_false hkl2]; rfl)
            have p1 : decide ((k : Int) < (l.length : Int)) = false := decide_eq_false (by omega)
            clear HE0 HCD
            go_quiet (fail)
            go_wp2_with fail
            go_meet
            exact ⟨by rw [HBV.out], nq, rfl⟩
        case rest =>
        rename World => wy
        obtain ⟨rfl, q2, hwy⟩ := hcut
        have HWY := Lib.hid (show wy = wr.drewN (q + q2) by rw [← hwy, HW.out]; exact World.drewN_drewN ..)
        clear hwy HE0 HCD e1 HBX
        cases b with
        | true =>
          obtain ⟨hk2, hk3⟩ := HCY.out rfl
          have HK3 := Lib.hid hk3
          clear hk3 HCY HCN
          go_wp2_with fail
          go_roundw
          case rel => exact ⟨k + 1, q + q2, by go_num, by omega, by omega, by have h2 := HRK.out; rw [HK3.out] at h2; omega, HWY.out⟩
          case measure => simp only [intOf]; omega
        | false =>
          have hki : k = i + r := by have h2 := HRK.out; rw [HCN.out rfl] at h2; omega
          have HKI := Lib.hid hki
          have hkl3 : k ≤ l.length := hkl
          have hr3 : r ≤ l.length := by omega
          have fr : IntKind.u64.wrap ((k : Int) - (i : Int)) = (r : Int) := by rw [IntKind.wrap_u64]; omega
          have HBY := Lib.hid (show Below w.heap.size w wy by rw [HWY.out]; exact belowDrewN _ HB.out)
          have HOY := Lib.hid (show OwnB wy w.heap.size u3 pre by rw [HWY.out]; exact HO.out.drewN _)
          have HFB := Lib.hid (show tailF (l.drop (i + r)) = tailF (l.drop k) by rw [hki])
          have HGB := Lib.hid (show (grps (l.drop (i + r))).length = (grps (l.drop k)).length by rw [hki])
          have HREK := Lib.hid (show rowsAt l i k = [] by rw [hki]; exact HRE.out)
          have HFL := Lib.hid (fun W (hb : Below w.heap.size w W) => ((HAT.out.below hb HAB.out).piece i hlt).ser)
          have hps := sh64 (l.getD i pc0).s.size (by omega)
          obtain ⟨m1, hm1⟩ : ∃ m1, m1 = sh (l.getD i pc0).s.size := ⟨_, rfl⟩
          have HS1 := Lib.hid (show ∀ W, Calls Try.prog 54 #[.int .u64 ((l.getD i pc0).s.size : Nat)] W (Gives m1 W) from fun W => by rw [hm1]; exact rshort_c _ W (by omega))
          have hrs := sh64 r (by omega)
          obtain ⟨m2, hm2⟩ : ∃ m2, m2 = sh r := ⟨_, rfl⟩
          have HS2 := Lib.hid (show ∀ W, Calls Try.prog 54 #[.int .u64 (r : Nat)] W (Gives m2 W) from fun W => by rw [hm2]; exact rshort_c _ W (by omega))
          have HTB := Lib.hid (show T0 = pre ++ (((m1 ++ sby (l.getD i pc0).s) ++ m2) ++ (rowsAt l i i ++ tailF (l.drop k))) by rw [HTG.out, HTA.out, HFB.out, hm1, hm2])
          have hm1l : m1.length ≤ 10 := by rw [hm1]; exact hps
          have hm2l : m2.length ≤ 10 := by rw [hm2]; exact hrs
          have HCB := Lib.hid (show C0 = (cnt + 1) + (grps (l.drop k)).length by rw [HCG.out, HGA.out, HGB.out]; omega)
          have fs : IntKind.u64.wrap ((l.getD i pc0).s.size : Int) = ((l.getD i pc0).s.size : Int) := by rw [IntKind.wrap_u64]; omega
          have e0 := HFL.out wy HBY.out
          clear hki hkl hps hrs hm1 hm2 HTA HGA HRE HRN HCN HCY HRK HWY HO HB HTG HCG HFB HGB HW
          generalize l.getD i pc0 = p at *
          go_upto_region 9 with fail
          go_upto_region 10 with (first
            | (go_at_call 54; (refine (HS1.out wy).mono ?_); rintro e W1 ⟨v1, rfl, ho, hb⟩; obtain ⟨A1, c1, rfl, _, _, r9⟩ := ho.rd; have HR1 := Lib.hid r9; have HO1 := Lib.hid (HOY.out.next hb); have HB1 := Lib.hid (HBY.out.trans (hb.mono HBY.out.size)); clear ho hb r9)
            | (at_builtin; refine wpList_app _ rfl (.tmp 37) (.tmp 45) _ rfl w.heap.size 5 i0 (.int .u8 0) 1 1 Try.underlying32 hi hz0 hz1 hz2 rfl (by decide) _ _ _ rfl HO1.out _ _ m1.length _ (byt m1) rfl (by rw [byt_len]; omega) HR1.out (byt_one m1) (by omega) (by omega) HB1.out.size ?_; intro v2 W2 hap; have HO2 := Lib.hid (OwnB.app (l := pre) (m := m1) hap); have HB2 := Lib.hid (HB1.out.trans (hap.below HO1.out HB1.out.size)); clear hap))
          obtain ⟨pre2, hpre2⟩ : ∃ pre2, pre2 = pre ++ m1 := ⟨_, rfl⟩
          have hpl2 : pre2.length ≤ 1000010 := by rw [hpre2, List.length_append]; omega
          rw [← hpre2] at HO2
          have HE2 := Lib.hid hpre2
          have e2 := HFL.out W2 HB2.out
          have H63 := Lib.hid (show pre2.length + p.s.size ≤ maxLen by simp only [maxLen]; omega)
          have HBY2 := Lib.hid (show pre2.length + p.s.size ≤ 140737488355328 by omega)
          clear hpre2 e0 HS1 HO1 HB1 HR1
          go_upto_region 11 with (refine Lib.wpList_append_own_string _ rfl (.tmp 47) (.tmp 52) 32 9 rfl w.heap.size 5 i0 Try.underlying32 Try.underlying9 hi hz0 hz1 hz2 v2 pre2.length (byt pre2) rfl HO2.out p.s rfl H63.out HBY2.out HB2.out.size ?_; intro v3 W3 ho hgr _; have HO3 := Lib.hid (own_str ho); have HB3 := Lib.hid (HB2.out.trans (below_grown HO2.out hgr HB2.out.size)); clear ho hgr)
          obtain ⟨pre3, hpre3⟩ : ∃ pre3, pre3 = pre2 ++ sby p.s := ⟨_, rfl⟩
          have hpl3 : pre3.length ≤ 2000010 := by rw [hpre3, List.length_append, sby_len]; omega
          rw [← hpre3] at HO3
          have HE3 := Lib.hid hpre3
          clear hpre3 e2 H63 HBY2 HO2 HB2
          go_upto_region 12 with (first
            | (go_at_call 54; (refine (HS2.out W3).mono ?_); rintro e W4 ⟨v4, rfl, ho, hb⟩; obtain ⟨A4, c4, rfl, _, _, r9⟩ := ho.rd; have HR4 := Lib.hid r9; have HO4 := Lib.hid (HO3.out.next hb); have HB4 := Lib.hid (HB3.out.trans (hb.mono HB3.out.size)); clear ho hb r9)
            | (at_builtin; refine wpList_app _ rfl (.tmp 54) (.tmp 59) _ rfl w.heap.size 5 i0 (.int .u8 0) 1 1 Try.underlying32 hi hz0 hz1 hz2 rfl (by decide) _ _ _ rfl HO4.out _ _ m2.length _ (byt m2) rfl (by rw [byt_len]; omega) HR4.out (byt_one m2) (by omega) (by omega) HB4.out.size ?_; intro v5 W5 hap; have HO5 := Lib.hid (OwnB.app (l := pre3) (m := m2) hap); have HB5 := Lib.hid (HB4.out.trans (hap.below HO4.out HB4.out.size)); clear hap))
          obtain ⟨pre5, hpre5⟩ : ∃ pre5, pre5 = pre3 ++ m2 := ⟨_, rfl⟩
          rw [← hpre5] at HO5
          have HTC := Lib.hid (show T0 = pre5 ++ (rowsAt l i i ++ tailF (l.drop k)) by rw [HTB.out, hpre5, HE3.out, HE2.out]; simp only [List.append_assoc])
          clear hpre5 HS2 HO3 HB3 HO4 HB4 HR4 HTB HE2 HE3 HFL fr fs hpl hpl2 hpl3
          go_wp2_with fail
          go_loopw [3, 7] (fun ov jv wx => ∃ (j : Nat) (pre : List Nat), jv = .int .i64 j ∧ i ≤ j ∧ j ≤ k ∧ T0 = pre ++ (rowsAt l i j ++ tailF (l.drop k)) ∧ OwnB wx w.heap.size ov pre ∧ Below w.heap.size w wx) (fun _ jv _ => k - (intOf jv).toNat)
          case atStart => exact ⟨i, pre5, rfl, Nat.le_refl _, by omega, HTC.out, HO5.out, HB5.out⟩
          case round =>
            rename World => wz
            obtain ⟨j, pra, rfl, hij, hjk, htj, hoj, hbj⟩ := hrel
            have HTJ := Lib.hid htj
            have HOJ := Lib.hid hoj
            have HBJ := Lib.hid hbj
            have hpa : pra.length ≤ 1000000 := by have h2 := congrArg List.length htj; rw [List.length_append] at h2; omega
            clear htj hoj hbj HTC HO5 HB5 HBY HOY
            by_cases hjk2 : j < k
            · have hjl : j < l.length := by omega
              have q2 : (j : Int) < (k : Int) := by omega
              have HRS := Lib.hid (HRA.out j hij (by have := HKI.out; omega))
              have HFJ := Lib.hid (fun W (hb : Below w.heap.size w W) => ((HAT.out.below hb HAB.out).piece j hjl).fld)
              have HFP := Lib.hid (fun m (hm : m < l.length) W (hb : Below w.heap.size w W) => ((HAT.out.below hb HAB.out).piece m hm).fld)
              have HBT := Lib.hid (pT_bd (l := l) (i := i) (j := j) HPO.out hjl)
              have HBS := Lib.hid (pS_bd (l := l) (i := i) (j := j) HPO.out hjl)
              have HBV := Lib.hid (pV_bd (l := l) (i := i) (j := j) HPO.out hjl)
              obtain ⟨t, ht⟩ : ∃ t, t = pT l i j := ⟨_, rfl⟩
              obtain ⟨v, hv⟩ : ∃ v, v = pV l i j := ⟨_, rfl⟩
              obtain ⟨s, hs⟩ : ∃ s, s = pS l i j := ⟨_, rfl⟩
              obtain ⟨s1, hs1⟩ : ∃ s1, s1 = pS1 l i j := ⟨_, rfl⟩
              rw [← ht, ← hv, ← hs] at HRS
              rw [← ht] at HBT
              rw [← hv] at HBV
              rw [← hs] at HBS
              have HT1 := Lib.hid ht
              have HV1 := Lib.hid hv
              have HS1 := Lib.hid hs
              have HS11 := Lib.hid hs1
              clear ht hv hs hs1
              go_upto_if 69 with fail
              go_cut [8, 9, 10] from 67 to 82 (fun a b c wx => a = .int .i64 t ∧ b = .int .i64 s1 ∧ c = .int .i64 v ∧ wz = wx)
              case first =>
                rcases Nat.lt_or_ge i j with hlj | hlj
                · obtain ⟨m, rfl⟩ : ∃ m, j = m + 1 := ⟨j - 1, by omega⟩
                  obtain ⟨e1, e2, _, _⟩ := HFP.out m (by omega) wz HBJ.out
                  have E1 := Lib.hid (show t = (l.getD m pc0).t by rw [HT1.out]; unfold pT; rw [if_neg (by omega)]; rfl)
                  have E2 := Lib.hid (show s1 = (l.getD m pc0).t by rw [HS11.out]; unfold pS1; rw [if_neg (by omega)]; rfl)
                  have E3 := Lib.hid (show v = (l.getD m pc0).v by rw [HV1.out]; unfold pV; rw [if_neg (by omega)]; rfl)
                  have q3 : (i : Int) < (m : Int) + 1 := by omega
                  have q4 : (m : Int) < (l.length : Int) := by omega
                  generalize l.getD m pc0 = pm at *
                  go_wp2_with fail
                  go_meet
                  exact ⟨by rw [E1.out], by rw [E2.out], by rw [E3.out], rfl⟩
                · have hji : j = i := by omega
                  have E1 := Lib.hid (show t = 0 by rw [HT1.out]; unfold pT; rw [if_pos hji])
                  have E2 := Lib.hid (show s1 = 0 by rw [HS11.out]; unfold pS1; rw [if_pos hji])
                  have E3 := Lib.hid (show v = 0 by rw [HV1.out]; unfold pV; rw [if_pos hji])
                  have q3 : ¬ (i : Int) < (j : Int) := by omega
                  clear hji
                  go_wp2_with fail
                  go_meet
                  exact ⟨by rw [E1.out], by rw [E2.out], by rw [E3.out], rfl⟩
              case rest =>
              rename World => wz1
              obtain ⟨rfl, rfl, rfl, rfl⟩ := hcut
              go_upto_if 86 with fail
              go_cut [9] from 83 to 94 (fun b wx => b = .int .i64 s ∧ wz = wx)
              case first =>
                obtain ⟨hb0, hb1⟩ := HBT.out
                rcases Nat.lt_or_ge (i + 1) j with hlj | hlj
                · obtain ⟨m, rfl⟩ : ∃ m, j = m + 2 := ⟨j - 2, by omega⟩
                  obtain ⟨e1, e2, _, _⟩ := HFP.out m (by omega) wz HBJ.out
                  have E1 := Lib.hid (show t = (l.getD (m + 1) pc0).t by rw [HT1.out]; unfold pT; rw [if_neg (by omega)]; rfl)
                  have E2 := Lib.hid (show s = wrap64 (t - (l.getD m pc0).t) by rw [HS1.out, E1.out, wrap_w]; unfold pS; rw [if_neg (by omega), if_neg (by omega)]; rfl)
                  have q3 : (i : Int) + 1 < (m : Int) + 2 := by omega
                  have q4 : (m : Int) < (l.length : Int) := by omega
                  have hok := HPO.out m (by omega)
                  have b0 := hok.t0
                  have b1 := hok.t1
                  clear hok
                  generalize l.getD m pc0 = pm at *
                  go_wp2_with fail
                  go_meet
                  exact ⟨by rw [E2.out], rfl⟩
                · have q3 : ¬ (i : Int) + 1 < (j : Int) := by omega
                  have E2 := Lib.hid (show s1 = s by
                    rw [HS1.out, HS11.out]
                    unfold pS1 pS
                    by_cases hji : j = i
                    · rw [if_pos hji, if_pos hji]
                    · rw [if_neg hji, if_neg hji, if_pos (by omega), show j - 1 = i by omega])
                  go_wp2_with fail
                  go_meet
                  exact ⟨by rw [E2.out], rfl⟩
              case rest =>
              rename World => wz2
              obtain ⟨rfl, rfl⟩ := hcut
              have HPK := Lib.hid (HPO.out j hjl)
              clear HFP HS11 HS1 HT1 HV1
              generalize l.getD j pc0 = p at *
              obtain ⟨ht0, ht1⟩ := HBT.out
              obtain ⟨hs0, hs1⟩ := HBS.out
              obtain ⟨hv0, hv1⟩ := HBV.out
              have hp0 := HPK.out.t0
              have hp1 := HPK.out.t1
              have hp2 := HPK.out.v0
              have hp3 := HPK.out.v1
              have HD1 := Lib.hid HPK.out.d1
              have hrs : T0 = pra ++ ((((sh (zig (wrap64 (wrap64 (p.t - t) - s))) ++ sh (zig (wrap64 (p.v - v)))) ++ sh p.n) ++ form p.d 2) ++ (rowsAt l i (j + 1) ++ tailF (l.drop k))) := by rw [HTJ.out, HRS.out, wrap_w, wrap_w, wrap_w]; simp only [List.append_assoc]
              obtain ⟨z1, hz1'⟩ : ∃ z1, z1 = zig (wrap64 (wrap64 (p.t - t) - s)) := ⟨_, rfl⟩
              obtain ⟨z2, hz2'⟩ : ∃ z2, z2 = zig (wrap64 (p.v - v)) := ⟨_, rfl⟩
              have HZC1 := Lib.hid (show ∀ W, Calls Try.prog 55 #[.int .i64 (wrap64 (wrap64 (p.t - t) - s))] W fun e w' => e = .returned (.int .u64 (z1 : Nat)) ∧ W = w' from fun W => by rw [hz1']; exact rzig_c _ W (wrap64_lo _) (wrap64_hi _))
              have HZC2 := Lib.hid (show ∀ W, Calls Try.prog 55 #[.int .i64 (wrap64 (p.v - v))] W fun e w' => e = .returned (.int .u64 (z2 : Nat)) ∧ W = w' from fun W => by rw [hz2']; exact rzig_c _ W (wrap64_lo _) (wrap64_hi _))
              have hzb1 : z1 < 18446744073709551616 := by rw [hz1']; exact zig_lt _ (wrap64_lo _) (wrap64_hi _)
              have hzb2 : z2 < 18446744073709551616 := by rw [hz2']; exact zig_lt _ (wrap64_lo _) (wrap64_hi _)
              rw [← hz1', ← hz2'] at hrs
              obtain ⟨m3, hm3⟩ : ∃ m3, m3 = sh z1 := ⟨_, rfl⟩
              obtain ⟨m4, hm4⟩ : ∃ m4, m4 = sh z2 := ⟨_, rfl⟩
              obtain ⟨m5, hm5⟩ : ∃ m5, m5 = sh p.n := ⟨_, rfl⟩
              obtain ⟨m6, hm6⟩ : ∃ m6, m6 = form p.d 2 := ⟨_, rfl⟩
              have hl3 : m3.length ≤ 10 := by rw [hm3]; exact sh64 _ hzb1
              have hl4 : m4.length ≤ 10 := by rw [hm4]; exact sh64 _ hzb2
              have hl5 : m5.length ≤ 10 := by rw [hm5]; exact sh64 _ HPK.out.n1
              have hl6 : m6.length ≤ 10 := by rw [hm6, form_len]; decide
              have HS3 := Lib.hid (show ∀ W, Calls Try.prog 54 #[.int .u64 (z1 : Nat)] W (Gives m3 W) from fun W => by rw [hm3]; exact rshort_c _ W hzb1)
              have HS4 := Lib.hid (show ∀ W, Calls Try.prog 54 #[.int .u64 (z2 : Nat)] W (Gives m4 W) from fun W => by rw [hm4]; exact rshort_c _ W hzb2)
              have HS5 := Lib.hid (show ∀ W, Calls Try.prog 54 #[.int .u64 (p.n : Nat)] W (Gives m5 W) from fun W => by rw [hm5]; exact rshort_c _ W HPK.out.n1)
              have HS6 := Lib.hid (show ∀ W, Calls Try.prog 39 #[.int .u64 (p.d : Nat), .int .i64 2] W (Gives m6 W) from fun W => by rw [hm6]; exact rform_c _ 2 W (by have := HPK.out.d1; omega) (by decide))
              have HRS2 := Lib.hid (show T0 = pra ++ ((((m3 ++ m4) ++ m5) ++ m6) ++ (rowsAt l i (j + 1) ++ tailF (l.drop k))) by rw [hrs, hm3, hm4, hm5, hm6])
              have fd : IntKind.u64.wrap (p.d : Int) = (p.d : Int) := by rw [IntKind.wrap_u64]; have := HPK.out.d1; omega
              clear hrs hz1' hz2' hzb1 hzb2 hm3 hm4 hm5 hm6 HRS HTJ HRA HREK
              obtain ⟨e1, _, _, _⟩ := HFJ.out wz HBJ.out
              have q4 : (j : Int) < (l.length : Int) := by omega
              go_upto_region 23 with (first
                | (go_at_call 55; (refine (HZC1.out wz).mono ?_); rintro e Wz ⟨rfl, rfl⟩)
                | (go_at_call 54; (refine (HS3.out wz).mono ?_); rintro e W6 ⟨v6, rfl, ho, hb⟩; obtain ⟨A6, c6, rfl, _, _, r9⟩ := ho.rd; have HR6 := Lib.hid r9; have HO6 := Lib.hid (HOJ.out.next hb); have HB6 := Lib.hid (HBJ.out.trans (hb.mono HBJ.out.size)); clear ho hb r9)
                | (at_builtin; refine wpList_app _ rfl (.tmp 95) (.tmp 106) _ rfl w.heap.size 5 i0 (.int .u8 0) 1 1 Try.underlying32 hi hz0 hz1 hz2 rfl (by decide) _ _ _ rfl HO6.out _ _ m3.length _ (byt m3) rfl (by rw [byt_len]; omega) HR6.out (byt_one m3) (by omega) (by omega) HB6.out.size ?_; intro v7 W7 hap; have HO7 := Lib.hid (OwnB.app (l := pra) (m := m3) hap); have HB7 := Lib.hid (HB6.out.trans (hap.below HO6.out HB6.out.size)); clear hap))
              obtain ⟨prb, hprb⟩ : ∃ prb, prb = pra ++ m3 := ⟨_, rfl⟩
              have hpb : prb.length ≤ 1000010 := by rw [hprb, List.length_append]; omega
              rw [← hprb] at HO7
              have HPB := Lib.hid hprb
              clear hprb e1 HS3 HZC1 HO6 HB6 HR6
              obtain ⟨_, e1, _, _⟩ := HFJ.out W7 HB7.out
              go_upto_region 24 with (first
                | (go_at_call 55; (refine (HZC2.out W7).mono ?_); rintro e Wz ⟨rfl, rfl⟩)
                | (go_at_call 54; (refine (HS4.out W7).mono ?_); rintro e W8 ⟨v8, rfl, ho, hb⟩; obtain ⟨A8, c8, rfl, _, _, r9⟩ := ho.rd; have HR8 := Lib.hid r9; have HO8 := Lib.hid (HO7.out.next hb); have HB8 := Lib.hid (HB7.out.trans (hb.mono HB7.out.size)); clear ho hb r9)
                | (at_builtin; refine wpList_app _ rfl (.tmp 108) (.tmp 117) _ rfl w.heap.size 5 i0 (.int .u8 0) 1 1 Try.underlying32 hi hz0 hz1 hz2 rfl (by decide) _ _ _ rfl HO8.out _ _ m4.length _ (byt m4) rfl (by rw [byt_len]; omega) HR8.out (byt_one m4) (by omega) (by omega) HB8.out.size ?_; intro v9 W9 hap; have HO9 := Lib.hid (OwnB.app (l := prb) (m := m4) hap); have HB9 := Lib.hid (HB8.out.trans (hap.below HO8.out HB8.out.size)); clear hap))
              obtain ⟨prc, hprc⟩ : ∃ prc, prc = prb ++ m4 := ⟨_, rfl⟩
              have hpc : prc.length ≤ 1000020 := by rw [hprc, List.length_append]; omega
              rw [← hprc] at HO9
              have HPC := Lib.hid hprc
              clear hprc e1 HS4 HZC2 HO8 HB8 HR8 HO7 HB7
              obtain ⟨_, _, e1, _⟩ := HFJ.out W9 HB9.out
              go_upto_region 25 with (first
                | (go_at_call 54; (refine (HS5.out W9).mono ?_); rintro e W10 ⟨v10, rfl, ho, hb⟩; obtain ⟨A10, c10, rfl, _, _, r9⟩ := ho.rd; have HR10 := Lib.hid r9; have HO10 := Lib.hid (HO9.out.next hb); have HB10 := Lib.hid (HB9.out.trans (hb.mono HB9.out.size)); clear ho hb r9)
                | (at_builtin; refine wpList_app _ rfl (.tmp 119) (.tmp 126) _ rfl w.heap.size 5 i0 (.int .u8 0) 1 1 Try.underlying32 hi hz0 hz1 hz2 rfl (by decide) _ _ _ rfl HO10.out _ _ m5.length _ (byt m5) rfl (by rw [byt_len]; omega) HR10.out (byt_one m5) (by omega) (by omega) HB10.out.size ?_; intro v11 W11 hap; have HO11 := Lib.hid (OwnB.app (l := prc) (m := m5) hap); have HB11 := Lib.hid (HB10.out.trans (hap.below HO10.out HB10.out.size)); clear hap))
              obtain ⟨prd, hprd⟩ : ∃ prd, prd = prc ++ m5 := ⟨_, rfl⟩
              have hpd : prd.length ≤ 1000030 := by rw [hprd, List.length_append]; omega
              rw [← hprd] at HO11
              have HPD := Lib.hid hprd
              clear hprd e1 HS5 HO10 HB10 HR10 HO9 HB9
              obtain ⟨_, _, _, e1⟩ := HFJ.out W11 HB11.out
              go_wp2_with (first
                | (go_at_call 39; (refine (HS6.out W11).mono ?_); rintro e W12 ⟨v12, rfl, ho, hb⟩; obtain ⟨A12, c12, rfl, _, _, r9⟩ := ho.rd; have HR12 := Lib.hid r9; have HO12 := Lib.hid (HO11.out.next hb); have HB12 := Lib.hid (HB11.out.trans (hb.mono HB11.out.size)); clear ho hb r9)
                | (at_builtin; refine wpList_app _ rfl (.tmp 128) (.tmp 136) _ rfl w.heap.size 5 i0 (.int .u8 0) 1 1 Try.underlying32 hi hz0 hz1 hz2 rfl (by decide) _ _ _ rfl HO12.out _ _ m6.length _ (byt m6) rfl (by rw [byt_len]; omega) HR12.out (byt_one m6) (by omega) (by omega) HB12.out.size ?_; intro v13 W13 hap; have HO13 := Lib.hid (OwnB.app (l := prd) (m := m6) hap); have HB13 := Lib.hid (HB12.out.trans (hap.below HO12.out HB12.out.size)); clear hap))
              have HTN := Lib.hid (show T0 = (prd ++ m6) ++ (rowsAt l i (j + 1) ++ tailF (l.drop k)) by rw [HRS2.out, HPD.out, HPC.out, HPB.out]; simp only [List.append_assoc])
              go_roundw
              case rel => exact ⟨j + 1, prd ++ m6, by go_num, by omega, by omega, HTN.out, HO13.out, HB13.out⟩
              case measure => simp only [intOf]; omega
            · have hjk3 : j = k := by omega
              have HTN := Lib.hid (show T0 = pra ++ tailF (l.drop k) by rw [HTJ.out, hjk3, HREK.out, List.nil_append])
              have hki2 := HKI.out
              clear hjk2
              obtain rfl : k = j := hjk3.symm
              go_wp2_with fail
              go_roundw
              case rel => exact ⟨k, cnt + 1, pra, rfl, by go_num, hkl3, HTN.out, HCB.out, HOJ.out, HBJ.out⟩
              case measure => simp only [intOf]; omega
    · obtain rfl : i = l.length := by omega
      have htl : tailF (l.drop l.length) = [] := by rw [List.drop_length]; unfold tailF; rw [grps_nil]; rfl
      have hcl : (grps (l.drop l.length)).length = 0 := by rw [List.drop_length, grps_nil]; rfl
      have HTN := Lib.hid (show T0 = pre by rw [HTG.out, htl, List.append_nil])
      have HCN := Lib.hid (show C0 = cnt by rw [HCG.out, hcl, Nat.add_zero])
      have hcs := sh64 cnt (by omega)
      obtain ⟨m1, hm1⟩ : ∃ m1, m1 = sh cnt := ⟨_, rfl⟩
      have HS1 := Lib.hid (show ∀ W, Calls Try.prog 54 #[.int .u64 (cnt : Nat)] W (Gives m1 W) from fun W => by rw [hm1]; exact rshort_c _ W (by omega))
      have HFN := Lib.hid (show F = m1 ++ pre by rw [HF.out, HCN.out, HTN.out, hm1])
      have hm1l : m1.length ≤ 10 := by rw [hm1]; exact hcs
      have fc : IntKind.u64.wrap (cnt : Int) = (cnt : Int) := by rw [IntKind.wrap_u64]; omega
      clear htl hcl hcs hm1 hlt HTG HCG HTN HCN HF
      obtain ⟨A0, c0, rfl, _, _, r0⟩ := HO.out.rd
      have HR0 := Lib.hid r0
      clear r0
      go_wp2_with (first
        | (go_at_call 54; (refine (HS1.out wr).mono ?_); rintro e W1 ⟨v1, rfl, ho, hb⟩; have HR1 := Lib.hid (show Rd W1 wr.heap.size A0 (byt pre) from HR0.out.below hb); have HO1 := Lib.hid (show OwnB W1 w.heap.size v1 m1 from own_base_le ho HB.out.size); have HB1 := Lib.hid (HB.out.trans (hb.mono HB.out.size)); clear ho hb)
        | (at_builtin; refine wpList_app _ rfl (.tmp 141) (.tmp 142) _ rfl w.heap.size 5 i0 (.int .u8 0) 1 1 Try.underlying32 hi hz0 hz1 hz2 rfl (by decide) _ _ _ rfl HO1.out _ _ pre.length _ (byt pre) rfl (by rw [byt_len]; omega) HR1.out (byt_one pre) (by omega) (by omega) HB1.out.size ?_; intro v2 W2 hap; have HO2 := Lib.hid (OwnB.app (l := m1) (m := pre) hap); have HB2 := Lib.hid (HB1.out.trans (hap.below HO1.out HB1.out.size)); clear hap))
      go_ret
      exact ⟨_, rfl, by rw [HFN.out]; exact HO2.out, HB2.out⟩
end Go.Proofs.Ytlidfmbmlhaacaa
