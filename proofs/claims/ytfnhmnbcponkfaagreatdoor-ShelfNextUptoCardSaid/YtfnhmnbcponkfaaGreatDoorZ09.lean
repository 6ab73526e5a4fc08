/- Parts, one behind the other: Dl1 Dl3 Dk1 Dk2 Dk3 Dk4 Dk5 Bx3 Bx4. -/
import Derived.Test.YtfnhmnbcponkfaaGreatDoorZ08
import Derived.Deep.CutRange
import Derived.Laws.BytesArg
import Derived.WalkMore
set_option maxRecDepth 100000
set_option linter.unusedVariables false
set_option linter.unusedSimpArgs false
set_option maxHeartbeats 4000000
namespace Go.Proofs.YtfnhmnbcponkfaaGreatDoor
open Go.RowKit
theorem AtA.fld {w : World} {a : Addr} {p : Pc} (h : AtA w a (pcL p)) : w.cell? ⟨a.block, a.off + 1, none⟩ = some (.int .i64 p.t) ∧ w.cell? ⟨a.block, a.off + 2, none⟩ = some (.int .i64 p.v) ∧ w.cell? ⟨a.block, a.off + 3, none⟩ = some (.int .u64 (p.n : Int)) ∧ w.cell? ⟨a.block, a.off + 4, none⟩ = some (.int .u16 (p.d : Int)) := ⟨h 1 _ rfl, h 2 _ rfl, h 3 _ rfl, h 4 _ rfl⟩
def contB (l : List Pc) (i k : Nat) : Bool := decide (k < l.length) && ((l.getD k pc0).s.toList == (l.getD i pc0).s.toList)
theorem contB_yes {l : List Pc} {i k : Nat} (h : contB l i k = true) : k < l.length ∧ run1 (l.getD i pc0).s (l.drop k) = run1 (l.getD i pc0).s (l.drop (k + 1)) + 1 := by
 unfold contB at h
 rw [Bool.and_eq_true, decide_eq_true_eq, beq_iff_eq] at h
 exact ⟨h.1, by rw [run1_atD _ h.1, if_pos (toList_inj h.2)]⟩
theorem contB_no {l : List Pc} {i k : Nat} (h : contB l i k = false) : run1 (l.getD i pc0).s (l.drop k) = 0 := by
 rcases Nat.lt_or_ge k l.length with hk | hk
 ·unfold contB at h
  rw [jF hk, Bool.true_and, beq_eq_false_iff_ne] at h
  rw [run1_atD _ hk, if_neg (fun e => h (by rw [e]))]
 ·exact run1_end _ hk
theorem rformP_c (A : Option Addr) (c : Nat) (l : List Pc) (w : World) (hr : RdP w w.heap.size A l) (h1 : l.length ≤ 100000) (hk : ∀ p ∈ l, PcOk p ∧ p.s.size ≤ 1000000) (hT : (formP l).length ≤ 1000000) :
  Calls Tryz.prog 56 #[.slice A l.length c] w (Gives (formP l) w) := by
 obtain ⟨i0, hi, hz0, hz1, hz2⟩ := info_parts byteInfo
 have HR := Li hr
 have HOK := Li (fun p hp => (hk p hp).1)
 have HSZ := Li (show ∀ k, k < l.length → (l.getD k pc0).s.size ≤ 1000000 from fun k h => (hk _ (by simp [jA, h])).2)
 have HPO := Li (show ∀ k, k < l.length → PcOk (l.getD k pc0) from fun k h => (hk _ (by simp [jA, h])).1)
 obtain ⟨T0, hT0⟩ : ∃ T0, T0 = tailF l := ⟨_, rfl⟩
 obtain ⟨C0, hC0⟩ : ∃ C0, C0 = (grps l).length := ⟨_, rfl⟩
 have hCl : C0 ≤ l.length := by rw [hC0]; exact grps_len_le l
 have HF := Li (show formP l = sh C0 ++ T0 by rw [hT0, hC0]; rfl)
 have hTl : T0.length ≤ 1000000 := by have := HF.out; rw [this, jC] at hT; omega
 obtain ⟨F, hF⟩ : ∃ F, F = formP l := ⟨_, rfl⟩
 rw [← hF] at HF hT ⊢
 have HT0 := Li hT0
 have HC0 := Li hC0
 clear hr hk hF hT0 hC0
 go_enter Tryz.func56, Tryz.ntmps56
 go_wp2_with fail
 go_loopw [3, 4, 5] (fun ov cv iv wr => ∃ (i cnt : Nat) (pre : List Nat), iv = .int .i64 i ∧ cv = .int .i64 cnt ∧ i ≤ l.length ∧ T0 = pre ++ tailF (l.drop i) ∧ C0 = cnt + (grps (l.drop i)).length ∧ OwnB wr w.heap.size ov pre ∧ Below w.heap.size w wr) (fun _ _ iv _ => l.length - (intOf iv).toNat)
 case atStart => exact ⟨0, 0, [], rfl, rfl, Nat.zero_le _, HT0.out, by rw [HC0.out]; simp, OwnB.nil_ _ _, jE _ _⟩
 case round =>
  rename World => wr
  obtain ⟨i, cnt, pre, rfl, rfl, hil, htg, hcg, ho, hb⟩ := hrel
  have HTG := Li htg
  have HCG := Li hcg
  have HO := Li ho
  have HB := Li hb
  have hpl : pre.length ≤ 1000000 := by have h2 := congrArg List.length htg; rw [jC] at h2; omega
  have hcnt : cnt ≤ C0 := by omega
  clear htg hcg ho hb HT0 HC0
  by_cases hlt : i < l.length
  ·have q1 : (i : Int) < (l.length : Int) := by omega
   have hrr := HR.out
   obtain ⟨ad, rfl, hab, hat⟩ := hrr.open_ (by omega)
   have HAB := Li hab
   have HAT := Li hat
   have hrp := runAt_pos hlt
   have HTA := Li (tail_at hlt)
   have HGA := Li (show (grps (l.drop i)).length = 1 + (grps (l.drop (i + runAt l i))).length by rw [grps_atD hlt, List.length_cons]; omega)
   have HRE := Li (rows_end l i hlt)
   have HRN := Li (show runAt l i = run1 (l.getD i pc0).s (l.drop i) from rfl)
   have HRA := Li (fun j h0 h2 => rows_at (l := l) (i := i) (j := j) HOK.out h0 h2 hrp.2)
   clear hat hab hrr
   obtain ⟨r, hrd⟩ : ∃ r, r = runAt l i := ⟨_, rfl⟩
   rw [← hrd] at HTA HGA HRE HRN HRA hrp
   clear hrd
   obtain ⟨hr1, hr2⟩ := hrp
   have hsz := HSZ.out i hlt
   go_wp2_with fail
   go_loopw [6] (fun kv wx => ∃ k q : Nat, kv = .int .i64 k ∧ i ≤ k ∧ k ≤ l.length ∧ r = (k - i) + run1 (l.getD i pc0).s (l.drop k) ∧ wx = wr.drewN q) (fun kv _ => l.length - (intOf kv).toNat)
   case atStart => exact ⟨i, 0, rfl, jD _, hil, by rw [HRN.out]; omega, rfl⟩
   case round =>
    rename World => wx
    obtain ⟨k, q, rfl, hik, hkl, hrk, hwx⟩ := hrel
    have HRK := Li hrk
    have HW := Li hwx
    have HBX := Li (show Below w.heap.size w wx by rw [hwx]; exact belowDrewN q HB.out)
    have e1 : wx.cell? (ad.add (i * 5)) = some (.string (l.getD i pc0).s) := ((HAT.out.below HBX.out HAB.out).piece i hlt).ser
    have HE0 := Li (show k < l.length → wx.cell? (ad.add (k * 5)) = some (.string (l.getD k pc0).s) from fun h => ((HAT.out.below HBX.out HAB.out).piece k h).ser)
    have HCY := Li (contB_yes (l := l) (i := i) (k := k))
    have HCN := Li (contB_no (l := l) (i := i) (k := k))
    have HCD := Li (show contB l i k = (decide (k < l.length) && ((l.getD k pc0).s.toList == (l.getD i pc0).s.toList)) from rfl)
    obtain ⟨b, hb⟩ : ∃ b, b = contB l i k := ⟨_, rfl⟩
    rw [← hb] at HCY HCN HCD
    clear hrk hwx hb
    go_upto_region 6 with fail
    go_cut [32] from 16 to 32 (fun cv wy => cv = .bool b ∧ ∃ q2, wx.drewN q2 = wy)
    case first =>
     by_cases hkl2 : k < l.length
     ·have p1 : (k : Int) < (l.length : Int) := by omega
      have e0 := HE0.out hkl2
      rcases (show ((l.getD k pc0).s.toList == (l.getD i pc0).s.toList) = true ∨ ((l.getD k pc0).s.toList == (l.getD i pc0).s.toList) = false by cases ((l.getD k pc0).s.toList == (l.getD i pc0).s.toList) <;> simp) with hse | hse
      ·have HBV := Li (show b = true by rw [HCD.out, jF hkl2, hse]; rfl)
       clear HE0 HCD
       generalize l.getD k pc0 = pk at *
       generalize l.getD i pc0 = pi at *
       go_quiet (fail)
       go_wp2_with fail
       go_meet
       exact ⟨by rw [HBV.out], nq, rfl⟩
      ·have HBV := Li (show b = false by rw [HCD.out, jF hkl2, hse]; rfl)
       clear HE0 HCD
       generalize l.getD k pc0 = pk at *
       generalize l.getD i pc0 = pi at *
       go_quiet (fail)
       go_wp2_with fail
       go_meet
       exact ⟨by rw [HBV.out], nq, rfl⟩
     ·have HBV := Li (show b = false by rw [HCD.out, jG hkl2]; rfl)
      have p1 : decide ((k : Int) < (l.length : Int)) = false := jG (by omega)
      clear HE0 HCD
      go_quiet (fail)
      go_wp2_with fail
      go_meet
      exact ⟨by rw [HBV.out], nq, rfl⟩
    case rest =>
    rename World => wy
    obtain ⟨rfl, q2, hwy⟩ := hcut
    have HWY := Li (show wy = wr.drewN (q + q2) by rw [← hwy, HW.out]; exact World.drewN_drewN ..)
    clear hwy HE0 HCD e1 HBX
    cases b with
    | true =>
     obtain ⟨hk2, hk3⟩ := HCY.out rfl
     have HK3 := Li hk3
     clear hk3 HCY HCN
     go_wp2_with fail
     go_roundw
     case rel => exact ⟨k + 1, q + q2, by go_num, by omega, by omega, by have h2 := HRK.out; rw [HK3.out] at h2; omega, HWY.out⟩
     case measure => simp only [intOf]; omega
    | false =>
     have hki : k = i + r := by have h2 := HRK.out; rw [HCN.out rfl] at h2; omega
     have HKI := Li hki
     have hkl3 : k ≤ l.length := hkl
     have hr3 : r ≤ l.length := by omega
     have fr : IntKind.u64.wrap ((k : Int) - (i : Int)) = (r : Int) := by rw [IntKind.wrap_u64]; omega
     have HBY := Li (show Below w.heap.size w wy by rw [HWY.out]; exact belowDrewN _ HB.out)
     have HOY := Li (show OwnB wy w.heap.size u3 pre by rw [HWY.out]; exact HO.out.drewN _)
     have HFB := Li (show tailF (l.drop (i + r)) = tailF (l.drop k) by rw [hki])
     have HGB := Li (show (grps (l.drop (i + r))).length = (grps (l.drop k)).length by rw [hki])
     have HREK := Li (show rowsAt l i k = [] by rw [hki]; exact HRE.out)
     have HFL := Li (fun W (hb : Below w.heap.size w W) => ((HAT.out.below hb HAB.out).piece i hlt).ser)
     have hps := sh64 (l.getD i pc0).s.size (by omega)
     obtain ⟨m1, hm1⟩ : ∃ m1, m1 = sh (l.getD i pc0).s.size := ⟨_, rfl⟩
     have HS1 := Li (show ∀ W, Calls Tryz.prog 79 #[.int .u64 ((l.getD i pc0).s.size : Nat)] W (Gives m1 W) from fun W => by rw [hm1]; exact rshort_c _ W (by omega))
     have hrs := sh64 r (by omega)
     obtain ⟨m2, hm2⟩ : ∃ m2, m2 = sh r := ⟨_, rfl⟩
     have HS2 := Li (show ∀ W, Calls Tryz.prog 79 #[.int .u64 (r : Nat)] W (Gives m2 W) from fun W => by rw [hm2]; exact rshort_c _ W (by omega))
     have HTB := Li (show T0 = pre ++ (((m1 ++ sby (l.getD i pc0).s) ++ m2) ++ (rowsAt l i i ++ tailF (l.drop k))) by rw [HTG.out, HTA.out, HFB.out, hm1, hm2])
     have hm1l : m1.length ≤ 10 := by rw [hm1]; exact hps
     have hm2l : m2.length ≤ 10 := by rw [hm2]; exact hrs
     have HCB := Li (show C0 = (cnt + 1) + (grps (l.drop k)).length by rw [HCG.out, HGA.out, HGB.out]; omega)
     have fs : IntKind.u64.wrap ((l.getD i pc0).s.size : Int) = ((l.getD i pc0).s.size : Int) := by rw [IntKind.wrap_u64]; omega
     have e0 := HFL.out wy HBY.out
     clear hki hkl hps hrs hm1 hm2 HTA HGA HRE HRN HCN HCY HRK HWY HO HB HTG HCG HFB HGB HW
     generalize l.getD i pc0 = p at *
     go_upto_region 9 with fail
     go_upto_region 10 with (first
      | (go_at_call 79; (refine (HS1.out wy).mono ?_); rintro e W1 ⟨v1, rfl, ho, hb⟩; obtain ⟨A1, c1, rfl, _, _, r9⟩ := ho.rd; have HR1 := Li r9; have HO1 := Li (HOY.out.next hb); have HB1 := Li (HBY.out.trans (hb.mono HBY.out.size)); clear ho hb r9)
      | (at_builtin; refine wpList_app _ rfl (.tmp 37) (.tmp 45) _ rfl w.heap.size 5 i0 (.int .u8 0) 1 1 Tryz.underlying23 hi hz0 hz1 hz2 rfl (by decide) _ _ _ rfl HO1.out _ _ m1.length _ (byt m1) rfl (by rw [byt_len]; omega) HR1.out (byt_one m1) (by omega) (by omega) HB1.out.size ?_; intro v2 W2 hap; have HO2 := Li (OwnB.app (l := pre) (m := m1) hap); have HB2 := Li (HB1.out.trans (hap.below HO1.out HB1.out.size)); clear hap))
     obtain ⟨pre2, hpre2⟩ : ∃ pre2, pre2 = pre ++ m1 := ⟨_, rfl⟩
     have hpl2 : pre2.length ≤ 1000010 := by rw [hpre2, jC]; omega
     rw [← hpre2] at HO2
     have HE2 := Li hpre2
     have e2 := HFL.out W2 HB2.out
     have H63 := Li (show pre2.length + p.s.size ≤ maxLen by simp only [maxLen]; omega)
     have HBY2 := Li (show pre2.length + p.s.size ≤ 140737488355328 by omega)
     clear hpre2 e0 HS1 HO1 HB1 HR1
     go_upto_region 11 with (refine Lib.wpList_append_own_string _ rfl (.tmp 47) (.tmp 52) 23 9 rfl w.heap.size 5 i0 Tryz.underlying23 Tryz.underlying9 hi hz0 hz1 hz2 v2 pre2.length (byt pre2) rfl HO2.out p.s rfl H63.out HBY2.out HB2.out.size ?_; intro v3 W3 ho hgr _; have HO3 := Li (own_str ho); have HB3 := Li (HB2.out.trans (below_grown HO2.out hgr HB2.out.size)); clear ho hgr)
     obtain ⟨pre3, hpre3⟩ : ∃ pre3, pre3 = pre2 ++ sby p.s := ⟨_, rfl⟩
     have hpl3 : pre3.length ≤ 2000010 := by rw [hpre3, jC, sby_len]; omega
     rw [← hpre3] at HO3
     have HE3 := Li hpre3
     clear hpre3 e2 H63 HBY2 HO2 HB2
     go_upto_region 12 with (first
      | (go_at_call 79; (refine (HS2.out W3).mono ?_); rintro e W4 ⟨v4, rfl, ho, hb⟩; obtain ⟨A4, c4, rfl, _, _, r9⟩ := ho.rd; have HR4 := Li r9; have HO4 := Li (HO3.out.next hb); have HB4 := Li (HB3.out.trans (hb.mono HB3.out.size)); clear ho hb r9)
      | (at_builtin; refine wpList_app _ rfl (.tmp 54) (.tmp 59) _ rfl w.heap.size 5 i0 (.int .u8 0) 1 1 Tryz.underlying23 hi hz0 hz1 hz2 rfl (by decide) _ _ _ rfl HO4.out _ _ m2.length _ (byt m2) rfl (by rw [byt_len]; omega) HR4.out (byt_one m2) (by omega) (by omega) HB4.out.size ?_; intro v5 W5 hap; have HO5 := Li (OwnB.app (l := pre3) (m := m2) hap); have HB5 := Li (HB4.out.trans (hap.below HO4.out HB4.out.size)); clear hap))
     obtain ⟨pre5, hpre5⟩ : ∃ pre5, pre5 = pre3 ++ m2 := ⟨_, rfl⟩
     rw [← hpre5] at HO5
     have HTC := Li (show T0 = pre5 ++ (rowsAt l i i ++ tailF (l.drop k)) by rw [HTB.out, hpre5, HE3.out, HE2.out]; simp only [List.append_assoc])
     clear hpre5 HS2 HO3 HB3 HO4 HB4 HR4 HTB HE2 HE3 HFL fr fs hpl hpl2 hpl3
     go_wp2_with fail
     go_loopw [3, 7] (fun ov jv wx => ∃ (j : Nat) (pre : List Nat), jv = .int .i64 j ∧ i ≤ j ∧ j ≤ k ∧ T0 = pre ++ (rowsAt l i j ++ tailF (l.drop k)) ∧ OwnB wx w.heap.size ov pre ∧ Below w.heap.size w wx) (fun _ jv _ => k - (intOf jv).toNat)
     case atStart => exact ⟨i, pre5, rfl, jD _, by omega, HTC.out, HO5.out, HB5.out⟩
     case round =>
      rename World => wz
      obtain ⟨j, pra, rfl, hij, hjk, htj, hoj, hbj⟩ := hrel
      have HTJ := Li htj
      have HOJ := Li hoj
      have HBJ := Li hbj
      have hpa : pra.length ≤ 1000000 := by have h2 := congrArg List.length htj; rw [jC] at h2; omega
      clear htj hoj hbj HTC HO5 HB5 HBY HOY
      by_cases hjk2 : j < k
      ·have hjl : j < l.length := by omega
       have q2 : (j : Int) < (k : Int) := by omega
       have HRS := Li (HRA.out j hij (by have := HKI.out; omega))
       have HFJ := Li (fun W (hb : Below w.heap.size w W) => ((HAT.out.below hb HAB.out).piece j hjl).fld)
       have HFP := Li (fun m (hm : m < l.length) W (hb : Below w.heap.size w W) => ((HAT.out.below hb HAB.out).piece m hm).fld)
       have HBT := Li (pT_bd (l := l) (i := i) (j := j) HPO.out hjl)
       have HBS := Li (pS_bd (l := l) (i := i) (j := j) HPO.out hjl)
       have HBV := Li (pV_bd (l := l) (i := i) (j := j) HPO.out hjl)
       obtain ⟨t, ht⟩ : ∃ t, t = pT l i j := ⟨_, rfl⟩
       obtain ⟨v, hv⟩ : ∃ v, v = pVl l i j := ⟨_, rfl⟩
       obtain ⟨s, hs⟩ : ∃ s, s = pS l i j := ⟨_, rfl⟩
       obtain ⟨s1, hs1⟩ : ∃ s1, s1 = pS1 l i j := ⟨_, rfl⟩
       rw [← ht, ← hv, ← hs] at HRS
       rw [← ht] at HBT
       rw [← hv] at HBV
       rw [← hs] at HBS
       have HT1 := Li ht
       have HV1 := Li hv
       have HS1 := Li hs
       have HS11 := Li hs1
       clear ht hv hs hs1
       go_upto_if 69 with fail
       go_cut [8, 9, 10] from 67 to 82 (fun a b c wx => a = .int .i64 t ∧ b = .int .i64 s1 ∧ c = .int .i64 v ∧ wz = wx)
       case first =>
        rcases Nat.lt_or_ge i j with hlj | hlj
        ·obtain ⟨m, rfl⟩ : ∃ m, j = m + 1 := ⟨j - 1, by omega⟩
         obtain ⟨e1, e2, _, _⟩ := HFP.out m (by omega) wz HBJ.out
         have E1 := Li (show t = (l.getD m pc0).t by rw [HT1.out]; unfold pT; rw [if_neg (by omega)]; rfl)
         have E2 := Li (show s1 = (l.getD m pc0).t by rw [HS11.out]; unfold pS1; rw [if_neg (by omega)]; rfl)
         have E3 := Li (show v = (l.getD m pc0).v by rw [HV1.out]; unfold pVl; rw [if_neg (by omega)]; rfl)
         have q3 : (i : Int) < (m : Int) + 1 := by omega
         have q4 : (m : Int) < (l.length : Int) := by omega
         generalize l.getD m pc0 = pm at *
         go_wp2_with fail
         go_meet
         exact ⟨by rw [E1.out], by rw [E2.out], by rw [E3.out], rfl⟩
        ·have hji : j = i := by omega
         have E1 := Li (show t = 0 by rw [HT1.out]; unfold pT; rw [if_pos hji])
         have E2 := Li (show s1 = 0 by rw [HS11.out]; unfold pS1; rw [if_pos hji])
         have E3 := Li (show v = 0 by rw [HV1.out]; unfold pVl; rw [if_pos hji])
         have q3 : ¬ (i : Int) < (j : Int) := by omega
         clear hji
         go_wp2_with fail
         go_meet
         exact ⟨by rw [E1.out], by rw [E2.out], by rw [E3.out], rfl⟩
       case rest =>
       rename World => wz1
       obtain ⟨rfl, rfl, rfl, rfl⟩ := hcut
       go_upto_if 86 with fail
       go_cut [9] from 83 to 94 (fun b wx => b = .int .i64 s ∧ wz = wx)
       case first =>
        obtain ⟨hb0, hb1⟩ := HBT.out
        rcases Nat.lt_or_ge (i + 1) j with hlj | hlj
        ·obtain ⟨m, rfl⟩ : ∃ m, j = m + 2 := ⟨j - 2, by omega⟩
         obtain ⟨e1, e2, _, _⟩ := HFP.out m (by omega) wz HBJ.out
         have E1 := Li (show t = (l.getD (m + 1) pc0).t by rw [HT1.out]; unfold pT; rw [if_neg (by omega)]; rfl)
         have E2 := Li (show s = wrap64 (t - (l.getD m pc0).t) by rw [HS1.out, E1.out, wrap_w]; unfold pS; rw [if_neg (by omega), if_neg (by omega)]; rfl)
         have q3 : (i : Int) + 1 < (m : Int) + 2 := by omega
         have q4 : (m : Int) < (l.length : Int) := by omega
         have hok := HPO.out m (by omega)
         have b0 := hok.t0
         have b1 := hok.t1
         clear hok
         generalize l.getD m pc0 = pm at *
         go_wp2_with fail
         go_meet
         exact ⟨by rw [E2.out], rfl⟩
        ·have q3 : ¬ (i : Int) + 1 < (j : Int) := by omega
         have E2 := Li (show s1 = s by
          rw [HS1.out, HS11.out]
          unfold pS1 pS
          by_cases hji : j = i
          ·rw [if_pos hji, if_pos hji]
          ·rw [if_neg hji, if_neg hji, if_pos (by omega), show j - 1 = i by omega])
         go_wp2_with fail
         go_meet
         exact ⟨by rw [E2.out], rfl⟩
       case rest =>
       rename World => wz2
       obtain ⟨rfl, rfl⟩ := hcut
       have HPK := Li (HPO.out j hjl)
       clear HFP HS11 HS1 HT1 HV1
       generalize l.getD j pc0 = p at *
       obtain ⟨ht0, ht1⟩ := HBT.out
       obtain ⟨hs0, hs1⟩ := HBS.out
       obtain ⟨hv0, hv1⟩ := HBV.out
       have hp0 := HPK.out.t0
       have hp1 := HPK.out.t1
       have hp2 := HPK.out.v0
       have hp3 := HPK.out.v1
       have HD1 := Li HPK.out.d1
       have hrs : T0 = pra ++ ((((sh (zig (wrap64 (wrap64 (p.t - t) - s))) ++ sh (zig (wrap64 (p.v - v)))) ++ sh p.n) ++ form p.d 2) ++ (rowsAt l i (j + 1) ++ tailF (l.drop k))) := by rw [HTJ.out, HRS.out, wrap_w, wrap_w, wrap_w]; simp only [List.append_assoc]
       obtain ⟨z1, hz1'⟩ : ∃ z1, z1 = zig (wrap64 (wrap64 (p.t - t) - s)) := ⟨_, rfl⟩
       obtain ⟨z2, hz2'⟩ : ∃ z2, z2 = zig (wrap64 (p.v - v)) := ⟨_, rfl⟩
       have HZC1 := Li (show ∀ W, Calls Tryz.prog 80 #[.int .i64 (wrap64 (wrap64 (p.t - t) - s))] W fun e w' => e = .returned (.int .u64 (z1 : Nat)) ∧ W = w' from fun W => by rw [hz1']; exact rzig_c _ W (wrap64_lo _) (wrap64_hi _))
       have HZC2 := Li (show ∀ W, Calls Tryz.prog 80 #[.int .i64 (wrap64 (p.v - v))] W fun e w' => e = .returned (.int .u64 (z2 : Nat)) ∧ W = w' from fun W => by rw [hz2']; exact rzig_c _ W (wrap64_lo _) (wrap64_hi _))
       have hzb1 : z1 < 18446744073709551616 := by rw [hz1']; exact zig_lt _ (wrap64_lo _) (wrap64_hi _)
       have hzb2 : z2 < 18446744073709551616 := by rw [hz2']; exact zig_lt _ (wrap64_lo _) (wrap64_hi _)
       rw [← hz1', ← hz2'] at hrs
       obtain ⟨m3, hm3⟩ : ∃ m3, m3 = sh z1 := ⟨_, rfl⟩
       obtain ⟨m4, hm4⟩ : ∃ m4, m4 = sh z2 := ⟨_, rfl⟩
       obtain ⟨m5, hm5⟩ : ∃ m5, m5 = sh p.n := ⟨_, rfl⟩
       obtain ⟨m6, hm6⟩ : ∃ m6, m6 = form p.d 2 := ⟨_, rfl⟩
       have hl3 : m3.length ≤ 10 := by rw [hm3]; exact sh64 _ hzb1
       have hl4 : m4.length ≤ 10 := by rw [hm4]; exact sh64 _ hzb2
       have hl5 : m5.length ≤ 10 := by rw [hm5]; exact sh64 _ HPK.out.n1
       have hl6 : m6.length ≤ 10 := by rw [hm6, form_len]; decide
       have HS3 := Li (show ∀ W, Calls Tryz.prog 79 #[.int .u64 (z1 : Nat)] W (Gives m3 W) from fun W => by rw [hm3]; exact rshort_c _ W hzb1)
       have HS4 := Li (show ∀ W, Calls Tryz.prog 79 #[.int .u64 (z2 : Nat)] W (Gives m4 W) from fun W => by rw [hm4]; exact rshort_c _ W hzb2)
       have HS5 := Li (show ∀ W, Calls Tryz.prog 79 #[.int .u64 (p.n : Nat)] W (Gives m5 W) from fun W => by rw [hm5]; exact rshort_c _ W HPK.out.n1)
       have HS6 := Li (show ∀ W, Calls Tryz.prog 54 #[.int .u64 (p.d : Nat), .int .i64 2] W (Gives m6 W) from fun W => by rw [hm6]; exact rform_c _ 2 W (by have := HPK.out.d1; omega) (by decide))
       have HRS2 := Li (show T0 = pra ++ ((((m3 ++ m4) ++ m5) ++ m6) ++ (rowsAt l i (j + 1) ++ tailF (l.drop k))) by rw [hrs, hm3, hm4, hm5, hm6])
       have fd : IntKind.u64.wrap (p.d : Int) = (p.d : Int) := by rw [IntKind.wrap_u64]; have := HPK.out.d1; omega
       clear hrs hz1' hz2' hzb1 hzb2 hm3 hm4 hm5 hm6 HRS HTJ HRA HREK
       obtain ⟨e1, _, _, _⟩ := HFJ.out wz HBJ.out
       have q4 : (j : Int) < (l.length : Int) := by omega
       go_upto_region 23 with (first
        | (go_at_call 80; (refine (HZC1.out wz).mono ?_); rintro e Wz ⟨rfl, rfl⟩)
        | (go_at_call 79; (refine (HS3.out wz).mono ?_); rintro e W6 ⟨v6, rfl, ho, hb⟩; obtain ⟨A6, c6, rfl, _, _, r9⟩ := ho.rd; have HR6 := Li r9; have HO6 := Li (HOJ.out.next hb); have HB6 := Li (HBJ.out.trans (hb.mono HBJ.out.size)); clear ho hb r9)
        | (at_builtin; refine wpList_app _ rfl (.tmp 95) (.tmp 106) _ rfl w.heap.size 5 i0 (.int .u8 0) 1 1 Tryz.underlying23 hi hz0 hz1 hz2 rfl (by decide) _ _ _ rfl HO6.out _ _ m3.length _ (byt m3) rfl (by rw [byt_len]; omega) HR6.out (byt_one m3) (by omega) (by omega) HB6.out.size ?_; intro v7 W7 hap; have HO7 := Li (OwnB.app (l := pra) (m := m3) hap); have HB7 := Li (HB6.out.trans (hap.below HO6.out HB6.out.size)); clear hap))
       obtain ⟨prb, hprb⟩ : ∃ prb, prb = pra ++ m3 := ⟨_, rfl⟩
       have hpb : prb.length ≤ 1000010 := by rw [hprb, jC]; omega
       rw [← hprb] at HO7
       have HPB := Li hprb
       clear hprb e1 HS3 HZC1 HO6 HB6 HR6
       obtain ⟨_, e1, _, _⟩ := HFJ.out W7 HB7.out
       go_upto_region 24 with (first
        | (go_at_call 80; (refine (HZC2.out W7).mono ?_); rintro e Wz ⟨rfl, rfl⟩)
        | (go_at_call 79; (refine (HS4.out W7).mono ?_); rintro e W8 ⟨v8, rfl, ho, hb⟩; obtain ⟨A8, c8, rfl, _, _, r9⟩ := ho.rd; have HR8 := Li r9; have HO8 := Li (HO7.out.next hb); have HB8 := Li (HB7.out.trans (hb.mono HB7.out.size)); clear ho hb r9)
        | (at_builtin; refine wpList_app _ rfl (.tmp 108) (.tmp 117) _ rfl w.heap.size 5 i0 (.int .u8 0) 1 1 Tryz.underlying23 hi hz0 hz1 hz2 rfl (by decide) _ _ _ rfl HO8.out _ _ m4.length _ (byt m4) rfl (by rw [byt_len]; omega) HR8.out (byt_one m4) (by omega) (by omega) HB8.out.size ?_; intro v9 W9 hap; have HO9 := Li (OwnB.app (l := prb) (m := m4) hap); have HB9 := Li (HB8.out.trans (hap.below HO8.out HB8.out.size)); clear hap))
       obtain ⟨prc, hprc⟩ : ∃ prc, prc = prb ++ m4 := ⟨_, rfl⟩
       have hpc : prc.length ≤ 1000020 := by rw [hprc, jC]; omega
       rw [← hprc] at HO9
       have HPC := Li hprc
       clear hprc e1 HS4 HZC2 HO8 HB8 HR8 HO7 HB7
       obtain ⟨_, _, e1, _⟩ := HFJ.out W9 HB9.out
       go_upto_region 25 with (first
        | (go_at_call 79; (refine (HS5.out W9).mono ?_); rintro e W10 ⟨v10, rfl, ho, hb⟩; obtain ⟨A10, c10, rfl, _, _, r9⟩ := ho.rd; have HR10 := Li r9; have HO10 := Li (HO9.out.next hb); have HB10 := Li (HB9.out.trans (hb.mono HB9.out.size)); clear ho hb r9)
        | (at_builtin; refine wpList_app _ rfl (.tmp 119) (.tmp 126) _ rfl w.heap.size 5 i0 (.int .u8 0) 1 1 Tryz.underlying23 hi hz0 hz1 hz2 rfl (by decide) _ _ _ rfl HO10.out _ _ m5.length _ (byt m5) rfl (by rw [byt_len]; omega) HR10.out (byt_one m5) (by omega) (by omega) HB10.out.size ?_; intro v11 W11 hap; have HO11 := Li (OwnB.app (l := prc) (m := m5) hap); have HB11 := Li (HB10.out.trans (hap.below HO10.out HB10.out.size)); clear hap))
       obtain ⟨prd, hprd⟩ : ∃ prd, prd = prc ++ m5 := ⟨_, rfl⟩
       have hpd : prd.length ≤ 1000030 := by rw [hprd, jC]; omega
       rw [← hprd] at HO11
       have HPD := Li hprd
       clear hprd e1 HS5 HO10 HB10 HR10 HO9 HB9
       obtain ⟨_, _, _, e1⟩ := HFJ.out W11 HB11.out
       go_wp2_with (first
        | (go_at_call 54; (refine (HS6.out W11).mono ?_); rintro e W12 ⟨v12, rfl, ho, hb⟩; obtain ⟨A12, c12, rfl, _, _, r9⟩ := ho.rd; have HR12 := Li r9; have HO12 := Li (HO11.out.next hb); have HB12 := Li (HB11.out.trans (hb.mono HB11.out.size)); clear ho hb r9)
        | (at_builtin; refine wpList_app _ rfl (.tmp 128) (.tmp 136) _ rfl w.heap.size 5 i0 (.int .u8 0) 1 1 Tryz.underlying23 hi hz0 hz1 hz2 rfl (by decide) _ _ _ rfl HO12.out _ _ m6.length _ (byt m6) rfl (by rw [byt_len]; omega) HR12.out (byt_one m6) (by omega) (by omega) HB12.out.size ?_; intro v13 W13 hap; have HO13 := Li (OwnB.app (l := prd) (m := m6) hap); have HB13 := Li (HB12.out.trans (hap.below HO12.out HB12.out.size)); clear hap))
       have HTN := Li (show T0 = (prd ++ m6) ++ (rowsAt l i (j + 1) ++ tailF (l.drop k)) by rw [HRS2.out, HPD.out, HPC.out, HPB.out]; simp only [List.append_assoc])
       go_roundw
       case rel => exact ⟨j + 1, prd ++ m6, by go_num, by omega, by omega, HTN.out, HO13.out, HB13.out⟩
       case measure => simp only [intOf]; omega
      ·have hjk3 : j = k := by omega
       have HTN := Li (show T0 = pra ++ tailF (l.drop k) by rw [HTJ.out, hjk3, HREK.out, List.nil_append])
       have hki2 := HKI.out
       clear hjk2
       obtain rfl : k = j := hjk3.symm
       go_wp2_with fail
       go_roundw
       case rel => exact ⟨k, cnt + 1, pra, rfl, by go_num, hkl3, HTN.out, HCB.out, HOJ.out, HBJ.out⟩
       case measure => simp only [intOf]; omega
  ·obtain rfl : i = l.length := by omega
   have htl : tailF (l.drop l.length) = [] := by rw [List.drop_length]; unfold tailF; rw [grps_nil]; rfl
   have hcl : (grps (l.drop l.length)).length = 0 := by rw [List.drop_length, grps_nil]; rfl
   have HTN := Li (show T0 = pre by rw [HTG.out, htl, List.append_nil])
   have HCN := Li (show C0 = cnt by rw [HCG.out, hcl, Nat.add_zero])
   have hcs := sh64 cnt (by omega)
   obtain ⟨m1, hm1⟩ : ∃ m1, m1 = sh cnt := ⟨_, rfl⟩
   have HS1 := Li (show ∀ W, Calls Tryz.prog 79 #[.int .u64 (cnt : Nat)] W (Gives m1 W) from fun W => by rw [hm1]; exact rshort_c _ W (by omega))
   have HFN := Li (show F = m1 ++ pre by rw [HF.out, HCN.out, HTN.out, hm1])
   have hm1l : m1.length ≤ 10 := by rw [hm1]; exact hcs
   have fc : IntKind.u64.wrap (cnt : Int) = (cnt : Int) := by rw [IntKind.wrap_u64]; omega
   clear htl hcl hcs hm1 hlt HTG HCG HTN HCN HF
   obtain ⟨A0, c0, rfl, _, _, r0⟩ := HO.out.rd
   have HR0 := Li r0
   clear r0
   go_wp2_with (first
    | (go_at_call 79; (refine (HS1.out wr).mono ?_); rintro e W1 ⟨v1, rfl, ho, hb⟩; have HR1 := Li (show Rd W1 wr.heap.size A0 (byt pre) from HR0.out.below hb); have HO1 := Li (show OwnB W1 w.heap.size v1 m1 from own_base_le ho HB.out.size); have HB1 := Li (HB.out.trans (hb.mono HB.out.size)); clear ho hb)
    | (at_builtin; refine wpList_app _ rfl (.tmp 141) (.tmp 142) _ rfl w.heap.size 5 i0 (.int .u8 0) 1 1 Tryz.underlying23 hi hz0 hz1 hz2 rfl (by decide) _ _ _ rfl HO1.out _ _ pre.length _ (byt pre) rfl (by rw [byt_len]; omega) HR1.out (byt_one pre) (by omega) (by omega) HB1.out.size ?_; intro v2 W2 hap; have HO2 := Li (OwnB.app (l := m1) (m := pre) hap); have HB2 := Li (HB1.out.trans (hap.below HO1.out HB1.out.size)); clear hap))
   go_ret
   exact ⟨_, rfl, by rw [HFN.out]; exact HO2.out, HB2.out⟩
theorem rlay_c (A : Option Addr) (c : Nat) (l : List Pc) (w : World) (hr : RdP w w.heap.size A l) (h1 : l.length ≤ 100000) (hk : ∀ p ∈ l, PcOk p ∧ p.s.size ≤ 1000000) (h0 : chkL l = 0) :
  Calls Tryz.prog 34 #[.slice A l.length c] w (Gives (layL l) w) := by
 obtain ⟨i0, hi, hz0, hz1, hz2⟩ := info_parts byteInfo
 have hok := chk_ok h0
 have hsz := chk_sizes h0
 have hff := form_fits l (fun p hp => ⟨(hk p hp).1, by have := (hsz p hp).2; omega⟩) (by omega)
 have HR := Li hr
 have HRM := Li (fun W (h : RdP W w.heap.size A l) => rroom_c w.heap.size A c l W h (by omega) (fun p hp => (hk p hp).2))
 have HFM := Li (rformP_c A c l w hr h1 hk (by omega))
 obtain ⟨Z, hZ⟩ : ∃ Z, Z = roomL l - (2 + (formP l).length) := ⟨_, rfl⟩
 have HRZ := Li (show roomL l = 2 + (formP l).length + Z by omega)
 have hrl : roomL l ≤ 4096 := hok.2.1
 have HE := Li (show layL l = (form (formP l).length 2 ++ formP l) ++ List.replicate Z 0 by unfold layL; rw [hZ])
 obtain ⟨F, hF⟩ : ∃ F, F = formP l := ⟨_, rfl⟩
 rw [← hF] at HE HFM HRZ
 have hFl : F.length ≤ 4096 := by rw [hF]; omega
 obtain ⟨m1, hm1⟩ : ∃ m1, m1 = form F.length 2 := ⟨_, rfl⟩
 have HFR := Li (show ∀ W, Calls Tryz.prog 54 #[.int .u64 (F.length : Nat), .int .i64 2] W (Gives m1 W) from fun W => by rw [hm1]; exact rform_c _ 2 W (by omega) (by decide))
 have HM1 := Li (show m1.length = 2 by rw [hm1, form_len])
 rw [← hm1] at HE
 obtain ⟨L, hL⟩ : ∃ L, L = layL l := ⟨_, rfl⟩
 rw [← hL] at HE ⊢
 have hm1l : m1.length ≤ 2 := by have := HM1.out; omega
 have fl : IntKind.u64.wrap (F.length : Int) = (F.length : Int) := by rw [IntKind.wrap_u64]; omega
 clear hr hk h0 hok hsz hff hF hm1 hL hZ
 generalize roomL l = rm at *
 have hZ : Z ≤ 4096 := by have := HRZ.out; omega
 go_enter Tryz.func34, Tryz.ntmps34
 go_wp2_with (first
  | (go_at_call 56; (refine HFM.out.mono ?_); rintro e W1 ⟨v1, rfl, ho, hb⟩; obtain ⟨A1, c1, rfl, _, _, r9⟩ := ho.rd; have HR1 := Li r9; have HB1 := Li hb; clear ho hb r9)
  | (go_at_call 54; (refine (HFR.out W1).mono ?_); rintro e W2 ⟨v2, rfl, ho, hb⟩; have HR2 := Li (show Rd W2 W1.heap.size A1 (byt F) from HR1.out.below hb); have HO2 := Li (show OwnB W2 w.heap.size v2 m1 from own_base_le ho HB1.out.size); have HB2 := Li (HB1.out.trans (hb.mono HB1.out.size)); clear ho hb)
  | (at_builtin; refine wpList_app _ rfl (.tmp 10) (.tmp 11) _ rfl w.heap.size 5 i0 (.int .u8 0) 1 1 Tryz.underlying23 hi hz0 hz1 hz2 rfl (by decide) _ _ _ rfl HO2.out _ _ F.length _ (byt F) rfl (by rw [byt_len]; omega) HR2.out (byt_one F) (by omega) (by omega) HB2.out.size ?_; intro v3 W3 hap; have HO3 := Li (OwnB.app (l := m1) (m := F) hap); have HB3 := Li (HB2.out.trans (hap.below HO2.out HB2.out.size)); clear hap))
 obtain ⟨pre, hpre⟩ : ∃ pre, pre = m1 ++ F := ⟨_, rfl⟩
 have HPL := Li (show pre.length = 2 + F.length by rw [hpre, jC, HM1.out])
 rw [← hpre] at HO3 HE
 clear hpre HFM HFR HM1 HO2 HB2 HR2 HR1 HB1 fl
 go_loopw [4] (fun ov wr => ∃ z : Nat, z ≤ Z ∧ OwnB wr w.heap.size ov (pre ++ List.replicate z 0) ∧ Below w.heap.size w wr) (fun ov _ => match ov with | .slice _ n _ => pre.length + Z - n | _ => 0)
 case atStart => exact ⟨0, Nat.zero_le _, by rw [List.replicate_zero, List.append_nil]; exact HO3.out, HB3.out⟩
 case round =>
  rename World => wr
  obtain ⟨z, hz, ho, hb⟩ := hrel
  have HRW := Li (show RdP wr w.heap.size A l from Rd.below HR.out hb)
  have HB := Li hb
  have HPP := HPL.out
  have hll : (pre ++ List.replicate z 0).length = pre.length + z := by rw [jC, List.length_replicate]
  have HN := Li (show pre ++ List.replicate (z + 1) 0 = (pre ++ List.replicate z 0) ++ [0] by rw [List.replicate_succ', List.append_assoc])
  obtain ⟨cur, hcur⟩ : ∃ cur, cur = pre ++ List.replicate z 0 := ⟨_, rfl⟩
  rw [← hcur] at ho hll HN
  have HCU := Li hcur
  obtain ⟨A4, c4, rfl, _, _, _⟩ := ho.rd
  have HO := Li ho
  have HRMQ := HRZ.out
  have HLL := Li hll
  clear ho hb hcur HO3 HB3
  by_cases hlt : z < Z
  ·have q1 : (cur.length : Int) < (rm : Int) := by omega
   have q2 : cur.length ≤ 10000 := by omega
   clear hll HPP HRMQ
   go_wp2_with (first
    | (go_at_call 29; (refine (HRM.out wr HRW.out).mono ?_); rintro e W1 ⟨rfl, q, hq⟩; have HO1 := Li (show OwnB W1 w.heap.size _ cur by rw [hq]; exact HO.out.drewN q); have HB1 := Li (show Below w.heap.size w W1 by rw [hq]; exact belowDrewN q HB.out); clear HO HB HRW hq)
    | (at_builtin; go_loud (refine wpList_app _ rfl (.tmp 18) (.tmp 19) _ rfl w.heap.size 5 i0 (.int .u8 0) 1 1 Tryz.underlying23 hi hz0 hz1 hz2 rfl (by decide) _ _ _ rfl (HO1.out.alloc _) _ _ 1 1 [.int .u8 ((0 : Nat) : Int)] rfl rfl (by exact rd_new _ [.int .u8 ((0 : Nat) : Int)] _ (0, 0)) (byt_one [0]) (by omega) (by omega) (by have := HB1.out.size; simp; omega) ?_; intro v2 W2 hap; have HO2 := Li (OwnB.snoc (l := cur) (c := 0) hap); have HB2 := Li ((HB1.out.alloc HB1.out.size _).trans (hap.below (HO1.out.alloc _) (by have := HB1.out.size; simp; omega))); clear hap)))
   obtain ⟨A5, c5, e5, _, _, _⟩ := HO2.out.rd
   go_roundw
   case rel => exact ⟨z + 1, by omega, by rw [HN.out]; exact HO2.out, HB2.out⟩
   case measure =>
    rw [e5]
    have := HLL.out
    simp only [jC, List.length_cons, List.length_nil]
    omega
  ·have q1 : ¬ (cur.length : Int) < (rm : Int) := by omega
   have HZE := Li (show z = Z by omega)
   clear hll HPP HRMQ hlt
   go_wp2_with (go_at_call 29; (refine (HRM.out wr HRW.out).mono ?_); rintro e W1 ⟨rfl, q, rfl⟩; have HO1 := Li (HO.out.drewN q); have HB1 := Li (belowDrewN q HB.out); clear HO HB HRW)
   go_ret
   exact ⟨_, rfl, by rw [HE.out, ← HZE.out, ← HCU.out]; exact HO1.out, HB1.out⟩
def RdrAt (w : World) (g B : Nat) (b : List Nat) (bad : Bool) : Prop :=
 ∃ A c, Blk w g 146 #[.slice A b.length c, .bool bad] ∧ Rd w B A (byt b) ∧ b.length ≤ c ∧ c ≤ maxLen
theorem RdrAt.keep {w w' : World} {g B : Nat} {b : List Nat} {bad : Bool} {S : Nat → Prop} (h : RdrAt w g B b bad) (ho : Only S w w') (hg : ¬ S g) (hB : ∀ k, k < B → ¬ S k) : RdrAt w' g B b bad := by
 obtain ⟨A, c, h1, h2, h3, h4⟩ := h
 refine ⟨A, c, h1.keep ho hg, fun hne => ?_, h3, h4⟩
 obtain ⟨ad, e, hb, hc⟩ := h2 hne
 exact ⟨ad, e, hb, fun j u hu => ho.cell (hc j u hu) (by rw [add_block]; exact hB _ hb)⟩
theorem rdr_end {w : World} {g B : Nat} {A A' : Option Addr} {c u c' : Nat} {b : List Nat} {bad : Bool} (x : Bool) (hb : Blk w g 146 #[.slice A b.length c, .bool bad]) (hrd : Rd w B A (byt b)) (hB : B ≤ g) (hc : b.length ≤ c) (hm : c ≤ maxLen) (hu : u ≤ b.length)
  (hc' : c' = c - u) (hA : c ≠ u → A' = Option.map (fun x => x.add u) A) :
  RdrAt ((w.setCell ⟨g, 1, none⟩ (.bool x)).setCell ⟨g, 0, none⟩ (.slice A' (b.length - u) c')) g B (b.drop u) x ∧ Only (fun k => k = g) w ((w.setCell ⟨g, 1, none⟩ (.bool x)).setCell ⟨g, 0, none⟩ (.slice A' (b.length - u) c')) := by
 have hdl : (b.drop u).length = b.length - u := List.length_drop ..
 have hO : Only (fun k => k = g) w ((w.setCell ⟨g, 1, none⟩ (.bool x)).setCell ⟨g, 0, none⟩ (.slice A' (b.length - u) c')) := ((Only.refl (fun k => k = g) w).setCell (p := ⟨g, 1, none⟩) (fun _ => show g = g from rfl) _).setCell (p := ⟨g, 0, none⟩) (fun _ => show g = g from rfl) _
 refine ⟨⟨A', c', ?_, fun hne => ?_, by rw [hdl]; omega, by omega⟩, hO⟩
 ·rw [hdl]
  exact (hb.set_ 1 (.bool x)).set_ 0 (.slice A' (b.length - u) c')
 ·have hlt : 0 < (b.drop u).length := by
   rcases Nat.eq_zero_or_pos (b.drop u).length with h0 | h0
   ·rw [List.eq_nil_of_length_eq_zero h0] at hne; exact absurd rfl hne
   ·exact h0
  rw [hdl] at hlt
  obtain ⟨ad, rfl, hab, hcell⟩ := hrd (by intro h0; have h3 := congrArg List.length h0; rw [byt_len, List.length_nil] at h3; omega)
  have hnb : ad.block ≠ g := by omega
  refine ⟨ad.add u, hA (by omega), by rw [add_block]; exact hab, fun j v hv => ?_⟩
  rw [Addr.add_add]
  refine hO.cell (hcell (u + j) v ?_) (by rw [add_block]; exact hnb)
  unfold byt at hv ⊢
  rw [List.map_drop, List.getElem?_drop] at hv
  exact hv
theorem rshortR_c (g B : Nat) (b : List Nat) (bad : Bool) (w : World) (hr : RdrAt w g B b bad) (hB : B ≤ g) (hl : ∀ c ∈ b, c < 256) (h1 : b.length ≤ 10000000) :
  Calls Tryz.prog 83 #[.pointer (some ⟨g, 0, none⟩)] w fun e w' => e = .returned (.int .u64 ((rdS b bad).1 : Nat)) ∧ RdrAt w' g B (rdS b bad).2.1 (rdS b bad).2.2 ∧ Only (fun k => k = g) w w' := by
 obtain ⟨A, c, hb, hrd, hc, hm⟩ := hr
 have HG := Li (getShort_c B A c b w hrd hl h1)
 have HU := Li (show (gsF 0 0 b).2.1 ≤ b.length by have := gsF_used b 0 0; omega)
 have HE1 : rdS b bad = ((gsF 0 0 b).1, b.drop (gsF 0 0 b).2.1, bad || decide ((gsF 0 0 b).2.2 ≠ 0)) := rfl
 rw [HE1]
 clear HE1
 generalize gsF 0 0 b = R at *
 obtain ⟨n, u, f⟩ := R
 simp only at HG HU ⊢
 have hu := HU.out
 have k1 : (u : Int) ≤ (b.length : Int) := by omega
 have k2 : u ≤ c := by omega
 have HF := Li (show ((f : Int) != 0) = decide (f ≠ 0) by
  rcases Nat.eq_zero_or_pos f with h0 | h0
  ·subst h0; rfl
  ·rw [jF (by omega)]
   simp; omega)
 obtain ⟨q, hq⟩ : ∃ q, q = (bad || decide (f ≠ 0)) := ⟨_, rfl⟩
 rw [← hq]
 have HQ := Li hq
 clear hq
 have c0 : w.cell? ⟨g, 0, none⟩ = some (.slice A b.length c) := hb.cell 0
 have c1 : w.cell? ⟨g, 1, none⟩ = some (.bool bad) := hb.cell 1
 have f0 := hb.free 0
 have f1 := hb.free 1
 have HB := Li hb
 have HRD := Li hrd
 have HS := Li (show B ≤ g ∧ b.length ≤ c ∧ c ≤ maxLen from ⟨hB, hc, hm⟩)
 clear hb hrd hl h1 hB hm
 cases bad
 ·go_enter Tryz.func83, Tryz.ntmps83
  go_wp2_with (go_at_call 101; (refine HG.out.mono ?_); rintro e W1 ⟨rfl, rfl⟩)
  all_goals go_ret
  all_goals rw [HF.out, show decide (f ≠ 0) = q by rw [HQ.out, Bool.false_or]]
  all_goals refine ⟨rfl, rdr_end _ HB.out HRD.out HS.out.1 HS.out.2.1 HS.out.2.2 HU.out ?_ (fun h => ?_)⟩
  all_goals first | omega | with_reducible rfl | exact absurd (by assumption) ‹_ ≠ _›
 ·go_enter Tryz.func83, Tryz.ntmps83
  go_wp2_with (go_at_call 101; (refine HG.out.mono ?_); rintro e W1 ⟨rfl, rfl⟩)
  all_goals go_ret
  all_goals rw [show q = true by rw [HQ.out, Bool.true_or]]
  all_goals refine ⟨rfl, rdr_end _ HB.out HRD.out HS.out.1 HS.out.2.1 HS.out.2.2 HU.out ?_ (fun h => ?_)⟩
  all_goals first | omega | with_reducible rfl | exact absurd (by assumption) ‹_ ≠ _›
theorem Rd.takeB {w : World} {B : Nat} {A : Option Addr} {l : List Nat} (h : Rd w B A (byt l)) (n : Nat) : Rd w B A (byt (l.take n)) := fun hn => by
 obtain ⟨ad, e, h1, h2⟩ := h (by intro h0; apply hn; unfold byt at h0 ⊢; rw [List.map_eq_nil_iff] at h0; rw [h0, List.take_nil]; rfl)
 refine ⟨ad, e, h1, fun j u hu => h2 j u ?_⟩
 unfold byt at hu ⊢
 rw [List.map_take] at hu
 have hj : j < n := by
  rcases Nat.lt_or_ge j n with h3 | h3
  ·exact h3
  ·rw [List.getElem?_eq_none (by rw [List.length_take]; omega)] at hu; cases hu
 rw [List.getElem?_take_of_lt hj] at hu
 exact hu
theorem rdr_end0 {w : World} {g B : Nat} {A A' : Option Addr} {c u c' : Nat} {b : List Nat} {bad : Bool} (hb : Blk w g 146 #[.slice A b.length c, .bool bad]) (hrd : Rd w B A (byt b)) (hB : B ≤ g) (hc : b.length ≤ c) (hm : c ≤ maxLen) (hu : u ≤ b.length)
  (hc' : c' = c - u) (hA : c ≠ u → A' = Option.map (fun x => x.add u) A) :
  Rd (w.setCell ⟨g, 0, none⟩ (.slice A' (b.length - u) c')) B A (byt (b.take u)) ∧ RdrAt (w.setCell ⟨g, 0, none⟩ (.slice A' (b.length - u) c')) g B (b.drop u) bad ∧ Only (fun k => k = g) w (w.setCell ⟨g, 0, none⟩ (.slice A' (b.length - u) c')) := by
 have hdl : (b.drop u).length = b.length - u := List.length_drop ..
 have hO : Only (fun k => k = g) w (w.setCell ⟨g, 0, none⟩ (.slice A' (b.length - u) c')) := (Only.refl (fun k => k = g) w).setCell (p := ⟨g, 0, none⟩) (fun _ => show g = g from rfl) _
 have hR : Rd (w.setCell ⟨g, 0, none⟩ (.slice A' (b.length - u) c')) B A (byt b) := fun hne => by
  obtain ⟨ad, rfl, hab, hcell⟩ := hrd hne
  have hnb : ad.block ≠ g := by omega
  exact ⟨ad, rfl, hab, fun j v hv => hO.cell (hcell j v hv) (by rw [add_block]; exact hnb)⟩
 refine ⟨Rd.takeB hR u, ⟨A', c', ?_, fun hne => ?_, by rw [hdl]; omega, by omega⟩, hO⟩
 ·rw [hdl]
  exact hb.set_ 0 (.slice A' (b.length - u) c')
 ·have hlt : 0 < (b.drop u).length := by
   rcases Nat.eq_zero_or_pos (b.drop u).length with h0 | h0
   ·rw [List.eq_nil_of_length_eq_zero h0] at hne; exact absurd rfl hne
   ·exact h0
  rw [hdl] at hlt
  obtain ⟨ad, rfl, hab, hcell⟩ := hR (by intro h0; have h3 := congrArg List.length h0; rw [byt_len, List.length_nil] at h3; omega)
  refine ⟨ad.add u, hA (by omega), by rw [add_block]; exact hab, fun j v hv => ?_⟩
  rw [Addr.add_add]
  refine hcell (u + j) v ?_
  unfold byt at hv ⊢
  rw [List.map_drop, List.getElem?_drop] at hv
  exact hv
def BytesPost (g B : Nat) (R : List Nat × List Nat × Bool) (w : World) (e : Ending) (w' : World) : Prop := ∃ A' c', e = .returned (.slice A' R.1.length c') ∧ Rd w' B A' (byt R.1) ∧ RdrAt w' g B R.2.1 R.2.2 ∧ Only (fun k => k = g) w w'
theorem rbytes_c (g B n : Nat) (b : List Nat) (bad : Bool) (w : World) (hr : RdrAt w g B b bad) (hB : B ≤ g) (h1 : b.length ≤ 10000000) (hn : n < 18446744073709551616) :
  Calls Tryz.prog 102 #[.pointer (some ⟨g, 0, none⟩), .int .u64 (n : Nat)] w (BytesPost g B (rdB n b bad) w) := by
 obtain ⟨A, c, hb, hrd, hc, hm⟩ := hr
 have c0 : w.cell? ⟨g, 0, none⟩ = some (.slice A b.length c) := hb.cell 0
 have c1 : w.cell? ⟨g, 1, none⟩ = some (.bool bad) := hb.cell 1
 have f0 := hb.free 0
 have f1 := hb.free 1
 have fw : IntKind.u64.wrap (b.length : Int) = (b.length : Int) := by rw [IntKind.wrap_u64]; omega
 have HB := Li hb
 have HRD := Li hrd
 have HS := Li (show B ≤ g ∧ b.length ≤ c ∧ c ≤ maxLen from ⟨hB, hc, hm⟩)
 clear hb hrd hB hm
 by_cases hlt : b.length < n
 ·have HE := Li (show rdB n b bad = ([], b, true) by unfold rdB; rw [if_pos hlt])
  rw [HE.out]
  have p1 : ((b.length : Nat) : Int) < (n : Int) := by omega
  go_enter Tryz.func102, Tryz.ntmps102
  go_wp2_with fail
  go_ret
  have hO : Only (fun k => k = g) w (w.setCell ⟨g, 1, none⟩ (.bool true)) := (Only.refl (fun k => k = g) w).setCell (p := ⟨g, 1, none⟩) (fun _ => show g = g from rfl) _
  refine ⟨none, 0, rfl, Rd.nil_ _ _ _, ⟨A, c, HB.out.set_ 1 (.bool true), ?_, HS.out.2.1, HS.out.2.2⟩, hO⟩
  intro hne
  obtain ⟨ad, rfl, hab, hcell⟩ := HRD.out hne
  have hnb : ad.block ≠ g := by have := HS.out.1; omega
  exact ⟨ad, rfl, hab, fun j v hv => hO.cell (hcell j v hv) (by rw [add_block]; exact hnb)⟩
 ·have HE := Li (show rdB n b bad = (b.take n, b.drop n, bad) by unfold rdB; rw [if_neg hlt])
  rw [HE.out]
  have p1 : ¬ ((b.length : Nat) : Int) < (n : Int) := by omega
  have k1 : (n : Int) ≤ (b.length : Int) := by omega
  have k2 : n ≤ c := by have := HS.out.2.1; omega
  have k3 : n ≤ b.length := by omega
  have HEND := Li (fun A' c' => rdr_end0 (A' := A') (c' := c') HB.out HRD.out HS.out.1 HS.out.2.1 HS.out.2.2 k3)
  have HT := Li (show (b.take n).length = n by rw [List.length_take]; omega)
  go_enter Tryz.func102, Tryz.ntmps102
  go_wp2_with fail
  all_goals go_ret
  all_goals refine ⟨A, _, by show _ = Ending.returned (.slice A (b.take n).length _); rw [HT.out]; rfl, HEND.out _ _ ?_ (fun h => ?_)⟩
  all_goals first | omega | with_reducible rfl | exact absurd (by assumption) ‹_ ≠ _›
theorem zag_lo (n : Nat) (h : n < 18446744073709551616) : -9223372036854775808 ≤ zag n := by unfold zag; split <;> omega
theorem zag_hi (n : Nat) (h : n < 18446744073709551616) : zag n ≤ 9223372036854775807 := by unfold zag; split <;> omega
theorem rdS_facts {b b1 : List Nat} {bad x1 : Bool} {n1 : Nat} (hb : ∀ c ∈ b, c < 256) (h : rdS b bad = (n1, b1, x1)) : n1 < 18446744073709551616 ∧ (∀ c ∈ b1, c < 256) ∧ b1.length ≤ b.length ∧ (x1 = false → bad = false ∧ b1.length < b.length) := by
 unfold rdS at h
 injection h with e1 h
 injection h with e2 e3
 subst e1 e2 e3
 refine ⟨gsF_lt b hb 0 0 (by omega) (by decide), fun c hc => hb c (List.mem_of_mem_drop hc), by rw [List.length_drop]; omega, fun hx => ?_⟩
 rw [Bool.or_eq_false_iff, decide_eq_false_iff_not] at hx
 have h0 : (gsF 0 0 b).2.2 = 0 := by omega
 have h1 := gsF_pos b 0 0 h0
 have h2 := gsF_used b 0 0
 refine ⟨hx.1, ?_⟩
 rw [List.length_drop]
 omega
theorem rdB_facts {b b1 l1 : List Nat} {bad x1 : Bool} {n : Nat} (hb : ∀ c ∈ b, c < 256) (h : rdB n b bad = (l1, b1, x1)) : (∀ c ∈ l1, c < 256) ∧ l1.length ≤ b.length ∧ (∀ c ∈ b1, c < 256) ∧ b1.length ≤ b.length ∧ (x1 = false → bad = false ∧ l1.length = n ∧ b1.length + n = b.length) := by
 unfold rdB at h
 split at h
 ·injection h with e1 h
  injection h with e2 e3
  subst e1 e2 e3
  exact ⟨by simp, by simp, hb, jD _, fun hx => by cases hx⟩
 ·injection h with e1 h
  injection h with e2 e3
  subst e1 e2 e3
  refine ⟨fun c hc => hb c (List.mem_of_mem_take hc), by rw [List.length_take]; omega, fun c hc => hb c (List.mem_of_mem_drop hc), by rw [List.length_drop]; omega, fun hx => ⟨hx, by rw [List.length_take]; omega, by rw [List.length_drop]; omega⟩⟩
theorem num2_lt {l : List Nat} (hb : ∀ c ∈ l, c < 256) (h : l.length ≤ 2) : number l < 65536 := by
 have h1 := number_lt l hb
 have h2 : 256 ^ l.length ≤ 256 ^ 2 := Nat.pow_le_pow_right (by decide) h
 have : (256 : Nat) ^ 2 = 65536 := by decide
 omega
theorem rpL_facts (s : ByteArray) : ∀ (i : Nat) (b : List Nat) (bad : Bool) (t step v : Int) (acc : List Pc), (∀ c ∈ b, c < 256) → (∀ p ∈ acc, PcOk p ∧ p.s = s) →
  (∀ p ∈ (rpL s i b bad t step v acc).1, PcOk p ∧ p.s = s) ∧ (rpL s i b bad t step v acc).1.length + (rpL s i b bad t step v acc).2.1.length ≤ acc.length + b.length ∧ (∀ c ∈ (rpL s i b bad t step v acc).2.1, c < 256) ∧ (rpL s i b bad t step v acc).2.1.length ≤ b.length ∧ ((rpL s i b bad t step v acc).2.2 = false → bad = false) := by
 intro i
 induction i with
 | zero => intro b bad t step v acc hb ha; exact ⟨ha, jD _, hb, jD _, id⟩
 | succ i ih =>
  intro b bad t step v acc hb ha
  obtain ⟨n1, b1, x1, h1⟩ : ∃ n1 b1 x1, rdS b bad = (n1, b1, x1) := ⟨_, _, _, rfl⟩
  obtain ⟨n2, b2, x2, h2⟩ : ∃ n2 b2 x2, rdS b1 x1 = (n2, b2, x2) := ⟨_, _, _, rfl⟩
  obtain ⟨n3, b3, x3, h3⟩ : ∃ n3 b3 x3, rdS b2 x2 = (n3, b3, x3) := ⟨_, _, _, rfl⟩
  obtain ⟨l4, b4, x4, h4⟩ : ∃ l4 b4 x4, rdB 2 b3 x3 = (l4, b4, x4) := ⟨_, _, _, rfl⟩
  rw [rpL_step s i b bad t step v acc h1 h2 h3 h4]
  obtain ⟨f11, f12, f13, f14⟩ := rdS_facts hb h1
  obtain ⟨f21, f22, f23, f24⟩ := rdS_facts f12 h2
  obtain ⟨f31, f32, f33, f34⟩ := rdS_facts f22 h3
  obtain ⟨f41, f42, f43, f44, f45⟩ := rdB_facts f32 h4
  cases x4 with
  | true =>
   simp only [if_true]
   refine ⟨ha, by omega, f43, by omega, fun hx => by cases hx⟩
  | false =>
   simp only [Bool.false_eq_true, if_false]
   obtain ⟨g1, g2, g3⟩ := f45 rfl
   obtain ⟨g4, g5⟩ := f34 g1
   obtain ⟨g6, g7⟩ := f24 g4
   obtain ⟨g8, g9⟩ := f14 g6
   obtain ⟨r1, r2, r3, r4, r5⟩ := ih b4 false (w64 (t + w64 (step + zag n1))) (w64 (step + zag n1)) (w64 (v + zag n2)) (acc ++ [⟨s, w64 (t + w64 (step + zag n1)), w64 (v + zag n2), n3, number l4⟩]) f43 (fun p hp => by
    rcases List.mem_append.1 hp with hp | hp
    ·exact ha p hp
    ·obtain rfl := List.mem_singleton.1 hp
     exact ⟨⟨w64_lo _, w64_hi _, w64_lo _, w64_hi _, f31, num2_lt f41 (by omega)⟩, rfl⟩)
   refine ⟨r1, ?_, r3, by omega, fun _ => g8⟩
   rw [jC] at r2
   simp only [List.length_cons, List.length_nil] at r2
   omega
theorem rsL_facts (b : List Nat) (bad : Bool) (hb : ∀ c ∈ b, c < 256) : (∀ p ∈ (rsL b bad).1, PcOk p ∧ p.s.size ≤ b.length) ∧ (rsL b bad).1.length + (rsL b bad).2.1.length ≤ b.length ∧ (∀ c ∈ (rsL b bad).2.1, c < 256) ∧ ((rsL b bad).2.2 = false → bad = false) := by
 obtain ⟨n1, b1, x1, h1⟩ : ∃ n1 b1 x1, rdS b bad = (n1, b1, x1) := ⟨_, _, _, rfl⟩
 obtain ⟨l2, b2, x2, h2⟩ : ∃ l2 b2 x2, rdB n1 b1 x1 = (l2, b2, x2) := ⟨_, _, _, rfl⟩
 obtain ⟨n3, b3, x3, h3⟩ : ∃ n3 b3 x3, rdS b2 x2 = (n3, b3, x3) := ⟨_, _, _, rfl⟩
 rw [rsL_eq b bad h1 h2 h3]
 obtain ⟨f11, f12, f13, f14⟩ := rdS_facts hb h1
 obtain ⟨f21, f22, f23, f24, f25⟩ := rdB_facts f12 h2
 obtain ⟨f31, f32, f33, f34⟩ := rdS_facts f23 h3
 obtain ⟨r1, r2, r3, r4, r5⟩ := rpL_facts ⟨(l2.map UInt8.ofNat).toArray⟩ n3 b3 x3 0 0 0 [] f32 (fun p hp => by cases hp)
 refine ⟨fun p hp => ⟨(r1 p hp).1, ?_⟩, by simp only [List.length_nil] at r2; omega, r3, fun hx => (f14 (f25 (f34 (r5 hx)).1).1).1⟩
 rw [(r1 p hp).2]
 show ((l2.map UInt8.ofNat).toArray).size ≤ _
 simp
 omega
theorem body_lt {b : List Nat} (hb : ∀ c ∈ b, c < 256) : ∀ c ∈ bodyL b, c < 256 := fun c hc => hb c (List.mem_of_mem_drop (List.mem_of_mem_take hc))
theorem body_len (b : List Nat) : (bodyL b).length ≤ b.length := by unfold bodyL; rw [List.length_take, List.length_drop]; omega
def strB (l : List Nat) : ByteArray := ⟨(l.map UInt8.ofNat).toArray⟩
section
variable {P : Program}
theorem run_convS (w : World) (src e dst : TypeId) (hs : P.underlying src = some (.slice e)) (he : P.underlying e = some (.int .u8)) (hd : P.underlying dst = some .string) (B : Nat) (A : Option Addr) (n c : Nat) (l : List Nat) (hr : Rd w B A (byt l)) (hn : n = l.length) :
  (convert src dst (.slice A n c)).run P w = .ok (.string (strB l)) w := by
 subst hn
 cases A with
 | none =>
  obtain rfl : l = [] := by
   cases l with
   | nil => rfl
   | cons a l => obtain ⟨ad, h, _⟩ := hr (by simp [byt]); cases h
  rw [run_convert_bytes_nil w src e hs he _ _ dst hd]
  rfl
 | some ad =>
  have hc : ∀ j v, (byt l)[j]? = some v → w.cell? (ad.add j) = some v := by
   intro j v hv
   have hne : byt l ≠ [] := by intro h0; rw [h0] at hv; cases hv
   obtain ⟨ad', e1, _, hc⟩ := hr hne
   injection e1 with e1
   subst e1
   exact hc j v hv
  have hl := run_loadCells_list (P := P) w ad (byt l) hc
  have e2 : byt l = (l.map fun (n : Nat) => (n : Int)).map (Value.int .u8) := by simp [byt]
  rw [e2, List.length_map, List.length_map] at hl
  rw [run_convert_bytes_string w src dst e _ _ c hs he hd, run_bytesToString w ad l.length c _ hl, foldl_push_bytes]
  congr 2
  apply ByteArray.ext
  apply Array.toList_inj.1
  simp [strB, ByteArray.empty, ByteArray.emptyWithCapacity, List.map_map]
  show List.map _ l = _
  exact List.map_congr_left (fun a _ => rfl)
theorem wpList_convS {ops : Array Oper} {rest : List Oper} {op : Oper} {a : Act} {w : World} {Q : Exit → Act → World → Prop} (hw : Region.wanted op (yielded ops a.tmps) = true) (src dst e : TypeId) (x : Operand) (ho : op.op = .convert src dst x)
  (hs : P.underlying src = some (.slice e)) (he : P.underlying e = some (.int .u8)) (hd : P.underlying dst = some .string) (B : Nat) (A : Option Addr) (n c : Nat) (hx : a.eval x = .slice A n c) (l : List Nat) (hr : Rd w B A (byt l)) (hn : n = l.length)
  (h : wpList P ops Q rest (a.put op.dst (.string (strB l))) w) : wpList P ops Q (op :: rest) a w :=
 wpList_valG hw _ (by
  unfold execOp
  simp only [ho, hx, Sem.run_bind, Sem.run_pure, Result.andThen_ok, run_convS w src e dst hs he hd B A n c l hr hn]) h
end
theorem shortN {g B : Nat} {b b1 : List Nat} {bad x1 : Bool} {n1 : Nat} (w : World) (hr : RdrAt w g B b bad) (hB : B ≤ g) (hl : ∀ c ∈ b, c < 256) (hn : b.length ≤ 10000000) (h : rdS b bad = (n1, b1, x1)) :
  Calls Tryz.prog 83 #[.pointer (some ⟨g, 0, none⟩)] w fun e w' => e = .returned (.int .u64 (n1 : Nat)) ∧ RdrAt w' g B b1 x1 ∧ Only (fun k => k = g) w w' := by
 have hh := rshortR_c g B b bad w hr hB hl hn
 rw [h] at hh
 exact hh
def BytesN (g B : Nat) (l b : List Nat) (x : Bool) (w : World) (e : Ending) (w' : World) : Prop := ∃ A' c', e = .returned (.slice A' l.length c') ∧ Rd w' B A' (byt l) ∧ RdrAt w' g B b x ∧ Only (fun k => k = g) w w'
theorem bytesN {g B n : Nat} {b b1 l1 : List Nat} {bad x1 : Bool} (w : World) (hr : RdrAt w g B b bad) (hB : B ≤ g) (hn : b.length ≤ 10000000) (h0 : n < 18446744073709551616) (h : rdB n b bad = (l1, b1, x1)) :
  Calls Tryz.prog 102 #[.pointer (some ⟨g, 0, none⟩), .int .u64 (n : Nat)] w (BytesN g B l1 b1 x1 w) := by
 have hh := rbytes_c g B n b bad w hr hB hn h0
 rw [h] at hh
 exact hh
theorem OwnP.off {w w' : World} {base : Nat} {v : Value} {l : List Pc} {S : Nat → Prop} (h : OwnP w base v l) (ho : Only S w w') (hS : ∀ k, S k → k < base) : OwnP w' base v l :=
 own_keep h ho (fun g hg hs => by
  have h1 := own_base h g hg
  have h2 := hS g hs
  omega)
theorem OwnP.alloc {w : World} {base : Nat} {v : Value} {l : List Pc} (h : OwnP w base v l) (o : Obj) : OwnP (w.alloc o) base v l := World.ownsRow.alloc h o
theorem OwnP.nil_ (w : World) (base : Nat) : OwnP w base (.slice none 0 0) [] := ⟨rfl, .inl ⟨rfl, rfl⟩⟩
theorem OwnP.app {w w' : World} {base : Nat} {v v' : Value} {l m : List Pc} (h : Apped w base 77 5 v w' v' (l.length + m.length) (pcs l ++ pcs m)) : OwnP w' base v' (l ++ m) := by
 have := h.own
 unfold OwnP
 rw [jC, pcs_app]
 exact this
theorem RdrAt.off {w w' : World} {g B : Nat} {b : List Nat} {bad : Bool} (h : RdrAt w g B b bad) (hB : B ≤ g) (hb : Below (g + 1) w w') : RdrAt w' g B b bad := by
 obtain ⟨A, c, h1, h2, h3, h4⟩ := h
 exact ⟨A, c, h1.below hb (Nat.lt_succ_self _), h2.below ⟨hb.os, hb.tape, hb.output, hb.size, fun k hk => hb.block k (by omega)⟩, h3, h4⟩
theorem RdrAt.lt {w : World} {g B : Nat} {b : List Nat} {bad : Bool} (h : RdrAt w g B b bad) : g < w.heap.size := by
 obtain ⟨A, c, h1, _⟩ := h; exact h1.lt
theorem RdrAt.cbad {w : World} {g B : Nat} {b : List Nat} {bad : Bool} (h : RdrAt w g B b bad) : w.cell? ⟨g, 1, none⟩ = some (.bool bad) ∧ w.frozen? ⟨g, 1, none⟩ = false := by
 obtain ⟨A, c, h1, _⟩ := h; exact ⟨h1.cell 1, h1.free 1⟩
theorem RdrAt.setBad {w : World} {g B : Nat} {b : List Nat} {bad : Bool} (h : RdrAt w g B b bad) (hB : B ≤ g) (x : Bool) : RdrAt (w.setCell ⟨g, 1, none⟩ (.bool x)) g B b x ∧ Only (fun k => k = g) w (w.setCell ⟨g, 1, none⟩ (.bool x)) := by
 obtain ⟨A, c, h1, h2, h3, h4⟩ := h
 have hO : Only (fun k => k = g) w (w.setCell ⟨g, 1, none⟩ (.bool x)) := (Only.refl (fun k => k = g) w).setCell (p := ⟨g, 1, none⟩) (fun _ => show g = g from rfl) _
 refine ⟨⟨A, c, h1.set_ 1 (.bool x), fun hne => ?_, h3, h4⟩, hO⟩
 obtain ⟨ad, rfl, hab, hcell⟩ := h2 hne
 have hnb : ad.block ≠ g := by omega
 exact ⟨ad, rfl, hab, fun j v hv => hO.cell (hcell j v hv) (by rw [add_block]; exact hnb)⟩
def SerPost (g B : Nat) (R : List Pc × List Nat × Bool) (w : World) (e : Ending) (w' : World) : Prop := ∃ v, e = .returned v ∧ OwnP w' w.heap.size v R.1 ∧ RdrAt w' g B R.2.1 R.2.2 ∧ Only (fun k => k = g) w w'
def SerRel (g B N : Nat) (S : ByteArray) (R : List Pc × List Nat × Bool) (w : World) (o tv sv vv i : Value) (wr : World) : Prop :=
 ∃ (k : Nat) (bb : List Nat) (xb : Bool) (t step v : Int) (acc : List Pc), i = .int .u64 k ∧ tv = .int .i64 t ∧ sv = .int .i64 step ∧ vv = .int .i64 v ∧ R = rpL S k bb xb t step v acc ∧ OwnP wr w.heap.size o acc ∧ RdrAt wr g B bb xb ∧ Only (fun k => k = g) w wr ∧
  acc.length + bb.length ≤ N ∧ (∀ c ∈ bb, c < 256) ∧ k < 18446744073709551616 ∧ (-9223372036854775808 ≤ t ∧ t ≤ 9223372036854775807) ∧ (-9223372036854775808 ≤ step ∧ step ≤ 9223372036854775807) ∧ (-9223372036854775808 ≤ v ∧ v ≤ 9223372036854775807)
theorem series_c (g B : Nat) (b : List Nat) (bad : Bool) (w : World) (hr : RdrAt w g B b bad) (hB : B ≤ g) (hl : ∀ c ∈ b, c < 256) (hn : b.length ≤ 10000000) :
  Calls Tryz.prog 84 #[.pointer (some ⟨g, 0, none⟩)] w (SerPost g B (rsL b bad) w) := by
 obtain ⟨i0, hi, hz0, hz1, hz2⟩ := piece_parts
 obtain ⟨n1, b1, x1, h1⟩ : ∃ n1 b1 x1, rdS b bad = (n1, b1, x1) := ⟨_, _, _, rfl⟩
 obtain ⟨l2, b2, x2, h2⟩ : ∃ l2 b2 x2, rdB n1 b1 x1 = (l2, b2, x2) := ⟨_, _, _, rfl⟩
 obtain ⟨n3, b3, x3, h3⟩ : ∃ n3 b3 x3, rdS b2 x2 = (n3, b3, x3) := ⟨_, _, _, rfl⟩
 obtain ⟨f11, f12, f13, f14⟩ := rdS_facts hl h1
 obtain ⟨f21, f22, f23, f24, f25⟩ := rdB_facts f12 h2
 obtain ⟨f31, f32, f33, f34⟩ := rdS_facts f23 h3
 have HEQ := Li (rsL_eq b bad h1 h2 h3)
 have HS1 := Li (shortN w hr hB hl hn h1)
 have HS2 := Li (fun W h => bytesN W h hB (by omega) f11 h2)
 have HS3 := Li (fun W h => shortN W h hB f23 (by omega) h3)
 have HBG := Li hB
 have HGW := Li hr.lt
 have HF32 := Li f32
 have HF31 := Li f31
 have h3l : b3.length ≤ b.length := by omega
 obtain ⟨R, hR⟩ : ∃ R, R = rsL b bad := ⟨_, rfl⟩
 rw [← hR] at HEQ ⊢
 clear hR hr hl h1 h2 h3 f11 f12 f13 f14 f21 f22 f23 f24 f25 f32 f33 f34 hB
 generalize b.length = N at *
 have HEQ2 := Li (show R = rpL (strB l2) n3 b3 x3 0 0 0 [] from HEQ.out)
 clear HEQ
 go_enter Tryz.func84, Tryz.ntmps84
 go_wp2_with fail
 go_step3
 go_upto_region 2 with (first
  | (go_at_call 83; go_loud ((refine HS1.out.mono ?_); rintro e W1 ⟨rfl, hr1, ho1⟩; have HR1 := Li hr1; have HO1 := Li ho1; clear hr1 ho1))
  | (go_at_call 102; (refine (HS2.out W1 HR1.out).mono ?_); rintro e W2 ⟨A2, c2, rfl, hr2, hrr2, ho2⟩; have HD2 := Li hr2; have HR2 := Li hrr2; have HO2 := Li (HO1.out.trans ho2); clear hr2 hrr2 ho2)
  | (refine wpList_convS rfl 23 9 5 (.tmp 17) rfl Tryz.underlying23 Tryz.underlying5 Tryz.underlying9 B A2 l2.length c2 rfl l2 HD2.out rfl ?_))
 generalize strB l2 = S at *
 clear HS1 HS2 HR1 HO1 HD2
 go_wp2_with fail
 go_step3
 go_wp2_with (go_at_call 83; (refine (HS3.out W2 HR2.out).mono ?_); rintro e W3 ⟨rfl, hr3, ho3⟩; have HR3 := Li hr3; have HO3 := Li (HO2.out.trans ho3); clear hr3 ho3)
 clear HS3 HR2 HO2
 go_loopw [4, 5, 6, 7, 8] (fun o tv sv vv i wr => SerRel g B N S R w o tv sv vv i wr) (fun _ _ _ _ i _ => (intOf i).toNat)
 case atStart => exact ⟨n3, b3, x3, 0, 0, 0, [], rfl, rfl, rfl, rfl, HEQ2.out, OwnP.nil_ _ _, HR3.out, HO3.out, by simp only [List.length_nil]; omega, HF32.out, HF31.out, by omega, by omega, by omega⟩
 case round =>
  rename World => wr
  obtain ⟨k, bb, xb, t, step, v, acc, rfl, rfl, rfl, rfl, hR, hop, hrd, hon, hacc, hbb, hk, ht, hst, hv⟩ := hrel
  have HRE := Li hR
  have HP := Li hop
  have HRD := Li hrd
  have HON := Li hon
  have HBB := Li hbb
  have HK := Li hk
  have HSZ := Li hon.size
  clear hR hop hrd hon hbb hk HEQ2 HR3 HO3 HF31 HF32
  cases k with
  | zero =>
   have HFIN := Li (show R = (acc, bb, xb) from HRE.out)
   go_wp2_with fail
   rw [Exit.noGoto_ret]
   go_ret
   exact ⟨u4, rfl, by rw [HFIN.out]; exact HP.out, by rw [HFIN.out]; exact HRD.out, HON.out⟩
  | succ j =>
   obtain ⟨m1, e1, y1, h1⟩ : ∃ m1 e1 y1, rdS bb xb = (m1, e1, y1) := ⟨_, _, _, rfl⟩
   obtain ⟨m2, e2, y2, h2⟩ : ∃ m2 e2 y2, rdS e1 y1 = (m2, e2, y2) := ⟨_, _, _, rfl⟩
   obtain ⟨m3, e3, y3, h3⟩ : ∃ m3 e3 y3, rdS e2 y2 = (m3, e3, y3) := ⟨_, _, _, rfl⟩
   obtain ⟨l4, e4, y4, h4⟩ : ∃ l4 e4 y4, rdB 2 e3 y3 = (l4, e4, y4) := ⟨_, _, _, rfl⟩
   obtain ⟨f11, f12, f13, f14⟩ := rdS_facts HBB.out h1
   obtain ⟨f21, f22, f23, f24⟩ := rdS_facts f12 h2
   obtain ⟨f31, f32, f33, f34⟩ := rdS_facts f22 h3
   obtain ⟨f41, f42, f43, f44, f45⟩ := rdB_facts f32 h4
   have HS1 := Li (shortN wr HRD.out HBG.out HBB.out (by omega) h1)
   have HS2 := Li (fun W h => shortN W h HBG.out f12 (by omega) h2)
   have HS3 := Li (fun W h => shortN W h HBG.out f22 (by omega) h3)
   have HS4 := Li (fun W h => bytesN W h HBG.out (by omega) (show 2 < 18446744073709551616 by decide) h4)
   have HST := Li (HRE.out.trans (rpL_step S j bb xb t step v acc h1 h2 h3 h4))
   obtain ⟨d1, hd1⟩ : ∃ d1, d1 = zag m1 := ⟨_, rfl⟩
   obtain ⟨d2, hd2⟩ : ∃ d2, d2 = zag m2 := ⟨_, rfl⟩
   have HZ1 := Li (fun W => zag_c m1 W f11)
   have HZ2 := Li (fun W => zag_c m2 W f21)
   have hdb1 : -9223372036854775808 ≤ d1 ∧ d1 ≤ 9223372036854775807 := by rw [hd1]; exact ⟨zag_lo _ f11, zag_hi _ f11⟩
   have hdb2 : -9223372036854775808 ≤ d2 ∧ d2 ≤ 9223372036854775807 := by rw [hd2]; exact ⟨zag_lo _ f21, zag_hi _ f21⟩
   rw [← hd1] at HZ1
   rw [← hd2] at HZ2
   rw [← hd1, ← hd2] at HST
   have HGT := Li (fun W A c (h : Rd W B A (byt l4)) => get_c B A c l4 2 W h f41 (by omega) (by decide) (by decide))
   have HN := Li (show y4 = false → l4.length = 2 ∧ e4.length + 2 ≤ bb.length ∧ m3 < 18446744073709551616 ∧ (∀ c ∈ e4, c < 256) ∧ number l4 < 65536 from fun hx => by
    obtain ⟨a1, a2, a3⟩ := f45 hx
    exact ⟨a2, by omega, f31, f43, num2_lt f41 (by omega)⟩)
   clear h1 h2 h3 h4 f11 f12 f13 f14 f21 f22 f23 f24 f31 f32 f33 f34 f41 f42 f43 f44 f45 hd1 hd2 HRE HBB
   go_upto_region 8 with (first
    | (go_at_call 83; (refine HS1.out.mono ?_); rintro e W4 ⟨rfl, hr, ho⟩; have HR4 := Li hr; have HO4 := Li (HON.out.trans ho); have HP4 := Li (HP.out.off ho (fun k hk => by have := HGW.out; omega)); clear hr ho)
    | (go_at_call 103; (refine (HZ1.out W4).mono ?_); rintro e Wz ⟨rfl, rfl⟩))
   clear HS1 HZ1 HRD HON HP HSZ
   go_upto_region 9 with (first
    | (go_at_call 83; (refine (HS2.out W4 HR4.out).mono ?_); rintro e W5 ⟨rfl, hr, ho⟩; have HR5 := Li hr; have HO5 := Li (HO4.out.trans ho); have HP5 := Li (HP4.out.off ho (fun k hk => by have := HGW.out; omega)); clear hr ho)
    | (go_at_call 103; (refine (HZ2.out W5).mono ?_); rintro e Wz ⟨rfl, rfl⟩))
   clear HS2 HZ2 HR4 HO4 HP4
   go_upto_region 10 with (go_at_call 83; (refine (HS3.out W5 HR5.out).mono ?_); rintro e W6 ⟨rfl, hr, ho⟩; have HR6 := Li hr; have HO6 := Li (HO5.out.trans ho); have HP6 := Li (HP5.out.off ho (fun k hk => by have := HGW.out; omega)); clear hr ho)
   clear HS3 HR5 HO5 HP5
   go_upto_region 11 with (first
    | (go_at_call 102; (refine (HS4.out W6 HR6.out).mono ?_); rintro e W7 ⟨A7, c7, rfl, hd, hr, ho⟩; have HD7 := Li hd; have HR7 := Li hr; have HO7 := Li (HO6.out.trans ho); have HP7 := Li (HP6.out.off ho (fun k hk => by have := HGW.out; omega)); clear hd hr ho)
    | (go_at_call 82; (refine (HGT.out W7 A7 c7 HD7.out).mono ?_); rintro e Wz ⟨rfl, rfl⟩))
   clear HS4 HGT HD7 HR6 HO6 HP6
   obtain ⟨cb, fb⟩ := HR7.out.cbad
   cases y4 with
   | true =>
    have HFIN := Li (show R = (acc, e4, true) from HST.out)
    have HSB := Li (HR7.out.setBad HBG.out true)
    clear HN HST
    go_wp2_with fail
    rw [Exit.noGoto_ret]
    go_ret
    exact ⟨u4, rfl, by rw [HFIN.out]; exact HP7.out.off HSB.out.2 (fun k hk => by have := HGW.out; omega), by rw [HFIN.out]; exact HSB.out.1, HO7.out.trans HSB.out.2⟩
   | false =>
    obtain ⟨hl4, he4, hm3, hb4, hnum⟩ := HN.out rfl
    have HB4 := Li hb4
    have HM3 := Li hm3
    have HSTF := Li (show R = rpL S j e4 false (wrap64 (t + wrap64 (step + d1))) (wrap64 (step + d1)) (wrap64 (v + d2)) (acc ++ [⟨S, wrap64 (t + wrap64 (step + d1)), wrap64 (v + d2), m3, number l4⟩]) by
     simp only [wrap_w]
     exact HST.out)
    have hge : getErr l4.length 2 = 0 := by rw [hl4]; rfl
    have hgn : getNum l4 2 = number l4 := by unfold getNum; rw [if_pos hge]; rw [show (2 : Int).toNat = l4.length by rw [hl4]; rfl, List.take_length]
    rw [hge, hgn]
    generalize number l4 = nn at *
    have f16 : IntKind.u16.wrap (nn : Int) = (nn : Int) := by simp [IntKind.wrap, IntKind.signed, IntKind.bits]; omega
    have hacc2 : acc.length + 1 + e4.length ≤ N := by omega
    have fj : IntKind.u64.wrap (j : Int) = (j : Int) := by rw [IntKind.wrap_u64]; have := HK.out; omega
    clear HN HST hl4 hb4 hm3 hge hgn
    go_wp2_with (at_builtin; refine wpList_app _ rfl (.tmp 59) (.tmp 68) _ rfl w.heap.size 77 i0 (.agg zPc) 5 48 Tryz.underlying31 hi hz0 hz1 hz2 rfl (by decide) _ acc.length (pcs acc) rfl (HP7.out.alloc _) _ (some ⟨W7.heap.size, 0, none⟩) 1 1 (pcs [⟨S, wrap64 (t + wrap64 (step + d1)), wrap64 (v + d2), m3, nn⟩]) rfl rfl (by exact rd_new W7 (pcs [⟨S, wrap64 (t + wrap64 (step + d1)), wrap64 (v + d2), m3, nn⟩]) _ (0, 0)) (pcs_oneCell _) (by omega) (by omega) (by have := HO7.out.size; simp; omega) ?_; intro v1 w2 hap)
    go_roundw
    case rel =>
     have hsz := HO7.out.size
     have hg8 := HGW.out
     have hbw := hap.below (HP7.out.alloc _) (by simp; omega)
     have hbx : Below w.heap.size W7 w2 := ((jE _ _).alloc hsz _).trans hbw
     have HPN := OwnP.app (l := acc) (m := [⟨S, wrap64 (t + wrap64 (step + d1)), wrap64 (v + d2), m3, nn⟩]) hap
     have HRN := HR7.out.off HBG.out (hbx.mono (by omega))
     have HON : Only (fun k => k = g) w w2 := ⟨hbx.os.trans HO7.out.os, hbx.tape.trans HO7.out.tape, hbx.output.trans HO7.out.output, Nat.le_trans HO7.out.size hbx.size, fun i hi hn => (hbx.block i hi).trans (HO7.out.block i hi hn)⟩
     exact ⟨j, e4, false, _, _, _, _, by go_num, rfl, rfl, rfl, HSTF.out, HPN, HRN, HON, by rw [jC]; simp only [List.length_cons, List.length_nil]; omega, HB4.out, by have := HK.out; omega, ⟨wrap64_lo _, wrap64_hi _⟩, ⟨wrap64_lo _, wrap64_hi _⟩, ⟨wrap64_lo _, wrap64_hi _⟩⟩
    case measure => simp [intOf] <;> omega
theorem equal_c (B C : Nat) (A D : Option Addr) (ca cb : Nat) (l m : List Nat) (w : World) (hl : ∀ c ∈ l, c < 256) (hm : ∀ c ∈ m, c < 256) (hr : Rd w B A (byt l)) (hs : Rd w C D (byt m)) (h1 : l.length ≤ 1000000000) (_h2 : m.length ≤ 1000000000) :
  Calls Tryz.prog 85 #[.slice A l.length ca, .slice D m.length cb] w (Quietly (.bool (l == m)) w) := by
 have HL := Li hl
 have HM := Li hm
 have HR := Li hr
 have HS := Li hs
 clear hl hm hr hs
 by_cases hlen : l.length = m.length
 ·have HN := Li hlen
  rw [← hlen]
  have h3 : l.length ≤ m.length := by omega
  clear hlen _h2
  go_enter Tryz.func85, Tryz.ntmps85
  go_wp2
  go_loopw [13] (fun i wr => ∃ k q : Nat, k ≤ l.length ∧ i = .int .i64 k ∧ l.take k = m.take k ∧ wr = w.drewN q) (fun i _ => l.length - (intOf i).toNat)
  case atStart => exact ⟨0, 0, Nat.zero_le _, rfl, by simp, rfl⟩
  case round =>
   obtain ⟨k, q, hk, rfl, ht, rfl⟩ := hrel
   have HT := Li ht
   clear ht
   by_cases hlt : k < l.length
   ·obtain ⟨ad, rfl, hab, hca⟩ := HR.out.byte hlt
    obtain ⟨ad2, rfl, hab2, hcb⟩ := HS.out.byte (show k < m.length by omega)
    have HST := Li (take_succ_eq hlt (show k < m.length by omega))
    have hx := getD_lt HL.out k
    have hy := getD_lt HM.out k
    generalize l.getD k 0 = x at *
    generalize m.getD k 0 = y at *
    have hi1 : (k : Int) < (l.length : Int) := by omega
    by_cases heq : x = y
    ·subst heq
     go_wp2
     go_quiet (fail)
     go_wp2
     go_roundw
     case rel => exact ⟨k + 1, _, by omega, by go_num, HST.out.2 (by first | exact ⟨HT.out, rfl⟩ | exact ⟨HT.out, trivial⟩), rfl⟩
     case measure => simp [intOf]; omega
    ·have t1 : (((x : Nat) : Int) != (y : Int)) = true := by rw [bne_iff_ne]; omega
     have HE := Li heq
     clear heq
     go_wp2
     go_quiet (fail)
     go_wp2
     go_ret
     have hne : l ≠ m := fun h => by
      subst h
      have := HST.out.1 rfl
      exact HE.out this.2
     have e : (l == m) = false := by simpa using hne
     rw [e]
     exact ⟨rfl, _, World.drewN_drewN ..⟩
   ·obtain rfl : k = l.length := by omega
    go_wp2
    go_ret
    have e : l = m := by
     have := HT.out
     rw [List.take_length, HN.out, List.take_length] at this
     exact this
    have e2 : (l == m) = true := by simpa using e
    rw [e2]
    exact ⟨rfl, _, rfl⟩
 ·have hne : l ≠ m := fun h => hlen (by rw [h])
  have e : (l == m) = false := by simpa using hne
  rw [e]
  have t1 : (((l.length : Nat) : Int) != (m.length : Int)) = true := by rw [bne_iff_ne]; omega
  clear hlen hne e
  go_enter Tryz.func85, Tryz.ntmps85
  go_wp2
  go_ret
  exact ⟨rfl, 0, rfl⟩
theorem rdr_new {w : World} {ad : Addr} {ca n : Nat} {b : List Nat} (hr : Rd w w.heap.size (some ad) (byt b)) (hn : 2 + n ≤ b.length) (hc : b.length ≤ ca) (hm : ca ≤ maxLen) (A' : Option Addr) (c' : Nat) (hc' : c' = ca - 2) (hA : ca ≠ 2 → A' = some (ad.add 2)) :
  RdrAt (w.alloc (.cells #[.slice A' n c', .bool false] 146)) w.heap.size w.heap.size ((b.drop 2).take n) false := by
 have hl : ((b.drop 2).take n).length = n := by rw [List.length_take, List.length_drop]; omega
 refine ⟨A', c', ?_, fun hne => ?_, by rw [hl]; omega, by omega⟩
 ·rw [hl]; exact Blk.new w _ _
 ·have h0 : 0 < n := by
   rcases Nat.eq_zero_or_pos n with h0 | h0
   ·rw [h0, List.take_zero] at hne; exact absurd rfl hne
   ·exact h0
  obtain ⟨ad', e1, hab, hcell⟩ := hr (by intro h1; have h2 := congrArg List.length h1; rw [byt_len, List.length_nil] at h2; omega)
  injection e1 with e1
  subst e1
  refine ⟨ad.add 2, hA (by omega), by rw [add_block]; exact hab, fun j v hv => ?_⟩
  rw [Addr.add_add]
  have hj : j < n := by
   rcases Nat.lt_or_ge j n with h1 | h1
   ·exact h1
   ·rw [List.getElem?_eq_none (by rw [byt_len, hl]; exact h1)] at hv; cases hv
  refine ((jE _ _).alloc (jD _) _).cell (by rw [add_block]; exact hab) |>.trans (hcell (2 + j) v ?_)
  unfold byt at hv ⊢
  rw [List.map_take, List.getElem?_take_of_lt hj, List.map_drop, List.getElem?_drop] at hv
  exact hv
theorem OwnP.drewN {w : World} {base : Nat} {v : Value} {l : List Pc} (h : OwnP w base v l) (n : Nat) : OwnP (w.drewN n) base v l := h
def ReadPost (b : List Nat) (w : World) (e : Ending) (w' : World) : Prop := ∃ v, e = .returned (.tuple #[v, .int .i64 (readE b : Nat)]) ∧ OwnP w' w.heap.size v (readL b) ∧ Below w.heap.size w w'
theorem readPost_no {b : List Nat} {w w' : World} {E : Int} (hE : (readE b : Int) = E) (h0 : E ≠ 0) (hb : Below w.heap.size w w') : ReadPost b w (.returned (.tuple #[.slice none 0 0, .int .i64 E])) w' := by
 refine ⟨.slice none 0 0, by rw [hE], ?_, hb⟩
 rw [show readL b = [] by unfold readL; rw [if_neg (by omega)]]
 exact OwnP.nil_ _ _
def ReadRel (g N : Nat) (R : List Pc × Bool) (w : World) (o i : Value) (wr : World) : Prop :=
 ∃ (k : Nat) (bb : List Nat) (xb : Bool) (acc : List Pc), i = .int .u64 k ∧ R = rgL k bb xb acc ∧ OwnP wr (g + 1) o acc ∧ RdrAt wr g g bb xb ∧ Below g w wr ∧ acc.length + bb.length ≤ N ∧ (∀ c ∈ bb, c < 256) ∧ k < 18446744073709551616 ∧ (∀ p ∈ acc, PcOk p ∧ p.s.size ≤ N)
theorem readE_bad {b : List Nat} (h0 : shortB b = false) {l : List Pc} (h : readB b = (l, true)) : readE b = 4 := by
 unfold readE
 rw [h0, h]
 rfl
theorem readE_good {b : List Nat} (h0 : shortB b = false) {l : List Pc} (h : readB b = (l, false)) : readE b = if chkL l = 0 ∧ layL l = b then 0 else 4 := by
 unfold readE
 rw [h0, h]
 rfl
theorem readL_good {b : List Nat} {l : List Pc} {x : Bool} (h : readB b = (l, x)) (h1 : readE b = 0) : readL b = l := by
 unfold readL
 rw [if_pos h1, h]
theorem rowsL_lt (g : List Pc) : ∀ t step v, ∀ c ∈ rowsL t step v g, c < 256 := by
 induction g with
 | nil => intro t step v c hc; simp [rowsL] at hc
 | cons p g ih =>
  intro t step v c hc
  rw [rowsL] at hc
  simp only [List.mem_append] at hc
  rcases hc with (((h | h) | h) | h) | h
  ·exact sh_lt _ c h
  ·exact sh_lt _ c h
  ·exact sh_lt _ c h
  ·exact form_lt _ _ c h
  ·exact ih _ _ _ c h
theorem putL_lt (g : List Pc) : ∀ c ∈ putL g, c < 256 := by
 cases g with
 | nil => intro c hc; simp [putL] at hc
 | cons p g =>
  intro c hc
  unfold putL at hc
  simp only [List.mem_append] at hc
  rcases hc with ((h | h) | h) | h
  ·exact sh_lt _ c h
  ·exact sby_lt _ c h
  ·exact sh_lt _ c h
  ·exact rowsL_lt _ _ _ _ c h
theorem layR_lt (l : List Pc) : ∀ c ∈ layR l, c < 256 := by
 intro c hc
 unfold layR at hc
 split at hc
 ·unfold layL formP at hc
  simp only [List.mem_append] at hc
  rcases hc with (h | h | h) | h
  ·exact form_lt _ _ c h
  ·exact sh_lt _ c h
  ·obtain ⟨m, hm, hc⟩ := List.mem_flatten.1 h
   obtain ⟨g, _, rfl⟩ := List.mem_map.1 hm
   exact putL_lt g c hc
  ·have := (List.mem_replicate.1 h).2
   omega
 ·cases hc
theorem read_c (A : Option Addr) (ca : Nat) (b : List Nat) (w : World) (hr : Rd w w.heap.size A (byt b)) (hc : b.length ≤ ca) (hm : ca ≤ maxLen) (hl : ∀ c ∈ b, c < 256) (hn : b.length ≤ 100000) :
  Calls Tryz.prog 59 #[.slice A b.length ca] w (ReadPost b w) := by
 obtain ⟨i0, hi, hz0, hz1, hz2⟩ := piece_parts
 have HR := Li hr
 have HL := Li hl
 have HC := Li hc
 have HM := Li hm
 by_cases hl2 : b.length < 2
 ·have HG := Li (show Calls Tryz.prog 82 #[.slice A b.length ca, .int .i64 2] w fun e w' => e = .returned (.tuple #[.int .u64 (0 : Nat), .int .i64 2]) ∧ w = w' by
   have h := get_c w.heap.size A ca b 2 w hr hl (by omega) (by decide) (by decide)
   rw [show getErr b.length 2 = 2 by unfold getErr; rw [if_neg (by omega), if_pos (by omega)], show getNum b 2 = 0 by unfold getNum; rw [if_neg (by unfold getErr; rw [if_neg (by omega), if_pos (by omega)]; decide)]] at h
   exact h)
  have HE := Li (show (readE b : Int) = 2 by unfold readE shortB; rw [jF hl2]; rfl)
  clear hr hl hc hm hl2
  go_enter Tryz.func59, Tryz.ntmps59
  go_wp2_with fail
  go_step3
  go_wp2_with (go_at_call 82; (refine HG.out.mono ?_); rintro e W0 ⟨rfl, rfl⟩)
  refine bodyPost_ret (results_tmp2 rfl _ _ _) rfl ?_
  exact readPost_no HE.out (by decide) (jE _ _)
 ·have hl0 : (b.take 2).length = 2 := by rw [List.length_take]; omega
  have hnum : number (b.take 2) < 65536 := num2_lt (fun c hc => hl c (List.mem_of_mem_take hc)) (by omega)
  have hge : getErr b.length 2 = 0 := by unfold getErr; rw [if_neg (by omega), if_neg (by omega)]
  have HG := Li (show Calls Tryz.prog 82 #[.slice A b.length ca, .int .i64 2] w fun e w' => e = .returned (.tuple #[.int .u64 (number (b.take 2) : Nat), .int .i64 0]) ∧ w = w' by
   have h := get_c w.heap.size A ca b 2 w hr hl (by omega) (by decide) (by decide)
   rw [hge, show getNum b 2 = number (b.take 2) by unfold getNum; rw [if_pos hge]; rfl] at h
   exact h)
  have HSH := Li (show shortB b = decide (b.length < number (b.take 2) + 2) by unfold shortB; rw [jG hl2, Bool.false_or])
  have HBD := Li (show bodyL b = (b.drop 2).take (number (b.take 2)) from rfl)
  clear hge hl0
  generalize number (b.take 2) = n at *
  have f64 : IntKind.i64.wrap (n : Int) = (n : Int) := IntWalk.i64_in _ (by omega)
  obtain ⟨ad, rfl, _, _⟩ := hr (by intro h1; have h2 := congrArg List.length h1; rw [byt_len, List.length_nil] at h2; omega)
  clear hr hl hm hc
  have hl3 : 2 ≤ b.length := by omega
  clear hl2
  by_cases hs : b.length < n + 2
  ·have HE := Li (show (readE b : Int) = 2 by unfold readE; rw [HSH.out, jF hs]; rfl)
   have q1 : (b.length : Int) - 2 < (n : Int) := by omega
   go_enter Tryz.func59, Tryz.ntmps59
   go_wp2_with fail
   go_step3
   go_wp2_with (go_at_call 82; (refine HG.out.mono ?_); rintro e W0 ⟨rfl, rfl⟩)
   refine bodyPost_ret (results_tmp2 rfl _ _ _) rfl ?_
   exact readPost_no HE.out (by decide) (jE _ _)
  ·have HSH0 := Li (show shortB b = false by rw [HSH.out]; exact jG hs)
   have HQ1 := Li (show ¬ (b.length : Int) - 2 < (n : Int) by omega)
   have q1 : ¬ (b.length : Int) - 2 < (n : Int) := by omega
   have q2 : 2 + n ≤ b.length := by omega
   have q3 : 2 + n ≤ ca := by have := HC.out; omega
   have HNEW := Li (fun A' c' => rdr_new (A' := A') (c' := c') HR.out q2 HC.out HM.out)
   rw [← HBD.out] at HNEW
   have hbn : (bodyL b).length ≤ b.length := body_len b
   have HBL := Li (body_lt HL.out)
   obtain ⟨n1, b1, x1, h1⟩ : ∃ n1 b1 x1, rdS (bodyL b) false = (n1, b1, x1) := ⟨_, _, _, rfl⟩
   obtain ⟨f11, f12, f13, f14⟩ := rdS_facts HBL.out h1
   have HB1 := Li (show readB b = rgL n1 b1 x1 [] by unfold readB; rw [h1])
   have HS1 := Li (fun W h => shortN (g := w.heap.size) (B := w.heap.size) W h (jD _) HBL.out (by omega) h1)
   have HF11 := Li f11
   have HF12 := Li f12
   have hb1n : b1.length ≤ b.length := by omega
   obtain ⟨R, hR⟩ : ∃ R, R = readB b := ⟨_, rfl⟩
   have HRB := Li hR
   rw [← hR] at HB1
   clear h1 f11 f12 f13 f14 hR hs
   go_enter Tryz.func59, Tryz.ntmps59
   go_wp2_with fail
   go_step3
   go_upto_region 5 with (go_at_call 82; (refine HG.out.mono ?_); rintro e W0 ⟨rfl, rfl⟩)
   have HZ := Li (HNEW.out (if ca = 2 then some ad else some ⟨ad.block, ad.off + 2, none⟩) (ca - 2) rfl (fun h => by rw [if_neg h]; rfl))
   generalize (if ca = 2 then some ad else some (⟨ad.block, ad.off + 2, none⟩ : Addr)) = A' at *
   have HBZ := Li (show Below w.heap.size w (w.alloc (Obj.cells #[.slice A' n (ca - 2), .bool false] 146)) from (jE _ _).alloc (jD _) _)
   have HSZ := Li (show w.heap.size + 1 ≤ (w.alloc (Obj.cells #[.slice A' n (ca - 2), .bool false] 146)).heap.size by simp)
   generalize w.alloc (Obj.cells #[.slice A' n (ca - 2), .bool false] 146) = Z at *
   rw [jG (show ¬ (b.length : Int) - 2 < (n : Int) by omega), show 2 + n - 2 = n by omega]
   obtain ⟨g, hg⟩ : ∃ g, g = w.heap.size := ⟨_, rfl⟩
   have HGW := Li hg
   rw [← hg] at HZ HBZ HSZ HS1 ⊢
   clear hg HNEW f64 q1 q2 q3 HG
   go_wp2_with fail
   go_step3
   go_wp2_with (go_at_call 83; (refine (HS1.out Z HZ.out).mono ?_); rintro e W3 ⟨rfl, hr3, ho3⟩; have HR3 := Li hr3; have HB3 := Li (show Below g w W3 from HBZ.out.trans (ho3.below (fun i hi => by omega) (by have := HSZ.out; omega))); clear hr3 ho3)
   clear HS1 HZ HBZ
   go_loopw [7, 8] (fun o i wr => ReadRel g b.length R w o i wr) (fun _ i _ => (intOf i).toNat)
   case atStart => exact ⟨n1, b1, x1, [], rfl, HB1.out, OwnP.nil_ _ _, HR3.out, HB3.out, by simp only [List.length_nil]; omega, HF12.out, HF11.out, fun p hp => by cases hp⟩
   case round =>
    rename World => wr
    obtain ⟨k, bb, xb, acc, rfl, hR, hop, hrd, hbe, hacc, hbb, hk, hok⟩ := hrel
    have HRE := Li hR
    have HP := Li hop
    have HRD := Li hrd
    have HBE := Li hbe
    have hbe' : g ≤ wr.heap.size := by have := hrd.lt; omega
    have HBB := Li hbb
    have HK := Li hk
    have HOK := Li hok
    clear hR hop hrd hbe hbb hk hok HB1 HR3 HB3 HF11 HF12
    cases k with
    | zero =>
     have HFIN := Li (show R = (acc, xb) from HRE.out)
     obtain ⟨cb, fb⟩ := HRD.out.cbad
     cases xb with
     | true =>
      have HE := Li (show (readE b : Int) = 4 by rw [readE_bad HSH0.out (l := acc) (by rw [← HRB.out]; exact HFIN.out)]; rfl)
      go_wp2_with fail
      try rw [Exit.noGoto_ret]
      refine bodyPost_ret (results_tmp2 rfl _ _ _) rfl ?_
      exact readPost_no HE.out (by decide) (by rw [← HGW.out]; exact HBE.out)
     | false =>
      have HRG := Li (show readB b = (acc, false) by rw [← HRB.out]; exact HFIN.out)
      have HEG := Li (readE_good HSH0.out HRG.out)
      obtain ⟨A8, c8, rfl, hc8, _, hrp⟩ := HP.out.rd
      have HLY := Li (lay_c A8 c8 acc wr hrp hc8 (by omega) (fun p hp => ⟨(HOK.out p hp).1, by have := (HOK.out p hp).2; omega⟩))
      have HLLN := Li (layR_le (l := acc) (fun p hp => (HOK.out p hp).1))
      have HCH := Li (show chkL acc ≤ 3 by unfold chkL; split <;> (try split) <;> omega)
      have HRG2 := Li (show Rd w g (some ad) (byt b) by rw [HGW.out]; exact HR.out)
      have HEQ := Li (fun W A c (hb : Below g w W) h => equal_c W.heap.size g A (some ad) c ca (layR acc) b W (layR_lt acc) HL.out h (HRG2.out.below hb) (by have := HLLN.out; omega) (by omega))
      have HGS := Li hbe'
      by_cases h0 : chkL acc = 0
      ·have HLR := Li (show layR acc = layL acc by unfold layR; rw [if_pos h0])
       rw [h0] at HLY
       by_cases hq : layR acc = b
       ·have HE := Li (show (readE b : Int) = 0 by rw [HEG.out, if_pos ⟨h0, by rw [← HLR.out]; exact hq⟩]; rfl)
        have HLL := Li (readL_good HRG.out (by have := HE.out; omega))
        have HQB := Li (show (layR acc == b) = true by rw [beq_iff_eq]; exact hq)
        rw [HQB.out] at HEQ
        clear h0 hq
        go_wp2_with (first
         | (go_at_call 49; (refine HLY.out.mono ?_); rintro e W9 ⟨v9, rfl, ho, hb⟩; obtain ⟨A9, c9, rfl, _, _, r9⟩ := ho.rd; have HR9 := Li r9; have HB9 := Li (show Below g w W9 from HBE.out.trans (hb.mono HGS.out)); have HP9 := Li (HP.out.next hb); clear ho hb r9)
         | (go_at_call 85; (refine (HEQ.out W9 A9 c9 HB9.out HR9.out).mono ?_); rintro e Wx ⟨rfl, nq, rfl⟩))
        try rw [Exit.noGoto_ret]
        refine bodyPost_ret (results_tmp2 rfl _ _ _) rfl ?_
        exact ⟨_, by rw [HE.out]; rfl, by rw [HLL.out]; exact own_base_le (OwnP.drewN HP9.out nq) (by rw [← HGW.out]; omega), by rw [← HGW.out]; exact belowDrewN nq HB9.out⟩
       ·have HE := Li (show (readE b : Int) = 4 by rw [HEG.out, if_neg (fun h => hq (by rw [HLR.out]; exact h.2))]; rfl)
        have HQB := Li (show (layR acc == b) = false by rw [beq_eq_false_iff_ne]; exact hq)
        rw [HQB.out] at HEQ
        clear h0 hq
        go_wp2_with (first
         | (go_at_call 49; (refine HLY.out.mono ?_); rintro e W9 ⟨v9, rfl, ho, hb⟩; obtain ⟨A9, c9, rfl, _, _, r9⟩ := ho.rd; have HR9 := Li r9; have HB9 := Li (show Below g w W9 from HBE.out.trans (hb.mono HGS.out)); clear ho hb r9)
         | (go_at_call 85; (refine (HEQ.out W9 A9 c9 HB9.out HR9.out).mono ?_); rintro e Wx ⟨rfl, nq, rfl⟩))
        try rw [Exit.noGoto_ret]
        refine bodyPost_ret (results_tmp2 rfl _ _ _) rfl ?_
        exact readPost_no HE.out (by decide) (by rw [← HGW.out]; exact belowDrewN nq HB9.out)
      ·have HE := Li (show (readE b : Int) = 4 by rw [HEG.out, if_neg (fun h => h0 h.1)]; rfl)
       have hq : decide (((chkL acc : Nat) : Int) = 0) = false := jG (by omega)
       have hne : ((chkL acc : Nat) : Int) ≠ 0 := by omega
       clear HEG HEQ
       generalize chkL acc = e0 at *
       clear h0
       go_wp2_with (go_at_call 49; (refine HLY.out.mono ?_); rintro e W9 ⟨v9, rfl, ho, hb⟩; have HB9 := Li (show Below g w W9 from HBE.out.trans (hb.mono HGS.out)); clear ho hb)
       try rw [Exit.noGoto_ret]
       refine bodyPost_ret (results_tmp2 rfl _ _ _) rfl ?_
       exact readPost_no HE.out (by decide) (by rw [← HGW.out]; exact HB9.out)
    | succ j =>
     obtain ⟨l5, b5, x5, h5⟩ : ∃ l5 b5 x5, rsL bb xb = (l5, b5, x5) := ⟨_, _, _, rfl⟩
     obtain ⟨f1, f2, f3, f4⟩ := rsL_facts bb xb HBB.out
     have HSE := Li (series_c g g bb xb wr HRD.out (jD _) HBB.out (by omega))
     have HST := Li (HRE.out.trans (show rgL (j + 1) bb xb acc = _ by rw [rgL]))
     rw [h5] at f1 f2 f3 f4 HSE HST
     simp only at f1 f2 f3 f4
     have HOKN := Li (show ∀ p ∈ acc ++ l5, PcOk p ∧ p.s.size ≤ b.length from fun p hp => by
      rcases List.mem_append.1 hp with hp | hp
      ·exact HOK.out p hp
      ·exact ⟨(f1 p hp).1, by have := (f1 p hp).2; omega⟩)
     have HF3 := Li f3
     clear h5 f1 f3 f4 HRE HOK HBB
     go_upto_region 10 with (first
      | (go_at_call 84; (refine HSE.out.mono ?_); rintro e W5 ⟨v5, rfl, ho, hr, hon⟩; obtain ⟨A5, c5, rfl, _, _, r5⟩ := ho.rd; have HR5 := Li (show RdrAt W5 g g b5 x5 from hr); have HRP5 := Li (show RdP W5 W5.heap.size A5 l5 from r5); have HP5 := Li (HP.out.off hon (fun k hk => by omega)); have HB5 := Li (show Below g w W5 from HBE.out.trans (hon.below (fun i hi => by omega) hbe')); have HS5 := Li (show g + 1 ≤ W5.heap.size from HR5.out.lt); clear ho hr hon r5)
      | (at_builtin; go_loud (refine wpList_app _ rfl (.tmp 38) (.tmp 40) _ rfl (g + 1) 77 i0 (.agg zPc) 5 48 Tryz.underlying31 hi hz0 hz1 hz2 rfl (by decide) _ acc.length (pcs acc) rfl HP5.out _ A5 l5.length c5 (pcs l5) rfl (pcs_len l5) HRP5.out (pcs_oneCell _) (by omega) (by omega) HS5.out ?_; intro v6 W6 hap; have HB6 := Li (hap.below HP5.out HS5.out); have HP6 := Li (OwnP.app (l := acc) (m := l5) hap); have HR6 := Li (HR5.out.off (jD _) HB6.out); have HBN := Li (HB5.out.trans (HB6.out.mono (Nat.le_succ _))); clear hap)))
     obtain ⟨cb, fb⟩ := HR6.out.cbad
     cases x5 with
     | true =>
      have HFIN := Li (show R = (acc ++ l5, true) from HST.out)
      have HE := Li (show (readE b : Int) = 4 by rw [readE_bad HSH0.out (l := acc ++ l5) (by rw [← HRB.out]; exact HFIN.out)]; rfl)
      go_wp2_with fail
      try rw [Exit.noGoto_ret]
      refine bodyPost_ret (results_tmp2 rfl _ _ _) rfl ?_
      exact readPost_no HE.out (by decide) (by rw [← HGW.out]; exact HBN.out)
     | false =>
      have HSTF := Li (show R = rgL j b5 false (acc ++ l5) from HST.out)
      have fj : IntKind.u64.wrap (j : Int) = (j : Int) := by rw [IntKind.wrap_u64]; have := HK.out; omega
      go_wp2_with fail
      go_roundw
      case rel => exact ⟨j, b5, false, acc ++ l5, by go_num, HSTF.out, HP6.out, HR6.out, HBN.out, by rw [jC]; omega, HF3.out, by have := HK.out; omega, HOKN.out⟩
      case measure => simp [intOf] <;> omega
section
variable {P : Program} {ops : Array Oper} {Z : World} {ls : List Tmp} {V : Tmp → Value → World → Prop} {Q : Act → Prop} {rest : List Oper} {o : Oper} {b : Act}
theorem wpLoud_valN (d : Tmp) (hd : o.dst = some d) (hl : ls.contains d = false) (need : List Tmp) (v : Value) (hw : Region.wanted o (yielded ops b.tmps) = true) (hsel : ∀ cs t, o.op ≠ .select cs t)
  (hn : (need.all fun k => ls.contains k && ((o.looksAt ops).contains k && isTok (b.eval (.tmp k)))) = true)
  (hc : ∀ (g : Tmp → Value) (x : Ext Z), (∀ k ∈ need, V k (g k) x.wd) → (execOp (over ls b g) o).run P x.wd = .ok (.value v) x.wd)
  (b' : Act) (hb : b.put o.dst v = b') (h : wpLoud P ops Z ls V Q rest b') : wpLoud P ops Z ls V Q (o :: rest) b := by
 subst hb
 unfold wpLoud
 rw [if_pos hw]
 refine ⟨v, fun a w hC hs => ?_, h⟩
 have he : ∀ x ∈ o.op.operands, a.eval x = over ls b (fun k => a.eval (.tmp k)) x := fun x hx => by
  cases x with
  | tmp k =>
   have hk : k ∈ o.looksAt ops := List.mem_append_left _ (List.mem_filterMap.2 ⟨.tmp k, by simpa using hx, rfl⟩)
   show _ = if ls.contains k then _ else _
   cases hcn : ls.contains k
   ·exact (hs k hk).2 hcn
   ·rfl
  | const v => rfl
  | global v => rfl
  | func v => rfl
 rw [execOp_congr o hsel he]
 have h1 := hc (fun k => a.eval (.tmp k)) ⟨w, hC⟩ (fun k hk => by
  have h1 := List.all_eq_true.1 hn k hk
  simp only [Bool.and_eq_true] at h1
  exact (hs k (by simpa using h1.2.1)).1 h1.1 (isTok_eq h1.2.2))
 have h1' : (execOp (over ls b fun k => a.eval (.tmp k)) o).run P w = .ok (.value v) w := h1
 rw [h1']
 exact .inl ⟨rfl, rfl, fun d' hd' => by rw [hd] at hd'; injection hd' with hd'; subst hd'; exact hl⟩
theorem run_ext (ρ : Operand → Value) (o : Oper) (x : Operand) (i : Nat) (ho : o.op = .extract x i) (vs : Array Value) (u : Value) (hx : ρ x = .tuple vs) (hu : vs[i]? = some u) (w : World) : (execOp ρ o).run P w = .ok (.value u) w := by
 unfold execOp
 simp [ho, hx, hu, Instr.extract, Sem.run_bind, Sem.run_pure]
end
theorem bx_all (t : ByteArray) (ep : Nat) (nn : List Nat) (A : Option Addr) (n c : Nat) : (bxV t ep nn A n c).all (·.oneCell') = true := by
 rw [← Array.all_toList, List.all_eq_true]
 exact bx_one t ep nn A n c
def n12z : List Nat := List.replicate 12 0
def zBx : Array Value := bxV ByteArray.empty 0 n12z none 0 0
theorem zero_bx (w : World) : (zeroValue 61).run Tryz.prog w = .ok (.agg zBx) w := by kernel_rfl
theorem built_bx0 : Tryz.prog.built 61 [] = some zBx := by kernel_rfl
theorem built_bx (t : ByteArray) (ep : Nat) {nn : List Nat} (A : Option Addr) (n c : Nat) (h : nn.length = 12) : Tryz.prog.built 61 [(0, .string t), (1, .int .u32 (ep : Int)), (2, .agg (vb nn)), (3, .slice A n c)] = some (bxV t ep nn A n c) := by
 obtain ⟨a0, a1, a2, a3, a4, a5, a6, a7, a8, a9, a10, a11, rfl⟩ : ∃ a0 a1 a2 a3 a4 a5 a6 a7 a8 a9 a10 a11, nn = [a0, a1, a2, a3, a4, a5, a6, a7, a8, a9, a10, a11] := by
  match nn, h with
  | [a0, a1, a2, a3, a4, a5, a6, a7, a8, a9, a10, a11], _ => exact ⟨_, _, _, _, _, _, _, _, _, _, _, _, rfl⟩
 kernel_rfl
theorem nnSz {L : List Nat} (h : L.length = 12) : (Tryz.prog.info? 57).map (·.size) = some (vb L).size := nonSz h
theorem zBx_size : zBx.size = 15 := by rfl
structure Sbx (w W : World) (k nn : List Nat) (R : Array Value) : Prop where
 kb : Kbx w W k nn
 r : Blk W (w.heap.size + 1 + 1) 61 R
theorem Sbx.next {w W W' : World} {k nn : List Nat} {R : Array Value} (s : Sbx w W k nn R) (hb : Below W.heap.size W W') : Sbx w W' k nn R := ⟨s.kb.next (hb.mono s.kb.sz), s.r.below hb s.r.lt⟩
theorem Sbx.drewN {w W : World} {k nn : List Nat} {R : Array Value} (s : Sbx w W k nn R) (n : Nat) : Sbx w (W.drewN n) k nn R := s.next (belowDrewN n (jE _ _))
theorem Sbx.begin (w : World) (k nn : List Nat) : Sbx w (((w.alloc (Obj.cells (vb k) 45)).alloc (Obj.cells (vb nn) 57)).alloc (Obj.cells zBx 61)) k nn zBx := by
 have h1 := Kbx.begin w k nn
 refine ⟨h1.next ((jE _ _).alloc h1.sz _), ?_⟩
 have h2 := Blk.new ((w.alloc (Obj.cells (vb k) 45)).alloc (Obj.cells (vb nn) 57)) 61 zBx
 rw [show ((w.alloc (Obj.cells (vb k) 45)).alloc (Obj.cells (vb nn) 57)).heap.size = w.heap.size + 1 + 1 by simp] at h2
 exact h2
def sealE (t : ByteArray) (l : List Pc) : Nat := if nameB t then chkL l else 1
def BoxR (t : ByteArray) (ep : Nat) (nn body : List Nat) (E : Nat) (w : World) (e : Ending) (w' : World) : Prop :=
 ∃ A c, e = .returned (.tuple #[.agg (bxV t ep nn A body.length c), .int .i64 (E : Nat)]) ∧ OwnB w' w.heap.size (.slice A body.length c) body ∧ Below w.heap.size w w'
theorem boxR_none {w w' : World} {E : Nat} (hb : Below w.heap.size w w') : BoxR ByteArray.empty 0 n12z [] E w (.returned (.tuple #[.agg zBx, .int .i64 (E : Nat)])) w' := ⟨none, 0, rfl, OwnB.nil_ _ _, hb⟩
theorem sealNo_c (k nn : List Nat) (t : ByteArray) (ep : Nat) (A : Option Addr) (ca : Nat) (l : List Pc) (w : World) (hk : k.length = 32) (hkl : ∀ c ∈ k, c < 256) (hn : nn.length = 12) (hnl : ∀ c ∈ nn, c < 256) (ht : t.size ≤ 1000000) (he : ep < 4294967296) (hr : RdP w w.heap.size A l) (hc : l.length ≤ ca) (h1 : l.length ≤ 100000) (hok : ∀ p ∈ l, PcOk p ∧ p.s.size ≤ 1000000) (h0 : sealE t l ≠ 0) :
  Calls Tryz.prog 28 #[.agg (vb k), .agg (vb nn), .string t, .int .u32 (ep : Nat), .slice A l.length ca] w (BoxR ByteArray.empty 0 n12z [] (sealE t l) w) := by
 have zf := zero_bx
 have zs1 : zBx.size = 15 := by rfl
 have zs2 : ¬ zBx = #[] := by intro h; have := congrArg Array.size h; rw [zs1] at this; cases this
 have HNK := Li (keySz hk)
 have HNN := Li (nnSz hn)
 have HBX := Li (Sbx.begin w k nn)
 have HBD := Li built_bx0
 have HZS := Li (show (Tryz.prog.info? 61).map (·.size) = some zBx.size by kernel_rfl)
 have HZ1 := Li (show zBx.all (·.oneCell') = true from bx_all _ _ _ _ _ _)
 have HNM := Li (fun W => name_c t W (by omega))
 have HLY := Li (fun W (hb : Below w.heap.size w W) => lay_c A ca l W (Rd.ups (Rd.below hr hb) hb.size) hc h1 hok)
 cases hnm : nameB t with
 | false =>
  have HE := Li (show sealE t l = 1 by unfold sealE; rw [hnm]; rfl)
  rw [hnm] at HNM
  rw [HE.out]
  clear h0 hr hok hkl hnl hnm
  go_enter Tryz.func28, Tryz.ntmps28
  go_upto_region 1 with (first
   | (refine Go.Great.wpList_boxTo rfl 45 (.tmp 0) rfl (some 5) rfl w.heap.size rfl (vb k) rfl ?_)
   | (refine Go.Great.wpList_boxTo rfl 57 (.tmp 1) rfl (some 6) rfl (w.heap.size + 1) (by simp) (vb nn) rfl ?_))
  generalize ((w.alloc (Obj.cells (vb k) 45)).alloc (Obj.cells (vb nn) 57)).alloc (Obj.cells zBx 61) = Z at *
  clear zf zs1 zs2
  go_wp2_with (first
   | (go_at_call 48; (refine (HNM.out Z).mono ?_); rintro e W1 ⟨rfl, rfl⟩)
   | (refine wpList_valG (by kernel_rfl) (.agg zBx) (run_built _ 61 [] _ HBD.out _ rfl rfl) ?_)
   | (refine wpList_store_rowTo rfl 61 (.tmp 10) (.tmp 18) rfl rfl (w.heap.size + 1 + 1) zBx rfl (by kernel_rfl) 61 zBx (by exact HBX.out.r) HZS.out rfl HZ1.out ?_))
  refine bodyPost_ret (results_row_tmp rfl _ _ (w.heap.size + 1 + 1) 61 zBx (0, 0) _ rfl (setRow_heap _ _ zBx _ 61 (0, 0) HBX.out.r) Tryz.underlying61 rfl HZS.out) rfl ?_
  exact boxR_none (E := 1) (below_row HBX.out.kb.bel (by omega) _)
 | true =>
  have HE := Li (show sealE t l = chkL l by unfold sealE; rw [hnm]; rfl)
  rw [hnm] at HNM
  rw [HE.out] at h0 ⊢
  have hne : ((chkL l : Nat) : Int) ≠ 0 := by omega
  have hq : decide (((chkL l : Nat) : Int) = 0) = false := jG (by omega)
  clear hr hok hkl hnl hnm
  generalize chkL l = E at *
  clear h0 HE
  go_enter Tryz.func28, Tryz.ntmps28
  go_upto_region 1 with (first
   | (refine Go.Great.wpList_boxTo rfl 45 (.tmp 0) rfl (some 5) rfl w.heap.size rfl (vb k) rfl ?_)
   | (refine Go.Great.wpList_boxTo rfl 57 (.tmp 1) rfl (some 6) rfl (w.heap.size + 1) (by simp) (vb nn) rfl ?_))
  generalize ((w.alloc (Obj.cells (vb k) 45)).alloc (Obj.cells (vb nn) 57)).alloc (Obj.cells zBx 61) = Z at *
  clear zf zs1 zs2
  go_wp2_with (first
   | (go_at_call 48; (refine (HNM.out Z).mono ?_); rintro e W1 ⟨rfl, rfl⟩)
   | (go_at_call 49; (refine (HLY.out Z HBX.out.kb.bel).mono ?_); rintro e W2 ⟨v2, rfl, ho, hb⟩; have HX2 := Li (HBX.out.next hb); clear ho hb)
   | (refine wpList_valG (by kernel_rfl) (.agg zBx) (run_built _ 61 [] _ HBD.out _ rfl rfl) ?_)
   | (refine wpList_store_rowTo rfl 61 (.tmp 10) (.tmp 26) rfl rfl (w.heap.size + 1 + 1) zBx rfl (by kernel_rfl) 61 zBx (by exact HX2.out.r) HZS.out rfl HZ1.out ?_))
  refine bodyPost_ret (results_row_tmp rfl _ _ (w.heap.size + 1 + 1) 61 zBx (0, 0) _ rfl (setRow_heap _ _ zBx _ 61 (0, 0) HX2.out.r) Tryz.underlying61 rfl HZS.out) rfl ?_
  exact boxR_none (E := E) (below_row HX2.out.kb.bel (by omega) _)
def boxL (k nn : List Nat) (t : ByteArray) (ep : Nat) (l : List Pc) : List Nat := sealL k nn (besideL 66 t ep) (layL l)
theorem sealYes_c (k nn : List Nat) (t : ByteArray) (ep : Nat) (A : Option Addr) (ca : Nat) (l : List Pc) (w : World) (hk : k.length = 32) (hkl : ∀ c ∈ k, c < 256) (hn : nn.length = 12) (hnl : ∀ c ∈ nn, c < 256) (ht : t.size ≤ 1000000) (he : ep < 4294967296) (hr : RdP w w.heap.size A l) (hc : l.length ≤ ca) (h1 : l.length ≤ 100000) (hok : ∀ p ∈ l, PcOk p ∧ p.s.size ≤ 1000000) (hnm : nameB t = true) (h0 : chkL l = 0) (hq : QuartersAt w) :
  Calls Tryz.prog 28 #[.agg (vb k), .agg (vb nn), .string t, .int .u32 (ep : Nat), .slice A l.length ca] w (BoxR t ep nn (boxL k nn t ep l) 0 w) := by
 have zf := zero_bx
 have zs1 : zBx.size = 15 := by rfl
 have zs2 : ¬ zBx = #[] := by intro h; have := congrArg Array.size h; rw [zs1] at this; cases this
 have HNK := Li (keySz hk)
 have HNN := Li (nnSz hn)
 have HBX := Li (Sbx.begin w k nn)
 have HBD := Li built_bx0
 have HZS := Li (show (Tryz.prog.info? 61).map (·.size) = some zBx.size by kernel_rfl)
 have HZ1 := Li (show zBx.all (·.oneCell') = true from bx_all _ _ _ _ _ _)
 have HNM := Li (fun W => name_c t W (by omega))
 have HLY := Li (fun W (hb : Below w.heap.size w W) => lay_c A ca l W (Rd.ups (Rd.below hr hb) hb.size) hc h1 hok)
 have hL0 : layR l = layL l := by unfold layR; rw [if_pos h0]
 have hLl : (layL l).length ≤ 4096 := by rw [← hL0]; exact layR_le (fun p hp => (hok p hp).1)
 have hLb : ∀ c ∈ layL l, c < 256 := by rw [← hL0]; exact layR_lt l
 have hbl := beside_len 66 t ep
 have hts : t.size ≤ 24 := by
  unfold nameB at hnm
  simp only [Bool.and_eq_true, decide_eq_true_eq] at hnm
  exact hnm.2.2
 have HBS := Li (fun W => beside_c 66 t ep W he ht)
 have HSC := Li (fun W A1 A2 c1 c2 (hb : Below w.heap.size w W) (hr1 : Rd W W.heap.size A1 (byt (besideL 66 t ep))) (hr2 : Rd W W.heap.size A2 (byt (layL l))) => seal_c A1 A2 c1 c2 k nn (besideL 66 t ep) (layL l) W hk hkl hn hnl hr1 hr2 (beside_lt 66 t ep (by decide)) hLb (by omega) hLl (hq.next hb))
 have HSB := Li (show sealL k nn (besideL 66 t ep) (layL l) = boxL k nn t ep l from rfl)
 have HLL := Li hLl
 rw [h0, hL0] at HLY
 rw [HSB.out] at HSC
 rw [hnm] at HNM
 obtain ⟨bs, hbs⟩ : ∃ bs, bs = besideL 66 t ep := ⟨_, rfl⟩
 rw [← hbs] at HBS HSC
 generalize boxL k nn t ep l = body at *
 generalize layL l = L at *
 clear hr hok hkl hnl hnm h0 hq hL0 hLl hLb hbl hbs HSB
 have HBT := Li (fun A n c => built_bx t ep (nn := nn) A n c hn)
 have HBI := Li (fun A n c => bxSz t ep (nn := nn) A n c hn)
 have HBQ := Li (fun A n c => show zBx.size = (bxV t ep nn A n c).size by rw [zBx_size]; unfold bxV; rw [List.size_toArray, bxL_len t ep A n c hn])
 have HNL := Li (show (Tryz.prog.info? 57).map (·.size) = some (vb nn).toList.length by rw [Array.length_toList]; exact nnSz hn)
 have HKL := Li (show (Tryz.prog.info? 45).map (·.size) = some (vb k).toList.length by rw [Array.length_toList]; exact keySz hk)
 go_enter Tryz.func28, Tryz.ntmps28
 go_upto_region 1 with (first
  | (refine Go.Great.wpList_boxTo rfl 45 (.tmp 0) rfl (some 5) rfl w.heap.size rfl (vb k) rfl ?_)
  | (refine Go.Great.wpList_boxTo rfl 57 (.tmp 1) rfl (some 6) rfl (w.heap.size + 1) (by simp) (vb nn) rfl ?_))
 generalize ((w.alloc (Obj.cells (vb k) 45)).alloc (Obj.cells (vb nn) 57)).alloc (Obj.cells zBx 61) = Z at *
 clear zf zs1 zs2
 go_upto_region 6 with (first
  | (go_at_call 48; (refine (HNM.out Z).mono ?_); rintro e W1 ⟨rfl, rfl⟩)
  | (go_at_call 49; (refine (HLY.out Z HBX.out.kb.bel).mono ?_); rintro e W2 ⟨v2, rfl, ho, hb⟩; have HX2 := Li (HBX.out.next hb); obtain ⟨A2, c2, rfl, _, _, r2⟩ := ho.rd; have HR2 := Li r2; clear ho hb r2))
 refine wp_region_loud W2 [33, 35, 28, 36, 14] (fun k u W => if k = 33 then OwnB W W2.heap.size u bs else if k = 35 ∨ k = 28 then (∃ v, u = .tuple #[v, .int .i64 0] ∧ OwnB W W2.heap.size v body) else OwnB W W2.heap.size u body) (by kernel_rfl) (by kernel_rfl) (by kernel_rfl) (by kernel_rfl) (fun k u w1 w2 h hb => by
  by_cases h33 : k = 33
  ·rw [if_pos h33] at h ⊢; exact OwnB.next h hb
  ·rw [if_neg h33] at h ⊢
   by_cases h35 : k = 35 ∨ k = 28
   ·rw [if_pos h35] at h ⊢; obtain ⟨v, e, h⟩ := h; exact ⟨v, e, OwnB.next h hb⟩
   ·rw [if_neg h35] at h ⊢; exact OwnB.next h hb) (jE _ _).drew ?_
 repeat (first
  | (refine wpLoud_loadB rfl rfl 45 (.tmp 5) rfl w.heap.size 0 rfl (vb k) _ (fun z => by have h2 := rangeAt_blk (HX2.out.kb.kA.below z.bel HX2.out.kb.kA.lt); simpa [vb] using h2) Tryz.underlying45 rfl HKL.out _ (by simp only [Act.put, sI, sS, sZ]; rfl) ?_)
  | (refine wpLoud_loadB rfl rfl 57 (.tmp 6) rfl (w.heap.size + 1) 0 rfl (vb nn) _ (fun z => by have h2 := rangeAt_blk (HX2.out.kb.nA.below z.bel HX2.out.kb.nA.lt); simpa [vb] using h2) Tryz.underlying57 rfl HNL.out _ (by simp only [Act.put, sI, sS, sZ]; rfl) ?_)
  | (refine wpLoud_call 33 rfl [] tok 51 (fun g => #[.int .u8 66, .string t, .int .u32 (ep : Int)]) rfl (fun _ _ h => by cases h) rfl (fun g w => by kernel_rfl) (fun g y hg => by
    refine (HBS.out y.wd).mono ?_
    rintro e w' ⟨u, rfl, ho, hb⟩
    exact ⟨u, rfl, hb, own_base_le ho y.bel.size⟩) _ (by simp only [Act.put, sI, sS, sZ]; rfl) ?_)
  | (refine wpLoud_call 35 rfl [33] tok 50 (fun g => #[.agg (vb k), .agg (vb nn), g 33, .slice A2 L.length c2]) rfl (fun _ _ h => by cases h) rfl (fun g w => by kernel_rfl) (fun g y hg => by
    have h33 : OwnB y.wd W2.heap.size (g 33) bs := hg 33 (by simp)
    obtain ⟨A3, c3, e3, _, _, r3⟩ := h33.rd
    show Calls _ _ #[_, _, g 33, _] _ _
    rw [e3]
    refine (HSC.out y.wd A3 A2 c3 c2 (HX2.out.kb.bel.trans (y.bel.mono HX2.out.kb.bel.size)) r3 (Rd.ups (Rd.below HR2.out y.bel) y.bel.size)).mono ?_
    rintro e w' ⟨v, rfl, ho, hb⟩
    exact ⟨_, rfl, hb, ⟨v, rfl, own_base_le ho y.bel.size⟩⟩) _ (by simp only [Act.put, sI, sS, sZ]; rfl) ?_)
  | (refine wpLoud_move rfl 35 28 (.inr rfl) rfl rfl rfl rfl (fun u w h => h) _ (by simp only [Act.put, sI, sS, sZ]; rfl) ?_)
  | (refine wpLoud_makeG 36 rfl rfl [28] rfl (fun _ _ h => by cases h) rfl (fun g x h => by
    obtain ⟨v, e, ho⟩ : ∃ v, g 28 = .tuple #[v, .int .i64 0] ∧ OwnB x.wd W2.heap.size v body := h 28 (by simp)
    exact ⟨v, x.wd, run_ext _ _ (.tmp 28) 0 rfl _ v e rfl _, jE _ _, ho⟩) _ (by simp only [Act.put, sI, sS, sZ]; rfl) ?_)
  | (refine wpLoud_valN 37 rfl rfl [28] (.int .i64 0) rfl (fun _ _ h => by cases h) rfl (fun g x h => by
    obtain ⟨v, e, ho⟩ : ∃ v, g 28 = .tuple #[v, .int .i64 0] ∧ OwnB x.wd W2.heap.size v body := h 28 (by simp)
    exact run_ext _ _ (.tmp 28) 1 rfl _ _ e rfl _) _ (by simp only [Act.put, sI, sS, sZ]; rfl) ?_)
  | (refine wpLoud_move rfl 36 14 (.inl rfl) rfl rfl rfl rfl (fun u w h => h) _ (by simp only [Act.put, sI, sS, sZ]; rfl) ?_)
  | (refine wpLoud_plain rfl rfl rfl ?_; intro K hK; go_big_quiet_op; go_big_quiet_on))
 refine wpLoud_end [33, 35, 28, 36, 14] (by rfl) ?_
 intro gg z hg
 have h35 : OwnB z.wd W2.heap.size (gg 14) body := hg 14 (by simp)
 obtain ⟨A5, c5, e14, _, _, _⟩ := h35.rd
 have HO5 := Li h35
 have HX5 := Li (HX2.out.next z.bel)
 generalize z.wd = Y at *
 simp only [fill, Act.put, sI, sS, sZ]
 rw [e14] at HO5 ⊢
 clear hg h35 e14
 generalize gg 33 = x33 at *
 generalize gg 35 = x35 at *
 generalize gg 28 = x28 at *
 generalize gg 36 = x36 at *
 go_upto_region 7 with fail
 go_wp2_with (first
  | (refine wpList_load_row rfl 57 (.tmp 6) rfl (w.heap.size + 1) rfl 57 (vb nn) (0, 0) _ HX5.out.kb.nA Tryz.underlying57 rfl HNN.out ?_)
  | (refine wpList_valG (by kernel_rfl) (.agg (bxV t ep nn A5 body.length c5)) (by exact run_built _ 61 [(0, .string t), (1, .int .u32 (ep : Int)), (2, .agg (vb nn)), (3, .slice A5 body.length c5)] (bxV t ep nn A5 body.length c5) (HBT.out A5 body.length c5) #[(0, .tmp 38), (1, .tmp 39), (2, .tmp 40), (3, .tmp 41)] rfl (by kernel_rfl)) ?_)
  | (refine wpList_store_rowTo rfl 61 (.tmp 10) (.tmp 42) rfl rfl (w.heap.size + 1 + 1) (bxV t ep nn A5 body.length c5) rfl rfl 61 zBx (by exact HX5.out.r) (HBI.out ..) (HBQ.out ..) (bx_all _ _ _ _ _ _) ?_))
 refine bodyPost_ret (results_row_tmp rfl _ _ (w.heap.size + 1 + 1) 61 (bxV t ep nn A5 body.length c5) (0, 0) _ rfl (setRow_heap _ _ zBx _ 61 (0, 0) HX5.out.r) Tryz.underlying61 rfl (HBI.out ..)) rfl ?_
 refine ⟨A5, c5, rfl, ?_, below_row HX5.out.kb.bel (by omega) _⟩
 have hlt := HX2.out.r.lt
 exact own_base_le (own_keep HO5.out (only_setRow Y (w.heap.size + 1 + 1) _) (fun g hg hs => by have h2 := own_base HO5.out g hg; omega)) (by omega)
def opE (k : List Nat) (t : ByteArray) (ep : Nat) (nn body : List Nat) : Nat := if checkB t body.length then (if openErr k nn (besideL 66 t ep) body = 0 then readE (openL k nn (besideL 66 t ep) body) else openErr k nn (besideL 66 t ep) body) else 1
def opP (k : List Nat) (t : ByteArray) (ep : Nat) (nn body : List Nat) : List Pc := if opE k t ep nn body = 0 then readL (openL k nn (besideL 66 t ep) body) else []
def OpenR (k : List Nat) (t : ByteArray) (ep : Nat) (nn body : List Nat) (w : World) (e : Ending) (w' : World) : Prop := ∃ v, e = .returned (.tuple #[v, .int .i64 (opE k t ep nn body : Nat)]) ∧ OwnP w' w.heap.size v (opP k t ep nn body) ∧ Below w.heap.size w w'
theorem openR_no {k : List Nat} {t : ByteArray} {ep : Nat} {nn body : List Nat} {w w' : World} {E : Int} (hE : (opE k t ep nn body : Int) = E) (h0 : E ≠ 0) (hb : Below w.heap.size w w') : OpenR k t ep nn body w (.returned (.tuple #[.slice none 0 0, .int .i64 E])) w' := by
 refine ⟨.slice none 0 0, by rw [hE], ?_, hb⟩
 rw [show opP k t ep nn body = [] by unfold opP; rw [if_neg (by omega)]]
 exact OwnP.nil_ _ _
structure Obx (w W : World) (k : List Nat) (B : Array Value) : Prop where
 bel : Below w.heap.size w W
 kA : Blk W w.heap.size 45 (vb k)
 bA : Blk W (w.heap.size + 1) 61 B
theorem Obx.next {w W W' : World} {k : List Nat} {B : Array Value} (s : Obx w W k B) (hb : Below W.heap.size W W') : Obx w W' k B := ⟨s.bel.trans (hb.mono s.bel.size), s.kA.below hb s.kA.lt, s.bA.below hb s.bA.lt⟩
theorem Obx.begin (w : World) (k : List Nat) (B : Array Value) : Obx w ((w.alloc (Obj.cells (vb k) 45)).alloc (Obj.cells B 61)) k B :=
 ⟨((jE _ _).alloc (jD _) _).alloc (by simp) _, (Blk.new w _ _).alloc _, heap2 w _ _⟩
theorem openL_lt {k nn bs body : List Nat} (hb : ∀ c ∈ body, c < 256) : ∀ c ∈ openL k nn bs body, c < 256 := by
 unfold openL
 split
 ·exact xorL_lt k nn 1 (fun c hc => hb c (List.mem_of_mem_take hc))
 ·intro c hc; cases hc
theorem openL_len {k nn bs body : List Nat} : (openL k nn bs body).length ≤ body.length := by
 unfold openL
 split
 ·rw [xorL_len, List.length_take]; omega
 ·exact Nat.zero_le _
theorem openBox_c (k nn body : List Nat) (t : ByteArray) (ep : Nat) (A : Option Addr) (c : Nat) (w : World) (hk : k.length = 32) (hkl : ∀ c ∈ k, c < 256) (hn : nn.length = 12) (hnl : ∀ c ∈ nn, c < 256) (ht : t.size ≤ 1000000) (he : ep < 4294967296)
  (hr : Rd w w.heap.size A (byt body)) (hbl : ∀ c ∈ body, c < 256) (hc : body.length ≤ c) (hbn : body.length ≤ 100000) (hq : QuartersAt w) :
  Calls Tryz.prog 37 #[.agg (vb k), .agg (bxV t ep nn A body.length c)] w (OpenR k t ep nn body w) := by
 have HX := Li (Obx.begin w k (bxV t ep nn A body.length c))
 have HBL := Li (bxLn t ep (nn := nn) A body.length c hn)
 have HBS := Li (bxSz t ep (nn := nn) A body.length c hn)
 have HCH := Li (fun W => check16_c t ep nn A body.length c W hn ht (by omega))
 have HEE := Li (show opE k t ep nn body = if checkB t body.length then (if openErr k nn (besideL 66 t ep) body = 0 then readE (openL k nn (besideL 66 t ep) body) else openErr k nn (besideL 66 t ep) body) else 1 from rfl)
 cases hck : checkB t body.length with
 | false =>
  have HE := Li (show (opE k t ep nn body : Int) = 1 by rw [HEE.out, hck]; rfl)
  rw [hck] at HCH
  clear hr hbl hkl hnl hq hck HEE
  go_enter Tryz.func37, Tryz.ntmps37
  go_upto_region 1 with (first
   | (refine Go.Great.wpList_boxTo rfl 45 (.tmp 0) rfl (some 2) rfl w.heap.size rfl (vb k) rfl ?_)
   | (refine Go.Great.wpList_boxTo rfl 61 (.tmp 1) rfl (some 3) rfl (w.heap.size + 1) (by simp) (bxV t ep nn A body.length c) rfl ?_))
  generalize (w.alloc (Obj.cells (vb k) 45)).alloc (Obj.cells (bxV t ep nn A body.length c) 61) = Z at *
  go_wp2_with (first
   | (refine wpList_load_row rfl 61 (.tmp 3) rfl (w.heap.size + 1) rfl 61 (bxV t ep nn A body.length c) (0, 0) _ HX.out.bA Tryz.underlying61 rfl HBS.out ?_)
   | (go_at_call 57; (refine (HCH.out Z).mono ?_); rintro e W1 ⟨rfl, hb⟩; have HX1 := Li (HX.out.next hb); clear hb))
  refine bodyPost_ret (results_tmp2 rfl _ _ _) rfl ?_
  exact openR_no HE.out (by decide) HX1.out.bel
 | true =>
  rw [hck] at HCH
  have hck2 := hck
  unfold checkB at hck2
  simp only [Bool.and_eq_true, decide_eq_true_eq] at hck2
  obtain ⟨hnm, h16, h4112⟩ := hck2
  have hts : t.size ≤ 24 := by
   unfold nameB at hnm
   simp only [Bool.and_eq_true, decide_eq_true_eq] at hnm
   exact hnm.2.2
  have hbsl := beside_len 66 t ep
  have HBC := Li (fun W => beside_c 66 t ep W he ht)
  have HOC := Li (fun W A1 c1 (hb : Below w.heap.size w W) (hr1 : Rd W W.heap.size A1 (byt (besideL 66 t ep))) => open_c A1 A c1 c k nn (besideL 66 t ep) body W hk hkl hn hnl hr1 (Rd.ups (Rd.below hr hb) hb.size) (beside_lt 66 t ep (by decide)) hbl (by omega) h16 h4112 hc (hq.next hb))
  have HPB := Li (openL_lt (k := k) (nn := nn) (bs := besideL 66 t ep) hbl)
  have HPL := Li (openL_len (k := k) (nn := nn) (bs := besideL 66 t ep) (body := body))
  have HRD := Li (fun W A1 c1 (h : Rd W W.heap.size A1 (byt (openL k nn (besideL 66 t ep) body))) h2 h3 => read_c A1 c1 (openL k nn (besideL 66 t ep) body) W h h2 h3 HPB.out (by have := HPL.out; omega))
  unfold ReadPost at HRD
  have HE1 := Li (show openErr k nn (besideL 66 t ep) body ≠ 0 → opE k t ep nn body = openErr k nn (besideL 66 t ep) body from fun h => by rw [HEE.out, hck, if_pos rfl, if_neg h])
  have HE0 := Li (show openErr k nn (besideL 66 t ep) body = 0 → opE k t ep nn body = readE (openL k nn (besideL 66 t ep) body) from fun h => by rw [HEE.out, hck, if_pos rfl, if_pos h])
  have HP0 := Li (show opP k t ep nn body = if opE k t ep nn body = 0 then readL (openL k nn (besideL 66 t ep) body) else [] from rfl)
  have HRL := Li (show readL (openL k nn (besideL 66 t ep) body) = if readE (openL k nn (besideL 66 t ep) body) = 0 then (readB (openL k nn (besideL 66 t ep) body)).1 else [] from rfl)
  have HNL := Li (show (Tryz.prog.info? 57).map (·.size) = some (vb nn).toList.length by rw [Array.length_toList]; exact nnSz hn)
  have HKL := Li (show (Tryz.prog.info? 45).map (·.size) = some (vb k).toList.length by rw [Array.length_toList]; exact keySz hk)
  have HN12 := Li hn
  generalize openErr k nn (besideL 66 t ep) body = oe at *
  generalize openL k nn (besideL 66 t ep) body = pl at *
  generalize besideL 66 t ep = bs at *
  clear hr hbl hkl hnl hq hck HEE hnm HPB
  go_enter Tryz.func37, Tryz.ntmps37
  go_upto_region 1 with (first
   | (refine Go.Great.wpList_boxTo rfl 45 (.tmp 0) rfl (some 2) rfl w.heap.size rfl (vb k) rfl ?_)
   | (refine Go.Great.wpList_boxTo rfl 61 (.tmp 1) rfl (some 3) rfl (w.heap.size + 1) (by simp) (bxV t ep nn A body.length c) rfl ?_))
  generalize (w.alloc (Obj.cells (vb k) 45)).alloc (Obj.cells (bxV t ep nn A body.length c) 61) = Z at *
  go_upto_region 4 with (first
   | (refine wpList_load_row rfl 61 (.tmp 3) rfl (w.heap.size + 1) rfl 61 (bxV t ep nn A body.length c) (0, 0) _ HX.out.bA Tryz.underlying61 rfl HBS.out ?_)
   | (go_at_call 57; (refine (HCH.out Z).mono ?_); rintro e W2 ⟨rfl, hb⟩; have HX2 := Li (HX.out.next hb); clear hb))
  have c0 := cell_ext (show W2.cell? ⟨w.heap.size + 1, 0, none⟩ = some (.string t) from (HX2.out.bA.cell 0).trans (bx_c0 ..))
  have c1 := cell_ext (show W2.cell? ⟨w.heap.size + 1, 1, none⟩ = some (.int .u32 (ep : Int)) from (HX2.out.bA.cell 1).trans (bx_c1 ..))
  have c14 := cell_ext (show W2.cell? ⟨w.heap.size + 1, 14, none⟩ = some (.slice A body.length c) from (HX2.out.bA.cell 14).trans (bx_c14 _ _ _ _ _ hn))
  refine wp_region_loud W2 [22, 25, 14, 26, 7] (fun k u W => if k = 22 then OwnB W W2.heap.size u bs else if k = 25 ∨ k = 14 then (∃ v, u = .tuple #[v, .int .i64 (oe : Nat)] ∧ OwnB W W2.heap.size v pl) else OwnB W W2.heap.size u pl) (by kernel_rfl) (by kernel_rfl) (by kernel_rfl) (by kernel_rfl) (fun k u w1 w2 h hb => by
   by_cases h33 : k = 22
   ·rw [if_pos h33] at h ⊢; exact OwnB.next h hb
   ·rw [if_neg h33] at h ⊢
    by_cases h35 : k = 25 ∨ k = 14
    ·rw [if_pos h35] at h ⊢; obtain ⟨v, e, h⟩ := h; exact ⟨v, e, OwnB.next h hb⟩
    ·rw [if_neg h35] at h ⊢; exact OwnB.next h hb) (jE _ _).drew ?_
  repeat (first
   | (refine wpLoud_loadB rfl rfl 45 (.tmp 2) rfl w.heap.size 0 rfl (vb k) _ (fun z => by have h2 := rangeAt_blk (HX2.out.kA.below z.bel HX2.out.kA.lt); simpa [vb] using h2) Tryz.underlying45 rfl HKL.out _ (by simp only [Act.put, sI, sS, sZ]; rfl) ?_)
   | (refine wpLoud_loadB rfl rfl 57 (.tmp 16) rfl (w.heap.size + 1) 2 rfl (vb nn) _ (fun z => by have h2 := bx_nonce (HX2.out.bA.below z.bel HX2.out.bA.lt); simpa [vb] using h2) Tryz.underlying57 rfl HNL.out _ (by simp only [Act.put, sI, sS, sZ]; rfl) ?_)
   | (refine wpLoud_call 22 rfl [] tok 51 (fun g => #[.int .u8 66, .string t, .int .u32 (ep : Int)]) rfl (fun _ _ h => by cases h) rfl (fun g w => by kernel_rfl) (fun g y hg => by
     refine (HBC.out y.wd).mono ?_
     rintro e w' ⟨u, rfl, ho, hb⟩
     exact ⟨u, rfl, hb, own_base_le ho y.bel.size⟩) _ (by simp only [Act.put, sI, sS, sZ]; rfl) ?_)
   | (refine wpLoud_call 25 rfl [22] tok 58 (fun g => #[.agg (vb k), .agg (vb nn), g 22, .slice A body.length c]) rfl (fun _ _ h => by cases h) rfl (fun g w => by kernel_rfl) (fun g y hg => by
     have h22 : OwnB y.wd W2.heap.size (g 22) bs := hg 22 (by simp)
     obtain ⟨A3, c3, e3, _, _, r3⟩ := h22.rd
     show Calls _ _ #[_, _, g 22, _] _ _
     rw [e3]
     refine (HOC.out y.wd A3 c3 (HX2.out.bel.trans (y.bel.mono HX2.out.bel.size)) r3).mono ?_
     rintro e w' ⟨v, rfl, ho, hb⟩
     exact ⟨_, rfl, hb, ⟨v, rfl, own_base_le ho y.bel.size⟩⟩) _ (by simp only [Act.put, sI, sS, sZ]; rfl) ?_)
   | (refine wpLoud_move rfl 25 14 (.inr rfl) rfl rfl rfl rfl (fun u w h => h) _ (by simp only [Act.put, sI, sS, sZ]; rfl) ?_)
   | (refine wpLoud_makeG 26 rfl rfl [14] rfl (fun _ _ h => by cases h) rfl (fun g x h => by
     obtain ⟨v, e, ho⟩ : ∃ v, g 14 = .tuple #[v, .int .i64 (oe : Nat)] ∧ OwnB x.wd W2.heap.size v pl := h 14 (by simp)
     exact ⟨v, x.wd, run_ext _ _ (.tmp 14) 0 rfl _ v e rfl _, jE _ _, ho⟩) _ (by simp only [Act.put, sI, sS, sZ]; rfl) ?_)
   | (refine wpLoud_valN 27 rfl rfl [14] (.int .i64 (oe : Nat)) rfl (fun _ _ h => by cases h) rfl (fun g x h => by
     obtain ⟨v, e, ho⟩ : ∃ v, g 14 = .tuple #[v, .int .i64 (oe : Nat)] ∧ OwnB x.wd W2.heap.size v pl := h 14 (by simp)
     exact run_ext _ _ (.tmp 14) 1 rfl _ _ e rfl _) _ (by simp only [Act.put, sI, sS, sZ]; rfl) ?_)
   | (refine wpLoud_move rfl 26 7 (.inl rfl) rfl rfl rfl rfl (fun u w h => h) _ (by simp only [Act.put, sI, sS, sZ]; rfl) ?_)
   | (refine wpLoud_plain rfl rfl rfl ?_; intro K hK; go_big_quiet_op; go_big_quiet_on))
  refine wpLoud_end [22, 25, 14, 26, 7] (by rfl) ?_
  intro gg z hg
  have h25 : OwnB z.wd W2.heap.size (gg 7) pl := hg 7 (by simp)
  obtain ⟨A5, c5, e7, hc5, hm5, r5⟩ := h25.rd
  have HR5 := Li r5
  have HX5 := Li (HX2.out.next z.bel)
  generalize z.wd = Y at *
  simp only [fill, Act.put, sI, sS, sZ]
  rw [e7]
  clear hg h25 e7 r5 c0 c1 c14
  generalize gg 22 = x22 at *
  generalize gg 25 = x25 at *
  generalize gg 14 = x14 at *
  generalize gg 26 = x26 at *
  have HRY := Li (HRD.out Y A5 c5 HR5.out hc5 hm5)
  by_cases h0 : oe = 0
  ·have HEZ := Li (HE0.out h0)
   have HPZ := Li (show opP k t ep nn body = readL pl by
    rw [HP0.out, HEZ.out, HRL.out]
    split <;> rfl)
   subst h0
   go_wp2_with (go_at_call 59; (refine HRY.out.mono ?_); rintro e W6 ⟨v6, rfl, ho, hb⟩; have HO6 := Li ho; have HB6 := Li (HX5.out.bel.trans (hb.mono HX5.out.bel.size)); clear ho hb)
   refine bodyPost_ret (results_tmp2 rfl _ _ _) rfl ?_
   exact ⟨_, by rw [HEZ.out]; rfl, by rw [HPZ.out]; exact own_base_le HO6.out HX5.out.bel.size, HB6.out⟩
  ·have HEZ := Li (show (opE k t ep nn body : Int) = (oe : Int) by rw [HE1.out h0])
   have hne : ((oe : Nat) : Int) ≠ 0 := by omega
   have hq0 : decide (((oe : Nat) : Int) = 0) = false := jG (by omega)
   have HNE := Li hne
   clear h0
   go_wp2_with fail
   refine bodyPost_ret (results_tmp2 rfl _ _ _) rfl ?_
   exact openR_no HEZ.out HNE.out HX5.out.bel
end Go.Proofs.YtfnhmnbcponkfaaGreatDoor
