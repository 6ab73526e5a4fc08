/- Contract: the document's laying of pieces. -/
import Derived.Test.YtlidfmbmlhaacaaDl1
namespace Go.Proofs.Ytlidfmbmlhaacaa
open Go.RowKit
set_option linter.unusedVariables false
set_option linter.unusedSimpArgs false
set_option maxRecDepth 100000 in
set_option maxHeartbeats 4000000 in
theorem rlay_c (A : Option Addr) (c : Nat) (l : List Pc) (w : World) (hr : RdP w w.heap.size A l) (h1 : l.length ≤ 100000) (hk : ∀ p ∈ l, PcOk p ∧ p.s.size ≤ 1000000) (h0 : chkL l = 0) :
    Calls Try.prog 17 #[.slice A l.length c] w (Gives (layL l) w) := by
  obtain ⟨i0, hi, hz0, hz1, hz2⟩ := info_parts byteInfo
  have hok := chk_ok h0
  have hsz := chk_sizes h0
  have hff := form_fits l (fun p hp => ⟨(hk p hp).1, by have := (hsz p hp).2; omega⟩) (by omega)
  have HR := Lib.hid hr
  have HRM := Lib.hid (fun W (h : RdP W w.heap.size A l) => rroom_c w.heap.size A c l W h (by omega) (fun p hp => (hk p hp).2))
  have HFM := Lib.hid (rformP_c A c l w hr h1 hk (by omega))
  obtain ⟨Z, hZ⟩ : ∃ Z, Z = roomL l - (2 + (formP l).length) := ⟨_, rfl⟩
  have HRZ := Lib.hid (show roomL l = 2 + (formP l).length + Z by omega)
  have hrl : roomL l ≤ 4096 := hok.2.1
  have HE := Lib.hid (show layL l = (form (formP l).length 2 ++ formP l) ++ List.replicate Z 0 by unfold layL; rw [hZ])
  obtain ⟨F, hF⟩ : ∃ F, F = formP l := ⟨_, rfl⟩
  rw [← hF] at HE HFM HRZ
  have hFl : F.length ≤ 4096 := by rw [hF]; omega
  obtain ⟨m1, hm1⟩ : ∃ m1, m1 = form F.length 2 := ⟨_, rfl⟩
  have HFR := Lib.hid (show ∀ W, Calls Try.prog 39 #[.int .u64 (F.length : Nat), .int .i64 2] W (Gives m1 W) from fun W => by rw [hm1]; exact rform_c _ 2 W (by omega) (by decide))
  have HM1 := Lib.hid (show m1.length = 2 by rw [hm1, form_len])
  rw [← hm1] at HE
  obtain ⟨L, hL⟩ : ∃ L, L = layL l := ⟨_, rfl⟩
  rw [← hL] at HE ⊢
  have hm1l : m1.length ≤ 2 := by have := HM1.out; omega
  have fl : IntKind.u64.wrap (F.length : Int) = (F.length : Int) := by rw [IntKind.wrap_u64]; omega
  clear hr hk h0 hok hsz hff hF hm1 hL hZ
  generalize roomL l = rm at *
  have hZ : Z ≤ 4096 := by have := HRZ.out; omega
  go_enter Try.func17, Try.ntmps17
  go_wp2_with (first
    | (go_at_call 38; (refine HFM.out.mono ?_); rintro e W1 ⟨v1, rfl, ho, hb⟩; obtain ⟨A1, c1, rfl, _, _, r9⟩ := ho.rd; have HR1 := Lib.hid r9; have HB1 := Lib.hid hb; clear ho hb r9)
    | (go_at_call 39; (refine (HFR.out W1).mono ?_); rintro e W2 ⟨v2, rfl, ho, hb⟩; have HR2 := Lib.hid (show Rd W2 W1.heap.size A1 (byt F) from HR1.out.below hb); have HO2 := Lib.hid (show OwnB W2 w.heap.size v2 m1 from own_base_le ho HB1.out.size); have HB2 := Lib.hid (HB1.out.trans (hb.mono HB1.out.size)); clear ho hb)
    | (at_builtin; refine wpList_app _ rfl (.tmp 10) (.tmp 11) _ rfl w.heap.size 5 i0 (.int .u8 0) 1 1 Try.underlying32 hi hz0 hz1 hz2 rfl (by decide) _ _ _ rfl HO2.out _ _ F.length _ (byt F) rfl (by rw [byt_len]; omega) HR2.out (byt_one F) (by omega) (by omega) HB2.out.size ?_; intro v3 W3 hap; have HO3 := Lib.hid (OwnB.app (l := m1) (m := F) hap); have HB3 := Lib.hid (HB2.out.trans (hap.below HO2.out HB2.out.size)); clear hap))
  obtain ⟨pre, hpre⟩ : ∃ pre, pre = m1 ++ F := ⟨_, rfl⟩
  have HPL := Lib.hid (show pre.length = 2 + F.length by rw [hpre, List.length_append, HM1.out])
  rw [← hpre] at HO3 HE
  clear hpre HFM HFR HM1 HO2 HB2 HR2 HR1 HB1 fl
  go_loopw [4] (fun ov wr => ∃ z : Nat, z ≤ Z ∧ OwnB wr w.heap.size ov (pre ++ List.replicate z 0) ∧ Below w.heap.size w wr) (fun ov _ => match ov with | .slice _ n _ => pre.length + Z - n | _ => 0)
  case atStart => exact ⟨0, Nat.zero_le _, by rw [List.replicate_zero, List.append_nil]; exact HO3.out, HB3.out⟩
  case round =>
    rename World => wr
    obtain ⟨z, hz, ho, hb⟩ := hrel
    have HRW := Lib.hid (show RdP wr w.heap.size A l from Rd.below HR.out hb)
    have HB := Lib.hid hb
    have HPP := HPL.out
    have hll : (pre ++ List.replicate z 0).length = pre.length + z := by rw [List.length_append, List.length_replicate]
    have HN := Lib.hid (show pre ++ List.replicate (z + 1) 0 = (pre ++ List.replicate z 0) ++ [0] by rw [List.replicate_succ', List.append_assoc])
    obtain ⟨cur, hcur⟩ : ∃ cur, cur = pre ++ List.replicate z 0 := ⟨_, rfl⟩
    rw [← hcur] at ho hll HN
    have HCU := Lib.hid hcur
    obtain ⟨A4, c4, rfl, _, _, _⟩ := ho.rd
    have HO := Lib.hid ho
    have HRMQ := HRZ.out
    have HLL := Lib.hid hll
    clear ho hb hcur HO3 HB3
    by_cases hlt : z < Z
    · have q1 : (cur.length : Int) < (rm : Int) := by omega
      have q2 : cur.length ≤ 10000 := by omega
      clear hll HPP HRMQ
      go_wp2_with (first
        | (go_at_call 14; (refine (HRM.out wr HRW.out).mono ?_); rintro e W1 ⟨rfl, q, hq⟩; have HO1 := Lib.hid (show OwnB W1 w.heap.size _ cur by rw [hq]; exact HO.out.drewN q); have HB1 := Lib.hid (show Below w.heap.size w W1 by rw [hq]; exact belowDrewN q HB.out); clear HO HB HRW hq)
        | (at_builtin; go_loud (refine wpList_app _ rfl (.tmp 18) (.tmp 19) _ rfl w.heap.size 5 i0 (.int .u8 0) 1 1 Try.underlying32 hi hz0 hz1 hz2 rfl (by decide) _ _ _ rfl (HO1.out.alloc _) _ _ 1 1 [.int .u8 ((0 : Nat) : Int)] rfl rfl (by exact rd_new _ [.int .u8 ((0 : Nat) : Int)] _ (0, 0)) (byt_one [0]) (by omega) (by omega) (by have := HB1.out.size; simp; omega) ?_; intro v2 W2 hap; have HO2 := Lib.hid (OwnB.snoc (l := cur) (c := 0) hap); have HB2 := Lib.hid ((HB1.out.alloc HB1.out.size _).trans (hap.below (HO1.out.alloc _) (by have := HB1.out.size; simp; omega))); clear hap)))
      obtain ⟨A5, c5, e5, _, _, _⟩ := HO2.out.rd
      go_roundw
      case rel => exact ⟨z + 1, by omega, by rw [HN.out]; exact HO2.out, HB2.out⟩
      case measure =>
        rw [e5]
        have := HLL.out
        simp only [List.length_append, List.length_cons, List.length_nil]
        omega
    · have q1 : ¬ (cur.length : Int) < (rm : Int) := by omega
      have HZE := Lib.hid (show z = Z by omega)
      clear hll HPP HRMQ hlt
      go_wp2_with (go_at_call 14; (refine (HRM.out wr HRW.out).mono ?_); rintro e W1 ⟨rfl, q, rfl⟩; have HO1 := Lib.hid (HO.out.drewN q); have HB1 := Lib.hid (belowDrewN q HB.out); clear HO HB HRW)
      go_ret
      exact ⟨_, rfl, by rw [HE.out, ← HZE.out, ← HCU.out]; exact HO1.out, HB1.out⟩
end Go.Proofs.Ytlidfmbmlhaacaa
