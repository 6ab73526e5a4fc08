/- Contract: delta.Lay. -/
import Derived.Test.YtlidfmbmlhaacaaDi1
namespace Go.Proofs.Ytlidfmbmlhaacaa
open Go.RowKit
set_option linter.unusedVariables false
set_option linter.unusedSimpArgs false
/-- what Lay gives -/
def layR (l : List Pc) : List Nat := if chkL l = 0 then layL l else []
theorem Rd.ups {w : World} {B B' : Nat} {A : Option Addr} {xs : List Value} (h : Rd w B A xs) (hB : B ≤ B') : Rd w B' A xs := fun hn => by
  obtain ⟨ad, e, h1, h2⟩ := h hn
  exact ⟨ad, e, Nat.lt_of_lt_of_le h1 hB, h2⟩
theorem RdP.next {w w' : World} {A : Option Addr} {l : List Pc} (h : RdP w w.heap.size A l) (hb : Below w.heap.size w w') : RdP w' w'.heap.size A l := Rd.ups (Rd.below h hb) hb.size
set_option maxRecDepth 100000 in
set_option maxHeartbeats 4000000 in
theorem lay_c (A : Option Addr) (c : Nat) (l : List Pc) (w : World) (hr : RdP w w.heap.size A l) (hc : l.length ≤ c) (h1 : l.length ≤ 100000) (hk : ∀ p ∈ l, PcOk p ∧ p.s.size ≤ 1000000) :
    Calls Try.prog 10 #[.slice A l.length c] w fun e w' => ∃ v, e = .returned (.tuple #[v, .int .i64 (chkL l : Nat)]) ∧ OwnB w' w.heap.size v (layR l) ∧ Below w.heap.size w w' := by
  obtain ⟨i0, hi, hz0, hz1, hz2⟩ := info_parts byteInfo
  have HR := Lib.hid hr
  have HCH := Lib.hid (check_c A c l w hr hc h1 (fun p hp => (hk p hp).2))
  by_cases h0 : chkL l = 0
  · have hok := chk_ok h0
    have hsz := chk_sizes h0
    have hff := form_fits l (fun p hp => ⟨(hk p hp).1, by have := (hsz p hp).2; omega⟩) (by omega)
    have HF := Lib.hid (fun W (h : RdP W W.heap.size A l) => form_c A c l W h hc h1 hk (by omega))
    have HRM := Lib.hid (fun W (h : RdP W W.heap.size A l) => room_c A c l W h hc h1 (fun p hp => (hk p hp).2))
    have HP := Lib.hid (show ∀ W, Calls Try.prog 32 #[.slice none 0 0, .int .u64 ((formP l).length : Nat), .int .i64 2] W (Gives (form (formP l).length 2) W) from fun W => by
      have h := put_c 0 none 0 [] (formP l).length 2 W (fun h => absurd rfl h) (by omega) (by decide) (by decide) (by decide)
      rw [List.nil_append, tailOf2] at h
      exact h)
    have HE := Lib.hid (show layR l = form (formP l).length 2 ++ formP l ++ List.replicate (roomL l - (2 + (formP l).length)) 0 by unfold layR layL; rw [if_pos h0])
    have HFL := Lib.hid (form_len (formP l).length 2)
    have HCH := Lib.hid (show Calls Try.prog 12 #[.slice A l.length c] w fun e w' => e = .returned (.int .i64 0) ∧ Below w.heap.size w w' by have h := HCH.out; rw [h0] at h; exact h)
    rw [h0]
    have hrm : roomL l ≤ 4096 := hok.2.1
    have HCV := Lib.hid (show IntKind.u64.wrap ((formP l).length : Int) = ((formP l).length : Int) by rw [IntKind.wrap_u64]; omega)
    obtain ⟨R, hR⟩ : ∃ R, R = layR l := ⟨_, rfl⟩
    rw [← hR] at HE ⊢
    generalize form (formP l).length 2 = pre at *
    generalize hrl : roomL l = rm at *
    generalize formP l = F at *
    clear hr hk h0 hok hsz hR
    have HP2 := HP
    generalize hfl : F.length = fl at *
    have HFLL := Lib.hid hfl
    have f1 := HCV.out
    have f2 : IntKind.i64.wrap ((rm : Int) - ((2 + fl : Nat) : Int)) = ((rm - (2 + fl) : Nat) : Int) := by rw [IntWalk.i64_in _ (by omega)]; omega
    have f3 : wrap64 ((rm : Int) - ((2 + fl : Nat) : Int)) = ((rm - (2 + fl) : Nat) : Int) := by rw [wrap_w, w64_in _ (by omega) (by omega)]; omega
    clear hfl hrl
    go_enter Try.func10, Try.ntmps10
    go_wp2_with (first
      | (go_at_call 12; (refine HCH.out.mono ?_); rintro e W1 ⟨rfl, hb⟩; have HB1 := Lib.hid hb; have HR1 := Lib.hid (RdP.next HR.out hb); clear hb)
      | (go_at_call 31; (refine (HF.out W1 HR1.out).mono ?_); rintro e W2 ⟨v, rfl, ho, hb⟩; obtain ⟨A2, c2, rfl, _, _, r2⟩ := ho.rd; rw [HFLL.out]; have HR2 := Lib.hid (show Rd W2 W2.heap.size A2 (byt F) from r2); have HRP2 := Lib.hid (HR1.out.next hb); have HB2 := Lib.hid (HB1.out.trans (hb.mono HB1.out.size)); clear ho hb r2)
      | (go_at_call 32; (refine (HP.out W2).mono ?_); rintro e W3 ⟨v3, rfl, ho, hb⟩; have HO3 := Lib.hid (show OwnB W3 w.heap.size v3 pre from own_base_le ho HB2.out.size); have HR23 := Lib.hid (HR2.out.below hb); have HRP3 := Lib.hid (HRP2.out.next hb); have HB3 := Lib.hid (HB2.out.trans (hb.mono HB2.out.size)); clear ho hb)
      | (at_builtin; refine wpList_app _ rfl (.tmp 17) (.tmp 18) _ rfl w.heap.size 5 i0 (.int .u8 0) 1 1 Try.underlying32 hi hz0 hz1 hz2 rfl (by decide) _ _ _ rfl HO3.out _ _ fl _ (byt F) rfl (by rw [byt_len, HFLL.out]; omega) HR23.out (byt_one F) (by rw [HFL.out]; omega) (by rw [HFL.out]; omega) HB3.out.size ?_; intro v4 W4 hap; have HO4 := Lib.hid (OwnB.app (l := pre) (m := F) (by rw [HFLL.out]; exact hap)); have HB4 := Lib.hid (hap.below HO3.out HB3.out.size); obtain ⟨A4, c4, rfl, _, _, r4⟩ := HO4.out.rd; rw [List.length_append, HFL.out, HFLL.out] at HO4 ⊢; have HRP4 := Lib.hid (show RdP W4 W4.heap.size A l from Rd.ups (Rd.below (Rd.ups HR.out (Nat.le_refl _)) (HB3.out.trans HB4.out)) (Nat.le_trans HB3.out.size HB4.out.size)); clear hap r4)
      | (go_at_call 13; (refine (HRM.out W4 HRP4.out).mono ?_); rintro e W5 ⟨rfl, hb⟩; have HO5 := Lib.hid (show OwnB W5 w.heap.size _ (pre ++ F) from HO4.out.next hb); have HB5 := Lib.hid ((HB3.out.trans HB4.out).trans (hb.mono (Nat.le_trans HB3.out.size HB4.out.size))); clear hb)
      | (at_builtin; obtain ⟨v6, W6, hrun, ho6, hb6⟩ := run_zeros_byt W5 w.heap.size _ (pre ++ F) (rm - (2 + fl)) HO5.out HB5.out.size (by rw [List.length_append, HFL.out, HFLL.out]; omega); rw [show ((rm - (2 + fl) : Nat) : Int) = (rm : Int) - (2 + (fl : Int)) by omega] at hrun; refine Lib.wpList_append_run _ rfl (.tmp 20) (.tmp 25) _ _ rfl _ _ rfl rfl _ _ hrun ?_; have HO6 := Lib.hid ho6; have HB6 := Lib.hid hb6; clear ho6 hb6 hrun))
    refine bodyPost_ret (results_tmp2 rfl _ _ _) rfl ?_
    exact ⟨_, rfl, by rw [HE.out]; exact HO6.out, HB5.out.trans HB6.out⟩
  · have HE := Lib.hid (show layR l = [] by unfold layR; rw [if_neg h0])
    have hq : decide (((chkL l : Nat) : Int) = 0) = false := decide_eq_false (by omega)
    obtain ⟨R, hR⟩ : ∃ R, R = layR l := ⟨_, rfl⟩
    rw [← hR] at HE ⊢
    have hch : chkL l ≤ 3 := by unfold chkL; split <;> (try split) <;> omega
    generalize chkL l = e0 at *
    have hne : ((e0 : Nat) : Int) ≠ 0 := by omega
    clear hr hk hR
    go_enter Try.func10, Try.ntmps10
    go_wp2_with (go_at_call 12; (refine HCH.out.mono ?_); rintro e W1 ⟨rfl, hb⟩; have HB1 := Lib.hid hb; clear hb)
    refine bodyPost_ret (results_tmp2 rfl _ _ _) rfl ?_
    exact ⟨_, rfl, by rw [HE.out]; exact OwnB.nil_ _ _, HB1.out⟩
end Go.Proofs.Ytlidfmbmlhaacaa
