/- Contracts: Reverse; Text. -/
import Derived.Test.YtcmahmlcoodfoaaTxt3
import Derived.Laws.IdiomStrings
import Derived.Laws.Concat
namespace Go.Proofs.Ytcmahmlcoodfoaa
open Go.RowKit
set_option linter.unusedVariables false
theorem arr_set (l : List Nat) (rest : List Value) (i n : Nat) (h : i < l.length) : (byt l ++ rest).toArray.setIfInBounds i (.int .u8 (n : Int)) = (byt (l.set i n) ++ rest).toArray := by
  rw [List.setIfInBounds_toArray]
  congr 1
  rw [List.set_append, if_pos (by rw [byt_len]; exact h)]
  simp [byt, List.map_set]
theorem arr_at (l : List Nat) (rest : List Value) (i : Nat) (h : i < l.length) : (byt l ++ rest).toArray[i]? = some (.int .u8 (l.getD i 0 : Nat)) := by
  rw [List.getElem?_toArray, List.getElem?_append_left (by rw [byt_len]; exact h)]
  exact byt_at h
/-- bytes at the head of a block of the call's own -/
theorem OwnB.open_ {w : World} {base : Nat} {v : Value} {l : List Nat} (h : OwnB w base v l) (hne : l ≠ []) : ∃ g cap rest, v = .slice (some ⟨g, 0, none⟩) l.length cap ∧ base ≤ g ∧ Blk w g 5 (byt l ++ rest).toArray ∧ l.length ≤ cap ∧ cap ≤ maxLen ∧ rest.length + l.length = cap := by
  rcases h.2 with ⟨_, h0⟩ | ⟨g, cap, cur, rfl, hb, hh, hn, hm, hc, ht⟩
  · exact absurd (List.eq_nil_of_length_eq_zero h0) hne
  · refine ⟨g, cap, cur.toList.drop l.length, rfl, hb, ?_, hn, hm, ?_⟩
    · rw [Nat.mul_one] at ht
      unfold Blk
      rw [hh, ← ht, List.take_append_drop]
    · rw [List.length_drop, Array.length_toList, hc]; omega
theorem OwnB.shut_ {w : World} {base g cap : Nat} {l : List Nat} {rest : List Value} (hb : base ≤ g) (h : Blk w g 5 (byt l ++ rest).toArray) (hn : l.length ≤ cap) (hm : cap ≤ maxLen) (hr : rest.length + l.length = cap) :
    OwnB w base (.slice (some ⟨g, 0, none⟩) l.length cap) l := by
  refine ⟨by simp [byt_len], .inr ⟨g, cap, _, rfl, hb, h, hn, hm, by simp [byt_len]; omega, ?_⟩⟩
  rw [Nat.mul_one, List.toList_toArray, List.take_append_of_le_length (by rw [byt_len]; exact Nat.le_refl _), List.take_of_length_le (by rw [byt_len]; exact Nat.le_refl _)]
set_option maxRecDepth 100000 in
set_option maxHeartbeats 1000000 in
theorem reverse_some (g cap : Nat) (l : List Nat) (rest : List Value) (w : World) (hb : Blk w g 5 (byt l ++ rest).toArray) (hl : ∀ c ∈ l, c < 256) (hlen : l.length ≤ 1000000000) (hcap : l.length ≤ cap) :
    Calls Try.prog 52 #[.slice (some ⟨g, 0, none⟩) l.length cap] w fun e w' => e = .returned (.tuple #[]) ∧ Blk w' g 5 (byt l.reverse ++ rest).toArray ∧ Only (fun k => k = g) w w' := by
  have HB := Lib.hid hb
  have HL := Lib.hid hl
  clear hb hl
  go_enter Try.func52, Try.ntmps52
  go_wp2
  go_loopw [2, 3] (fun i j wr => ∃ k : Nat, 2 * k ≤ l.length + 1 ∧ i = .int .i64 k ∧ j = .int .i64 ((l.length : Int) - 1 - k) ∧ Blk wr g 5 (byt (revTo l k) ++ rest).toArray ∧ Only (fun k => k = g) w wr) (fun i _ _ => l.length - (intOf i).toNat)
  case atStart => exact ⟨0, by omega, rfl, by go_num, by rw [revTo_zero]; exact HB.out, Only.refl _ _⟩
  case round =>
    rename_i wr
    obtain ⟨k, hk, rfl, rfl, hb, ho⟩ := hrel
    have HB2 := Lib.hid hb
    have HO := Lib.hid ho
    clear hb ho
    by_cases hlt : 2 * k + 1 < l.length
    · obtain ⟨J, hJ⟩ : ∃ J, J = l.length - 1 - k := ⟨_, rfl⟩
      rw [show (l.length : Int) - 1 - (k : Int) = (J : Int) by omega]
      have hJ1 : k < J := by omega
      have hJ2 : J < l.length := by omega
      have HST := Lib.hid (revTo_succ l k hlt)
      have hk1 : (revTo l k).getD k 0 = l.getD k 0 := by rw [revTo_at l k k (by omega), if_neg (by omega)]
      have hk2 : (revTo l k).getD J 0 = l.getD J 0 := by rw [revTo_at l k J hJ2, if_neg (by omega)]
      have c1 : wr.drew.cell? ⟨g, k, none⟩ = some (.int .u8 (l.getD k 0 : Nat)) := by rw [← hk1]; exact (HB2.out.cell k).trans (arr_at _ _ _ (by rw [revTo_len]; omega))
      have c2 : wr.drew.cell? ⟨g, J, none⟩ = some (.int .u8 (l.getD J 0 : Nat)) := by rw [← hk2]; exact (HB2.out.cell J).trans (arr_at _ _ _ (by rw [revTo_len]; omega))
      have f1 : wr.drew.frozen? ⟨g, k, none⟩ = false := HB2.out.free k
      have HB3 := Lib.hid (HB2.out.set_ k (.int .u8 (l.getD J 0 : Nat)))
      have c3 : (wr.setCell ⟨g, k, none⟩ (.int .u8 (l.getD J 0 : Nat))).drew.cell? ⟨g, J, none⟩ = some (.int .u8 (l.getD J 0 : Nat)) := by
        rw [arr_set _ _ _ _ (by rw [revTo_len]; omega)] at HB3
        refine (HB3.out.cell J).trans ((arr_at _ _ _ (by rw [List.length_set, revTo_len]; omega)).trans ?_)
        rw [List.getD_eq_getElem?_getD, List.getElem?_set, if_neg (by omega), ← List.getD_eq_getElem?_getD, hk2]
      have f3 : (wr.setCell ⟨g, k, none⟩ (.int .u8 (l.getD J 0 : Nat))).drew.frozen? ⟨g, J, none⟩ = false := HB3.out.free J
      have i1 : (J : Int) < (l.length : Int) := by omega
      have i2 : (k : Int) < (l.length : Int) := by omega
      rw [← hJ] at HST
      have HJ := Lib.hid hJ
      clear hk1 hk2 hJ
      generalize l.getD k 0 = x at *
      generalize l.getD J 0 = y at *
      go_wp2
      go_region
      all_goals go_wp2
      all_goals
        go_roundw
        case rel =>
          go_light
          refine ⟨k + 1, by omega, by go_num, by have := HJ.out; go_num, ?_, ((HO.out.setCell (S := fun k => k = g) (fun _ => rfl) _).setCell (S := fun k => k = g) (fun _ => rfl) _).drew⟩
          rw [← HST.out, ← arr_set _ _ _ _ (by rw [List.length_set, revTo_len]; omega), ← arr_set _ _ _ _ (by rw [revTo_len]; omega)]
          exact (HB2.out.set_ k _).set_ J _
        case measure => simp [intOf]; omega
    · go_wp2
      go_end0
      exact ⟨rfl, by rw [← revTo_all l k (by omega)]; exact HB2.out, HO.out⟩
end Go.Proofs.Ytcmahmlcoodfoaa
