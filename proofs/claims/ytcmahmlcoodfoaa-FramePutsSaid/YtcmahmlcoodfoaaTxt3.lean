/- Contracts: sizes of wide numbers; short forms; reversing. -/
import Derived.Test.YtcmahmlcoodfoaaFlr
namespace Go.Proofs.Ytcmahmlcoodfoaa
open Go.RowKit
set_option linter.unusedVariables false
/-- a wide number's size: two words -/
def szHi (hi : Int) (lo : Nat) : Nat := if hi < 0 then (if lo = 0 then (-hi).toNat else (-hi - 1).toNat) else hi.toNat
def szLo (hi : Int) (lo : Nat) : Nat := if hi < 0 then (18446744073709551616 - lo) % 18446744073709551616 else lo
set_option maxRecDepth 100000 in
set_option maxHeartbeats 400000 in
theorem size_pos (hi : Nat) (lo : Nat) (w : World) (h1 : hi ≤ 9223372036854775807) (h2 : lo < 2 ^ 64) :
    Calls Try.prog 50 #[.agg #[.int .i64 hi, .int .u64 lo]] w fun e w' => e = .returned (.tuple #[.int .u64 hi, .int .u64 lo]) ∧ Below w.heap.size w w' := by
  go_enter Try.func50, Try.ntmps50
  go_wp2
  go_quiet (fail)
  go_wp2
  go_ret2
  exact ⟨rfl, belowDrewN _ ((Below.refl _ _).alloc (Nat.le_refl _) _)⟩
set_option maxRecDepth 100000 in
set_option maxHeartbeats 400000 in
theorem size_core (hi : Int) (lo H L R b b2 : Nat) (w : World) (h0 : -9223372036854775808 ≤ hi) (h1 : hi < 0) (h2 : lo < 2 ^ 64) (e0 : IntKind.u64.wrap hi = (H : Int))
    (k1 : ∀ w, (callFunc 56 #[.int .u64 0, .int .u64 (lo : Int), .int .u64 0]).run Try.prog w = .ok (.value (.tuple #[.int .u64 (L : Int), .int .u64 (b : Int)])) w)
    (k2 : ∀ w, (callFunc 56 #[.int .u64 0, .int .u64 (H : Int), .int .u64 (b : Int)]).run Try.prog w = .ok (.value (.tuple #[.int .u64 (R : Int), .int .u64 (b2 : Int)])) w) :
    Calls Try.prog 50 #[.agg #[.int .i64 hi, .int .u64 lo]] w fun e w' => e = .returned (.tuple #[.int .u64 R, .int .u64 L]) ∧ Below w.heap.size w w' := by
  go_enter Try.func50, Try.ntmps50
  go_wp2
  go_quiet (fail)
  go_wp2
  go_ret2
  exact ⟨rfl, belowDrewN _ ((Below.refl _ _).alloc (Nat.le_refl _) _)⟩
theorem size_neg (hi : Int) (lo : Nat) (w : World) (h0 : -9223372036854775808 ≤ hi) (h1 : hi < 0) (h2 : lo < 2 ^ 64) :
    Calls Try.prog 50 #[.agg #[.int .i64 hi, .int .u64 lo]] w fun e w' => e = .returned (.tuple #[.int .u64 (szHi hi lo : Nat), .int .u64 (szLo hi lo : Nat)]) ∧ Below w.heap.size w w' := by
  have hH : IntKind.u64.wrap hi = (((hi + 18446744073709551616).toNat : Nat) : Int) := by rw [IntKind.wrap_u64]; omega
  obtain ⟨H, hHe⟩ : ∃ H, H = (hi + 18446744073709551616).toNat := ⟨_, rfl⟩
  rw [← hHe] at hH
  have hHb : (H : Int) = hi + 18446744073709551616 := by omega
  by_cases hl : lo = 0
  · subst hl
    have e1 : szHi hi 0 = (-hi).toNat := by simp [szHi, h1]
    have e2 : szLo hi 0 = 0 := by simp [szLo, h1]
    rw [e1, e2]
    refine size_core hi 0 H 0 _ 0 1 w h0 h1 h2 hH (fun w => ?_) (fun w => ?_)
    · exact call_sub 0 0 0 (by omega) w
    · have := call_sub 0 H 0 (by omega) w
      rw [show (0 + 2 ^ 64 - H - 0) % 2 ^ 64 = (-hi).toNat by omega, if_pos (by omega)] at this
      exact this
  · have e1 : szHi hi lo = (-hi - 1).toNat := by simp [szHi, h1, hl]
    have e2 : szLo hi lo = (18446744073709551616 - lo) % 18446744073709551616 := by simp [szLo, h1]
    rw [e1, e2]
    refine size_core hi lo H _ _ 1 1 w h0 h1 h2 hH (fun w => ?_) (fun w => ?_)
    · have := call_sub 0 lo 0 (by omega) w
      rw [show (0 + 2 ^ 64 - lo - 0) % 2 ^ 64 = (18446744073709551616 - lo) % 18446744073709551616 by omega, if_pos (by omega)] at this
      exact this
    · have := call_sub 0 H 1 (by omega) w
      rw [show (0 + 2 ^ 64 - H - 1) % 2 ^ 64 = (-hi - 1).toNat by omega, if_pos (by omega)] at this
      exact this
/-- the first j bytes of a short form that goes on -/
def shortTo (n j : Nat) : List Nat := (List.range j).map fun i => n / 128 ^ i % 128 + 128
theorem shortTo_succ (n j : Nat) : shortTo n (j + 1) = shortTo n j ++ [n / 128 ^ j % 128 + 128] := by simp [shortTo, List.range_succ]
theorem shortTo_len (n j : Nat) : (shortTo n j).length = j := by simp [shortTo]
def ShortGives (l : List Nat) (n : Nat) (w : World) (e : Ending) (w' : World) : Prop :=
  ∃ j, (∀ i, i < j → 128 ≤ n / 128 ^ i) ∧ n / 128 ^ j < 128 ∧ Gives (l ++ shortTo n j ++ [n / 128 ^ j]) w e w'
theorem or128 (x : Nat) : Go.bits BinOp.or IntKind.u8 ((x : Int) % 256) 128 = ((x % 128 + 128 : Nat) : Int) := by
  have h : ∀ y, y < 256 → Go.bits BinOp.or IntKind.u8 ((y : Nat) : Int) 128 = ((y % 128 + 128 : Nat) : Int) := by decide +kernel
  have := h (x % 256) (Nat.mod_lt _ (by decide))
  rw [show ((x % 256 : Nat) : Int) = (x : Int) % 256 by omega, show x % 256 % 128 = x % 128 by omega] at this
  exact this
theorem div128_succ (n k : Nat) : n / 128 ^ k / 128 = n / 128 ^ (k + 1) := by rw [Nat.div_div_eq_div_mul, ← Nat.pow_succ]
theorem short_bound (n j : Nat) (hn : n < 2 ^ 64) (h : ∀ i, i < j → 128 ≤ n / 128 ^ i) : j ≤ 9 := by
  rcases Nat.lt_or_ge 9 j with hj | hj
  · have h9 := h 9 hj
    have : n / 128 ^ 9 < 128 := by
      rw [Nat.div_lt_iff_lt_mul (by decide)]
      exact Nat.lt_of_lt_of_le hn (by decide)
    omega
  · exact hj
set_option maxRecDepth 100000 in
set_option maxHeartbeats 400000 in
theorem putShort_c (B : Nat) (A : Option Addr) (ca : Nat) (l : List Nat) (n : Nat) (w : World) (hr : Rd w B A (byt l)) (hn : n < 2 ^ 64) (h1 : l.length ≤ 10000000) :
    Calls Try.prog 43 #[.slice A l.length ca, .int .u64 n] w (ShortGives l n w) := by
  obtain ⟨i0, hi, hz0, hz1, hz2⟩ := info_parts byteInfo
  have HR := Lib.hid hr
  clear hr
  go_enter Try.func43, Try.ntmps43
  go_wp2_with fail
  refine (clone_c B A ca l _ HR.out (by omega)).mono ?_
  rintro e w1 ⟨v, rfl, ho, hb⟩
  have HO := Lib.hid ho
  have HB := Lib.hid hb
  clear ho hb
  go_wp2
  go_loopw [1, 5] (fun N u wr => ∃ j : Nat, N = .int .u64 (n / 128 ^ j : Nat) ∧ (∀ i, i < j → 128 ≤ n / 128 ^ i) ∧ OwnB wr w.heap.size u (l ++ shortTo n j) ∧ Below w.heap.size w wr) (fun N _ _ => (intOf N).toNat)
  case atStart => exact ⟨0, by simp, by simp, by simpa [shortTo] using HO.out, HB.out⟩
  case round =>
    rename_i wr
    obtain ⟨j, rfl, hge, ho, hb⟩ := hrel
    have hj9 := short_bound n j hn hge
    have HG := Lib.hid hge
    have HO2 := Lib.hid ho
    have HB2 := Lib.hid hb
    have hnl : n / 128 ^ j < 2 ^ 64 := Nat.lt_of_le_of_lt (Nat.div_le_self _ _) hn
    have HF := Lib.hid (shortTo_succ n j)
    have HD := Lib.hid (div128_succ n j)
    have hor := or128 (n / 128 ^ j)
    have hlen : (l ++ shortTo n j).length ≤ 10000009 := by rw [List.length_append, shortTo_len]; omega
    have HLen := Lib.hid hlen
    clear ho hb hge hlen
    generalize hq : n / 128 ^ j = q at *
    have HQ := Lib.hid hq
    clear hq
    by_cases hlt : 128 ≤ q
    · have HLT := Lib.hid hlt
      go_wp2_with (at_builtin; refine wpList_app _ rfl (.tmp 12) (.tmp 16) _ rfl w.heap.size 5 i0 (.int .u8 0) 1 1 Try.underlying35 hi hz0 hz1 hz2 rfl (by decide) _ _ _ rfl (HO2.out.alloc _) _ _ 1 1 [.int .u8 (q % 128 + 128 : Nat)] rfl rfl (by exact rd_one _ _ _) (byt_one [q % 128 + 128]) (by have := HLen.out; omega) (by have := HLen.out; omega) (by have := HB2.out.size; simp; omega) ?_; intro v1 w2 hap)
      go_roundw
      case rel =>
        go_light
        refine ⟨j + 1, by rw [← HD.out]; go_num, fun i hi => ?_, ?_, (HB2.out.alloc HB2.out.size _).trans (hap.below (HO2.out.alloc _) (by have := HB2.out.size; simp; omega))⟩
        · rcases Nat.lt_or_ge i j with h | h
          · exact HG.out i h
          · rw [show i = j by omega, HQ.out]; exact HLT.out
        · rw [HF.out, ← List.append_assoc]
          exact OwnB.snoc hap
      case measure => simp [intOf]; omega
    · go_wp2_with (at_builtin; refine wpList_app _ rfl (.tmp 18) (.tmp 21) _ rfl w.heap.size 5 i0 (.int .u8 0) 1 1 Try.underlying35 hi hz0 hz1 hz2 rfl (by decide) _ _ _ rfl (HO2.out.alloc _) _ _ 1 1 [.int .u8 (q : Nat)] rfl rfl (by exact rd_one _ _ _) (byt_one [q]) (by have := HLen.out; omega) (by have := HLen.out; omega) (by have := HB2.out.size; simp; omega) ?_; intro v1 w2 hap)
      go_ret
      refine ⟨j, HG.out, by rw [HQ.out]; omega, v1, rfl, ?_, (HB2.out.alloc HB2.out.size _).trans (hap.below (HO2.out.alloc _) (by have := HB2.out.size; simp; omega))⟩
      rw [HQ.out]
      exact OwnB.snoc hap
/-- l with its first k and last k turned about -/
def revTo (l : List Nat) (k : Nat) : List Nat := (List.range l.length).map fun i => if i < k ∨ l.length - 1 - i < k then l.getD (l.length - 1 - i) 0 else l.getD i 0
theorem revTo_len (l : List Nat) (k : Nat) : (revTo l k).length = l.length := by simp [revTo]
theorem revTo_zero (l : List Nat) : revTo l 0 = l := by
  apply List.ext_getElem
  · simp [revTo]
  · intro i h1 h2
    simp [revTo, List.getD_eq_getElem?_getD, h2]
theorem revTo_at (l : List Nat) (k i : Nat) (h : i < l.length) : (revTo l k).getD i 0 = if i < k ∨ l.length - 1 - i < k then l.getD (l.length - 1 - i) 0 else l.getD i 0 := by
  simp [revTo, List.getD_eq_getElem?_getD, h]
theorem revTo_all (l : List Nat) (k : Nat) (h : l.length ≤ 2 * k + 1) : revTo l k = l.reverse := by
  apply List.ext_getElem
  · simp [revTo]
  · intro i h1 h2
    have hi : i < l.length := by simpa [revTo] using h1
    have e1 : (revTo l k)[i] = (revTo l k).getD i 0 := by rw [List.getD_eq_getElem?_getD, List.getElem?_eq_getElem h1]; rfl
    rw [e1, revTo_at l k i hi, List.getElem_reverse]
    by_cases hc : i < k ∨ l.length - 1 - i < k
    · rw [if_pos hc, List.getD_eq_getElem?_getD, List.getElem?_eq_getElem (by omega)]; rfl
    · rw [if_neg hc, List.getD_eq_getElem?_getD, List.getElem?_eq_getElem hi]
      have : l.length - 1 - i = i := by omega
      simp [this]
theorem revTo_succ (l : List Nat) (k : Nat) (h : 2 * k + 1 < l.length) : ((revTo l k).set k (l.getD (l.length - 1 - k) 0)).set (l.length - 1 - k) (l.getD k 0) = revTo l (k + 1) := by
  apply List.ext_getElem
  · simp [revTo]
  · intro i h1 h2
    have hi : i < l.length := by simpa [revTo] using h2
    have e2 : (revTo l (k + 1))[i] = (revTo l (k + 1)).getD i 0 := by rw [List.getD_eq_getElem?_getD, List.getElem?_eq_getElem h2]; rfl
    rw [e2, revTo_at l (k + 1) i hi, List.getElem_set, List.getElem_set]
    by_cases c1 : l.length - 1 - k = i
    · rw [if_pos c1, if_pos (by omega), show l.length - 1 - i = k by omega]
    · rw [if_neg c1]
      by_cases c2 : k = i
      · rw [if_pos c2, if_pos (by omega), c2]
      · have e1 : (revTo l k)[i]'(by rw [revTo_len]; exact hi) = (revTo l k).getD i 0 := by rw [List.getD_eq_getElem?_getD, List.getElem?_eq_getElem (by rw [revTo_len]; exact hi)]; rfl
        rw [if_neg c2, e1, revTo_at l k i hi]
        by_cases c3 : i < k ∨ l.length - 1 - i < k
        · rw [if_pos c3, if_pos (by omega)]
        · rw [if_neg c3, if_neg (by omega)]
end Go.Proofs.Ytcmahmlcoodfoaa
