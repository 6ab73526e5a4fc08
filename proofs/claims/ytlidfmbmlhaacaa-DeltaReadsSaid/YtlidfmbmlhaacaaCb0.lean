/- Contracts: numbers laid and read. -/
import Derived.Test.YtlidfmbmlhaacaaBas2
import Derived.Test.YtlidfmbmlhaacaaByt1
namespace Go.Proofs.Ytlidfmbmlhaacaa
open Go.RowKit
set_option linter.unusedVariables false
set_option linter.unusedSimpArgs false
set_option maxRecDepth 100000 in
set_option maxHeartbeats 400000 in
theorem clone_c (B : Nat) (A : Option Addr) (ca : Nat) (l : List Nat) (w : World) (hr : Rd w B A (byt l)) (h1 : l.length ≤ 100000000) :
    Calls Try.prog 48 #[.slice A l.length ca] w (Gives l w) := by
  obtain ⟨i0, hi, hz0, hz1, hz2⟩ := info_parts byteInfo
  have HR := Lib.hid hr
  clear hr
  cases A with
  | none =>
    have hq := fun (W : World) (n c : Nat) => Lib.run_eql_slice_nil (P := Try.prog) W 32 5 none n c 0 0 Try.underlying32
    simp only [Option.isNone_none] at hq
    obtain rfl : l = [] := by have := HR.out.none_nil; simpa [byt] using this
    go_enter Try.func48, Try.ntmps48
    go_wp2
    go_ret
    exact ⟨_, rfl, OwnB.nil_ _ _, Below.refl _ _⟩
  | some ad =>
    have hq := fun (W : World) (n c : Nat) => Lib.run_eql_slice_nil (P := Try.prog) W 32 5 (some ad) n c 0 0 Try.underlying32
    simp only [Option.isNone_some] at hq
    go_enter Try.func48, Try.ntmps48
    go_wp2_with (at_builtin; refine wpList_app _ rfl (.tmp 5) (.tmp 6) _ rfl w.heap.size 5 i0 (.int .u8 0) 1 1 Try.underlying32 hi hz0 hz1 hz2 rfl (by decide) _ 0 [] rfl (by exact OwnB.new _ _ [] (Nat.le_refl _) (by simp [maxLen])) B (some ad) l.length ca (byt l) rfl (by simp [byt_len]) (HR.out.ext ((Below.refl _ _).alloc (Nat.le_refl _) _)) (byt_one l) (by omega) (by omega) (by simp) ?_; intro v1 w1 hap)
    go_ret
    refine ⟨v1, rfl, ?_, ((Below.refl _ _).alloc (Nat.le_refl _) _).trans (hap.below (by exact OwnB.new _ _ [] (Nat.le_refl _) (by simp [maxLen])) (by simp))⟩
    have := hap.own
    simpa [OwnB] using this
theorem div_pow_succ (n k : Nat) : n / 256 ^ k / 256 = n / 256 ^ (k + 1) := by rw [Nat.div_div_eq_div_mul, ← Nat.pow_succ]
theorem div_pow_lt (n k : Nat) (h : n < 2 ^ 64) : n / 256 ^ k < 2 ^ 64 := Nat.lt_of_le_of_lt (Nat.div_le_self _ _) h
set_option maxRecDepth 100000 in
set_option maxHeartbeats 400000 in
theorem rform_c (n k : Nat) (w : World) (hn : n < 2 ^ 64) (hk : k ≤ 1000) :
    Calls Try.prog 39 #[.int .u64 n, .int .i64 k] w (Gives (form n k) w) := by
  obtain ⟨i0, hi, hz0, hz1, hz2⟩ := info_parts byteInfo
  go_enter Try.func39, Try.ntmps39
  go_wp2
  go_loopw [0, 5, 6] (fun N u i wr => ∃ j : Nat, j ≤ k ∧ i = .int .i64 j ∧ N = .int .u64 (n / 256 ^ j : Nat) ∧ OwnB wr w.heap.size u (form n j) ∧ Below w.heap.size w wr) (fun _ _ i _ => k - (intOf i).toNat)
  case atStart => exact ⟨0, Nat.zero_le _, rfl, by simp, OwnB.nil_ _ _, Below.refl _ _⟩
  case round =>
    rename_i wr
    obtain ⟨j, hj, rfl, rfl, ho, hb⟩ := hrel
    have HO := Lib.hid ho
    have HB := Lib.hid hb
    have hnl := div_pow_lt n j hn
    have HF := Lib.hid (form_succ n j)
    have HD := Lib.hid (div_pow_succ n j)
    have HLen := Lib.hid (form_len n j)
    clear ho hb
    generalize n / 256 ^ j = q at *
    by_cases hlt : j < k
    · go_wp2_with (at_builtin; refine wpList_app _ rfl (.tmp 12) (.tmp 16) _ rfl w.heap.size 5 i0 (.int .u8 0) 1 1 Try.underlying32 hi hz0 hz1 hz2 rfl (by decide) _ _ _ rfl (HO.out.alloc _) _ _ 1 1 [.int .u8 (q % 256 : Nat)] rfl rfl (by exact rd_one _ _ _) (byt_one [q % 256]) (by rw [HLen.out]; omega) (by rw [HLen.out]; omega) (by have := HB.out.size; simp; omega) ?_; intro v1 w2 hap)
      go_roundw
      case rel =>
        go_light
        refine ⟨j + 1, by omega, by go_num, by rw [← HD.out]; go_num, ?_, (HB.out.alloc HB.out.size _).trans (hap.below (HO.out.alloc _) (by have := HB.out.size; simp; omega))⟩
        rw [HF.out]
        exact OwnB.snoc hap
      case measure => simp [intOf]; omega
    · obtain rfl : j = k := by omega
      go_wp2
      go_ret
      exact ⟨_, rfl, HO.out, HB.out⟩
/-- what num.Put lays behind -/
def tailOf (n : Nat) (wd : Int) : List Nat := if 8 < wd then [] else form n wd.toNat
set_option maxRecDepth 100000 in
set_option maxHeartbeats 400000 in
theorem put_c (B : Nat) (A : Option Addr) (ca : Nat) (l : List Nat) (n : Nat) (wd : Int) (w : World) (hr : Rd w B A (byt l)) (hn : n < 2 ^ 64) (hw1 : -9223372036854775808 ≤ wd) (hw2 : wd ≤ 9223372036854775807) (h1 : l.length ≤ 10000000) :
    Calls Try.prog 32 #[.slice A l.length ca, .int .u64 n, .int .i64 wd] w (Gives (l ++ tailOf n wd) w) := by
  obtain ⟨i0, hi, hz0, hz1, hz2⟩ := info_parts byteInfo
  have HR := Lib.hid hr
  clear hr
  go_enter Try.func32, Try.ntmps32
  go_wp2_with fail
  refine (clone_c B A ca l _ HR.out (by omega)).mono ?_
  rintro e w1 ⟨v, rfl, ho, hb⟩
  have HO := Lib.hid ho
  have HB := Lib.hid hb
  clear ho hb
  by_cases h8 : 8 < wd
  · have HT := Lib.hid (show l ++ tailOf n wd = l by simp [tailOf, h8])
    go_wp2
    go_ret
    rw [HT.out]
    exact ⟨_, rfl, HO.out, HB.out⟩
  · have HT := Lib.hid (show tailOf n wd = form n wd.toNat by simp [tailOf, h8])
    have hdec : decide (8 < wd) = false := decide_eq_false h8
    go_wp2
    obtain ⟨m, hm⟩ : ∃ m : Nat, m = wd.toNat := ⟨_, rfl⟩
    have hm8 : m ≤ 8 := by omega
    go_loopw [1, 7, 14] (fun N u i wr => ∃ j : Nat, j ≤ m ∧ i = .int .i64 j ∧ N = .int .u64 (n / 256 ^ j : Nat) ∧ OwnB wr w.heap.size u (l ++ form n j) ∧ Below w.heap.size w wr) (fun _ _ i _ => m - (intOf i).toNat)
    case atStart => exact ⟨0, Nat.zero_le _, rfl, by simp, by simpa [form] using HO.out, HB.out⟩
    case round =>
      rename_i wr
      obtain ⟨j, hj, rfl, rfl, ho, hb⟩ := hrel
      have HO2 := Lib.hid ho
      have HB2 := Lib.hid hb
      have hnl := div_pow_lt n j hn
      have HF := Lib.hid (form_succ n j)
      have HD := Lib.hid (div_pow_succ n j)
      have hlen : (l ++ form n j).length ≤ 10000010 := by rw [List.length_append, form_len]; omega
      have HLen := Lib.hid hlen
      have HM := Lib.hid hm
      have HE := Lib.hid (show ((n / 256 ^ j : Nat) : Int) % 256 = ((n / 256 ^ j % 256 : Nat) : Int) by omega)
      have hjw : ((j : Int) < wd) ∨ ¬ ((j : Int) < wd) := by omega
      clear ho hb hm hlen
      generalize n / 256 ^ j = q at *
      rcases hjw with hlt | hge
      · go_wp2_with (at_builtin; refine wpList_app _ rfl (.tmp 16) (.tmp 19) _ rfl w.heap.size 5 i0 (.int .u8 0) 1 1 Try.underlying32 hi hz0 hz1 hz2 rfl (by decide) _ _ _ rfl (HO2.out.alloc _) _ _ 1 1 [.int .u8 (q % 256 : Nat)] rfl rfl (by exact rd_one _ _ _) (byt_one [q % 256]) (by have := HLen.out; omega) (by have := HLen.out; omega) (by have := HB2.out.size; simp; omega) ?_; intro v1 w2 hap)
        go_roundw
        case rel =>
          go_light
          refine ⟨j + 1, by have := HM.out; omega, by go_num, by rw [← HD.out]; go_num, ?_, (HB2.out.alloc HB2.out.size _).trans (hap.below (HO2.out.alloc _) (by have := HB2.out.size; simp; omega))⟩
          rw [HF.out, ← List.append_assoc]
          exact OwnB.snoc hap
        case measure => have := HM.out; simp [intOf]; omega
      · go_wp2
        go_ret
        have hjm : j = wd.toNat := by have := HM.out; omega
        rw [HT.out, ← hjm]
        exact ⟨_, rfl, HO2.out, HB2.out⟩
set_option maxRecDepth 100000 in
set_option maxHeartbeats 400000 in
theorem rnumber_c (B : Nat) (A : Option Addr) (ca : Nat) (l : List Nat) (w : World) (hr : Rd w B A (byt l)) (hl : ∀ c ∈ l, c < 256) (h8 : l.length ≤ 8) :
    Calls Try.prog 21 #[.slice A l.length ca] w fun e w' => e = .returned (.int .u64 (number l : Nat)) ∧ w = w' := by
  have HR := Lib.hid hr
  have HL := Lib.hid hl
  clear hr hl
  generalize hn : l.length = n at *
  have HN := Lib.hid hn
  clear hn
  go_enter Try.func21, Try.ntmps21
  go_wp2
  go_loop [3, 4] (fun v i => ∃ k : Nat, k ≤ n ∧ i = .int .i64 ((k : Int) - 1) ∧ v = .int .u64 (number (l.drop k) : Nat)) (fun _ i => (intOf i + 1).toNat)
  case atStart => exact ⟨n, Nat.le_refl _, rfl, by rw [← HN.out, List.drop_length]; rfl⟩
  case round =>
    obtain ⟨k, hk, rfl, rfl⟩ := hrel
    cases k with
    | zero =>
      rw [show (((0 : Nat) : Int) - 1) = -1 from rfl]
      go_wp2
      go_ret
      exact ⟨rfl, rfl⟩
    | succ j =>
      rw [show (((j + 1 : Nat) : Int) - 1) = (j : Int) from by omega]
      have hj : j < l.length := by have := HN.out; omega
      obtain ⟨ad, rfl, hb, hc⟩ := HR.out.byte hj
      have hlt := getD_lt HL.out j
      have HST := Lib.hid (number_drop hj)
      have hnum : number (l.drop (j + 1)) < 256 ^ 7 := Nat.lt_of_lt_of_le (number_lt _ (drop_lt HL.out _)) (Nat.pow_le_pow_right (by decide) (by rw [List.length_drop]; have := HN.out; omega))
      have hnum2 : number (l.drop (j + 1)) < 72057594037927936 := hnum
      clear hj hnum
      generalize number (l.drop (j + 1)) = v at *
      generalize l.getD j 0 = c at *
      go_wp2
      go_round
      case rel => exact ⟨j, by omega, rfl, by rw [HST.out]; go_num⟩
      case measure => simp [intOf]
/-- num.Get's error -/
def getErr (len : Nat) (wd : Int) : Int := if wd < 1 ∨ 8 < wd then 1 else if (len : Int) < wd then 2 else 0
def getNum (l : List Nat) (wd : Int) : Nat := if getErr l.length wd = 0 then number (l.take wd.toNat) else 0
theorem or_low (a c : Nat) (ha : a < 72057594037927936) (hc : c < 256) : Go.bits BinOp.or IntKind.u64 ((a : Int) * 256) (c : Int) = ((a * 256 + c : Nat) : Int) := by
  have e : (a : Int) * 256 = ((a * 256 : Nat) : Int) := by omega
  rw [e, u64_or_nat _ _ (by omega) (by omega), show a * 256 = 2 ^ 8 * a by omega, Nat.two_pow_add_eq_or_of_lt (i := 8) hc a]
set_option maxRecDepth 100000 in
set_option maxHeartbeats 400000 in
theorem get_c (B : Nat) (A : Option Addr) (ca : Nat) (l : List Nat) (wd : Int) (w : World) (hr : Rd w B A (byt l)) (hl : ∀ c ∈ l, c < 256) (_hlen : l.length ≤ 1000000000) (hw1 : -9223372036854775808 ≤ wd) (hw2 : wd ≤ 9223372036854775807) :
    Calls Try.prog 34 #[.slice A l.length ca, .int .i64 wd] w fun e w' => e = .returned (.tuple #[.int .u64 (getNum l wd : Nat), .int .i64 (getErr l.length wd)]) ∧ w = w' := by
  have HR := Lib.hid hr
  have HL := Lib.hid hl
  clear hr hl
  by_cases h1 : wd < 1 ∨ 8 < wd
  · have he : getErr l.length wd = 1 := by simp [getErr, h1]
    have hg : getNum l wd = 0 := by simp [getNum, he]
    rw [he, hg]
    rcases h1 with h1 | h1
    · generalize l.length = n at *
      go_enter Try.func34, Try.ntmps34
      go_wp2
      go_ret2
      exact ⟨rfl, rfl⟩
    · have h2 : ¬ wd < 1 := by omega
      generalize l.length = n at *
      go_enter Try.func34, Try.ntmps34
      go_wp2
      go_ret2
      exact ⟨rfl, rfl⟩
  · have h2 : 1 ≤ wd := by omega
    have h3 : wd ≤ 8 := by omega
    by_cases h4 : (l.length : Int) < wd
    · have he : getErr l.length wd = 2 := by simp [getErr, h1, h4]
      have hg : getNum l wd = 0 := by simp [getNum, he]
      rw [he, hg]
      clear h1 he hg
      generalize l.length = n at *
      go_enter Try.func34, Try.ntmps34
      go_wp2
      go_ret2
      exact ⟨rfl, rfl⟩
    · have he : getErr l.length wd = 0 := by simp [getErr, h1, h4]
      have hg := Lib.hid (show getNum l wd = number (l.take wd.toNat) by simp [getNum, he])
      rw [he]
      obtain ⟨d, rfl⟩ := Int.eq_ofNat_of_zero_le (show 0 ≤ wd by omega)
      rw [Int.toNat_natCast] at hg
      have hdl : d ≤ l.length := by omega
      have htl := Lib.hid (show (l.take d).length = d by rw [List.length_take]; omega)
      have HTL := Lib.hid (fun c (hc : c ∈ l.take d) => HL.out c (List.mem_of_mem_take hc))
      have h5 : (d : Int) ≤ (l.length : Int) := by omega
      clear he h1
      go_enter Try.func34, Try.ntmps34
      go_wp2
      go_loop [6, 7] (fun v i => ∃ k : Nat, k ≤ d ∧ i = .int .i64 ((k : Int) - 1) ∧ v = .int .u64 (number ((l.take d).drop k) : Nat)) (fun _ i => (intOf i + 1).toNat)
      case atStart => exact ⟨d, Nat.le_refl _, rfl, by have := htl.out; rw [List.drop_of_length_le (by omega)]; rfl⟩
      case round =>
        obtain ⟨k, hk, rfl, rfl⟩ := hrel
        cases k with
        | zero =>
          rw [show (((0 : Nat) : Int) - 1) = -1 from rfl]
          go_wp2
          go_ret2
          rw [hg.out]
          exact ⟨rfl, rfl⟩
        | succ j =>
          rw [show (((j + 1 : Nat) : Int) - 1) = (j : Int) from by omega]
          have hj : j < (l.take d).length := by have := htl.out; omega
          obtain ⟨ad, rfl, hb, hc⟩ := HR.out.byte (show j < l.length by omega)
          have hlt := getD_lt HL.out j
          have hgd : (l.take d).getD j 0 = l.getD j 0 := by
            rw [List.getD_eq_getElem?_getD, List.getD_eq_getElem?_getD, List.getElem?_take_of_lt (by omega)]
          have HST := Lib.hid (number_drop hj)
          rw [hgd] at HST
          have hnum : number ((l.take d).drop (j + 1)) < 256 ^ 7 := Nat.lt_of_lt_of_le (number_lt _ (drop_lt HTL.out _)) (Nat.pow_le_pow_right (by decide) (by rw [List.length_drop]; have := htl.out; omega))
          have hnum2 : number ((l.take d).drop (j + 1)) < 72057594037927936 := hnum
          clear hj hnum hgd
          generalize number ((l.take d).drop (j + 1)) = v at *
          generalize l.getD j 0 = c at *
          have hor := or_low v c hnum2 hlt
          have HOR := Lib.hid hor
          clear hor
          go_wp2
          go_round
          case rel => exact ⟨j, by omega, rfl, by rw [HST.out, HOR.out]⟩
          case measure => simp [intOf]
end Go.Proofs.Ytlidfmbmlhaacaa
