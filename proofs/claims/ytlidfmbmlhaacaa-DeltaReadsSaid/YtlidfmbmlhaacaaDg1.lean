/- Contracts: short forms, zigzags. -/
import Derived.Test.YtlidfmbmlhaacaaDf1
import Derived.Test.YtlidfmbmlhaacaaCb0
import Derived.Laws.ShiftsVarLaws
import Derived.IntWalk
import Derived.Laws.BitsAllLaws
namespace Go.Proofs.Ytlidfmbmlhaacaa
open Go.RowKit
set_option linter.unusedVariables false
set_option linter.unusedSimpArgs false
/-- the first j bytes of a short form that goes on -/
def shortTo (n j : Nat) : List Nat := (List.range j).map fun i => n / 128 ^ i % 128 + 128
theorem shortTo_succ (n j : Nat) : shortTo n (j + 1) = shortTo n j ++ [n / 128 ^ j % 128 + 128] := by simp [shortTo, List.range_succ]
theorem shortTo_len (n j : Nat) : (shortTo n j).length = j := by simp [shortTo]
def ShortGives (l : List Nat) (n : Nat) (w : World) (e : Ending) (w' : World) : Prop :=
  ∃ j, (∀ i, i < j → 128 ≤ n / 128 ^ i) ∧ n / 128 ^ j < 128 ∧ Gives (l ++ shortTo n j ++ [n / 128 ^ j]) w e w'
theorem or128 (x : Nat) : Go.bits BinOp.or IntKind.u8 ((x : Int) % 256) 128 = ((x % 128 + 128 : Nat) : Int) := by
  have h : ∀ y, y < 256 → Go.bits BinOp.or IntKind.u8 ((y : Nat) : Int) 128 = ((y % 128 + 128 : Nat) : Int) := by decide +kernel
  have := h (x % 256) (Nat.mod_lt _ (by decide))
  rw [show ((x % 256 : Nat) : Int) = (x : Int) % 256 by omega, show x % 256 % 128 = x % 128 by omega] at this
  exact this
theorem div128_succ (n k : Nat) : n / 128 ^ k / 128 = n / 128 ^ (k + 1) := by rw [Nat.div_div_eq_div_mul, ← Nat.pow_succ]
theorem short_bound (n j : Nat) (hn : n < 2 ^ 64) (h : ∀ i, i < j → 128 ≤ n / 128 ^ i) : j ≤ 9 := by
  rcases Nat.lt_or_ge 9 j with hj | hj
  · have h9 := h 9 hj
    have : n / 128 ^ 9 < 128 := by
      rw [Nat.div_lt_iff_lt_mul (by decide)]
      exact Nat.lt_of_lt_of_le hn (by decide)
    omega
  · exact hj
set_option maxRecDepth 100000 in
set_option maxHeartbeats 400000 in
theorem putShort_c (B : Nat) (A : Option Addr) (ca : Nat) (l : List Nat) (n : Nat) (w : World) (hr : Rd w B A (byt l)) (hn : n < 2 ^ 64) (h1 : l.length ≤ 10000000) :
    Calls Try.prog 46 #[.slice A l.length ca, .int .u64 n] w (ShortGives l n w) := by
  obtain ⟨i0, hi, hz0, hz1, hz2⟩ := info_parts byteInfo
  have HR := Lib.hid hr
  clear hr
  go_enter Try.func46, Try.ntmps46
  go_wp2_with fail
  refine (clone_c B A ca l _ HR.out (by omega)).mono ?_
  rintro e w1 ⟨v, rfl, ho, hb⟩
  have HO := Lib.hid ho
  have HB := Lib.hid hb
  clear ho hb
  go_wp2
  go_loopw [1, 5] (fun N u wr => ∃ j : Nat, N = .int .u64 (n / 128 ^ j : Nat) ∧ (∀ i, i < j → 128 ≤ n / 128 ^ i) ∧ OwnB wr w.heap.size u (l ++ shortTo n j) ∧ Below w.heap.size w wr) (fun N _ _ => (intOf N).toNat)
  case atStart => exact ⟨0, by simp, by simp, by simpa [shortTo] using HO.out, HB.out⟩
  case round =>
    rename_i wr
    obtain ⟨j, rfl, hge, ho, hb⟩ := hrel
    have hj9 := short_bound n j hn hge
    have HG := Lib.hid hge
    have HO2 := Lib.hid ho
    have HB2 := Lib.hid hb
    have hnl : n / 128 ^ j < 2 ^ 64 := Nat.lt_of_le_of_lt (Nat.div_le_self _ _) hn
    have HF := Lib.hid (shortTo_succ n j)
    have HD := Lib.hid (div128_succ n j)
    have hor := or128 (n / 128 ^ j)
    have hlen : (l ++ shortTo n j).length ≤ 10000009 := by rw [List.length_append, shortTo_len]; omega
    have HLen := Lib.hid hlen
    clear ho hb hge hlen
    generalize hq : n / 128 ^ j = q at *
    have HQ := Lib.hid hq
    clear hq
    by_cases hlt : 128 ≤ q
    · have HLT := Lib.hid hlt
      go_wp2_with (at_builtin; refine wpList_app _ rfl (.tmp 12) (.tmp 16) _ rfl w.heap.size 5 i0 (.int .u8 0) 1 1 Try.underlying32 hi hz0 hz1 hz2 rfl (by decide) _ _ _ rfl (HO2.out.alloc _) _ _ 1 1 [.int .u8 (q % 128 + 128 : Nat)] rfl rfl (by exact rd_one _ _ _) (byt_one [q % 128 + 128]) (by have := HLen.out; omega) (by have := HLen.out; omega) (by have := HB2.out.size; simp; omega) ?_; intro v1 w2 hap)
      go_roundw
      case rel =>
        go_light
        refine ⟨j + 1, by rw [← HD.out]; go_num, fun i hi => ?_, ?_, (HB2.out.alloc HB2.out.size _).trans (hap.below (HO2.out.alloc _) (by have := HB2.out.size; simp; omega))⟩
        · rcases Nat.lt_or_ge i j with h | h
          · exact HG.out i h
          · rw [show i = j by omega, HQ.out]; exact HLT.out
        · rw [HF.out, ← List.append_assoc]
          exact OwnB.snoc hap
      case measure => simp [intOf]; omega
    · go_wp2_with (at_builtin; refine wpList_app _ rfl (.tmp 18) (.tmp 21) _ rfl w.heap.size 5 i0 (.int .u8 0) 1 1 Try.underlying32 hi hz0 hz1 hz2 rfl (by decide) _ _ _ rfl (HO2.out.alloc _) _ _ 1 1 [.int .u8 (q : Nat)] rfl rfl (by exact rd_one _ _ _) (byt_one [q]) (by have := HLen.out; omega) (by have := HLen.out; omega) (by have := HB2.out.size; simp; omega) ?_; intro v1 w2 hap)
      go_ret
      refine ⟨j, HG.out, by rw [HQ.out]; omega, v1, rfl, ?_, (HB2.out.alloc HB2.out.size _).trans (hap.below (HO2.out.alloc _) (by have := HB2.out.size; simp; omega))⟩
      rw [HQ.out]
      exact OwnB.snoc hap
theorem sh_shortTo (n : Nat) : ∀ j, (∀ i, i < j → 128 ≤ n / 128 ^ i) → n / 128 ^ j < 128 → shortTo n j ++ [n / 128 ^ j] = sh n := by
  induction n using Nat.strongRecOn with
  | ind n ih =>
    intro j h1 h2
    cases j with
    | zero =>
      rw [sh, dif_pos (by simpa using h2)]
      simp [shortTo]
    | succ j =>
      have h0 : 128 ≤ n := by simpa using h1 0 (by omega)
      rw [sh, dif_neg (by omega)]
      have e := ih (n / 128) (by omega) j (fun i hi => by have := h1 (i + 1) (by omega); rwa [Nat.pow_succ, Nat.mul_comm, ← Nat.div_div_eq_div_mul] at this) (by rwa [Nat.pow_succ, Nat.mul_comm, ← Nat.div_div_eq_div_mul] at h2)
      rw [← e, Nat.pow_succ, Nat.mul_comm, ← Nat.div_div_eq_div_mul]
      unfold shortTo
      rw [List.range_succ_eq_map, List.map_cons, List.map_map]
      simp only [Nat.pow_zero, Nat.div_one, List.cons_append, List.cons.injEq, true_and]
      congr 1
      apply List.map_congr_left
      intro i _
      simp only [Function.comp, Nat.succ_eq_add_one]
      rw [Nat.pow_succ, Nat.mul_comm, ← Nat.div_div_eq_div_mul]
theorem putSh_c (B : Nat) (A : Option Addr) (ca : Nat) (l : List Nat) (n : Nat) (w : World) (hr : Rd w B A (byt l)) (hn : n < 2 ^ 64) (h1 : l.length ≤ 10000000) :
    Calls Try.prog 46 #[.slice A l.length ca, .int .u64 n] w (Gives (l ++ sh n) w) := by
  refine (putShort_c B A ca l n w hr hn h1).mono ?_
  rintro e w' ⟨j, h2, h3, hg⟩
  rw [List.append_assoc, sh_shortTo n j h2 h3] at hg
  exact hg
end Go.Proofs.Ytlidfmbmlhaacaa
