/- Contract: short forms, by the document. -/
import Derived.Test.YtlidfmbmlhaacaaDg2
namespace Go.Proofs.Ytlidfmbmlhaacaa
open Go.RowKit
set_option linter.unusedVariables false
set_option linter.unusedSimpArgs false
set_option maxRecDepth 100000 in
set_option maxHeartbeats 1000000 in
theorem rshort_c (n : Nat) (w : World) (hn : n < 2 ^ 64) :
    Calls Try.prog 54 #[.int .u64 n] w (Gives (sh n) w) := by
  obtain ⟨i0, hi, hz0, hz1, hz2⟩ := info_parts byteInfo
  have HSS := Lib.hid (sh_shortTo n)
  go_enter Try.func54, Try.ntmps54
  go_wp2
  go_loopw [0, 3] (fun N u wr => ∃ j : Nat, N = .int .u64 (n / 128 ^ j : Nat) ∧ (∀ i, i < j → 128 ≤ n / 128 ^ i) ∧ OwnB wr w.heap.size u (shortTo n j) ∧ Below w.heap.size w wr) (fun N _ _ => (intOf N).toNat)
  case atStart => exact ⟨0, by simp, by simp, by simpa [shortTo] using OwnB.nil_ _ _, Below.refl _ _⟩
  case round =>
    rename_i wr
    obtain ⟨j, rfl, hge, ho, hb⟩ := hrel
    have hj9 := short_bound n j hn hge
    have HG := Lib.hid hge
    have HO2 := Lib.hid ho
    have HB2 := Lib.hid hb
    have hnl : n / 128 ^ j < 2 ^ 64 := Nat.lt_of_le_of_lt (Nat.div_le_self _ _) hn
    have HF := Lib.hid (shortTo_succ n j)
    have HD := Lib.hid (div128_succ n j)
    have hlen : (shortTo n j).length ≤ 100 := by rw [shortTo_len]; omega
    have HLen := Lib.hid hlen
    clear ho hb hge hlen
    generalize hq : n / 128 ^ j = q at *
    have HQ := Lib.hid hq
    clear hq
    by_cases hlt : 128 ≤ q
    · have HLT := Lib.hid hlt
      obtain ⟨x, hx⟩ : ∃ x, x = q % 128 := ⟨_, rfl⟩
      have t1 : (q : Int) % 128 = (x : Int) := by omega
      have t2 : (q : Int).tmod 128 = (x : Int) := by rw [Int.tmod_eq_emod_of_nonneg (by omega)]; omega
      have t3 : (x : Int) % 256 = (x : Int) := by omega
      have t4 : IntKind.u8.wrap (x : Int) = (x : Int) := by rw [IntKind.wrap_u8']; omega
      have t5 : IntKind.u8.wrap ((x : Int) + 128) = ((x + 128 : Nat) : Int) := by rw [IntKind.wrap_u8']; omega
      have HX := Lib.hid hx
      have hx1 : x < 128 := by omega
      clear hx
      go_wp2_with (at_builtin; go_loud (refine wpList_app _ rfl (.tmp 6) (.tmp 11) _ rfl w.heap.size 5 i0 (.int .u8 0) 1 1 Try.underlying32 hi hz0 hz1 hz2 rfl (by decide) _ _ _ rfl (HO2.out.alloc _) _ _ 1 1 [.int .u8 (x + 128 : Nat)] rfl rfl (by exact rd_one _ _ _) (byt_one [x + 128]) (by have := HLen.out; omega) (by have := HLen.out; omega) (by have := HB2.out.size; simp; omega) ?_; intro v1 w2 hap))
      go_roundw
      case rel =>
        go_light
        refine ⟨j + 1, by rw [← HD.out]; go_num, fun i hi => ?_, ?_, (HB2.out.alloc HB2.out.size _).trans (hap.below (HO2.out.alloc _) (by have := HB2.out.size; simp; omega))⟩
        · rcases Nat.lt_or_ge i j with h | h
          · exact HG.out i h
          · rw [show i = j by omega, HQ.out]; exact HLT.out
        · rw [HF.out, ← HX.out]
          exact OwnB.snoc hap
      case measure => simp [intOf]; omega
    · have HSE := Lib.hid (show shortTo n j ++ [q] = sh n from HQ.out ▸ HSS.out j HG.out (by rw [HQ.out]; omega))
      have t3 : (q : Int) % 256 = (q : Int) := by omega
      go_wp2_with (at_builtin; go_loud (refine wpList_app _ rfl (.tmp 15) (.tmp 18) _ rfl w.heap.size 5 i0 (.int .u8 0) 1 1 Try.underlying32 hi hz0 hz1 hz2 rfl (by decide) _ _ _ rfl (HO2.out.alloc _) _ _ 1 1 [.int .u8 (q : Nat)] rfl rfl (by exact rd_one _ _ _) (byt_one [q]) (by have := HLen.out; omega) (by have := HLen.out; omega) (by have := HB2.out.size; simp; omega) ?_; intro v1 w2 hap))
      refine bodyPost_ret (results_tmp rfl _ _ _) rfl ?_
      exact ⟨v1, rfl, by rw [← HSE.out]; exact OwnB.snoc hap, (HB2.out.alloc HB2.out.size _).trans (hap.below (HO2.out.alloc _) (by have := HB2.out.size; simp; omega))⟩
end Go.Proofs.Ytlidfmbmlhaacaa
