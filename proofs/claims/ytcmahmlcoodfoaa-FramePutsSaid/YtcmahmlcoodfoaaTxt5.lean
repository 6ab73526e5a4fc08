/- Text: a wide number's digits. -/
import Derived.Test.YtcmahmlcoodfoaaTxt4
namespace Go.Proofs.Ytcmahmlcoodfoaa
open Go.RowKit
set_option linter.unusedVariables false
/-- a number's digits as bytes, the lowest first -/
def tenTo (M k : Nat) : List Nat := (List.range k).map fun i => M / 10 ^ i % 10 + 48
theorem tenTo_succ (M k : Nat) : tenTo M (k + 1) = tenTo M k ++ [M / 10 ^ k % 10 + 48] := by simp [tenTo, List.range_succ]
theorem tenTo_len (M k : Nat) : (tenTo M k).length = k := by simp [tenTo]
theorem tenTo_lt (M k : Nat) : ∀ c ∈ tenTo M k, c < 256 := by
  intro c hc
  obtain ⟨i, _, rfl⟩ := List.mem_map.1 hc
  omega
theorem ten_bound (M k : Nat) (hM : M < 2 ^ 128) (h : M / 10 ^ k ≠ 0 ∨ k = 0) : k ≤ 38 := by
  rcases Nat.lt_or_ge 38 k with hk | hk
  · rcases h with h | h
    · have h1 : 10 ^ 39 ≤ 10 ^ k := Nat.pow_le_pow_right (by decide) hk
      exact absurd (Nat.div_eq_of_lt (Nat.lt_of_lt_of_le (Nat.lt_trans hM (by decide)) h1)) h
    · omega
  · exact hk
def bstr (l : List Nat) : ByteArray := ⟨(l.map UInt8.ofNat).toArray⟩
/-- the last of digits: none is above it -/
structure TenEnd (M k : Nat) : Prop where
  more : ∀ i, 1 ≤ i → i ≤ k → M / 10 ^ i ≠ 0
  last : M / 10 ^ (k + 1) = 0
def textOf (neg : Bool) (M k : Nat) : List Nat := (if neg then [45] else []) ++ (tenTo M (k + 1)).reverse
theorem dbl_div (H L : Nat) (h : L < 18446744073709551616) : dbl H L / 10 = dbl (H / 10) (dbl (H % 10) L / 10) := by
  unfold dbl; omega
theorem dbl_mod (H L : Nat) (h : L < 18446744073709551616) : dbl H L % 10 = dbl (H % 10) L % 10 := by
  unfold dbl; omega
theorem dbl_low (H L : Nat) (h : L < 18446744073709551616) (hH : H < 10) : dbl H L / 10 < 18446744073709551616 := by
  unfold dbl; omega
theorem or_zero (x y : Nat) (hx : x < 2 ^ 64) (hy : y < 2 ^ 64) : (bits BinOp.or IntKind.u64 (x : Int) (y : Int) == 0) = decide (x = 0 ∧ y = 0) := by
  rw [u64_or_nat _ _ (by omega) (by omega)]
  by_cases h : x = 0 ∧ y = 0
  · obtain ⟨rfl, rfl⟩ := h; rfl
  · rw [decide_eq_false h]
    have hne : x ||| y ≠ 0 := fun h0 => h (Nat.or_eq_zero_iff.1 h0)
    exact beq_eq_false_iff_ne.2 (by exact_mod_cast hne)
theorem ten_step (M k : Nat) : M / 10 ^ k / 10 = M / 10 ^ (k + 1) := by rw [Nat.div_div_eq_div_mul, ← Nat.pow_succ]
theorem le_alloc {B : Nat} {w : World} {o : Obj} (h : B ≤ w.heap.size) : B ≤ (w.alloc o).heap.size := Nat.le_trans h (by simp)
theorem conv_c (w : World) (g cap : Nat) (l : List Nat) (rest : List Value) (hb : Blk w g 5 (byt l ++ rest).toArray) (hl : ∀ c ∈ l, c < 256) :
    (convert 35 9 (.slice (some ⟨g, 0, none⟩) l.length cap)).run Try.prog w = .ok (.string (bstr l)) w := by
  have h := run_convert_bytes_back (P := Try.prog) w 35 9 5 ⟨g, 0, none⟩ cap (l.map UInt8.ofNat) Try.underlying35 Try.underlying5 Try.underlying9 (fun j hj => by
    have hj' : j < l.length := by simpa using hj
    have e1 : (Addr.add ⟨g, 0, none⟩ j) = ⟨g, j, none⟩ := by
      cases j <;> simp [Addr.add]
    rw [e1, hb.cell j, arr_at l rest j hj']
    have hlt := hl _ (List.getElem_mem hj')
    simp [List.getD_eq_getElem?_getD, hj']
    omega)
  rw [List.length_map] at h
  exact h
set_option maxRecDepth 100000 in
set_option maxHeartbeats 2000000 in
theorem text_loop (a : Value) (hi : Int) (H0 L0 : Nat) (lo : Nat) (w : World) (hL0 : L0 < 2 ^ 64) (hH0 : H0 < 2 ^ 64)
    (hsz : ∀ w, Calls Try.prog 50 #[.agg #[.int .i64 hi, .int .u64 lo]] w fun e w' => e = .returned (.tuple #[.int .u64 H0, .int .u64 L0]) ∧ Below w.heap.size w w') (neg : Bool) (hneg : decide (hi < 0) = neg) :
    Calls Try.prog 38 #[.agg #[.int .i64 hi, .int .u64 lo]] w fun e w' => (∃ k, TenEnd (dbl H0 L0) k ∧ e = .returned (.string (bstr (textOf neg (dbl H0 L0) k)))) ∧ Below w.heap.size w w' := by
  obtain ⟨i0, hi0, hz0, hz1, hz2⟩ := info_parts byteInfo
  have HS := Lib.hid hsz
  clear hsz
  go_enter Try.func38, Try.ntmps38
  go_wp2_with fail
  refine (HS.out _).mono ?_
  rintro e w1 ⟨rfl, hb⟩
  have c1 : w1.cell? ⟨w.heap.size, 0, none⟩ = some (.int .i64 hi) := (hb.cell (by simp)).trans (by simp)
  have C1 := Lib.hid c1
  clear c1
  have HB := Lib.hid hb
  have hs1 : w.heap.size + 1 ≤ w1.heap.size := by simpa using hb.size
  have HS1 := Lib.hid hs1
  clear hb hs1
  obtain ⟨M, hM⟩ : ∃ M, M = dbl H0 L0 := ⟨_, rfl⟩
  have hM128 : M < 2 ^ 128 := by rw [hM]; unfold dbl; omega
  have HM := Lib.hid hM
  clear hM
  go_wp2
  go_loopw [3, 4, 5] (fun h l u wr => ∃ k H L : Nat, h = .int .u64 H ∧ l = .int .u64 L ∧ H < 2 ^ 64 ∧ L < 2 ^ 64 ∧ dbl H L = M / 10 ^ k ∧ (∀ i, 1 ≤ i → i ≤ k → M / 10 ^ i ≠ 0) ∧ OwnB wr (w.heap.size + 1) u (tenTo M k) ∧ Below (w.heap.size + 1) w1 wr) (fun h l _ _ => (intOf h).toNat * 18446744073709551616 + (intOf l).toNat)
  case atStart => exact ⟨0, H0, L0, rfl, rfl, by omega, by omega, by rw [← HM.out]; simp, by intro i h1 h2; omega, OwnB.nil_ _ _, Below.refl _ _⟩
  case round =>
    rename_i wr
    obtain ⟨k, H, L, rfl, rfl, hH, hL, hd, hge, ho, hb⟩ := hrel
    have hk := ten_bound M k hM128 (by by_cases hk : k = 0; exact .inr hk; exact .inl (hge k (by omega) (Nat.le_refl _)))
    have HG := Lib.hid hge
    have HO := Lib.hid ho
    have HB2 := Lib.hid hb
    have HS2 := Lib.hid (Nat.le_trans HS1.out hb.size)
    have HD := Lib.hid hd
    clear hge ho hb hd
    obtain ⟨X, hX⟩ : ∃ X, X = dbl (H % 10) L % 10 := ⟨_, rfl⟩
    obtain ⟨Y, hY⟩ : ∃ Y, Y = dbl (H % 10) L / 10 := ⟨_, rfl⟩
    obtain ⟨Z, hZ⟩ : ∃ Z, Z = H / 10 := ⟨_, rfl⟩
    have hv : ∀ w, Calls Try.prog 51 #[.int .u64 ((H : Int) % 10), .int .u64 (L : Int), .int .u64 10] w (Quietly (.tuple #[.int .u64 Y, .int .u64 X]) w) := by
      intro w
      rw [hX, hY]
      exact div10_c (H % 10) L w (Nat.mod_lt _ (by decide)) hL
    have HV := Lib.hid hv
    have hX10 : X < 10 := by rw [hX]; exact Nat.mod_lt _ (by decide)
    have hYl : Y < 2 ^ 64 := by rw [hY]; exact dbl_low _ _ hL (Nat.mod_lt _ (by decide))
    have hdm : M / 10 ^ k % 10 = X := by rw [← HD.out, dbl_mod _ _ hL, hX]
    have hdd : M / 10 ^ (k + 1) = dbl Z Y := by rw [← ten_step, ← HD.out, dbl_div _ _ hL, hZ, hY]
    have hZi : (H : Int) / 10 = (Z : Int) := by omega
    have hZl : Z < 2 ^ 64 := by omega
    have HDM := Lib.hid hdm
    have HDD := Lib.hid hdd
    have HT := Lib.hid (tenTo_succ M k)
    have hlen : (tenTo M k).length ≤ 38 := by rw [tenTo_len]; exact hk
    have HLen := Lib.hid hlen
    have hor := or_zero Z Y hZl hYl
    have HOR := Lib.hid hor
    have HZI := Lib.hid hZi
    clear hv hX hY hdm hdd hlen hor hZi hZ
    go_wp2_with fail
    rw [HZI.out]
    have hor := HOR.out
    refine (HV.out _).mono ?_
    rintro e w3 ⟨rfl, n3, rfl⟩
    by_cases h0 : Z = 0 ∧ Y = 0
    · rw [decide_eq_true h0] at hor
      have HLT := tenTo_lt M (k + 1)
      have HLT0 := Lib.hid HLT
      clear HLT
      obtain ⟨l2, hl2⟩ : ∃ l2, l2 = tenTo M (k + 1) ++ [45] := ⟨_, rfl⟩
      have HL2 := Lib.hid hl2
      have hlt2 : ∀ c ∈ l2, c < 256 := fun c hc => by
        rw [hl2] at hc
        rcases List.mem_append.1 hc with h | h
        · exact HLT0.out c h
        · simp at h; omega
      have HLT2 := Lib.hid hlt2
      have hlen2 : l2.length ≤ 40 := by rw [hl2, List.length_append, tenTo_len]; simp; omega
      have HLEN2 := Lib.hid hlen2
      have hne2 : l2 ≠ [] := by rw [hl2]; simp
      have HNE2 := Lib.hid hne2
      clear hl2 hlt2 hlen2 hne2
      cases neg
      · go_wp2_with (first | (at_builtin; refine wpList_app _ rfl (.tmp 22) (.tmp 26) _ rfl (w.heap.size + 1) 5 i0 (.int .u8 0) 1 1 Try.underlying35 hi0 hz0 hz1 hz2 rfl (by decide) _ _ _ rfl (HO.out.alloc _) _ _ 1 1 [.int .u8 (48 + (X : Int))] rfl rfl (by exact rd_one _ _ _) (byt_one [48 + X]) (by have := HLen.out; omega) (by have := HLen.out; omega) (by exact le_alloc HS2.out) ?_; intro v1 w2 hap; have hbw : Below (w.heap.size + 1) w1 w2 := ((belowDrewN n3 HB2.out).alloc (by exact HS2.out) _).trans (hap.below (HO.out.alloc _) (by exact le_alloc HS2.out)); have c2 : w2.cell? ⟨w.heap.size, 0, none⟩ = some (.int .i64 hi) := (hbw.cell (by simp)).trans C1.out; have HBW := Lib.hid hbw; clear hbw; have ho2 : OwnB w2 (w.heap.size + 1) v1 (tenTo M (k + 1)) := (by have h1 := OwnB.snoc (c := 48 + X) (by simpa using hap); rw [HT.out, HDM.out, Nat.add_comm X 48]; exact h1); have HO2 := Lib.hid ho2; clear hap ho2; obtain ⟨g, cap, rest, rfl, hg, hblk, hc1, hc2, hc3⟩ := HO2.out.open_ (by rw [tenTo_succ]; simp); have HBL := Lib.hid hblk; clear hblk) | (go_at_call 52; with_reducible refine (reverse_some g cap (tenTo M (k + 1)) rest _ (by exact HBL.out) (by exact HLT0.out) (by simp [tenTo_len]; omega) (by simpa using hc1)).mono ?_; rintro e w4 ⟨rfl, hb4, ho4⟩; have hcv := conv_c w4 g cap _ rest hb4 (by exact fun c hc => HLT0.out c (List.mem_reverse.1 hc)); have HBW4 := Lib.hid ho4; clear hb4 ho4; rw [List.length_reverse] at hcv))
        go_ret
        obtain ⟨rfl, rfl⟩ := h0
        refine ⟨⟨k, ⟨by rw [← HM.out]; exact HG.out, by rw [← HM.out, HDD.out]; rfl⟩, by rw [← HM.out]; rfl⟩, ((((Below.refl _ _).alloc (Nat.le_refl _) _).trans (HB.out.mono (by simp))).trans (HBW.out.mono (by omega))).trans (HBW4.out.below (B := w.heap.size) (by intro i hi; omega) (by have := HS1.out; have := HBW.out.size; omega))⟩
      · go_wp2_with (first | (at_builtin; refine wpList_app _ rfl (.tmp 22) (.tmp 26) _ rfl (w.heap.size + 1) 5 i0 (.int .u8 0) 1 1 Try.underlying35 hi0 hz0 hz1 hz2 rfl (by decide) _ _ _ rfl (HO.out.alloc _) _ _ 1 1 [.int .u8 (48 + (X : Int))] rfl rfl (by exact rd_one _ _ _) (byt_one [48 + X]) (by have := HLen.out; omega) (by have := HLen.out; omega) (by exact le_alloc HS2.out) ?_; intro v1 w2 hap; have hbw : Below (w.heap.size + 1) w1 w2 := ((belowDrewN n3 HB2.out).alloc (by exact HS2.out) _).trans (hap.below (HO.out.alloc _) (by exact le_alloc HS2.out)); have c2 : w2.cell? ⟨w.heap.size, 0, none⟩ = some (.int .i64 hi) := (hbw.cell (by simp)).trans C1.out; have HBW := Lib.hid hbw; clear hbw; have ho2 : OwnB w2 (w.heap.size + 1) v1 (tenTo M (k + 1)) := (by have h1 := OwnB.snoc (c := 48 + X) (by simpa using hap); rw [HT.out, HDM.out, Nat.add_comm X 48]; exact h1); have HO2 := Lib.hid ho2; clear hap ho2) | (at_builtin; refine wpList_app _ rfl (.tmp 35) (.tmp 36) _ rfl (w.heap.size + 1) 5 i0 (.int .u8 0) 1 1 Try.underlying35 hi0 hz0 hz1 hz2 rfl (by decide) _ _ _ rfl (HO2.out.alloc _) _ _ 1 1 [.int .u8 45] rfl rfl (by exact rd_one _ _ _) (byt_one [45]) (by rw [tenTo_len]; omega) (by rw [tenTo_len]; omega) (by exact le_alloc (Nat.le_trans HS1.out HBW.out.size)) ?_; go_loud (intro v3 w3 hap; have hbw3 : Below (w.heap.size + 1) w1 w3 := (HBW.out.alloc (by exact Nat.le_trans HS1.out HBW.out.size) _).trans (hap.below (HO2.out.alloc _) (by exact le_alloc (Nat.le_trans HS1.out HBW.out.size))); have HBW3 := Lib.hid hbw3; clear hbw3; have ho3 : OwnB w3 (w.heap.size + 1) v3 l2 := (by rw [HL2.out]; exact OwnB.snoc (c := 45) hap); obtain ⟨g, cap, rest, rfl, hg, hblk, hc1, hc2, hc3⟩ := ho3.open_ HNE2.out; have HBL := Lib.hid hblk; clear hblk hap)) | (go_at_call 52; with_reducible refine (reverse_some g cap l2 rest _ (by exact HBL.out) (by exact HLT2.out) (by have := HLEN2.out; omega) (by exact hc1)).mono ?_; rintro e w4 ⟨rfl, hb4, ho4⟩; have hcv := conv_c w4 g cap _ rest hb4 (by exact fun c hc => HLT2.out c (List.mem_reverse.1 hc)); have HBW4 := Lib.hid ho4; clear hb4 ho4; rw [List.length_reverse] at hcv))
        go_ret
        obtain ⟨rfl, rfl⟩ := h0
        refine ⟨⟨k, ⟨by rw [← HM.out]; exact HG.out, by rw [← HM.out, HDD.out]; rfl⟩, by rw [← HM.out]; rw [HL2.out]; simp [textOf]⟩, ((((Below.refl _ _).alloc (Nat.le_refl _) _).trans (HB.out.mono (by simp))).trans (HBW3.out.mono (by omega))).trans (HBW4.out.below (B := w.heap.size) (by intro i hi; omega) (by have := HS1.out; have := HBW3.out.size; omega))⟩
    · rw [decide_eq_false h0] at hor
      go_wp2_with (at_builtin; refine wpList_app _ rfl (.tmp 22) (.tmp 26) _ rfl (w.heap.size + 1) 5 i0 (.int .u8 0) 1 1 Try.underlying35 hi0 hz0 hz1 hz2 rfl (by decide) _ _ _ rfl (HO.out.alloc _) _ _ 1 1 [.int .u8 (48 + (X : Int))] rfl rfl (by exact rd_one _ _ _) (byt_one [48 + X]) (by have := HLen.out; omega) (by have := HLen.out; omega) (by exact le_alloc HS2.out) ?_; intro v1 w2 hap)
      go_roundw
      case rel =>
        go_light
        refine ⟨k + 1, Z, Y, rfl, rfl, by omega, by omega, HDD.out.symm, fun i h1 h2 => ?_, ?_, ((belowDrewN n3 HB2.out).alloc (by exact HS2.out) _).trans (hap.below (HO.out.alloc _) (by exact le_alloc HS2.out))⟩
        · rcases Nat.lt_or_ge k i with h | h
          · rw [show i = k + 1 by omega, HDD.out]; unfold dbl; omega
          · exact HG.out i h1 h
        · have h1 := OwnB.snoc (c := 48 + X) (by simpa using hap)
          rw [HT.out, HDM.out, Nat.add_comm X 48]; exact h1
      case measure => simp only [intOf, Int.toNat_natCast]; have := HDD.out; have := HD.out; rw [← ten_step] at *; unfold dbl at *; omega
end Go.Proofs.Ytcmahmlcoodfoaa
