/- NumForms: the walk. -/
import Derived.Test.YtcmahmlcoodfoaaNum1
import Derived.Test.YtcmahmlcoodfoaaByt3
namespace Go.Proofs.Ytcmahmlcoodfoaa
open Go.RowKit
set_option linter.unusedVariables false
theorem LentAt.ext' {w w' : World} {g : Nat} {l : List Nat} (h : LentAt w g l) (hb : Below w.heap.size w w') : LentAt w' g l := Blk.below h hb (Blk.lt h)
theorem chain4 {w w1 w2 w3 w4 : World} {n : Nat} (h1 : Below w.heap.size w w1) (h2 : Below w1.heap.size w1 w2) (h3 : Below w2.heap.size w2 w3) (h4 : Below (w3.drewN n).heap.size (w3.drewN n) w4) : Below w.heap.size w w4 :=
  ((h1.trans (h2.mono h1.size)).trans (h3.mono (Nat.le_trans h1.size h2.size))).trans ((belowDrewN n (Below.refl _ _)).trans (h4.mono (Nat.le_trans h1.size (Nat.le_trans h2.size h3.size))))
set_option maxRecDepth 100000 in
set_option maxHeartbeats 1000000 in
theorem numForms_long (A : Option Addr) (ca : Nat) (l : List Nat) (n : Nat) (wd : Int) (w : World) (h : 2000 < l.length) :
    Calls Try.prog 8 #[.slice A l.length ca, .int .u64 n, .int .i64 wd] w fun e w' => e = .returned (.bool true) ∧ Below w.heap.size w w' := by
  go_enter Try.func8, Try.ntmps8
  go_wp2_with (first
    | (go_at_call 24; ((with_reducible refine (awake01_c _).mono ?_); rintro e w' ⟨rfl, hb⟩)))
  go_ret
  exact ⟨rfl, hb⟩
set_option maxRecDepth 100000 in
set_option maxHeartbeats 1000000 in
theorem numForms_bad (A : Option Addr) (ca : Nat) (l : List Nat) (n : Nat) (wd : Int) (w : World) (hl : ∀ c ∈ l, c < 256) (hr : Rd w w.heap.size A (byt l)) (h : l.length ≤ 2000) (hn : n < 2 ^ 64) (hw1 : -9223372036854775808 ≤ wd) (hw2 : wd ≤ 9223372036854775807)
    (hbad : decide (wd < 1) = true ∨ (decide (wd < 1) = false ∧ decide (8 < wd) = true)) :
    Calls Try.prog 8 #[.slice A l.length ca, .int .u64 n, .int .i64 wd] w fun e w' => e = .returned (.bool true) ∧ Below w.heap.size w w' := by
  obtain ⟨i0, hi, hz0, hz1, hz2⟩ := info_parts byteInfo
  have ht : tailOf n wd = [] := by
    unfold tailOf
    rcases hbad with h1 | ⟨_, h1⟩
    · have := of_decide_eq_true h1
      rw [if_neg (by omega), show wd.toNat = 0 by omega]; rfl
    · rw [if_pos (of_decide_eq_true h1)]
  have hE : getErr l.length wd = 1 := by
    unfold getErr
    rw [if_pos]
    rcases hbad with h1 | ⟨_, h1⟩
    · exact .inl (of_decide_eq_true h1)
    · exact .inr (of_decide_eq_true h1)
  have hN : getNum l wd = 0 := by unfold getNum; rw [hE]; rfl
  have hput := fun B A ca w (hr : Rd w B A (byt l)) => put_c B A ca l n wd w hr hn hw1 hw2 (by omega)
  rw [ht, List.append_nil] at hput
  have hget := fun B A ca w (hr : Rd w B A (byt l)) => get_c B A ca l wd w hr hl (by omega) hw1 hw2
  rw [hE, hN] at hget
  have HPUT := Lib.hid hput
  have HGET := Lib.hid hget
  have HL := Lib.hid hl
  have HR := Lib.hid hr
  clear hput hget ht hE hN hl hr
  have hsz : l.length ≤ 100000000 := by omega
  have HSZ := Lib.hid hsz
  clear hsz
  rcases hbad with t1 | ⟨t1, t2⟩
  all_goals
    go_enter Try.func8, Try.ntmps8
    go_wp2_with (first
      | (go_at_call 14; ((with_reducible refine (lent_c A ca l _ HL.out HR.out HSZ.out).mono ?_); rintro e w1 ⟨rfl, hg1, hb1⟩; have HG1 := Lib.hid hg1; have HB1 := Lib.hid hb1; clear hg1 hb1))
      | (go_at_call 30; ((with_reducible refine (HPUT.out _ _ _ _ HG1.out.rd).mono ?_); rintro e w2 ⟨v, rfl, ho, hb2⟩; obtain ⟨A2, c2, rfl, hc1, hc2, hr2⟩ := ho.rd; have HR2 := Lib.hid hr2; have HB2 := Lib.hid hb2; clear hb2 hr2 ho hc1 hc2))
      | (go_at_call 31; ((with_reducible refine (HGET.out _ _ _ _ (HG1.out.rd.ext HB2.out)).mono ?_); rintro e w' ⟨rfl, rfl⟩))
      | (at_builtin; refine wpList_app _ rfl (.tmp 28) (.tmp 29) _ rfl w2.heap.size 5 i0 (.int .u8 0) 1 1 Try.underlying35 hi hz0 hz1 hz2 rfl (by decide) _ 0 [] rfl (by exact OwnB.new _ _ [] (Nat.le_refl _) (by simp [maxLen])) w.heap.size A l.length ca (byt l) rfl (by simp [byt_len]) (by exact HR.out.ext ((HB1.out.trans (HB2.out.mono HB1.out.size)).alloc (Nat.le_trans HB1.out.size HB2.out.size) _)) (byt_one l) (by have := HSZ.out; omega) (by have := HSZ.out; omega) (by simp) ?_; intro v3 w3 hap; have ho3 : OwnB w3 w2.heap.size v3 l := (by have := hap.own; simpa [OwnB] using this); have hb3 : Below w2.heap.size w2 w3 := ((Below.refl _ _).alloc (Nat.le_refl _) _).trans (hap.below (by exact OwnB.new _ _ [] (Nat.le_refl _) (by simp [maxLen])) (by simp)); obtain ⟨A3, c3, rfl, hc1, hc2, hr3⟩ := ho3.rd; have HR3 := Lib.hid hr3; have HB3 := Lib.hid hb3; have HLW := Lib.hid (HG1.out.ext' (HB2.out.trans (hb3.mono HB2.out.size))); have HRW := Lib.hid (HR.out.ext ((HB1.out.trans (HB2.out.mono HB1.out.size)).trans (hb3.mono (Nat.le_trans HB1.out.size HB2.out.size)))); clear hap ho3 hb3 hr3 hc1 hc2)
      | (go_at_call 20; ((with_reducible refine (same_c _ _ A2 A3 c2 c3 l l _ HL.out HL.out (HR2.out.ext HB3.out) HR3.out (by have := HSZ.out; omega) (by have := HSZ.out; omega)).mono ?_); rintro e w' ⟨rfl, k, rfl⟩; rw [beq_self_eq_true]))
      | (go_at_call 18; ((refine (kept_c w.heap.size w.heap.size A ca l _ HL.out (by exact HLW.out) (by exact HRW.out) HSZ.out).mono ?_); rintro e w' ⟨rfl, k2, rfl⟩))
      | (go_at_call 24; ((with_reducible refine (awake01_c _).mono ?_); rintro e w' ⟨rfl, hb⟩)))
    go_ret
    exact ⟨rfl, chain4 HB1.out HB2.out HB3.out hb⟩
set_option maxRecDepth 100000 in
set_option maxHeartbeats 1000000 in
theorem numForms_short (A : Option Addr) (ca : Nat) (l : List Nat) (n : Nat) (wd : Nat) (w : World) (hl : ∀ c ∈ l, c < 256) (hr : Rd w w.heap.size A (byt l)) (h : l.length ≤ 2000) (hn : n < 2 ^ 64) (hw1 : 1 ≤ wd) (hw2 : wd ≤ 8) (hsh : l.length < wd) :
    Calls Try.prog 8 #[.slice A l.length ca, .int .u64 n, .int .i64 wd] w fun e w' => e = .returned (.bool true) ∧ Below w.heap.size w w' := by
  obtain ⟨i0, hi, hz0, hz1, hz2⟩ := info_parts byteInfo
  have ht : tailOf n (wd : Int) = form n wd := by
    unfold tailOf
    rw [if_neg (by omega), Int.toNat_natCast]
  have hE : getErr l.length (wd : Int) = 2 := by
    unfold getErr
    rw [if_neg (by omega), if_pos (by omega)]
  have hN : getNum l (wd : Int) = 0 := by unfold getNum; rw [hE]; rfl
  have hput := fun B A ca w (hr : Rd w B A (byt l)) => put_c B A ca l n wd w hr hn (by omega) (by omega) (by omega)
  rw [ht] at hput
  have hget := fun B A ca w (hr : Rd w B A (byt l)) => get_c B A ca l wd w hr hl (by omega) (by omega) (by omega)
  rw [hE, hN] at hget
  have HPUT := Lib.hid hput
  have HGET := Lib.hid hget
  have HL := Lib.hid hl
  have HR := Lib.hid hr
  clear hput hget ht hE hN hl hr
  have hsz : l.length ≤ 100000000 := by omega
  have HSZ := Lib.hid hsz
  clear hsz
  obtain ⟨F, hF⟩ : ∃ F, F = form n wd := ⟨_, rfl⟩
  have hform := fun w => rform_c n wd w hn (by omega)
  rw [← hF] at HPUT hform
  have HFORM := Lib.hid hform
  have hFlen : F.length = wd := by rw [hF]; exact form_len n wd
  have hFlt : ∀ c ∈ F, c < 256 := by rw [hF]; exact form_lt n wd
  obtain ⟨LF, hLF⟩ : ∃ LF, LF = l ++ F := ⟨_, rfl⟩
  rw [← hLF] at HPUT
  have hLFlt : ∀ c ∈ LF, c < 256 := by
    rw [hLF]; intro c hc
    rcases List.mem_append.1 hc with h | h
    · exact HL.out c h
    · exact hFlt c h
  have hLFlen : LF.length ≤ 100000000 := by rw [hLF, List.length_append]; omega
  have HLF := Lib.hid hLF
  have HLFT := Lib.hid hLFlt
  have HLFL := Lib.hid hLFlen
  have HFL := Lib.hid hFlen
  clear hF hform hFlen hFlt hLF hLFlt hLFlen
  iterate 1
    go_enter Try.func8, Try.ntmps8
    go_wp2_with (first
      | (go_at_call 14; ((with_reducible refine (lent_c A ca l _ HL.out HR.out HSZ.out).mono ?_); rintro e w1 ⟨rfl, hg1, hb1⟩; have HG1 := Lib.hid hg1; have HB1 := Lib.hid hb1; clear hg1 hb1))
      | (go_at_call 30; ((with_reducible refine (HPUT.out _ _ _ _ HG1.out.rd).mono ?_); rintro e w2 ⟨v, rfl, ho, hb2⟩; obtain ⟨A2, c2, rfl, hc1, hc2, hr2⟩ := ho.rd; have HR2 := Lib.hid hr2; have HB2 := Lib.hid hb2; clear hb2 hr2 ho hc1 hc2))
      | (go_at_call 31; ((with_reducible refine (HGET.out _ _ _ _ (HG1.out.rd.ext HB2.out)).mono ?_); rintro e w' ⟨rfl, rfl⟩))
      | (at_builtin; refine wpList_app _ rfl (.tmp 28) (.tmp 29) _ rfl w2.heap.size 5 i0 (.int .u8 0) 1 1 Try.underlying35 hi hz0 hz1 hz2 rfl (by decide) _ 0 [] rfl (by exact OwnB.new _ _ [] (Nat.le_refl _) (by simp [maxLen])) w.heap.size A l.length ca (byt l) rfl (by simp [byt_len]) (by exact HR.out.ext ((HB1.out.trans (HB2.out.mono HB1.out.size)).alloc (Nat.le_trans HB1.out.size HB2.out.size) _)) (byt_one l) (by have := HSZ.out; omega) (by have := HSZ.out; omega) (by simp) ?_; intro v3 w3 hap; have ho3 : OwnB w3 w2.heap.size v3 l := (by have := hap.own; simpa [OwnB] using this); have hb3 : Below w2.heap.size w2 w3 := ((Below.refl _ _).alloc (Nat.le_refl _) _).trans (hap.below (by exact OwnB.new _ _ [] (Nat.le_refl _) (by simp [maxLen])) (by simp)); obtain ⟨A3, c3, rfl, hc1, hc2, hr3⟩ := ho3.rd; have HR3 := Lib.hid hr3; have HO3 := Lib.hid ho3; have HB3 := Lib.hid hb3; have HLW := Lib.hid (HG1.out.ext' (HB2.out.trans (hb3.mono HB2.out.size))); have HRW := Lib.hid (HR.out.ext ((HB1.out.trans (HB2.out.mono HB1.out.size)).trans (hb3.mono (Nat.le_trans HB1.out.size HB2.out.size)))); clear hap ho3 hb3 hr3 hc1 hc2)
      | (go_at_call 32; ((with_reducible refine (HFORM.out _).mono ?_); rintro e w4 ⟨v4, rfl, ho4, hb4⟩; have ho34 := own_keep (S := fun _ => False) HO3.out (Only.of_below hb4) (fun _ _ h => h); obtain ⟨A4, c4, rfl, hc1, hc2, hr4⟩ := ho4.rd; have HR4 := Lib.hid hr4; have HB4 := Lib.hid hb4; have HO34 := Lib.hid ho34; clear hb4 ho34 hr4 hc1 hc2 ho4))
      | (at_builtin; refine wpList_app _ rfl (.tmp 56) (.tmp 59) _ rfl w2.heap.size 5 i0 (.int .u8 0) 1 1 Try.underlying35 hi hz0 hz1 hz2 rfl (by decide) _ l.length (byt l) rfl (by exact HO34.out) w4.heap.size A4 F.length c4 (byt F) rfl (by simp [byt_len]) (by exact HR4.out) (byt_one F) (by have := HSZ.out; have := HFL.out; omega) (by have := HSZ.out; have := HFL.out; omega) (by exact Nat.le_trans HB3.out.size HB4.out.size) ?_; intro v5 w5 hap; have ho5 : OwnB w5 w2.heap.size v5 LF := (by rw [HLF.out]; exact OwnB.app hap); have hb5 : Below w2.heap.size w2 w5 := (HB3.out.trans (HB4.out.mono HB3.out.size)).trans (hap.below (by exact HO34.out) (by exact Nat.le_trans HB3.out.size HB4.out.size)); obtain ⟨A5, c5, rfl, hc1, hc2, hr5⟩ := ho5.rd; have HR5 := Lib.hid hr5; have HB5 := Lib.hid hb5; have HLW5 := Lib.hid (HG1.out.ext' (HB2.out.trans (hb5.mono HB2.out.size))); have HRW5 := Lib.hid (HR.out.ext ((HB1.out.trans (HB2.out.mono HB1.out.size)).trans (hb5.mono (Nat.le_trans HB1.out.size HB2.out.size)))); clear hap ho5 hb5 hr5 hc1 hc2)
      | (go_at_call 20; ((with_reducible refine (same_c _ _ A2 A5 c2 c5 LF LF _ HLFT.out HLFT.out (HR2.out.ext HB5.out) HR5.out (by have := HLFL.out; omega) (by have := HLFL.out; omega)).mono ?_); rintro e w' ⟨rfl, k, rfl⟩; rw [beq_self_eq_true]))
      | (go_at_call 18; ((refine (kept_c w.heap.size w.heap.size A ca l _ HL.out (by exact HLW5.out) (by exact HRW5.out) HSZ.out).mono ?_); rintro e w' ⟨rfl, k2, rfl⟩))
      | (go_at_call 24; ((with_reducible refine (awake01_c _).mono ?_); rintro e w' ⟨rfl, hb⟩)))
    go_ret
    exact ⟨rfl, chain4 HB1.out HB2.out HB5.out hb⟩
end Go.Proofs.Ytcmahmlcoodfoaa
