import Derived.Test.YtldanlglefgobaaFld8
import Derived.Test.YtldanlglefgobaaApp
import Derived.Test.YtldanlglefgobaaPlain2
namespace Go.Proofs.Ytldanlglefgobaa
open Go.RowKit
theorem byteInfo : (Try.prog.info? 5).map (fun i => (i.zero, i.size, i.bytes)) = some (some (.int .u8 0), 1, 1) := by kernel_rfl
theorem TabAt.below {w w' : World} {B B0 : Nat} {t : Array Nat} (h : TabAt w B t) (hb : Below B0 w w') (hB : B < B0) : TabAt w' B t := (hb.block B hB).trans h
set_option maxRecDepth 100000 in
set_option maxHeartbeats 1000000 in
theorem fieldSums_w (A C : Option Addr) (l m : List Nat) (cap cap2 x : Nat) (hx : x < 256) (hl : ∀ c ∈ l, c < 256) (hm : ∀ c ∈ m, c < 256) (w : World)
    (hr : Rd w w.heap.size A (byt l)) (hr2 : Rd w w.heap.size C (byt m)) (hlm : l.length ≤ maxLen) (hmm : m.length ≤ maxLen) :
    Calls Try.prog 5 #[.slice A l.length cap, .slice C m.length cap2, .int .u8 x] w (Yes w) := by
  unfold maxLen at hlm hmm
  have HR := Lib.hid hr
  have HR2 := Lib.hid hr2
  have HL := Lib.hid hl
  have HM := Lib.hid hm
  clear hl hr hm hr2
  have hcase : 40 < l.length ∨ (l.length ≤ 40 ∧ 40 < m.length) ∨ (l.length ≤ 40 ∧ m.length ≤ 40) := by omega
  rcases hcase with h1 | ⟨h1, h2⟩ | ⟨h1, h2⟩
  · generalize l.length = n at *
    generalize m.length = n' at *
    go_enter Try.func5, Try.ntmps5
    go_wp2_with (first
      | (go_at_call 15; ((with_reducible refine (awake07_c _).mono ?_); rintro e w2 ⟨rfl, hbel⟩)))
    go_ret
    exact ⟨rfl, hbel⟩
  · generalize l.length = n at *
    generalize m.length = n' at *
    go_enter Try.func5, Try.ntmps5
    go_wp2_with (first
      | (go_at_call 15; ((with_reducible refine (awake07_c _).mono ?_); rintro e w2 ⟨rfl, hbel⟩)))
    go_ret
    exact ⟨rfl, hbel⟩
  · obtain ⟨i0, hi, hz0, hz1, hz2⟩ := info_parts byteInfo
    have hlen1 : l.length ≤ 1000000 := by omega
    have hlen2 : m.length ≤ 1000000 := by omega
    have hzl := zx_len l m
    have HZ := Lib.hid (zx_lt l m HL.out HM.out)
    have HZL := Lib.hid hzl
    have hzN : (zx l m).length ≤ 40 := by omega
    have hzN1 : l.length ≤ (zx l m).length := by omega
    have hzN2 : m.length ≤ (zx l m).length := by omega
    clear hzl
    generalize hz : zx l m = z at *
    have HZE := Lib.hid hz
    clear hz
    go_enter Try.func5, Try.ntmps5
    go_wp2_with fail
    refine (build_c w).mono ?_
    rintro e w1 ⟨rfl, hs, ht, hbw⟩
    have HB := Lib.hid hbw
    have HT := Lib.hid ht
    have HS := Lib.hid hs
    clear hs ht hbw
    go_wp2
    go_loopw [8, 9] (fun s i wr => ∃ k : Nat, k ≤ z.length ∧ i = .int .i64 k ∧ OwnB wr w1.heap.size s (z.take k) ∧ Below w1.heap.size w1 wr) (fun _ i _ => z.length - (intOf i).toNat)
    case atStart => exact ⟨0, by omega, rfl, OwnB.nil_ _ _, Below.refl _ _⟩
    case round =>
      rename_i wr
      obtain ⟨k, hk, rfl, hown, hb⟩ := hrel
      have HO := Lib.hid hown
      have HBR := Lib.hid hb
      clear hown hb
      have hkk : ((z.take k).length = k) := by simp; omega
      have hzk : z.getD k 0 = l.getD k 0 ^^^ m.getD k 0 := by rw [← HZE.out]; exact zx_at l m k
      have hzb := getD_lt HZ.out k
      have hcase : (k < l.length ∧ k < m.length) ∨ (k < l.length ∧ m.length ≤ k) ∨ (l.length ≤ k ∧ k < m.length) ∨ (l.length ≤ k ∧ m.length ≤ k) := by omega
      rcases hcase with ⟨k1, k2⟩ | ⟨k1, k2⟩ | ⟨k1, k2⟩ | ⟨k1, k2⟩
      · obtain ⟨ad, rfl, ha1, hc1⟩ := (HR.out.below (HB.out.trans (HBR.out.mono HB.out.size))).byte k1
        obtain ⟨ad2, rfl, ha2, hc2⟩ := (HR2.out.below (HB.out.trans (HBR.out.mono HB.out.size))).byte k2
        have hxr := u8_xor_nat _ _ (getD_lt HL.out k) (getD_lt HM.out k)
        rw [← hzk] at hxr
        clear hzk
        generalize l.getD k 0 = lc at *
        generalize m.getD k 0 = mc at *
        go_wp2_with (at_builtin; refine wpList_app _ rfl (.tmp 51) (.tmp 53) _ rfl w1.heap.size 5 i0 (.int .u8 0) 1 1 Try.underlying35 hi hz0 hz1 hz2 rfl (by decide) _ _ _ rfl (HO.out.alloc _) _ _ 1 1 [.int .u8 (z.getD k 0 : Nat)] rfl rfl (rd_new _ _ _ _) (byt_one [z.getD k 0]) (by simp; omega) (by simp; omega) (by have := HBR.out.size; simp; omega) ?_; intro v1 w2 hap)
        go_roundw
        case rel =>
          go_light
          refine ⟨k + 1, by omega, by go_num, ?_, (HBR.out.alloc HBR.out.size _).trans (hap.below (HO.out.alloc _) (by have := HBR.out.size; simp; omega))⟩
          rw [take_snoc _ _ (by omega)]
          exact OwnB.snoc hap
        case measure => simp [intOf]; omega
      · obtain ⟨ad, rfl, ha1, hc1⟩ := (HR.out.below (HB.out.trans (HBR.out.mono HB.out.size))).byte k1
        have hm0 : m.getD k 0 = 0 := by rw [List.getD_eq_getElem?_getD, List.getElem?_eq_none k2]; rfl
        rw [hm0, Nat.xor_zero] at hzk
        rw [← hzk] at hc1
        clear hzk hm0
        go_wp2_with (at_builtin; refine wpList_app _ rfl (.tmp 51) (.tmp 53) _ rfl w1.heap.size 5 i0 (.int .u8 0) 1 1 Try.underlying35 hi hz0 hz1 hz2 rfl (by decide) _ _ _ rfl (HO.out.alloc _) _ _ 1 1 [.int .u8 (z.getD k 0 : Nat)] rfl rfl (rd_new _ _ _ _) (byt_one [z.getD k 0]) (by simp; omega) (by simp; omega) (by have := HBR.out.size; simp; omega) ?_; intro v1 w2 hap)
        go_roundw
        case rel =>
          go_light
          refine ⟨k + 1, by omega, by go_num, ?_, (HBR.out.alloc HBR.out.size _).trans (hap.below (HO.out.alloc _) (by have := HBR.out.size; simp; omega))⟩
          rw [take_snoc _ _ (by omega)]
          exact OwnB.snoc hap
        case measure => simp [intOf]; omega
      · obtain ⟨ad2, rfl, ha2, hc2⟩ := (HR2.out.below (HB.out.trans (HBR.out.mono HB.out.size))).byte k2
        have hm0 : l.getD k 0 = 0 := by rw [List.getD_eq_getElem?_getD, List.getElem?_eq_none k1]; rfl
        rw [hm0, Nat.zero_xor] at hzk
        have hxr : bits .xor .u8 0 ((m.getD k 0 : Nat) : Int) = ((z.getD k 0 : Nat) : Int) := by
          have := u8_xor_nat 0 _ (by omega) (getD_lt HM.out k)
          rw [Nat.zero_xor, ← hzk] at this
          rw [← hzk]; exact this
        clear hzk hm0
        generalize m.getD k 0 = mc at *
        go_wp2_with (at_builtin; refine wpList_app _ rfl (.tmp 51) (.tmp 53) _ rfl w1.heap.size 5 i0 (.int .u8 0) 1 1 Try.underlying35 hi hz0 hz1 hz2 rfl (by decide) _ _ _ rfl (HO.out.alloc _) _ _ 1 1 [.int .u8 (z.getD k 0 : Nat)] rfl rfl (rd_new _ _ _ _) (byt_one [z.getD k 0]) (by simp; omega) (by simp; omega) (by have := HBR.out.size; simp; omega) ?_; intro v1 w2 hap)
        go_roundw
        case rel =>
          go_light
          refine ⟨k + 1, by omega, by go_num, ?_, (HBR.out.alloc HBR.out.size _).trans (hap.below (HO.out.alloc _) (by have := HBR.out.size; simp; omega))⟩
          rw [take_snoc _ _ (by omega)]
          exact OwnB.snoc hap
        case measure => simp [intOf]; omega
      · obtain rfl : k = z.length := by have := HZL.out; omega
        have hown := HO.out
        rw [List.take_length] at hown
        obtain ⟨A3, cap3, rfl, hc3, hm3, hrd3⟩ := hown.rd
        have HR3 := Lib.hid hrd3
        have HB2 := Lib.hid (HB.out.trans (HBR.out.mono HB.out.size))
        have HTR := Lib.hid (HT.out.below HBR.out (by have := HS.out; omega))
        have hz40 : z.length ≤ 1000000 := by omega
        have e1 : bits .xor .u8 ((hv x l : Nat) : Int) ((hv x m : Nat) : Int) = ((hv x z : Nat) : Int) := by
          rw [u8_xor_nat _ _ (hv_lt x l HL.out) (hv_lt x m HM.out), ← HZE.out, hv_zx]
        have e2 := hv_cons0 x hx l HL.out
        clear hown hrd3
        have hvl := hv_lt x l HL.out
        go_wp2_with (first
          | (go_at_call 18; ((with_reducible refine (feval_c w.heap.size wr.heap.size A3 cap3 _ z _ (by first | exact HTR.out | exact HTR.out.drewN _) (by assumption) HZ.out (HR3.out.below (by first | exact Below.refl _ _ | exact belowDrewN _ (Below.refl _ _))) hz40).mono ?_); rintro e w' ⟨rfl, n, rfl⟩))
          | (go_at_call 18; ((with_reducible refine (feval_c w.heap.size w.heap.size A cap _ l _ (by first | exact HTR.out | exact HTR.out.drewN _) (by assumption) HL.out (HR.out.below (by first | exact HB2.out | exact belowDrewN _ HB2.out)) hlen1).mono ?_); rintro e w' ⟨rfl, n, rfl⟩))
          | (go_at_call 18; ((with_reducible refine (feval_c w.heap.size w.heap.size C cap2 _ m _ (by first | exact HTR.out | exact HTR.out.drewN _) (by assumption) HM.out (HR2.out.below (by first | exact HB2.out | exact belowDrewN _ HB2.out)) hlen2).mono ?_); rintro e w' ⟨rfl, n, rfl⟩))
          | (at_builtin; refine wpList_app _ rfl (.tmp 71) (.tmp 72) _ rfl w1.heap.size 5 i0 (.int .u8 0) 1 1 Try.underlying35 hi hz0 hz1 hz2 rfl (by decide) _ 1 [.int .u8 0] rfl (by exact OwnB.new _ _ [0] (by exact HBR.out.size) (by simp [maxLen])) w.heap.size A l.length cap (byt l) rfl (by simp [byt_len]) (HR.out.below (by exact ((belowDrewN _ HB2.out).alloc HB2.out.size _))) (byt_one l) (by omega) (by omega) (by have := HBR.out.size; simp; omega) ?_; intro v4 w4 hap4))
        have o4 : OwnB w4 w1.heap.size v4 ([0] ++ l) := OwnB.app (l := [0]) hap4
        have hb4 := hap4.below (OwnB.new _ _ [0] (by exact HBR.out.size) (by simp [maxLen])) (by have := HBR.out.size; simp; omega)
        have hb5 := ((belowDrewN _ HBR.out).alloc HBR.out.size _).trans hb4
        have HB4 := Lib.hid (HB.out.trans (hb5.mono HB.out.size))
        have HT4 := Lib.hid (HT.out.below hb5 (by have := HS.out; omega))
        obtain ⟨A4, cap4, rfl, hc4, hm4, hrd4⟩ := o4.rd
        have HR4 := Lib.hid hrd4
        have HL4 := Lib.hid (show ∀ c ∈ [0] ++ l, c < 256 from fun c hc => (List.mem_append.1 hc).elim (fun h => by simp at h; omega) (HL.out c))
        have hlen4 : ([0] ++ l).length ≤ 1000000 := by simp; omega
        clear hap4 o4 hb4 hb5 hrd4
        go_wp2_with (first
          | (go_at_call 18; ((with_reducible refine (feval_c w.heap.size w4.heap.size A4 cap4 _ ([0] ++ l) _ (by first | exact HT4.out | exact HT4.out.drewN _) (by assumption) HL4.out (HR4.out.below (by first | exact Below.refl _ _ | exact belowDrewN _ (Below.refl _ _))) hlen4).mono ?_); rintro e w' ⟨rfl, n, rfl⟩))
          | (go_at_call 18; ((with_reducible refine (feval_c w.heap.size w.heap.size A cap _ l _ (by first | exact HT4.out | exact HT4.out.drewN _) (by assumption) HL.out (HR.out.below (by first | exact HB4.out | exact belowDrewN _ HB4.out)) hlen1).mono ?_); rintro e w' ⟨rfl, n, rfl⟩))
          | (go_at_call 16; ((with_reducible refine (fmul_c w.heap.size _ _ _ (by first | exact HT4.out | exact HT4.out.drewN _) (by assumption) (by assumption)).mono ?_); rintro e w' ⟨rfl, n, rfl⟩))
          | (go_at_call 15; ((with_reducible refine (awake07_b _ w _ HB4.out).mono ?_); rintro e w5 ⟨rfl, hbel⟩)))
        go_ret
        exact ⟨rfl, hbel⟩
end Go.Proofs.Ytldanlglefgobaa
