/- Contract: the document's Form. -/
import Derived.Test.YtcmahmlcoodfoaaFra2
import Derived.Test.YtcmahmlcoodfoaaFra3
namespace Go.Proofs.Ytcmahmlcoodfoaa
open Go.RowKit Go.Great
set_option linter.unusedVariables false
theorem rd_range {w : World} {g off : Nat} {l : List Nat} (h : w.rangeAt g off (byt l)) (B : Nat) (hB : g < B) : Rd w B (some ⟨g, off, none⟩) (byt l) := fun _ => ⟨_, rfl, hB, fun j u hu => by rw [Addr.add_mid]; exact h j u hu⟩
set_option maxRecDepth 100000 in
set_option maxHeartbeats 1000000 in
theorem fform_c (x : Fr) (B : Nat) (A : Option Addr) (c : Nat) (w : World) (hx : FrOk x) (hr : Rd w B A (byt x.d)) (hB : B ≤ w.heap.size) (hl : x.d.length ≤ 10000000) :
    Calls Try.prog 29 #[.agg (frV x (.slice A x.d.length c))] w (Gives (formF x) w) := by
  obtain ⟨i0, hi, hz0, hz1, hz2⟩ := info_parts byteInfo
  have HN := Lib.hid (len_f hx (.slice A x.d.length c))
  have HHD := Lib.hid (fun W => rhead_c x (.slice A x.d.length c) W hx)
  have HFB := Lib.hid (show ∀ W, Calls Try.prog 32 #[.int .u64 (x.b : Nat), .int .i64 8] W (Gives (form x.b 8) W) from fun W => rform_c x.b 8 W hx.b (by decide))
  have HFO := Lib.hid (show ∀ W, Calls Try.prog 32 #[.int .u64 (x.o : Nat), .int .i64 8] W (Gives (form x.o 8) W) from fun W => rform_c x.o 8 W hx.o (by decide))
  have HHL := Lib.hid (hdF_len x)
  have HX := Lib.hid hx
  have HL := Lib.hid hl
  have hkk : ((x.k : Int) == 72) = decide (x.k = 72) := by rw [Bool.eq_iff_iff]; simp only [beq_iff_eq, decide_eq_true_eq]; omega
  have hform : (decide (x.k = 72) = true → formF x = hdF x ++ form x.b 8 ++ form x.o 8 ++ x.p) ∧ (decide (x.k = 72) = false → formF x = hdF x ++ x.n ++ x.d) := by
    unfold formF
    constructor
    · intro h; rw [if_pos (of_decide_eq_true h)]
    · intro h; rw [if_neg (of_decide_eq_false h)]
  generalize decide (x.k = 72) = kH at *
  have HFM := Lib.hid hform
  clear hform hl
  cases kH
  all_goals
    go_enter Try.func29, Try.ntmps29
    go_upto_region 1 with (refine wpList_boxTo rfl 43 (.tmp 0) rfl (some 1) rfl w.heap.size rfl (frV x (.slice A x.d.length c)) rfl ?_)
    obtain ⟨Z, hZ⟩ : ∃ Z, Z = w.alloc (.cells (frV x (.slice A x.d.length c)) 43) := ⟨_, rfl⟩
    have hf : FrAt Z w.heap.size x (.slice A x.d.length c) := FrAt.of hx (by rw [hZ]; exact Blk.new _ _ _)
    have hb : Below w.heap.size w Z := by rw [hZ]; exact (Below.refl _ _).alloc (Nat.le_refl _) _
    have hrz : Rd Z B A (byt x.d) := hr.below (hb.mono hB)
    have hBZ : B ≤ Z.heap.size := Nat.le_trans hB hb.size
    rw [← hZ]
    clear hZ
    have HF := Lib.hid hf
    have HB := Lib.hid hb
    have HR := Lib.hid hrz
    have HBZ := Lib.hid hBZ
    clear hf hb hrz hBZ
    go_wp2_with (first
      | (refine wpList_loadG (by kernel_rfl) 43 (.tmp 1) rfl w.heap.size 0 rfl (frL x (.slice A x.d.length c)) _ HF.out.al Try.underlying43 rfl HN.out ?_)
      | (go_at_call 27; (refine (HHD.out _).mono ?_); rintro e w1 ⟨v1, rfl, ho, hb⟩; have HO1 := Lib.hid (show OwnB w1 Z.heap.size v1 (hdF x) from ho); have HB1 := Lib.hid (show Below Z.heap.size Z w1 from hb); have c0 := (HF.out.below hb HF.out.lt (Nat.le_refl _)).c0; have c4 := (HF.out.below hb HF.out.lt (Nat.le_refl _)).c4; clear ho hb)
      | (go_at_call 32; (with_reducible refine (HFB.out _).mono ?_); rintro e w2 ⟨v2, rfl, ho, hb⟩; have HO2 := Lib.hid (HO1.out.next hb); obtain ⟨A2, k2, rfl, _, _, r⟩ := ho.rd; have HR2 := Lib.hid r; have HB2 := Lib.hid (show Below Z.heap.size Z w2 from HB1.out.trans (hb.mono HB1.out.size)); clear ho hb r)
      | (at_builtin; refine wpList_app _ rfl (.tmp 9) (.tmp 12) _ rfl Z.heap.size 5 i0 (.int .u8 0) 1 1 Try.underlying35 hi hz0 hz1 hz2 rfl (by decide) _ (hdF x).length (byt (hdF x)) rfl (by exact HO2.out) w2.heap.size A2 (form x.b 8).length k2 (byt (form x.b 8)) rfl (by simp [byt_len, form_len]) (by exact HR2.out) (byt_one _) (by simp [form_len, HHL.out]) (by simp [form_len, HHL.out]) (by exact HB2.out.size) ?_; intro v3 w3 hap; have HO3 := Lib.hid (show OwnB w3 Z.heap.size v3 (hdF x ++ (form x.b 8)) from OwnB.app (hap)); have HB3 := Lib.hid (show Below Z.heap.size Z w3 from HB2.out.trans (hap.below HO2.out HB2.out.size)); have c5 := (HF.out.below HB3.out HF.out.lt (Nat.le_refl _)).c5; clear hap)
      | (go_at_call 32; (with_reducible refine (HFO.out _).mono ?_); rintro e w4 ⟨v4, rfl, ho, hb⟩; have HO4 := Lib.hid (HO3.out.next hb); obtain ⟨A4, k4, rfl, _, _, r⟩ := ho.rd; have HR4 := Lib.hid r; have HB4 := Lib.hid (show Below Z.heap.size Z w4 from HB3.out.trans (hb.mono HB3.out.size)); clear ho hb r)
      | (at_builtin; refine wpList_app _ rfl (.tmp 14) (.tmp 17) _ rfl Z.heap.size 5 i0 (.int .u8 0) 1 1 Try.underlying35 hi hz0 hz1 hz2 rfl (by decide) _ (hdF x ++ form x.b 8).length (byt (hdF x ++ form x.b 8)) rfl (by exact HO4.out) w4.heap.size A4 (form x.o 8).length k4 (byt (form x.o 8)) rfl (by simp [byt_len, form_len]) (by exact HR4.out) (byt_one _) (by simp [form_len, HHL.out]) (by simp [form_len, HHL.out]) (by exact HB4.out.size) ?_; intro v5 w5 hap; have HO5 := Lib.hid (show OwnB w5 Z.heap.size v5 (hdF x ++ form x.b 8 ++ (form x.o 8)) from OwnB.app (hap)); have HB5 := Lib.hid (show Below Z.heap.size Z w5 from HB4.out.trans (hap.below HO4.out HB4.out.size)); clear hap)
      | (at_builtin; refine wpList_app _ rfl (.tmp 19) (.tmp 21) _ rfl Z.heap.size 5 i0 (.int .u8 0) 1 1 Try.underlying35 hi hz0 hz1 hz2 rfl (by decide) _ (hdF x ++ form x.b 8 ++ form x.o 8).length (byt (hdF x ++ form x.b 8 ++ form x.o 8)) rfl (by exact HO5.out) (w.heap.size + 1) (some ⟨w.heap.size, 6, none⟩) 32 32 (byt x.p) rfl (by simp [byt_len, HX.out.p]) (by exact rd_range (HF.out.below HB5.out HF.out.lt (Nat.le_refl _)).cp _ (Nat.lt_succ_self _)) (byt_one _) (by simp [form_len, HHL.out]) (by simp [form_len, HHL.out]) (by exact HB5.out.size) ?_; intro v6 w6 hap; have HO6 := Lib.hid (show OwnB w6 Z.heap.size v6 (hdF x ++ form x.b 8 ++ form x.o 8 ++ x.p) from OwnB.app (by rw [HX.out.p]; exact hap)); have HB6 := Lib.hid (show Below Z.heap.size Z w6 from HB5.out.trans (hap.below HO5.out HB5.out.size)); clear hap)
      | (at_builtin; refine wpList_app _ rfl (.tmp 23) (.tmp 25) _ rfl Z.heap.size 5 i0 (.int .u8 0) 1 1 Try.underlying35 hi hz0 hz1 hz2 rfl (by decide) _ (hdF x).length (byt (hdF x)) rfl (by exact HO1.out) (w.heap.size + 1) (some ⟨w.heap.size, 38, none⟩) 12 12 (byt x.n) rfl (by simp [byt_len, HX.out.n]) (by exact rd_range (HF.out.below HB1.out HF.out.lt (Nat.le_refl _)).cn _ (Nat.lt_succ_self _)) (byt_one _) (by simp [form_len, HHL.out]) (by simp [form_len, HHL.out]) (by exact HB1.out.size) ?_; intro v7 w7 hap; have HO7 := Lib.hid (show OwnB w7 Z.heap.size v7 (hdF x ++ x.n) from OwnB.app (by rw [HX.out.n]; exact hap)); have HB7 := Lib.hid (show Below Z.heap.size Z w7 from HB1.out.trans (hap.below HO1.out HB1.out.size)); have cd := (HF.out.below HB7.out HF.out.lt (Nat.le_refl _)).cd; clear hap)
      | (at_builtin; refine wpList_app _ rfl (.tmp 27) (.tmp 29) _ rfl Z.heap.size 5 i0 (.int .u8 0) 1 1 Try.underlying35 hi hz0 hz1 hz2 rfl (by decide) _ (hdF x ++ x.n).length (byt (hdF x ++ x.n)) rfl (by exact HO7.out) B A x.d.length c (byt x.d) rfl (by simp [byt_len, byt_len]) (by exact HR.out.below (HB7.out.mono HBZ.out)) (byt_one _) (by have := HL.out; simp [HHL.out, HX.out.n]; omega) (by have := HL.out; simp [HHL.out, HX.out.n]; omega) (by exact HB7.out.size) ?_; intro v8 w8 hap; have HO8 := Lib.hid (show OwnB w8 Z.heap.size v8 (hdF x ++ x.n ++ x.d) from OwnB.app (hap)); have HB8 := Lib.hid (show Below Z.heap.size Z w8 from HB7.out.trans (hap.below HO7.out HB7.out.size)); clear hap))
    go_ret
    first
      | exact ⟨v6, rfl, by rw [HFM.out.1 (by simp)]; exact HO6.out.base HB.out.size, HB.out.trans (HB6.out.mono HB.out.size)⟩
      | exact ⟨v8, rfl, by rw [HFM.out.2 (by simp)]; exact HO8.out.base HB.out.size, HB.out.trans (HB8.out.mono HB.out.size)⟩
end Go.Proofs.Ytcmahmlcoodfoaa
