/- NumSums: the walk. -/
import Derived.Test.YtcmahmlcoodfoaaRt2
import Derived.BigQuiet
namespace Go.Proofs.Ytcmahmlcoodfoaa
open Go.RowKit
set_option linter.unusedVariables false
theorem tenEnd_uniq {M k j : Nat} (h : TenEnd M k) (g : TenEnd M j) : k = j := by
  have key : ∀ {k j : Nat}, TenEnd M k → TenEnd M j → ¬ k < j := by
    intro k j h g hlt
    exact g.more (k + 1) (by omega) (by omega) h.last
  have := key h g
  have := key g h
  omega
noncomputable def lastTen (M : Nat) : Nat := @Classical.epsilon Nat ⟨0⟩ (TenEnd M)
theorem lastTen_eq {M k : Nat} (h : TenEnd M k) : k = lastTen M := tenEnd_uniq h (@Classical.epsilon_spec Nat (TenEnd M) ⟨k, h⟩)
noncomputable def txt (hi : Int) (lo : Nat) : ByteArray := bstr (textOf (decide (hi < 0)) (magOf hi lo) (lastTen (magOf hi lo)))
theorem text_d (hi : Int) (lo : Nat) (w : World) (h0 : -9223372036854775808 ≤ hi) (h1 : hi ≤ 9223372036854775807) (h2 : lo < 18446744073709551616) :
    Calls Try.prog 38 #[.agg #[.int .i64 hi, .int .u64 lo]] w fun e w' => e = .returned (.string (txt hi lo)) ∧ Below w.heap.size w w' := by
  refine (text_c hi lo w h0 h1 h2).mono ?_
  rintro e w' ⟨⟨k, hk, rfl⟩, hb⟩
  exact ⟨by rw [lastTen_eq hk]; rfl, hb⟩
theorem rtext_d (hi : Int) (lo : Nat) (w : World) (h0 : -9223372036854775808 ≤ hi) (h1 : hi ≤ 9223372036854775807) (h2 : lo < 18446744073709551616) :
    Calls Try.prog 39 #[.agg #[.int .i64 hi, .int .u64 lo]] w fun e w' => e = .returned (.string (txt hi lo)) ∧ Below w.heap.size w w' := by
  refine (rtext_c hi lo w h0 h1 h2).mono ?_
  rintro e w' ⟨⟨k, hk, rfl⟩, hb⟩
  exact ⟨by rw [lastTen_eq hk]; rfl, hb⟩
set_option maxRecDepth 100000 in
set_option maxHeartbeats 2000000 in
theorem numSums_core (ah bh zh G : Int) (al bl zl : Nat) (Lb : Bool) (Ta Tc : ByteArray) (w : World)
    (kadd : ∀ W, Calls Try.prog 34 #[.agg #[.int .i64 ah, .int .u64 al], .agg #[.int .i64 bh, .int .u64 bl]] W fun e w' => e = .returned (.tuple #[.agg #[.int .i64 zh, .int .u64 zl], .int .i64 G]) ∧ Below W.heap.size W w')
    (kradd : ∀ W, Calls Try.prog 35 #[.agg #[.int .i64 ah, .int .u64 al], .agg #[.int .i64 bh, .int .u64 bl]] W fun e w' => e = .returned (.tuple #[.agg #[.int .i64 zh, .int .u64 zl], .int .i64 G]) ∧ Below W.heap.size W w')
    (kl : ∀ W, Calls Try.prog 36 #[.agg #[.int .i64 ah, .int .u64 al], .agg #[.int .i64 bh, .int .u64 bl]] W fun e w' => e = .returned (.bool Lb) ∧ Below W.heap.size W w')
    (krl : ∀ W, Calls Try.prog 37 #[.agg #[.int .i64 ah, .int .u64 al], .agg #[.int .i64 bh, .int .u64 bl]] W fun e w' => e = .returned (.bool Lb) ∧ Below W.heap.size W w')
    (kta : ∀ W, Calls Try.prog 38 #[.agg #[.int .i64 ah, .int .u64 al]] W fun e w' => e = .returned (.string Ta) ∧ Below W.heap.size W w')
    (krta : ∀ W, Calls Try.prog 39 #[.agg #[.int .i64 ah, .int .u64 al]] W fun e w' => e = .returned (.string Ta) ∧ Below W.heap.size W w')
    (ktc : ∀ W, Calls Try.prog 38 #[.agg #[.int .i64 zh, .int .u64 zl]] W fun e w' => e = .returned (.string Tc) ∧ Below W.heap.size W w')
    (krtc : ∀ W, Calls Try.prog 39 #[.agg #[.int .i64 zh, .int .u64 zl]] W fun e w' => e = .returned (.string Tc) ∧ Below W.heap.size W w') :
    Calls Try.prog 9 #[.agg #[.int .i64 ah, .int .u64 al], .agg #[.int .i64 bh, .int .u64 bl]] w (Yes w) := by
  have KADD := Lib.hid kadd
  have KRADD := Lib.hid kradd
  have KL := Lib.hid kl
  have KRL := Lib.hid krl
  have KTA := Lib.hid kta
  have KRTA := Lib.hid krta
  have KTC := Lib.hid ktc
  have KRTC := Lib.hid krtc
  clear kadd kradd kl krl kta krta ktc krtc
  go_enter Try.func9, Try.ntmps9
  go_upto_region 1 with fail
  obtain ⟨Z, hZ⟩ : ∃ Z, Z = (w.alloc (.cells #[.int .i64 ah, .int .u64 al] 67)).alloc (.cells #[.int .i64 bh, .int .u64 bl] 67) := ⟨_, rfl⟩
  have hs : S2 Z w.heap.size (w.heap.size + 1) ah bh al bl Z := ⟨Below.refl _ _, by rw [hZ]; exact (Two.new _ _ _ _).alloc _, by rw [hZ]; have h := Two.new bh bl (w.alloc (.cells #[.int .i64 ah, .int .u64 al] 67)) 67; rw [show (w.alloc (.cells #[.int .i64 ah, .int .u64 al] 67)).heap.size = w.heap.size + 1 by simp] at h; exact h⟩
  have hzw : Below w.heap.size w Z := by rw [hZ]; exact ((Below.refl _ _).alloc (Nat.le_refl _) _).alloc (by simp) _
  try simp only [← hZ]
  have HS := Lib.hid hs
  have HZW := Lib.hid hzw
  clear hs hzw hZ
  have c0 := HS.out.2.1.1
  have c1 := HS.out.2.1.2
  have c2 := HS.out.2.2.1
  have c3 := HS.out.2.2.2
  go_wp2_with fail
  refine (KADD.out _).mono ?_
  rintro e w1 ⟨rfl, hb1⟩
  have H1 := Lib.hid (HS.out.next hb1)
  clear HS hb1 c0 c1 c2 c3
  have c0 : ∀ o, (w1.alloc o).cell? ⟨w.heap.size, 0, none⟩ = _ := fun o => (H1.out.2.1.alloc o).1
  have c1 : ∀ o, (w1.alloc o).cell? ⟨w.heap.size, 1, none⟩ = _ := fun o => (H1.out.2.1.alloc o).2
  have c2 : ∀ o, (w1.alloc o).cell? ⟨w.heap.size + 1, 0, none⟩ = _ := fun o => (H1.out.2.2.alloc o).1
  have c3 : ∀ o, (w1.alloc o).cell? ⟨w.heap.size + 1, 1, none⟩ = _ := fun o => (H1.out.2.2.alloc o).2
  go_wp2_with fail
  refine (KRADD.out _).mono ?_
  rintro e w2 ⟨rfl, hb2⟩
  have X2 := Lib.hid ((Two.new _ _ w1 _).next hb2)
  have H2 := Lib.hid ((H1.out.next ((Below.refl _ _).alloc (Nat.le_refl _) _)).next hb2)
  clear H1 hb2 c0 c1 c2 c3
  go_upto_region 3 with fail
  obtain ⟨Y, hY⟩ : ∃ Y, Y = w2.alloc (.cells #[.int .i64 zh, .int .u64 zl] 67) := ⟨_, rfl⟩
  have HY := Lib.hid (show S2 Z w.heap.size (w.heap.size + 1) ah bh al bl Y by rw [hY]; exact H2.out.next ((Below.refl _ _).alloc (Nat.le_refl _) _))
  have XY := Lib.hid (show Two w1.heap.size zh zl Y by rw [hY]; exact X2.out.alloc _)
  have VY := Lib.hid (show Two w2.heap.size zh zl Y by rw [hY]; exact Two.new _ _ _ _)
  rw [← hY]
  clear H2 X2 hY
  have c0 : ∀ x : Ext Y, x.wd.cell? ⟨w.heap.size, 0, none⟩ = some (.int .i64 ah) := fun x => x.cell HY.out.2.1.1
  have c1 : ∀ x : Ext Y, x.wd.cell? ⟨w.heap.size, 1, none⟩ = some (.int .u64 al) := fun x => x.cell HY.out.2.1.2
  have c2 : ∀ x : Ext Y, x.wd.cell? ⟨w.heap.size + 1, 0, none⟩ = some (.int .i64 bh) := fun x => x.cell HY.out.2.2.1
  have c3 : ∀ x : Ext Y, x.wd.cell? ⟨w.heap.size + 1, 1, none⟩ = some (.int .u64 bl) := fun x => x.cell HY.out.2.2.2
  have c4 : ∀ x : Ext Y, x.wd.cell? ⟨w1.heap.size, 0, none⟩ = some (.int .i64 zh) := fun x => x.cell XY.out.1
  have c5 : ∀ x : Ext Y, x.wd.cell? ⟨w1.heap.size, 1, none⟩ = some (.int .u64 zl) := fun x => x.cell XY.out.2
  have c6 : ∀ x : Ext Y, x.wd.cell? ⟨w2.heap.size, 0, none⟩ = some (.int .i64 zh) := fun x => x.cell VY.out.1
  have c7 : ∀ x : Ext Y, x.wd.cell? ⟨w2.heap.size, 1, none⟩ = some (.int .u64 zl) := fun x => x.cell VY.out.2
  refine wp_region_class (Ext.wd (w0 := Y)) (by kernel_rfl) (by kernel_rfl) (Ext.of (Below.refl _ _).drew) ?_
  repeat (go_big_quiet_step ((first
    | (go_at_call 36; with_reducible exact ext_call (KL.out _))
    | (go_at_call 37; with_reducible exact ext_call (KRL.out _))
    | (go_at_call 38; with_reducible exact ext_call (KTA.out _))
    | (go_at_call 39; with_reducible exact ext_call (KRTA.out _))
    | (go_at_call 38; with_reducible exact ext_call (KTC.out _))
    | (go_at_call 39; with_reducible exact ext_call (KRTC.out _))
    | (go_at_call 24; exact ext_call (awake01_c _)))))
  refine wpQuiet_nil ?_
  rintro _ ⟨x, rfl⟩
  go_wp2
  go_ret
  exact ⟨rfl, HZW.out.trans ((HY.out.1.trans (x.bel.mono HY.out.1.size)).mono HZW.out.size)⟩
theorem numSums_w (ah bh : Int) (al bl : Nat) (w : World) (ha0 : -9223372036854775808 ≤ ah) (ha1 : ah ≤ 9223372036854775807) (hb0 : -9223372036854775808 ≤ bh) (hb1 : bh ≤ 9223372036854775807) (hal : al < 18446744073709551616) (hbl : bl < 18446744073709551616) :
    Calls Try.prog 9 #[.agg #[.int .i64 ah, .int .u64 al], .agg #[.int .i64 bh, .int .u64 bl]] w (Yes w) := by
  have kadd := fun W => add_c ah bh al bl W ha0 ha1 hb0 hb1 hal hbl
  have kradd := fun W => radd_c ah bh al bl W ha0 ha1 hb0 hb1 hal hbl
  obtain ⟨zh, hzh⟩ : ∃ zh : Int, zh = (if sumOver ah bh al bl then 0 else sumHi ah bh al bl) := ⟨_, rfl⟩
  obtain ⟨zl, hzl⟩ : ∃ zl : Nat, zl = (if sumOver ah bh al bl then 0 else sumLo al bl) := ⟨_, rfl⟩
  have hzl2 : (if sumOver ah bh al bl then 0 else (sumLo al bl : Int)) = (zl : Int) := by rw [hzl]; split <;> rfl
  rw [hzl2, ← hzh] at kadd kradd
  have b1 : -9223372036854775808 ≤ zh ∧ zh ≤ 9223372036854775807 := by
    rw [hzh]
    split
    · omega
    · unfold sumHi wrap64; omega
  have b2 : zl < 18446744073709551616 := by
    rw [hzl]
    split
    · omega
    · unfold sumLo; omega
  exact numSums_core ah bh zh _ al bl zl _ _ _ w kadd kradd (fun W => less_c ah bh al bl W) (fun W => rless_c ah bh al bl W) (fun W => text_d ah al W ha0 ha1 hal) (fun W => rtext_d ah al W ha0 ha1 hal) (fun W => text_d zh zl W b1.1 b1.2 b2) (fun W => rtext_d zh zl W b1.1 b1.2 b2)
end Go.Proofs.Ytcmahmlcoodfoaa
