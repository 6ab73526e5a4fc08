/- ChainSteps: the walk. -/
import Derived.Test.YthlmlmkabjppeaaDoorCh4
namespace Go.Proofs.YthlmlmkabjppeaaDoor
open Go.RowKit
set_option linter.unusedVariables false
set_option linter.unusedSimpArgs false
set_option maxRecDepth 100000 in
set_option maxHeartbeats 8000000 in
theorem chainSteps_w (k : List Nat) (m a b : Nat) (w : World) (hk : k.length = 32) (hkl : ∀ c ∈ k, c < 256) (hm : m < 65536) (ha : a < 256) (hb : b < 256) (hR : RoundsAt w) :
    Calls Tryd.prog 9 #[.agg (vb k), .int .u16 (m : Nat), .int .u8 (a : Nat), .int .u8 (b : Nat)] w fun e w' => e = .returned (.bool true) ∧ Below w.heap.size w w' := by
  have zf := zero_chain
  have zs1 := chV_size 0 zL zL_len
  have zs2 : ¬ chV 0 zL = #[] := by intro h; have := congrArg Array.size h; rw [zs1] at this; cases this
  have ksz : (vb k).size = 32 := by rw [vb_size, hk]
  obtain ⟨Z, hZ⟩ : ∃ Z, Z = (w.alloc (Obj.cells (vb k) 47)) := ⟨_, rfl⟩
  have B0 := Lib.hid (show Below w.heap.size w Z by rw [hZ]; exact (Below.refl _ _).alloc (Nat.le_refl _) _)
  have KZ := Lib.hid (show Blk Z w.heap.size 47 (vb k) by rw [hZ]; exact Blk.new w _ _)
  have HRO := Lib.hid hR
  have HIK := Lib.hid (show (Tryd.prog.info? 47).map (·.size) = some (byt k).length by rw [byt_len, hk]; kernel_rfl)
  have HIC := Lib.hid (chLInfo m hk)
  have HAW := Lib.hid awake20_c
  have HBC := Lib.hid (built_chain m k hk)
  -- the steps
  obtain ⟨A, hA⟩ : ∃ A, A = a % 20 := ⟨_, rfl⟩
  obtain ⟨B, hB⟩ : ∃ B, B = b % 20 := ⟨_, rfl⟩
  have hA20 : A < 20 := by omega
  have hB20 : B < 20 := by omega
  have ra : (a : Int) % 20 = (A : Int) := by omega
  have rb : (b : Int) % 20 = (B : Int) := by omega
  have ra2 : Int.tmod (a : Int) 20 = (A : Int) := by rw [Int.tmod_eq_emod_of_nonneg (by omega)]; exact ra
  have rb2 : Int.tmod (b : Int) 20 = (B : Int) := by rw [Int.tmod_eq_emod_of_nonneg (by omega)]; exact rb
  have t1 := toN_ok (n := m) (i := m + A) (j := A) rfl (by omega) (.inr (by omega))
  have t2 := toN_ok (n := m + A) (i := m + A + B) (j := B) rfl (by omega) (.inr (by omega))
  have t3 := toN_ok (n := m) (i := m + A + B) (j := A + B) (by omega) (by omega) (.inr (by omega))
  have HT1 := Lib.hid (fun W (h : RoundsAt W) => to_c m k (m + A) W hk hkl (by omega) (by omega) h)
  rw [t1.1, t1.2.1, t1.2.2] at HT1
  have HT2 := Lib.hid (fun W (h : RoundsAt W) => to_c (m + A) (kj k m A) (m + A + B) W (kj_len hk m A) (kj_lt hkl m A) (by omega) (by omega) h)
  rw [t2.1, t2.2.1, t2.2.2, ← kj_add] at HT2
  have HT3 := Lib.hid (fun W (h : RoundsAt W) => to_c m k (m + A + B) W hk hkl (by omega) (by omega) h)
  rw [t3.1, t3.2.1, t3.2.2] at HT3
  have HT4 := Lib.hid (fun W (h : RoundsAt W) => to_c (m + (A + B)) (kj k m (A + B)) m W (kj_len hk m _) (kj_lt hkl m _) (by omega) (by omega) h)
  have hz : toE (m + (A + B)) m = if A + B = 0 then 0 else 13 := by
    unfold toE
    by_cases h0 : A + B = 0
    · rw [if_pos h0, if_neg (by omega), if_neg (by omega), if_pos (.inl (by omega))]
    · rw [if_neg h0, if_pos (by omega)]
  have hKJ := kj_len hk m A
  have hKJ2 := kj_len hk m (A + B)
  have hKT2 := kj_lt hkl m (A + B)
  have HLL := Lib.hid (toK_len (kj_len hk m (A + B)) (m + (A + B)) m)
  generalize toE (m + (A + B)) m = E4 at *
  generalize toN (m + (A + B)) m = XN at *
  generalize toK (m + (A + B)) (kj k m (A + B)) m = XK at *
  generalize kj k m (A + B) = K2 at *
  generalize kj k m A = K1 at *
  have HK1 := Lib.hid hKJ
  have HK2 := Lib.hid hKJ2
  have HE := fun w => run_equalIn_chain (m + (A + B)) (m + (A + B)) K2 K2 (by omega) (by omega) hKJ2 hKJ2 hKT2 hKT2 w
  simp only [and_self, decide_true] at HE
  have h1a : m + A < 70000 := by omega
  have h1b : m + A + B < 70000 := by omega
  have hAB : A + B < 40 := by omega
  rw [show m + A + B = m + (A + B) by omega] at HT2 HT3
  obtain ⟨M1, hM1⟩ : ∃ M1, M1 = m + A := ⟨_, rfl⟩
  obtain ⟨M2, hM2⟩ : ∃ M2, M2 = m + (A + B) := ⟨_, rfl⟩
  obtain ⟨S, hS⟩ : ∃ S, S = A + B := ⟨_, rfl⟩
  rw [← hM1] at HT1
  rw [← hM2] at HT2 HT3 HE
  rw [← hS] at hM2
  rw [← hS, ← hM2] at HT4
  rw [← hM1] at HT2
  have e1 : IntKind.u64.wrap ((m : Int) + (A : Int)) = (M1 : Int) := by simp [IntKind.wrap, IntKind.signed, IntKind.bits]; omega
  have e2 : IntKind.u64.wrap ((M1 : Int) + (B : Int)) = (M2 : Int) := by simp [IntKind.wrap, IntKind.signed, IntKind.bits]; omega
  have e3 : IntKind.u8.wrap ((A : Int) + (B : Int)) = (S : Int) := by simp [IntKind.wrap, IntKind.signed, IntKind.bits]; omega
  have HI1 := Lib.hid (chLInfo M1 hKJ)
  have HI2 := Lib.hid (chLInfo M2 hKJ2)
  have u1 : IntKind.u64.wrap (m : Int) = (m : Int) := by simp [IntKind.wrap, IntKind.signed, IntKind.bits]; omega
  have uA : IntKind.u64.wrap (A : Int) = (A : Int) := by simp [IntKind.wrap, IntKind.signed, IntKind.bits]; omega
  have uB : IntKind.u64.wrap (B : Int) = (B : Int) := by simp [IntKind.wrap, IntKind.signed, IntKind.bits]; omega
  have HKL := Lib.hid hk
  have HZ4 := Lib.hid hz
  rw [← hS] at HZ4
  clear hkl hR t1 t2 t3 hKJ hKJ2 hKT2 hA hB hM1 hM2 hz
  go_enter Tryd.func9, Tryd.ntmps9
  go_upto_region 1 with fail
  rw [← hZ]
  clear hZ
  go_upto_region 2 with (first
    | (refine wpList_loadG rfl 47 (.tmp 4) rfl w.heap.size 0 rfl (byt k) _ (by exact rangeAt_blk KZ.out) Tryd.underlying47 rfl HIK.out ?_)
    | (refine wpList_valG (by kernel_rfl) (.agg (chV m k)) (run_built _ 52 _ _ HBC.out #[(0, .tmp 20), (1, .tmp 21)] rfl (by kernel_rfl)) ?_)
    | (refine wpList_store_rowTo rfl 52 (.tmp 9) (.tmp 22) rfl rfl Z.heap.size (chV m k) rfl rfl 52 (chV 0 zL) (by exact Blk.new _ _ _) (chInfo m HKL.out) (by rw [chV_size _ _ HKL.out]; rfl) (chV_one _ _) ?_; have hnc := new_chain Z m k; obtain ⟨Y0, hY0⟩ : ∃ Y, Y = (Z.alloc (Obj.cells (chV 0 zL) 52)).setRow Z.heap.size (chV m k) := ⟨_, rfl⟩; rw [← hY0] at hnc; rw [← hY0]; have C0 := Lib.hid hnc.1; have D0 := Lib.hid (B0.out.trans (hnc.2.mono B0.out.size)); clear hnc hY0))
  have c0 := chC0 C0.out
  have HR0 := Lib.hid (HRO.out.next D0.out)
  go_upto_region 3 with (first
    | (refine wpList_loadC rfl (.tmp 9) rfl Z.heap.size rfl m k C0.out HIC.out ?_)
    | (go_at_call 33; (refine (HT1.out _ HR0.out).mono ?_); rintro e w1 ⟨rfl, hb⟩; have C1p := Lib.hid (C0.out.below hb C0.out.lt); have D1p := Lib.hid (D0.out.trans (hb.mono D0.out.size)); clear hb)
    | (refine wpList_store_rowTo rfl 52 (.tmp 10) (.tmp 32) rfl rfl w1.heap.size (chV M1 K1) rfl rfl 52 (chV 0 zL) (by exact Blk.new _ _ _) (chInfo M1 HK1.out) (by first | rfl | (rw [chV_size _ _ (HK1.out)]; rfl)) (chV_one _ _) ?_; have hnc := new_chain w1 M1 K1; obtain ⟨Y1, hY1⟩ : ∃ Y, Y = (w1.alloc (Obj.cells (chV 0 zL) 52)).setRow w1.heap.size (chV M1 K1) := ⟨_, rfl⟩; rw [← hY1] at hnc; rw [← hY1]; have P1 := Lib.hid hnc.1; have C1 := Lib.hid (C1p.out.below hnc.2 C1p.out.lt); have D1 := Lib.hid (D1p.out.trans (hnc.2.mono D1p.out.size)); clear hnc hY1))
  have c1 := chC0 C1.out
  have HR1 := Lib.hid (HRO.out.next D1.out)
  have p1 := chC0 P1.out
  go_upto_region 4 with (first
    | (refine wpList_loadC rfl (.tmp 10) rfl w1.heap.size rfl M1 K1 P1.out HI1.out ?_)
    | (go_at_call 33; (refine (HT2.out _ HR1.out).mono ?_); rintro e w2 ⟨rfl, hb⟩; have C2p := Lib.hid (C1.out.below hb C1.out.lt); have P2p := Lib.hid (P1.out.below hb P1.out.lt); have D2p := Lib.hid (D1.out.trans (hb.mono D1.out.size)); clear hb)
    | (refine wpList_store_rowTo rfl 52 (.tmp 12) (.tmp 43) rfl rfl w2.heap.size (chV M2 K2) rfl rfl 52 (chV 0 zL) (by exact Blk.new _ _ _) (chInfo M2 HK2.out) (by first | rfl | (rw [chV_size _ _ (HK2.out)]; rfl)) (chV_one _ _) ?_; have hnc := new_chain w2 M2 K2; obtain ⟨Y2, hY2⟩ : ∃ Y, Y = (w2.alloc (Obj.cells (chV 0 zL) 52)).setRow w2.heap.size (chV M2 K2) := ⟨_, rfl⟩; rw [← hY2] at hnc; rw [← hY2]; have Q2 := Lib.hid hnc.1; have C2 := Lib.hid (C2p.out.below hnc.2 C2p.out.lt); have P2 := Lib.hid (P2p.out.below hnc.2 P2p.out.lt); have D2 := Lib.hid (D2p.out.trans (hnc.2.mono D2p.out.size)); clear hnc hY2))
  have c2 := chC0 C2.out
  have HR2 := Lib.hid (HRO.out.next D2.out)
  go_upto_region 5 with (first
    | (refine wpList_loadC rfl (.tmp 9) rfl Z.heap.size rfl m k C2.out HIC.out ?_)
    | (go_at_call 33; (refine (HT3.out _ HR2.out).mono ?_); rintro e w3 ⟨rfl, hb⟩; have C3p := Lib.hid (C2.out.below hb C2.out.lt); have P3p := Lib.hid (P2.out.below hb P2.out.lt); have Q3p := Lib.hid (Q2.out.below hb Q2.out.lt); have D3p := Lib.hid (D2.out.trans (hb.mono D2.out.size)); clear hb)
    | (refine wpList_store_rowTo rfl 52 (.tmp 14) (.tmp 58) rfl rfl w3.heap.size (chV M2 K2) rfl rfl 52 (chV 0 zL) (by exact Blk.new _ _ _) (chInfo M2 HK2.out) (by first | rfl | (rw [chV_size _ _ (HK2.out)]; rfl)) (chV_one _ _) ?_; have hnc := new_chain w3 M2 K2; obtain ⟨Y3, hY3⟩ : ∃ Y, Y = (w3.alloc (Obj.cells (chV 0 zL) 52)).setRow w3.heap.size (chV M2 K2) := ⟨_, rfl⟩; rw [← hY3] at hnc; rw [← hY3]; have R3 := Lib.hid hnc.1; have C3 := Lib.hid (C3p.out.below hnc.2 C3p.out.lt); have P3 := Lib.hid (P3p.out.below hnc.2 P3p.out.lt); have Q3 := Lib.hid (Q3p.out.below hnc.2 Q3p.out.lt); have D3 := Lib.hid (D3p.out.trans (hnc.2.mono D3p.out.size)); clear hnc hY3))
  have c3 := chC0 C3.out
  have HR3 := Lib.hid (HRO.out.next D3.out)
  go_upto_region 6 with (first
    | (refine wpList_loadC rfl (.tmp 12) rfl w2.heap.size rfl M2 K2 Q3.out HI2.out ?_)
    | (go_at_call 33; (refine (HT4.out _ HR3.out).mono ?_); rintro e w4 ⟨rfl, hb⟩; have C4p := Lib.hid (C3.out.below hb C3.out.lt); have P4p := Lib.hid (P3.out.below hb P3.out.lt); have Q4p := Lib.hid (Q3.out.below hb Q3.out.lt); have R4p := Lib.hid (R3.out.below hb R3.out.lt); have D4p := Lib.hid (D3.out.trans (hb.mono D3.out.size)); clear hb)
    | (refine wpList_store_rowTo rfl 52 (.tmp 16) (.tmp 65) rfl rfl w4.heap.size (chV XN XK) rfl rfl 52 (chV 0 zL) (by exact Blk.new _ _ _) (chInfo XN HLL.out) (by first | rfl | (rw [chV_size _ _ (HLL.out)]; rfl)) (chV_one _ _) ?_; have hnc := new_chain w4 XN XK; obtain ⟨Y4, hY4⟩ : ∃ Y, Y = (w4.alloc (Obj.cells (chV 0 zL) 52)).setRow w4.heap.size (chV XN XK) := ⟨_, rfl⟩; rw [← hY4] at hnc; rw [← hY4]; have U4 := Lib.hid hnc.1; have C4 := Lib.hid (C4p.out.below hnc.2 C4p.out.lt); have P4 := Lib.hid (P4p.out.below hnc.2 P4p.out.lt); have Q4 := Lib.hid (Q4p.out.below hnc.2 Q4p.out.lt); have R4 := Lib.hid (R4p.out.below hnc.2 R4p.out.lt); have D4 := Lib.hid (D4p.out.trans (hnc.2.mono D4p.out.size)); clear hnc hY4))
  have HR4 := Lib.hid (HRO.out.next D4.out)
  by_cases h0 : S = 0
  · have hS0 : (S : Int) = 0 := by omega
    have hE0 : (E4 : Int) = 0 := by have := HZ4.out; rw [if_pos h0] at this; omega
    clear h0
    go_wp2_with (first
      | (refine wpList_loadC rfl (.tmp 12) rfl w2.heap.size rfl M2 K2 Q4.out HI2.out ?_)
      | (refine wpList_loadC rfl (.tmp 14) rfl w3.heap.size rfl M2 K2 R4.out HI2.out ?_)
      | (go_at_call 35; (refine (HAW.out _ HR4.out).mono ?_); rintro e w5 ⟨rfl, hb⟩; have D5 := Lib.hid (D4.out.trans (hb.mono D4.out.size)); clear hb))
    go_ret
    exact ⟨rfl, D5.out⟩
  · have h0' : ¬ ((S : Int) = 0) := by omega
    have hE0 : (E4 : Int) = 13 := by have := HZ4.out; rw [if_neg h0] at this; omega
    clear h0
    go_wp2_with (first
      | (refine wpList_loadC rfl (.tmp 12) rfl w2.heap.size rfl M2 K2 Q4.out HI2.out ?_)
      | (refine wpList_loadC rfl (.tmp 14) rfl w3.heap.size rfl M2 K2 R4.out HI2.out ?_)
      | (go_at_call 35; (refine (HAW.out _ HR4.out).mono ?_); rintro e w5 ⟨rfl, hb⟩; have D5 := Lib.hid (D4.out.trans (hb.mono D4.out.size)); clear hb))
    go_ret
    exact ⟨rfl, D5.out⟩
end Go.Proofs.YthlmlmkabjppeaaDoor
