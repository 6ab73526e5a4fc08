/- Contract: sealed, by the document. -/
import Derived.Test.YtfblpkjablgafaaDoorCd0
import Derived.Test.YtfblpkjablgafaaDoorRtM
import Derived.Test.YtfblpkjablgafaaDoorCe1
namespace Go.Proofs.YtfblpkjablgafaaDoor
open Go.RowKit
set_option linter.unusedVariables false
set_option linter.unusedSimpArgs false
theorem zero_b32 (w : World) : (zeroValue 22).run Tryd.prog w = .ok (.agg (vb (List.replicate 32 0))) w := by kernel_rfl
theorem b32Sz {L : List Nat} (h : L.length = 32) : (Tryd.prog.info? 22).map (·.size) = some (vb L).size := by rw [vb_size, h]; kernel_rfl
/-- zeros up to a multiple of 16 -/
theorem pad_step (n j : Nat) (h : j < padN n) : (n + j) % 16 ≠ 0 := by unfold padN at h; omega
theorem pad_end (n : Nat) : (n + padN n) % 16 = 0 := by unfold padN; omega
theorem pad_more (n m : Nat) (h : n % 16 = 0) : padN (n + m) = padN m := by unfold padN; omega
theorem zs_snoc (l : List Nat) (j : Nat) : l ++ zs (j + 1) = (l ++ zs j) ++ [0] := by
  unfold zs
  rw [List.replicate_succ', List.append_assoc]
theorem mapZ_getD (l : List Nat) (n : Nat) (h : n ≤ l.length) : (List.range n).map (fun i => l.getD i 0) = l.take n := by
  apply List.ext_getElem
  · simp; omega
  · intro i h1 h2
    simp at h1
    simp [List.getD_eq_getElem?_getD, List.getElem?_eq_getElem (show i < l.length by omega)]
set_option maxRecDepth 100000 in
set_option maxHeartbeats 16000000 in
theorem rseal_c (A1 A2 : Option Addr) (c1 c2 : Nat) (k nonce beside plain : List Nat) (w : World) (hk : k.length = 32) (hkl : ∀ c ∈ k, c < 256) (hc : nonce.length = 12) (hcl : ∀ c ∈ nonce, c < 256)
    (hr1 : Rd w w.heap.size A1 (byt beside)) (hr2 : Rd w w.heap.size A2 (byt plain)) (hb1 : ∀ c ∈ beside, c < 256) (hb2 : ∀ c ∈ plain, c < 256) (hl1 : beside.length ≤ 4200) (hl2 : plain.length ≤ 4200) :
    Calls Tryd.prog 12 #[.agg (vb k), .agg (vb nonce), .slice A1 beside.length c1, .slice A2 plain.length c2] w (Gives (sealL k nonce beside plain) w) := by
  obtain ⟨i0, hib, hz0, hz1, hz2⟩ := info_parts byteInfo
  have zf := zero_b32
  have zs1 : (vb (List.replicate 32 0)).size = 32 := by rfl
  have zs2 : ¬ vb (List.replicate 32 0) = #[] := by intro h; have := congrArg Array.size h; rw [zs1] at this; cases this
  have zt := zero_t16
  have zt1 : zT.size = 16 := by rfl
  have zt2 : ¬ zT = #[] := by intro h; have := congrArg Array.size h; rw [zt1] at this; cases this
  have HIK := Lib.hid (b32Sz hk)
  have HIN := Lib.hid (n12Sz hc)
  have HXC := Lib.hid (fun W (hW : Below w.heap.size w W) => rxor_c w.heap.size A2 c2 k nonce 1 plain W hk hkl (by decide) hc hcl (hr2.below hW) hW.size hb2 (by omega))
  have HBC := Lib.hid (fun W => rblock_c k 0 nonce W hk hkl (by decide) hc hcl)
  have HBL := Lib.hid (blkL_len k 0 nonce)
  have HBT := Lib.hid (blkL_lt k 0 nonce)
  have HXL := Lib.hid (xorL_len k nonce 1 plain)
  have HXT := Lib.hid (xorL_lt k nonce 1 hb2)
  have HSL := Lib.hid (show sealL k nonce beside plain = xorL k nonce 1 plain ++ polT ((blkL k 0 nonce).take 32) (taggedL beside (xorL k nonce 1 plain)) from rfl)
  have HR1 := Lib.hid hr1
  have HB1L := Lib.hid hb1
  have f1 : IntKind.u64.wrap (beside.length : Int) = (beside.length : Int) := by simp [IntKind.wrap, IntKind.signed, IntKind.bits]; omega
  have f2 : IntKind.u64.wrap (plain.length : Int) = (plain.length : Int) := by simp [IntKind.wrap, IntKind.signed, IntKind.bits]; omega
  clear hkl hcl hr1 hr2 hb1 hb2 hk hc
  generalize xorL k nonce 1 plain = un at *
  generalize blkL k 0 nonce = bl at *
  generalize sealL k nonce beside plain = res at *
  have hbx := Rbx.begin2 w k nonce
  go_enter Tryd.func12, Tryd.ntmps12
  go_upto_region 1 with (first
    | (refine Go.Great.wpList_boxTo rfl 22 (.tmp 0) rfl (some 4) rfl w.heap.size rfl (vb k) rfl ?_)
    | (refine Go.Great.wpList_boxTo rfl 24 (.tmp 1) rfl (some 5) rfl (w.heap.size + 1) (by simp) (vb nonce) rfl ?_))
  generalize (w.alloc (Obj.cells (vb k) 22)).alloc (Obj.cells (vb nonce) 24) = Z at *
  have HB := Lib.hid hbx
  clear hbx
  go_upto_region 3 with (first
    | (refine wpList_load_row rfl 22 (.tmp 4) rfl w.heap.size rfl 22 (vb k) (0, 0) _ (by first | exact HB.out.kA | exact HBX.out.kA) Tryd.underlying22 rfl HIK.out ?_)
    | (refine wpList_load_row rfl 24 (.tmp 5) rfl (w.heap.size + 1) rfl 24 (vb nonce) (0, 0) _ (by first | exact HB.out.nA | exact HBX.out.nA) Tryd.underlying24 rfl HIN.out ?_)
    | (go_at_call 21; (refine (HXC.out Z HB.out.bel).mono ?_); rintro e W1 ⟨v1, rfl, ho, hb⟩; have HO1 := Lib.hid (own_base_le ho HB.out.sz); have HBX := Lib.hid (HB.out.next (hb.mono HB.out.sz)); clear ho hb)
    | (go_at_call 22; (refine (HBC.out W1).mono ?_); rintro e W2 ⟨v2, rfl, ho, hb⟩; have HU2 := Lib.hid (OwnB.next HO1.out hb); have HW2 := Lib.hid (HBX.out.bel.trans (hb.mono HBX.out.bel.size)); have HSZ2 := Lib.hid (Nat.le_trans HBX.out.sz hb.size); obtain ⟨A10, c10, rfl, _, _, r10⟩ := ho.rd; obtain ⟨ad10, rfl, _, _⟩ := r10.byte (k := 0) (by rw [HBL.out]; decide); rw [HBL.out]; have HK10 := Lib.hid r10; clear ho hb r10))
  clear HB HBX HO1 HXC HBC HIK HIN
  have HR12 := Lib.hid (HR1.out.below HW2.out)
  clear HR1
  go_wp2_with fail
  go_loopw [12] (fun i wr => ∃ j : Nat, j ≤ 32 ∧ i = .int .i64 j ∧ Below W2.heap.size W2 wr ∧ Blk wr W2.heap.size 22 (vb (mapZ (fun i => bl.getD i 0) 32 j))) (fun i _ => 32 - (intOf i).toNat)
  case atStart => exact ⟨0, by omega, rfl, (Below.refl _ _).alloc (Nat.le_refl _) _, by rw [mapZ_zero]; exact Blk.new W2 _ _⟩
  case round =>
    rename World => wr
    obtain ⟨j, hj, rfl, hb, hB⟩ := hrel
    have HB := Lib.hid hb
    have HBK := Lib.hid hB
    clear hb hB
    by_cases hlt : j < 32
    · have p1 : (j : Int) < 32 := by omega
      have p2 : (j : Int) < 64 := by omega
      have e0 := rd_cell (HK10.out.below HB.out) j (by rw [HBL.out]; omega)
      have e1 := (HBK.out.cell j).trans (vb_at _ j (by rw [mapZ_len _ _ _ hj]; exact hlt))
      have e2 := HBK.out.free j
      have HZS := Lib.hid (mapZ_set (fun i => bl.getD i 0) 32 j hlt)
      have HBS := Lib.hid (HBK.out.set_ j (.int .u8 (bl.getD j 0 : Nat)))
      have hx := getD_lt HBT.out j
      generalize (mapZ (fun i => bl.getD i 0) 32 j).getD j 0 = old at *
      generalize bl.getD j 0 = x at *
      go_wp2_with fail
      go_roundw
      case rel => exact ⟨j + 1, by omega, by go_num, HB.out.setCell (by show W2.heap.size ≤ W2.heap.size; exact Nat.le_refl _) _, by have h := HBS.out; rw [vb_set, HZS.out] at h; exact h⟩
      case measure => simp only [intOf]; omega
    · obtain rfl : j = 32 := by omega
      have hmz : mapZ (fun i => bl.getD i 0) 32 32 = bl.take 32 := by rw [mapZ_end, mapZ_getD _ _ (by rw [HBL.out]; decide)]
      rw [hmz] at HBK
      clear hmz hlt
      have HU := Lib.hid (OwnB.next HU2.out HB.out)
      have HR := Lib.hid (HR12.out.below (HB.out.mono (by have := HW2.out.size; omega)))
      have HW := Lib.hid (HW2.out.trans (HB.out.mono HW2.out.size))
      have HWS := Lib.hid (show w.heap.size + 1 + 1 ≤ wr.heap.size from Nat.le_trans HSZ2.out HB.out.size)
      have HK32 := Lib.hid (show (bl.take 32).length = 32 by rw [List.length_take, HBL.out]; rfl)
      have HKT := Lib.hid (show ∀ c ∈ bl.take 32, c < 256 from fun c hc => HBT.out c (List.mem_of_mem_take hc))
      generalize W2.heap.size = gK at *
      clear HU2 HR12 HW2 HB HK10 HBL HBT
      generalize wr = X at *
      generalize bl.take 32 = kk at *
      clear zf zs1 zs2
      obtain ⟨A7, c7, rfl, _, _, r7⟩ := HU.out.rd
      have HR7 := Lib.hid r7
      clear r7
      have HF1 := Lib.hid (show ∀ W, Calls Tryd.prog 23 #[.int .u64 (beside.length : Nat), .int .i64 8] W (Gives (form beside.length 8) W) from fun W => rform_c beside.length 8 W (by omega) (by decide))
      have HF2 := Lib.hid (show ∀ W, Calls Tryd.prog 23 #[.int .u64 (plain.length : Nat), .int .i64 8] W (Gives (form plain.length 8) W) from fun W => rform_c plain.length 8 W (by omega) (by decide))
      have hul : un.length ≤ 4200 := by rw [HXL.out]; exact hl2
      go_upto_region 9 with (at_builtin; go_loud (refine wpList_app _ rfl (.tmp 32) (.tmp 33) _ rfl X.heap.size 5 i0 (.int .u8 0) 1 1 Tryd.underlying26 hib hz0 hz1 hz2 rfl (by decide) (.slice (some ⟨X.heap.size, 0, none⟩) 0 0) 0 (byt []) rfl (by exact OwnB.new X _ [] (Nat.le_refl _) (by simp [maxLen])) _ A1 beside.length c1 (byt beside) rfl (by simp [byt_len]) (by exact HR.out.ext ((Below.refl _ _).alloc (Nat.le_refl _) _)) (byt_one _) (by omega) (by omega) (by simp) ?_; intro v3 X3 hap; have HM := Lib.hid (show OwnB X3 X.heap.size v3 beside from OwnB.app (l := []) (by simpa using hap)); have HX3 := Lib.hid (show Below X.heap.size X X3 from ((Below.refl _ _).alloc (Nat.le_refl _) _).trans ((hap.below (OwnB.new X _ [] (Nat.le_refl _) (by simp [maxLen])) (by simp)))); clear hap))
      go_loopw [13] (fun v wr => ∃ j : Nat, j ≤ padN beside.length ∧ OwnB wr X.heap.size v (beside ++ zs j) ∧ Below X.heap.size X wr) (fun v _ => match v with | .slice _ n _ => 20000 - n | _ => 0)
      case atStart => exact ⟨0, by omega, by simpa [zs] using HM.out, HX3.out⟩
      case round =>
        rename World => wr
        obtain ⟨j, hj, ho, hb⟩ := hrel
        obtain ⟨A5, c5, rfl, _, _, _⟩ := ho.rd
        obtain ⟨N, hN⟩ : ∃ N, N = (beside ++ zs j).length := ⟨_, rfl⟩
        rw [← hN] at ho ⊢
        have HO := Lib.hid ho
        have HB := Lib.hid hb
        have HNN := Lib.hid hN
        have hN2 : N = beside.length + j := by rw [hN]; simp [zs]
        have hpl := padN_lt beside.length
        obtain ⟨r, hr⟩ : ∃ r, r = N % 16 := ⟨_, rfl⟩
        have t1 : (N : Int) % 16 = (r : Int) := by omega
        have t2 : (N : Int).tmod 16 = (r : Int) := by rw [Int.tmod_eq_emod_of_nonneg (by omega)]; omega
        have HPS := Lib.hid (fun h => pad_step beside.length j h)
        have HPE := Lib.hid (pad_end beside.length)
        clear ho hb hN
        by_cases hlt : j < padN beside.length
        · have hr0 : r ≠ 0 := by rw [hr, hN2]; exact HPS.out hlt
          have t3 : ((r : Int) != 0) = true := by rw [bne_iff_ne]; omega
          clear hr0 hr
          go_wp2_with (at_builtin; refine wpList_app _ rfl (.tmp 39) (.tmp 40) _ rfl X.heap.size 5 i0 (.int .u8 0) 1 1 Tryd.underlying26 hib hz0 hz1 hz2 rfl (by decide) _ _ _ rfl (HO.out.alloc _) _ _ 1 1 [.int .u8 (0 : Nat)] rfl rfl (by exact rd_one _ _ _) (byt_one [0]) (by have := HNN.out; omega) (by have := HNN.out; omega) (by have := HB.out.size; simp; omega) ?_; intro v5 w5 hap; have HOS := Lib.hid (OwnB.snoc hap); have HB5 := Lib.hid ((HB.out.alloc HB.out.size _).trans (hap.below (HO.out.alloc _) (by have := HB.out.size; simp; omega))); clear hap)
          obtain ⟨A6, c6, rfl, _, _, _⟩ := HOS.out.rd
          go_roundw
          case rel => exact ⟨j + 1, by omega, by rw [zs_snoc]; exact HOS.out, HB5.out⟩
          case measure => simp only [List.length_append, List.length_cons, List.length_nil]; rw [← List.length_append, ← HNN.out]; omega
        · obtain rfl : j = padN beside.length := by omega
          have hr0 : r = 0 := by rw [hr, hN2]; exact HPE.out
          subst hr0
          clear hr hlt HPS HPE
          have t1 : (N : Int) % 16 = 0 := t1
          have t2 : (N : Int).tmod 16 = 0 := t2
          have hpb := padN_lt beside.length
          have HL1 := Lib.hid (show N = beside.length + padN beside.length from hN2)
          obtain ⟨L1, hL1⟩ : ∃ L1, L1 = beside ++ zs (padN beside.length) := ⟨_, rfl⟩
          have hL1n : L1.length = N := by rw [hL1]; exact HNN.out.symm
          have h160 : L1.length % 16 = 0 := by omega
          have HE1 := Lib.hid hL1
          have HO1 := Lib.hid (show OwnB wr X.heap.size (.slice A5 L1.length c5) L1 by rw [hL1n, hL1]; exact HO.out)
          rw [← hL1n] at t1 t2 ⊢
          have hL1b : L1.length ≤ 4300 := by omega
          clear HO hL1 hL1n HNN hpl hpb HL1 hN2 hj HM HX3
          have HX4 := Lib.hid HB.out
          generalize wr = X4 at *
          clear HB
          go_upto_region 12 with (at_builtin; go_loud (refine wpList_app _ rfl (.tmp 42) (.tmp 43) _ rfl X.heap.size 5 i0 (.int .u8 0) 1 1 Tryd.underlying26 hib hz0 hz1 hz2 rfl (by decide) (.slice A5 L1.length c5) L1.length (byt L1) rfl HO1.out X.heap.size A7 un.length c7 (byt un) rfl (by simp [byt_len]) (by exact HR7.out.below HX4.out) (byt_one _) (by omega) (by omega) HX4.out.size ?_; intro v6 X6 hap; have HM := Lib.hid (show OwnB X6 X.heap.size v6 (L1 ++ un) from OwnB.app hap); have HX3 := Lib.hid (HX4.out.trans (hap.below HO1.out HX4.out.size)); clear hap))
          have HPN := Lib.hid (show padN (L1 ++ un).length = padN un.length by rw [List.length_append]; exact pad_more _ _ h160)
          obtain ⟨L2, hL2⟩ : ∃ L2, L2 = L1 ++ un := ⟨_, rfl⟩
          have hL2b : L2.length ≤ 8600 := by rw [hL2, List.length_append]; omega
          rw [← hL2] at HM HPN
          have HE2 := Lib.hid hL2
          clear hL2 HO1 HX4 t1 t2 h160
          generalize hvv : Value.slice A5 L1.length c5 = vv at *
          clear hvv
          go_loopw [13] (fun v wr => ∃ j : Nat, j ≤ padN L2.length ∧ OwnB wr X.heap.size v (L2 ++ zs j) ∧ Below X.heap.size X wr) (fun v _ => match v with | .slice _ n _ => 20000 - n | _ => 0)
          case atStart => exact ⟨0, by omega, by simpa [zs] using HM.out, HX3.out⟩
          case round =>
            rename World => wr
            obtain ⟨j, hj, ho, hb⟩ := hrel
            obtain ⟨A5, c5, rfl, _, _, _⟩ := ho.rd
            obtain ⟨N, hN⟩ : ∃ N, N = (L2 ++ zs j).length := ⟨_, rfl⟩
            rw [← hN] at ho ⊢
            have HO := Lib.hid ho
            have HB := Lib.hid hb
            have HNN := Lib.hid hN
            have hN2 : N = L2.length + j := by rw [hN]; simp [zs]
            have hpl := padN_lt L2.length
            obtain ⟨r, hr⟩ : ∃ r, r = N % 16 := ⟨_, rfl⟩
            have t1 : (N : Int) % 16 = (r : Int) := by omega
            have t2 : (N : Int).tmod 16 = (r : Int) := by rw [Int.tmod_eq_emod_of_nonneg (by omega)]; omega
            have HPS := Lib.hid (fun h => pad_step L2.length j h)
            have HPE := Lib.hid (pad_end L2.length)
            clear ho hb hN
            by_cases hlt : j < padN L2.length
            · have hr0 : r ≠ 0 := by rw [hr, hN2]; exact HPS.out hlt
              have t3 : ((r : Int) != 0) = true := by rw [bne_iff_ne]; omega
              clear hr0 hr
              go_wp2_with (at_builtin; refine wpList_app _ rfl (.tmp 49) (.tmp 50) _ rfl X.heap.size 5 i0 (.int .u8 0) 1 1 Tryd.underlying26 hib hz0 hz1 hz2 rfl (by decide) _ _ _ rfl (HO.out.alloc _) _ _ 1 1 [.int .u8 (0 : Nat)] rfl rfl (by exact rd_one _ _ _) (byt_one [0]) (by have := HNN.out; omega) (by have := HNN.out; omega) (by have := HB.out.size; simp; omega) ?_; intro v5 w5 hap; have HOS := Lib.hid (OwnB.snoc hap); have HB5 := Lib.hid ((HB.out.alloc HB.out.size _).trans (hap.below (HO.out.alloc _) (by have := HB.out.size; simp; omega))); clear hap)
              obtain ⟨A6, c6, rfl, _, _, _⟩ := HOS.out.rd
              go_roundw
              case rel => exact ⟨j + 1, by omega, by rw [zs_snoc]; exact HOS.out, HB5.out⟩
              case measure => simp only [List.length_append, List.length_cons, List.length_nil]; rw [← List.length_append, ← HNN.out]; omega
            · obtain rfl : j = padN L2.length := by omega
              have hr0 : r = 0 := by rw [hr, hN2]; exact HPE.out
              subst hr0
              clear hr hlt HPS HPE
              have t1 : (N : Int) % 16 = 0 := t1
              have t2 : (N : Int).tmod 16 = 0 := t2
              have HPN2 := Lib.hid (show L2 ++ zs (padN L2.length) = L2 ++ zs (padN un.length) by rw [HPN.out])
              obtain ⟨L3, hL3⟩ : ∃ L3, L3 = L2 ++ zs (padN L2.length) := ⟨_, rfl⟩
              have HE3 := Lib.hid (show L3 = L2 ++ zs (padN un.length) by rw [hL3]; exact HPN2.out)
              have hL3n : L3.length = N := by rw [hL3]; exact HNN.out.symm
              have HO1 := Lib.hid (show OwnB wr X.heap.size (.slice A5 L3.length c5) L3 by rw [hL3n, hL3]; exact HO.out)
              rw [← hL3n] at t1 t2 ⊢
              have hL3b : L3.length ≤ 8700 := by omega
              clear HO hL3 hL3n HNN hpl hN2 hj HM HX3 HPN HPN2
              have HX4 := Lib.hid HB.out
              generalize wr = X4 at *
              clear HB
              go_upto_region 15 with (first
                | (go_at_call 23; (refine (HF1.out X4).mono ?_); rintro e W5 ⟨v5, rfl, ho, hb⟩; obtain ⟨A8, c8, rfl, _, _, r8⟩ := ho.rd; rw [form_len]; have HR8 := Lib.hid r8; have HO5 := Lib.hid (HO1.out.next hb); have HX5 := Lib.hid (HX4.out.trans (hb.mono HX4.out.size)); clear ho hb r8)
                | (at_builtin; go_loud (refine wpList_app _ rfl (.tmp 52) (.tmp 56) _ rfl X.heap.size 5 i0 (.int .u8 0) 1 1 Tryd.underlying26 hib hz0 hz1 hz2 rfl (by decide) (.slice A5 L3.length c5) L3.length (byt L3) rfl HO5.out W5.heap.size A8 8 c8 (byt (form beside.length 8)) rfl (by rw [byt_len, form_len]) HR8.out (byt_one _) (by omega) (by omega) HX5.out.size ?_; intro v6 X6 hap; have HM6 := Lib.hid (show OwnB X6 X.heap.size v6 (L3 ++ form beside.length 8) from OwnB.app (by rw [form_len]; exact hap)); have HX6 := Lib.hid (HX5.out.trans (hap.below HO5.out HX5.out.size)); clear hap)))
              clear HO1 HO5 HX5 HR8 HX4
              have HL4 := Lib.hid (show (L3 ++ form beside.length 8).length = L3.length + 8 by rw [List.length_append, form_len])
              go_upto_region 16 with (first
                | (go_at_call 23; (refine (HF2.out X6).mono ?_); rintro e W5 ⟨v5, rfl, ho, hb⟩; obtain ⟨A8, c8, rfl, _, _, r8⟩ := ho.rd; rw [form_len]; have HR8 := Lib.hid r8; have HO5 := Lib.hid (HM6.out.next hb); have HX5 := Lib.hid (HX6.out.trans (hb.mono HX6.out.size)); clear ho hb r8)
                | (at_builtin; go_loud (refine wpList_app _ rfl (.tmp 58) (.tmp 62) _ rfl X.heap.size 5 i0 (.int .u8 0) 1 1 Tryd.underlying26 hib hz0 hz1 hz2 rfl (by decide) v6 (L3 ++ form beside.length 8).length (byt (L3 ++ form beside.length 8)) rfl HO5.out W5.heap.size A8 8 c8 (byt (form plain.length 8)) rfl (by rw [byt_len, form_len]) HR8.out (byt_one _) (by rw [HL4.out]; omega) (by rw [HL4.out]; omega) HX5.out.size ?_; intro v7 X7 hap; have HM7 := Lib.hid (show OwnB X7 X.heap.size v7 ((L3 ++ form beside.length 8) ++ form plain.length 8) from OwnB.app (by rw [form_len plain.length]; exact hap)); have HX7 := Lib.hid (HX5.out.trans (hap.below HO5.out HX5.out.size)); clear hap)))
              clear HO5 HX5 HR8 HM6 HX6
              have HTG := Lib.hid (show (L3 ++ form beside.length 8) ++ form plain.length 8 = taggedL beside un by rw [HE3.out, HE2.out, HE1.out, ← HXL.out]; simp only [taggedL, sizesL, List.append_assoc])
              rw [HTG.out] at HM7
              have HTL := Lib.hid (taggedL_lt HB1L.out HXT.out)
              have HTN := Lib.hid (taggedL_len beside un)
              generalize taggedL beside un = tg at *
              obtain ⟨A9, c9, rfl, hcc, hcm, r9⟩ := HM7.out.rd
              have HTC := Lib.hid (fun W (hW : Below X7.heap.size X7 W) => rtag_c kk tg A9 c9 W HK32.out HKT.out HTL.out ((r9.ext hW).more hW.size) (by have := HTN.out; omega) hcc hcm)
              have HBK7 := Lib.hid (HBK.out.below HX7.out HBK.out.lt)
              have HIK := Lib.hid (b32Sz HK32.out)
              have HTT := Lib.hid (t16Sz (polT_len kk tg))
              have HTZ := Lib.hid (show zT.size = (vb (polT kk tg)).size by rw [vb_size, polT_len]; rfl)
              have HPL := Lib.hid (polT_len kk tg)
              clear hcc hcm r9 HTG HTL HTN HE1 HE2 HE3 HL4 HF1 HF2
              generalize polT kk tg = tt at *
              go_upto_region 17 with (first
                | (refine wpList_load_row rfl 22 (.tmp 11) rfl gK rfl 22 (vb kk) (0, 0) _ HBK7.out Tryd.underlying22 rfl HIK.out ?_)
                | (go_at_call 24; (refine (HTC.out X7 (Below.refl _ _)).mono ?_); rintro e W8 ⟨rfl, hb⟩; have HX8 := Lib.hid (HX7.out.trans (hb.mono HX7.out.size)); clear hb)
                | (refine wpList_store_rowTo rfl 48 (.tmp 14) (.tmp 66) rfl rfl W8.heap.size (vb tt) rfl rfl 48 zT (by exact Blk.new W8 _ _) HTT.out HTZ.out (vb_one _) ?_))
              have hnr := new_row W8 48 zT (vb tt)
              have HX9 := Lib.hid (HX8.out.trans (hnr.2.mono HX8.out.size))
              have HG := Lib.hid (rd_all hnr.1)
              generalize (W8.alloc (Obj.cells zT 48)).setRow W8.heap.size (vb tt) = W9 at *
              clear hnr
              have HU9 := Lib.hid (HU.out.next HX9.out)
              go_wp2_with (at_builtin; go_loud (refine wpList_app _ rfl (.tmp 67) (.tmp 68) _ rfl (w.heap.size + 1 + 1) 5 i0 (.int .u8 0) 1 1 Tryd.underlying26 hib hz0 hz1 hz2 rfl (by decide) _ un.length (byt un) rfl HU9.out _ (some ⟨W8.heap.size, 0, none⟩) 16 16 (byt tt) rfl (by rw [byt_len, HPL.out]) HG.out (byt_one _) (by omega) (by omega) (by have := HX9.out.size; have := HWS.out; omega) ?_; intro v5 w5 hap; have HO5 := Lib.hid (show OwnB w5 (w.heap.size + 1 + 1) v5 (un ++ tt) from OwnB.app (by rw [HPL.out]; exact hap)); have HB5 := Lib.hid ((HW.out.trans (HX9.out.mono HW.out.size)).trans ((hap.below HU9.out (by have := HX9.out.size; have := HWS.out; omega)).mono (by omega))); clear hap))
              refine bodyPost_ret (results_tmp rfl _ _ _) rfl ?_
              exact ⟨_, rfl, by rw [HSL.out]; exact own_base_le HO5.out (by omega), HB5.out⟩
end Go.Proofs.YtfblpkjablgafaaDoor
