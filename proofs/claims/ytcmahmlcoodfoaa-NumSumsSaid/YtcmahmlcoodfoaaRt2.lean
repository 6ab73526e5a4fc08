/- Contract: the reference's Text. -/
import Derived.Test.YtcmahmlcoodfoaaRt1
namespace Go.Proofs.Ytcmahmlcoodfoaa
open Go.RowKit
set_option linter.unusedVariables false
set_option maxRecDepth 100000 in
set_option maxHeartbeats 2000000 in
theorem rtext_c (hi : Int) (lo : Nat) (w : World) (ha0 : -9223372036854775808 ≤ hi) (ha1 : hi ≤ 9223372036854775807) (hl : lo < 18446744073709551616) :
    Calls Try.prog 39 #[.agg #[.int .i64 hi, .int .u64 lo]] w fun e w' => (∃ k, TenEnd (magOf hi lo) k ∧ e = .returned (.string (bstr (textOf (decide (hi < 0)) (magOf hi lo) k)))) ∧ Below w.heap.size w w' := by
  have HH := Lib.hid (szHi_lt hi lo ha0 ha1)
  have HL := Lib.hid (szLo_lt hi lo hl)
  have HM := Lib.hid (show magOf hi lo = dbl (szHi hi lo) (szLo hi lo) from rfl)
  obtain ⟨neg, hneg⟩ : ∃ neg, neg = decide (hi < 0) := ⟨_, rfl⟩
  have HN := Lib.hid hneg
  have HA := Lib.hid (sz_hi hi lo ha0 ha1)
  have HB := Lib.hid (sz_lo hi lo hl)
  have HC : Hid (¬ hi < 0 → IntKind.u64.wrap hi = (szHi hi lo : Nat) ∧ lo = szLo hi lo) := Lib.hid (fun h => ⟨by rw [IntKind.wrap_u64]; unfold szHi; rw [if_neg h]; omega, by unfold szLo; rw [if_neg h]⟩)
  clear hneg
  generalize szHi hi lo = H at *
  generalize szLo hi lo = L at *
  obtain ⟨i0, hi0, hz0, hz1, hz2⟩ := info_parts u64Inf
  go_enter Try.func39, Try.ntmps39
  go_upto_region 1 with fail
  obtain ⟨Z, hZ⟩ : ∃ Z, Z = w.alloc (.cells #[.int .i64 hi, .int .u64 lo] 67) := ⟨_, rfl⟩
  have hs : Two w.heap.size hi lo Z := by rw [hZ]; exact Two.new _ _ _ _
  have hzw : Below w.heap.size w Z := by rw [hZ]; exact (Below.refl _ _).alloc (Nat.le_refl _) _
  try simp only [← hZ]
  have HS := Lib.hid hs
  have HZW := Lib.hid hzw
  have c0 := HS.out.1
  have c1 := HS.out.2
  have c2 : Z.drew.cell? ⟨w.heap.size, 0, none⟩ = _ := HS.out.1
  have c3 : Z.drew.cell? ⟨w.heap.size, 1, none⟩ = _ := HS.out.2
  clear hs hzw hZ
  go_region
  go_upto_if 20 with fail
  go_cut [3, 4] from 20 to 28 (fun s3 s4 wx => s3 = .int .u64 H ∧ s4 = .int .u64 L ∧ wx = Z.drew)
  case first =>
    by_cases hn : hi < 0
    · have hb := HB.out hn
      by_cases hp : 0 < lo
      · have ha := (HA.out hn).2 hp
        go_wp2_with fail
        go_meet
        exact ⟨by rw [← ha, Int.zero_sub], by rw [← hb, Int.zero_sub], rfl⟩
      · have ha := (HA.out hn).1 (by omega)
        go_wp2_with fail
        go_meet
        exact ⟨by rw [← ha, Int.zero_sub], by rw [← hb]; congr 1; have h0 : lo = 0 := (by omega); subst h0; rfl, rfl⟩
    · have E := Lib.hid (HC.out hn)
      clear HC
      go_wp2_with fail
      go_meet
      exact ⟨by rw [E.out.1], by rw [← E.out.2], rfl⟩
  case rest =>
  obtain ⟨rfl, rfl, rfl⟩ := hcut
  clear HA HB HC c0 c1 c2 c3 hl
  go_wp2_with fail
  go_loopw [3, 5, 6] (fun h d i wr => ∃ k : Nat, k ≤ 4 ∧ i = .int .i64 k ∧ h = .int .u64 (shl H k : Nat) ∧ OwnK wr Z.heap.size 22 .u64 d (pts H k) ∧ Below Z.heap.size Z wr) (fun _ _ i _ => 4 - (intOf i).toNat)
  case atStart => exact ⟨0, by omega, rfl, rfl, OwnK.nil_ _ _ _ _, belowDrewN 1 (Below.refl _ _)⟩
  case round =>
    rename_i wr
    obtain ⟨k, hk, rfl, rfl, ho, hb⟩ := hrel
    have HO := Lib.hid ho
    have HB := Lib.hid hb
    clear ho hb
    by_cases hlt : k < 4
    · have hsl := shl_lt H k HH.out
      have HP := Lib.hid (pts_succ H k)
      have HLn := Lib.hid (pts_len H k)
      have HE := Lib.hid (show pt H k = shl H k / 281474976710656 % 65536 from rfl)
      have HF := Lib.hid (show shl H (k + 1) = shl H k * 65536 % 18446744073709551616 from rfl)
      generalize shl H k = s at *
      go_wp2_with (at_builtin; refine wpList_app _ rfl (.tmp 33) (.tmp 37) _ rfl Z.heap.size 22 i0 (.int .u64 0) 1 8 Try.underlying28 hi0 hz0 hz1 hz2 rfl (by decide) _ _ _ rfl (own_alloc HO.out _) _ _ 1 1 [.int .u64 ((s : Int) / 281474976710656 % 65536)] rfl rfl (by exact rd_one _ _ _) (by simp [Value.oneCell']) (by rw [HLn.out]; omega) (by rw [HLn.out]; omega) (by exact le_alloc HB.out.size) ?_; intro v1 w2 hap; have ho2 : OwnK w2 Z.heap.size 22 .u64 v1 (pts H (k + 1)) := (by rw [HP.out, HE.out]; exact OwnK.snoc (c := s / 281474976710656 % 65536) (by simpa using hap)); have hb2 : Below Z.heap.size Z w2 := (HB.out.alloc (by exact HB.out.size) _).trans (hap.below (own_alloc HO.out _) (by exact le_alloc HB.out.size)); have HO2 := Lib.hid ho2; have HB3 := Lib.hid hb2; clear hap ho2 hb2)
      go_roundw
      case rel =>
        go_light
        refine ⟨k + 1, by omega, by go_num, ?_, HO2.out, HB3.out⟩
        rw [HF.out]
        exact congrArg _ (by rw [IntKind.wrap_u64]; omega)
      case measure => simp [intOf]; omega
    · have hk4 : k = 4 := by omega
      have ho4 := HO.out
      rw [hk4] at ho4
      have HO := Lib.hid ho4
      clear ho4 hk4
      have hlH := pts_len H 4
      have HLH := Lib.hid hlH
      clear hlH
      go_wp2_with fail
      go_loopw [4, 5, 7] (fun h d i wr => ∃ k : Nat, k ≤ 4 ∧ i = .int .i64 k ∧ h = .int .u64 (shl L k : Nat) ∧ OwnK wr Z.heap.size 22 .u64 d (pts H 4 ++ pts L k) ∧ Below Z.heap.size Z wr) (fun _ _ i _ => 4 - (intOf i).toNat)
      case atStart => exact ⟨0, by omega, rfl, rfl, by simpa [pts] using HO.out, HB.out⟩
      case round =>
        rename_i wr2
        obtain ⟨k, hk, rfl, rfl, ho, hb⟩ := hrel
        have HO2 := Lib.hid ho
        have HB2 := Lib.hid hb
        clear ho hb HO HB
        by_cases hlt : k < 4
        · have hsl := shl_lt L k HL.out
          have HP := Lib.hid (pts_succ L k)
          have HLn : Hid ((pts H 4 ++ pts L k).length = 4 + k) := Lib.hid (by rw [List.length_append, pts_len, pts_len])
          have HE := Lib.hid (show pt L k = shl L k / 281474976710656 % 65536 from rfl)
          have HF := Lib.hid (show shl L (k + 1) = shl L k * 65536 % 18446744073709551616 from rfl)
          generalize shl L k = s at *
          obtain ⟨q, hq⟩ : ∃ q, q = pts H 4 ++ pts L k := ⟨_, rfl⟩
          have HQ : Hid (pts H 4 ++ pts L (k + 1) = q ++ [s / 281474976710656 % 65536]) := Lib.hid (by rw [hq, HP.out, HE.out, List.append_assoc])
          rw [← hq] at HO2 HLn
          clear hq HP HE
          go_wp2_with (at_builtin; refine wpList_app _ rfl (.tmp 45) (.tmp 49) _ rfl Z.heap.size 22 i0 (.int .u64 0) 1 8 Try.underlying28 hi0 hz0 hz1 hz2 rfl (by decide) _ _ _ rfl (own_alloc HO2.out _) _ _ 1 1 [.int .u64 ((s : Int) / 281474976710656 % 65536)] rfl rfl (by exact rd_one _ _ _) (by simp [Value.oneCell']) (by rw [HLn.out]; omega) (by rw [HLn.out]; omega) (by exact le_alloc HB2.out.size) ?_; intro v1 w2 hap; have ho2 : OwnK w2 Z.heap.size 22 .u64 v1 (q ++ [s / 281474976710656 % 65536]) := (by exact OwnK.snoc (c := s / 281474976710656 % 65536) (by simpa using hap)); have hb2 : Below Z.heap.size Z w2 := (HB2.out.alloc (by exact HB2.out.size) _).trans (hap.below (own_alloc HO2.out _) (by exact le_alloc HB2.out.size)); have HO3 := Lib.hid ho2; have HB3 := Lib.hid hb2; clear hap ho2 hb2)
          go_roundw
          case rel =>
            go_light
            refine ⟨k + 1, by omega, by go_num, ?_, by rw [HQ.out]; exact HO3.out, HB3.out⟩
            rw [HF.out]
            exact congrArg _ (by rw [IntKind.wrap_u64]; omega)
          case measure => simp [intOf]; omega
        · have hk4 : k = 4 := by omega
          have ho4 := HO2.out
          rw [hk4] at ho4
          have HO2 := Lib.hid ho4
          clear ho4 hk4
          have hne : pts H 4 ++ pts L 4 ≠ [] := by simp [pts]
          obtain ⟨g, cap, rst, rfl, hg, hblk, hc1, hc2, hc3⟩ := HO2.out.open_ hne
          have hlen : (pts H 4 ++ pts L 4).length = 8 := by rw [List.length_append, pts_len, pts_len]
          have hall : ∀ c ∈ pts H 4 ++ pts L 4, c < 65536 := fun c hc => (List.mem_append.1 hc).elim (pts_lt H 4 c) (pts_lt L 4 c)
          have hv := v16_pts H L HH.out HL.out
          rw [← HM.out] at hv
          have hM : magOf hi lo < 2 ^ 128 := by rw [HM.out]; have := HH.out; have := HL.out; unfold dbl; omega
          rw [hlen] at hc1 ⊢
          obtain ⟨M, hMq⟩ : ∃ M, M = magOf hi lo := ⟨_, rfl⟩
          rw [← hMq] at hv hM HM
          have HMQ := Lib.hid hMq
          clear hMq
          generalize pts H 4 ++ pts L 4 = l0 at *
          have HBLK := Lib.hid hblk
          have HALL := Lib.hid hall
          have HV := Lib.hid hv
          have HLEN := Lib.hid hlen
          clear hblk hall hv hlen hne HO2 hc3
          have HZB : Hid (Below Z.heap.size Z wr) := HB2
          have HG : Hid (Z.heap.size ≤ g) := Lib.hid hg
          have hM0 : M / 10 ^ 0 = M := by simp
          have HM0 := Lib.hid hM0
          clear hM0 HB2 hg
          go_wp2_with fail
          go_loopw [8] (fun o wr3 => ∃ (k : Nat) (l : List Nat), l.length = 8 ∧ (∀ c ∈ l, c < 65536) ∧ v16 l = M / 10 ^ k ∧ o = .string (bstr (tenTo M k).reverse) ∧ (∀ i, 1 ≤ i → i ≤ k → M / 10 ^ i ≠ 0) ∧ Blk wr3 g 22 (wrd .u64 l ++ rst).toArray ∧ Below Z.heap.size Z wr3) (fun o _ => 40 - strLen o)
          case atStart => exact ⟨0, l0, HLEN.out, HALL.out, by rw [HM0.out]; exact HV.out, rfl, by intro i h1 h2; omega, HBLK.out, HZB.out⟩
          case round =>
            rename World => wr3
            obtain ⟨k, l, hlen, hall, hv, rfl, hge, hblk, hb⟩ := hrel
            have hk := ten_bound M k hM (by by_cases hk : k = 0; exact .inr hk; exact .inl (hge k (by omega) (Nat.le_refl _)))
            clear HBLK HALL HV HLEN HZB
            have HGE := Lib.hid hge
            have HV := Lib.hid hv
            have HALL := Lib.hid hall
            have HB0 := Lib.hid hblk
            have HBB := Lib.hid hb
            clear hge hv hall hblk hb
            go_wp2_with fail
            go_loopw [9, 10, 11] (fun r a i wr4 => ∃ (j R : Nat) (q : List Nat), j ≤ 8 ∧ q.length = j ∧ i = .int .i64 j ∧ r = .int .u64 R ∧ R < 10 ∧ (∀ c ∈ q, c < 65536) ∧ v16 q * 10 + R = v16 (l.take j) ∧ a = .bool (decide (0 < v16 q)) ∧ Blk wr4 g 22 (wrd .u64 (q ++ l.drop j) ++ rst).toArray ∧ Below Z.heap.size Z wr4) (fun _ _ i _ => 8 - (intOf i).toNat)
            case atStart => exact ⟨0, 0, [], by omega, rfl, rfl, rfl, by omega, by simp, rfl, rfl, HB0.out, HBB.out⟩
            case round =>
              rename World => wr4
              obtain ⟨j, R, q, hj, hq, rfl, rfl, hR, hqs, hqv, rfl, hblk, hb⟩ := hrel
              have HQS := Lib.hid hqs
              have HQV := Lib.hid hqv
              have HB5 := Lib.hid hblk
              have HB6 := Lib.hid hb
              clear hqs hqv hblk hb
              by_cases hlt : j < 8
              · have hml : (q ++ l.drop j).length = 8 := by rw [List.length_append, List.length_drop, hq]; omega
                have hx : l.getD j 0 < 65536 := HALL.out _ (by rw [List.getD_eq_getElem?_getD, List.getElem?_eq_getElem (by omega)]; exact List.getElem_mem _)
                have d0 : wr4.cell? ⟨g, j, none⟩ = some (.int .u64 (l.getD j 0 : Nat)) := by rw [← get_mid q l j hq]; exact (HB5.out.cell j).trans (warr_at _ _ _ j (by omega))
                have f0 : wr4.frozen? ⟨g, j, none⟩ = false := HB5.out.free j
                have HT := Lib.hid (v16_take l j (by omega))
                have HSM := Lib.hid (fun y => set_mid q l j y hq (by omega))
                generalize l.getD j 0 = x at *
                obtain ⟨y, hy⟩ : ∃ y, y = (R * 65536 + x) / 10 := ⟨_, rfl⟩
                have HY := Lib.hid hy
                have HBS := Lib.hid (HB5.out.set_ j (.int .u64 y))
                rw [warr_set _ _ _ _ _ (by omega), HSM.out] at HBS
                have HYI : Hid (((R : Int) * 65536 + (x : Int)) / 10 = (y : Int)) := Lib.hid (by rw [hy]; omega)
                have HYL : Hid (y < 65536) := Lib.hid (by omega)
                have HVS := Lib.hid (v16_snoc q y)
                have HVN : Hid (v16 (q ++ [y]) * 10 + (R * 65536 + x) % 10 = v16 (l.take (j + 1))) := Lib.hid (by rw [HT.out, HVS.out, hy]; exact ten_part _ _ _ _ HQV.out)
                clear hy
                go_wp2_with fail
                all_goals simp only [HYI.out]
                all_goals refine ⟨⟨j + 1, (R * 65536 + x) % 10, q ++ [y], by omega, by rw [List.length_append, hq]; rfl, by go_num, by go_num, Nat.mod_lt _ (by decide), fun c hc => (List.mem_append.1 hc).elim (HQS.out c) (fun h => by have h2 : c = y := (by simpa using h); rw [h2]; exact HYL.out), HVN.out, ?_, HBS.out, HB6.out.setCell HG.out _⟩, by simp [intOf]; omega⟩
                all_goals rw [HVS.out]
                all_goals first
                  | exact congrArg Value.bool (decide_eq_true (by omega)).symm
                  | exact congrArg Value.bool (decide_eq_decide.2 (by omega))
              · have hj8 : j = 8 := by omega
                have hq8 : q.length = 8 := by omega
                have e1 : l.take j = l := List.take_of_length_le (by omega)
                have e2 : l.drop j = [] := List.drop_of_length_le (by omega)
                have hblk := HB5.out
                have hqv := HQV.out
                rw [e1] at hqv
                rw [e2, List.append_nil] at hblk
                have hMk : v16 q * 10 + R = M / 10 ^ k := by rw [hqv, HV.out]
                have hR2 : M / 10 ^ k % 10 = R := by rw [← hMk]; omega
                have hM2 : M / 10 ^ (k + 1) = v16 q := by rw [← ten_step, ← hMk]; omega
                have HR2 := Lib.hid hR2
                have HM2 := Lib.hid hM2
                have HBQ := Lib.hid hblk
                have HTS := Lib.hid (tenTo_succ M k)
                have hds : (ByteArray.mk #[48, 49, 50, 51, 52, 53, 54, 55, 56, 57]).extract R (R + 1) = bstr [R + 48] := digit_str R hR
                have HDS := Lib.hid hds
                clear e1 e2 hblk hqv hMk hR2 hM2 hds
                have hsz : ¬ 9223372036854775807 < min (R + 1) 10 - R + (bstr (tenTo M k).reverse).size := by
                  rw [bstr_size, List.length_reverse, tenTo_len]
                  omega
                have hstr : bstr [R + 48] ++ bstr (tenTo M k).reverse = bstr (tenTo M (k + 1)).reverse := by
                  rw [bstr_app, HTS.out, HR2.out, List.reverse_append]; rfl
                have HSTR := Lib.hid hstr
                have hsl : (bstr (tenTo M (k + 1)).reverse).size = k + 1 := by rw [bstr_size, List.length_reverse, tenTo_len]
                have hsk : (bstr (tenTo M k).reverse).size = k := by rw [bstr_size, List.length_reverse, tenTo_len]
                have HSL := Lib.hid (And.intro hsl hsk)
                clear hstr hsl hsk
                by_cases hz : 0 < v16 q
                · go_wp2_with fail
                  refine ⟨⟨k + 1, q, hq8, HQS.out, HM2.out.symm, by rw [HDS.out, HSTR.out], fun i h1 h2 => ?_, HBQ.out, HB6.out⟩, ?_⟩
                  · rcases Nat.lt_or_ge k i with h | h
                    · rw [show i = k + 1 by omega, HM2.out]; omega
                    · exact HGE.out i h1 h
                  · rw [HDS.out, HSTR.out]
                    simp only [strLen, HSL.out.1, HSL.out.2]
                    omega
                · have hz0 : v16 q = 0 := by omega
                  have HZ0 := Lib.hid hz0
                  have hs1 : wr4.cell? ⟨w.heap.size, 0, none⟩ = some (.int .i64 hi) := (HB6.out.cell (cellLt HS.out.1)).trans HS.out.1
                  clear hz0
                  have hsz2 : ¬ 9223372036854775807 < 1 + (min (R + 1) 10 - R + (bstr (tenTo M k).reverse).size) := by
                    rw [bstr_size, List.length_reverse, tenTo_len]
                    omega
                  have HEND : Hid (TenEnd M k) := Lib.hid ⟨HGE.out, by rw [HM2.out, HZ0.out]⟩
                  have hbel : Below w.heap.size w wr4 := HZW.out.trans (HB6.out.mono HZW.out.size)
                  have HBEL := Lib.hid hbel
                  clear hbel
                  by_cases hn : hi < 0
                  · have HFIN : Hid (ByteArray.mk #[45] ++ ((ByteArray.mk #[48, 49, 50, 51, 52, 53, 54, 55, 56, 57]).extract R (R + 1) ++ bstr (tenTo M k).reverse) = bstr (textOf (decide (hi < 0)) M k)) := Lib.hid (by
                      rw [HDS.out, HSTR.out, decide_eq_true hn]
                      exact bstr_app [45] _)
                    go_wp2_with fail
                    go_ret
                    rw [← HMQ.out]
                    exact ⟨⟨k, HEND.out, congrArg (fun s => Ending.returned (.string s)) HFIN.out⟩, HBEL.out⟩
                  · have HFIN : Hid (((ByteArray.mk #[48, 49, 50, 51, 52, 53, 54, 55, 56, 57]).extract R (R + 1) ++ bstr (tenTo M k).reverse) = bstr (textOf (decide (hi < 0)) M k)) := Lib.hid (by
                      rw [HDS.out, HSTR.out, decide_eq_false hn]
                      rfl)
                    go_wp2_with fail
                    go_ret
                    rw [← HMQ.out]
                    exact ⟨⟨k, HEND.out, congrArg (fun s => Ending.returned (.string s)) HFIN.out⟩, HBEL.out⟩
end Go.Proofs.Ytcmahmlcoodfoaa
