/- Parts, one behind the other: Rn8 Rn9. -/
import Derived.Test.YtbgnjjbmidkhlaaDoorZ05
/- Contract: the document's Nodes. -/
namespace Go.Proofs.YtbgnjjbmidkhlaaDoor
set_option linter.unusedVariables false
set_option linter.unusedSimpArgs false
set_option maxRecDepth 100000
open Go.RowKit
set_option linter.unusedVariables false
set_option linter.unusedSimpArgs false
def lenI : Value → Nat
  | .slice _ n _ => n
  | _ => 0
theorem form2_c (k : Nat) (W : World) (hk : k < 100) : Calls Tryd.prog 18 #[.int .u64 (k : Int), .int .i64 2] W (Gives (form k 2) W) := rform_c k 2 W (by omega) (by decide)
set_option maxRecDepth 100000 in
set_option maxHeartbeats 32000000 in
theorem rnodes_c (n : Nat) (t s : List Nat) (w : World) (hn : n ≤ 32) (ht : ∀ c ∈ t, c < 256) (hs : ∀ c ∈ s, c < 256) (htl : t.length ≤ 100) (hsl : s.length ≤ 100) :
    Calls Tryd.prog 7 #[.int .i64 (n : Int), .string (bstr t), .string (bstr s)] w (NodesOk w (refN (atS t s) n (rawL n) 3 [])) := by
  obtain ⟨i0, hi, hz0, hz1, hz2⟩ := info_parts byteInfo
  obtain ⟨j0, hj, hy0, hy1, hy2⟩ := int_parts
  have HT := Lib.hid ht
  have HS := Lib.hid hs
  have HTL := Lib.hid htl
  have HSL := Lib.hid hsl
  have HN := Lib.hid hn
  have HTB := Lib.hid (show (bstr t).size = t.length from bstr_size t)
  have HSB := Lib.hid (show (bstr s).size = s.length from bstr_size s)
  have HOT := Lib.hid (fun (w' : World) (v : Value) (m : List Nat) (h : w'.ownsRow w.heap.size 5 1 v (m.length + (bstr t).size) (byt m ++ Lib.strCells (bstr t))) => own_strR ht h)
  have HOS := Lib.hid (fun (w' : World) (v : Value) (m : List Nat) (h : w'.ownsRow w.heap.size 5 1 v (m.length + (bstr s).size) (byt m ++ Lib.strCells (bstr s))) => own_strR hs h)
  have HML := Lib.hid (mkS_lt ht hs)
  obtain ⟨m2, hm2⟩ : ∃ m2 : List Nat, m2 = [83] ++ t := ⟨_, rfl⟩
  obtain ⟨m4, hm4⟩ : ∃ m4 : List Nat, m4 = m2 ++ [0] := ⟨_, rfl⟩
  have HMK := Lib.hid (show m4 ++ s = mkS t s by rw [hm4, hm2]; unfold mkS; simp)
  have HL2 := Lib.hid (show m2.length ≤ 101 by rw [hm2, List.length_append]; have := HTL.out; simp; omega)
  have HL4 := Lib.hid (show m4.length ≤ 102 by rw [hm4, List.length_append]; have := HL2.out; simp; omega)
  have HM2 := Lib.hid hm2
  have HM4 := Lib.hid hm4
  clear hm2 hm4
  have HAS := Lib.hid (show atS t s = number ((sha (mkS t s)).take 8) from rfl)
  have HXL := Lib.hid (atS_lt t s)
  obtain ⟨F, hF⟩ : ∃ F, F = refN (atS t s) n (rawL n) 3 [] := ⟨_, rfl⟩
  have HF := Lib.hid hF
  rw [← hF]
  clear ht hs htl hsl hF
  generalize mkS t s = mk at *
  generalize atS t s = x at *
  generalize bstr t = tv at *
  generalize bstr s = sv at *
  go_enter Tryd.func7, Tryd.ntmps7
  go_upto_region 4 with (first
    | (refine wpList_valM rfl _ _ (run_oneR w 83 _ rfl (by rfl)) ?_
       obtain ⟨W1, e1⟩ : ∃ W1, W1 = w.alloc (.cells (byt [83]).toArray 5) := ⟨_, rfl⟩
       have ho1 := own_oneB w 83 w.heap.size (Nat.le_refl _)
       rw [← e1] at ho1 ⊢
       have B1 := Lib.hid (show Below w.heap.size w W1 by rw [e1]; exact (Below.refl _ _).alloc (Nat.le_refl _) _)
       have O1 := Lib.hid ho1
       clear e1 ho1)
    | (refine Lib.wpList_append_own_string _ rfl (.tmp 18) (.tmp 19) 36 9 rfl w.heap.size 5 i0 Tryd.underlying36 Tryd.underlying9 hi hz0 hz1 hz2 _ [83].length (byt [83]) rfl O1.out tv rfl (by rw [HTB.out]; have := HTL.out; simp [maxLen]; omega) (by rw [HTB.out]; have := HTL.out; simp; omega) B1.out.size ?_
       intro v2 W2 ho hgr _
       have O2 := Lib.hid (show OwnB W2 w.heap.size v2 m2 by rw [HM2.out]; exact HOT.out W2 v2 [83] ho)
       have B2 := Lib.hid (B1.out.trans ((Below.refl _ _).grown hgr B1.out.size (fun k hk => own_base O1.out k hk)))
       clear ho hgr)
    | (refine wpList_valM rfl _ _ (run_oneR W2 0 _ rfl (by rfl)) ?_)
    | (at_builtin; refine wpList_app _ rfl (.tmp 21) (.tmp 22) _ rfl w.heap.size 5 i0 (.int .u8 0) 1 1 Tryd.underlying36 hi hz0 hz1 hz2 rfl (by decide) _ m2.length (byt m2) rfl (World.ownsRow.alloc O2.out _) _ (some ⟨W2.heap.size, 0, none⟩) 1 1 (byt [0]) rfl rfl (by exact rd_new W2 (byt [0]) 5 (0, 0)) (byt_one _) (by have := HL2.out; omega) (by have := HL2.out; omega) (by have := B2.out.size; simp; omega) ?_
       intro v4 W4 hap
       have B4 := Lib.hid ((B2.out.alloc B2.out.size _).trans (hap.below (World.ownsRow.alloc O2.out _) (by have := B2.out.size; simp; omega)))
       have O4 := Lib.hid (show OwnB W4 w.heap.size v4 m4 by
         have h1 := hap.own
         rw [HM4.out]
         unfold OwnB
         rw [List.length_append, show byt (m2 ++ [0]) = byt m2 ++ byt [0] by simp [byt]]
         exact h1)
       clear hap)
    | (refine Lib.wpList_append_own_string _ rfl (.tmp 24) (.tmp 25) 36 9 rfl w.heap.size 5 i0 Tryd.underlying36 Tryd.underlying9 hi hz0 hz1 hz2 v4 m4.length (byt m4) rfl O4.out sv rfl (by rw [HSB.out]; have := HL4.out; have := HSL.out; simp [maxLen]; omega) (by rw [HSB.out]; have := HL4.out; have := HSL.out; omega) B4.out.size ?_
       intro v5 W5 ho hgr _
       have O5 := Lib.hid (HOS.out W5 v5 m4 ho)
       have B5 := Lib.hid (B4.out.trans ((Below.refl _ _).grown hgr B4.out.size (fun k hk => own_base O4.out k hk)))
       obtain ⟨A5, c5, hv5, _, _, hr5⟩ := O5.out.rd
       rw [HMK.out] at hv5 hr5
       subst hv5
       have RS := Lib.hid (rshort_c A5 c5 mk W5 hr5 HML.out (by rw [← HMK.out, List.length_append]; have := HL4.out; have := HSL.out; omega))
       clear ho hgr hr5)
    | (go_at_call 17; (with_reducible refine RS.out.mono ?_); rintro e W6 ⟨rfl, hb6⟩; have B6 := Lib.hid (B5.out.trans (hb6.mono B5.out.size)); rw [← HAS.out]; clear hb6 RS))
  clear HMK HML HAS HOT HOS B1 B2 B4 B5 O1 O2 O4 O5 HTB HSB
  go_wp2_with fail
  go_loopw [9] (fun ov wr => ∃ (o : List Nat) (A : Option Addr) (c : Nat), ov = .slice A o.length c ∧ OwnI wr W6.heap.size (.slice A o.length c) o ∧ refN x n (rawL n) (3 - o.length) o = F ∧ o.length ≤ 3 ∧ Below W6.heap.size W6 wr) (fun ov _ => 3 - lenI ov)
  case atStart => exact ⟨[], none, 0, rfl, OwnI.nil_ _ _, HF.out.symm, by decide, Below.refl _ _⟩
  case round =>
    rename World => wr
    obtain ⟨o, A, c, rfl, ho, hf, ho3, hb⟩ := hrel
    have HO := Lib.hid ho
    have HB := Lib.hid hb
    have HFF := Lib.hid hf
    clear ho hb hf
    by_cases hgo : o.length < 3 ∧ o.length < n
    · obtain ⟨g1, g2⟩ := hgo
      have q1 : (o.length : Int) < 3 := by omega
      have q2 : (o.length : Int) < (n : Int) := by omega
      obtain ⟨A', c', e', hoc, hocm, hord⟩ := HO.out.rd
      cases e'
      have hcI : (c : Int) ≤ 9223372036854775807 := by unfold maxLen at hocm; omega
      have HOR := Lib.hid (fun (wz : World) (h : Below wr.heap.size wr wz) => show RdI wz wr.heap.size A o from Rd.below hord h)
      clear hord hocm
      go_wp2_with fail
      go_loopw [10, 11, 12] (fun bv fv nv wq => ∃ (k : Nat) (acc : Option Pt), k ≤ n ∧ nv = .int .i64 (k : Nat) ∧ bv = .int .i64 (bestI acc) ∧ fv = .int .u64 (farN acc : Nat) ∧ acc = scan x o (rawL k) none ∧ Below wr.heap.size wr wq) (fun _ _ nv _ => n - (intOf nv).toNat)
      case atStart => exact ⟨0, none, Nat.zero_le _, rfl, rfl, rfl, rfl, Below.refl _ _⟩
      case round =>
        rename World => wq
        obtain ⟨k, acc, hk, rfl, rfl, rfl, hacc, hbq⟩ := hrel
        have HBQ := Lib.hid hbq
        have HAC := Lib.hid hacc
        clear hbq hacc
        by_cases hlt : k < n
        · have r1 : (k : Int) < (n : Int) := by omega
          have HLT := Lib.hid hlt
          have HK9 := Lib.hid (show k < 100 by have := HN.out; omega)
          clear hlt hk
          go_wp2_with fail
          go_loopw [13, 14] (fun tv jv wz => ∃ (j : Nat) (b : Bool), j ≤ o.length ∧ jv = .int .i64 (j : Nat) ∧ tv = .bool b ∧ b = (o.take j).contains k ∧ wz = wq) (fun _ jv _ => o.length - (intOf jv).toNat)
          case atStart => exact ⟨0, false, Nat.zero_le _, rfl, rfl, rfl, rfl⟩
          case round =>
            rename World => wy
            obtain ⟨j, b, hj2, rfl, rfl, hbb, hwy⟩ := hrel
            obtain rfl := hwy.symm
            by_cases hlj : j < o.length
            · have s1 : (j : Int) < (o.length : Int) := by omega
              obtain ⟨ad, rfl, _, hat⟩ := HOR.out _ HBQ.out (by intro h0; have h1 : (its o).length = 0 := by { rw [h0]; rfl }; rw [its_len] at h1; omega)
              have c0 := hat j _ (its_at hlj)
              have HTJ := Lib.hid (show (o.take (j + 1)).contains k = (b || (o.getD j 0 == k)) by
                rw [hbb, List.take_add_one, List.getElem?_eq_getElem hlj, List.getD_eq_getElem?_getD, List.getElem?_eq_getElem hlj]
                simp only [Option.toList_some, Option.getD_some]
                rw [Bool.eq_iff_iff]
                simp only [List.contains_iff_mem, List.mem_append, List.mem_singleton, Bool.or_eq_true, beq_iff_eq]
                constructor
                · rintro (h | h)
                  · exact .inl h
                  · exact .inr h.symm
                · rintro (h | h)
                  · exact .inl h
                  · exact .inr h.symm)
              have HLJ := Lib.hid hlj
              clear hat hbb hlj hj2
              generalize o.getD j 0 = y at *
              cases b with
              | true =>
                go_wp2_with fail
                go_roundw
                case rel => exact ⟨j + 1, true, HLJ.out, by go_num, rfl, by rw [HTJ.out]; rfl, by first | rfl | trivial⟩
                case measure => have := HLJ.out; simp [intOf]; omega
              | false =>
                by_cases hy : y = k
                · subst hy
                  go_wp2_with fail
                  go_roundw
                  case rel => exact ⟨j + 1, true, HLJ.out, by go_num, by first | rfl | simp, by rw [HTJ.out]; simp, by first | rfl | trivial⟩
                  case measure => have := HLJ.out; simp [intOf]; omega
                · have s2 : ((y : Int) == (k : Int)) = false := by rw [beq_eq_false_iff_ne]; omega
                  have s3 : (y == k) = false := by rw [beq_eq_false_iff_ne]; exact hy
                  clear hy
                  go_wp2_with fail
                  go_roundw
                  case rel => exact ⟨j + 1, false, HLJ.out, by go_num, by first | rfl | simp [s2, s3], by rw [HTJ.out, s3]; rfl, by first | rfl | trivial⟩
                  case measure => have := HLJ.out; simp [intOf]; omega
            · obtain rfl : j = o.length := by omega
              have s1 : ¬ (o.length : Int) < (o.length : Int) := by omega
              rw [List.take_length] at hbb
              have HBB := Lib.hid hbb.symm
              clear hbb hlj hj2
              cases b with
              | true =>
                go_wp2_with fail
                go_loopw [10, 11, 15] (fun bv fv iv wz => bv = .int .i64 (bestI acc) ∧ fv = .int .u64 (farN acc : Nat) ∧ iv = .int .i64 0 ∧ wz = wq) (fun _ _ _ _ => 0)
                case atStart => exact ⟨rfl, rfl, rfl, rfl⟩
                case round =>
                  rename World => wy
                  obtain ⟨rfl, rfl, rfl, hwy⟩ := hrel
                  obtain rfl := hwy.symm
                  go_wp2_with fail
                  go_roundw
                  case rel => exact ⟨k + 1, acc, HLT.out, by go_num, rfl, rfl, by rw [rawL_succ, scan_app, ← HAC.out, scan_there x o k 16 acc HBB.out], HBQ.out⟩
                  case measure => have := HLT.out; simp [intOf]; omega
              | false =>
                go_wp2_with fail
                go_loopw [10, 11, 15] (fun bv fv iv wz => ∃ (i : Nat) (acc2 : Option Pt), i ≤ 16 ∧ iv = .int .i64 (i : Nat) ∧ bv = .int .i64 (bestI acc2) ∧ fv = .int .u64 (farN acc2 : Nat) ∧ acc2 = scan x o (rawTo k i) acc ∧ Below wr.heap.size wr wz) (fun _ _ iv _ => 16 - (intOf iv).toNat)
                case atStart => exact ⟨0, acc, by decide, rfl, rfl, rfl, rfl, HBQ.out⟩
                case round =>
                  rename World => wz
                  obtain ⟨i, acc2, hi16, rfl, rfl, rfl, hac2, hbz⟩ := hrel
                  have HBZ := Lib.hid hbz
                  have HAC2 := Lib.hid hac2
                  clear hbz hac2
                  by_cases hli : i < 16
                  · have u1 : (i : Int) < 16 := by omega
                    have HLI := Lib.hid hli
                    obtain ⟨mr2, hmr2⟩ : ∃ mr2 : List Nat, mr2 = [82] ++ form k 2 := ⟨_, rfl⟩
                    have HMR := Lib.hid (show mr2 ++ form i 2 = mkR k i by rw [hmr2]; rfl)
                    have HM3 := Lib.hid hmr2
                    have HL3 := Lib.hid (show mr2.length = 3 by rw [hmr2, List.length_append, form_len]; rfl)
                    clear hmr2
                    have HRL := Lib.hid (mkR_lt k i)
                    have HRN := Lib.hid (mkR_len k i)
                    have HSC := Lib.hid (scan_one x o k i acc HBB.out)
                    rw [← HAC2.out] at HSC
                    have HPT := Lib.hid (show number ((sha (mkR k i)).take 8) = (rawP k i).1 ∧ k = (rawP k i).2 ∧ (rawP k i).1 < 18446744073709551616 from ⟨rfl, rfl, rawP_lt k i⟩)
                    clear hli hi16
                    generalize rawP k i = p at *
                    generalize mkR k i = mr at *
                    go_upto_region 20 with (first
                      | (refine wpList_valM rfl _ _ (run_oneR wz 82 _ rfl (by rfl)) ?_
                         obtain ⟨V1, e1⟩ : ∃ V1, V1 = wz.alloc (.cells (byt [82]).toArray 5) := ⟨_, rfl⟩
                         have ho1 := own_oneB wz 82 wz.heap.size (Nat.le_refl _)
                         rw [← e1] at ho1 ⊢
                         have C1 := Lib.hid (show Below wz.heap.size wz V1 by rw [e1]; exact (Below.refl _ _).alloc (Nat.le_refl _) _)
                         have P1 := Lib.hid ho1
                         have GF1 := Lib.hid (form2_c k V1 HK9.out)
                         clear e1 ho1)
                      | (go_at_call 18; (with_reducible refine GF1.out.mono ?_); rintro e V2 ⟨f2, rfl, hf2, hb2⟩; obtain ⟨AF, cF, hfe, _, _, hfr⟩ := hf2.rd; rw [form_len] at hfe; subst hfe; have C2 := Lib.hid (C1.out.trans (hb2.mono C1.out.size)); have P2 := Lib.hid (show OwnB V2 wz.heap.size _ [82] from own_keep (S := fun _ => False) P1.out (Only.of_below hb2) (fun _ _ h => h)); have FR := Lib.hid hfr; clear hf2 hb2 hfr GF1)
                      | (at_builtin; refine wpList_app _ rfl (.tmp 65) (.tmp 68) _ rfl wz.heap.size 5 i0 (.int .u8 0) 1 1 Tryd.underlying36 hi hz0 hz1 hz2 rfl (by decide) _ [82].length (byt [82]) rfl P2.out _ AF 2 cF (byt (form k 2)) rfl (by rw [byt_len, form_len]) FR.out (byt_one _) (by decide) (by decide) C2.out.size ?_
                         intro v3 V3 hap
                         have C3 := Lib.hid (C2.out.trans (hap.below P2.out C2.out.size))
                         have P3 := Lib.hid (show OwnB V3 wz.heap.size v3 mr2 by
                           have h1 := hap.own
                           unfold OwnB
                           rw [HL3.out, HM3.out, show byt ([82] ++ form k 2) = byt [82] ++ byt (form k 2) by simp [byt]]
                           exact h1)
                         have GF2 := Lib.hid (form2_c i V3 (by have := HLI.out; omega))
                         clear hap)
                      | (go_at_call 18; (with_reducible refine GF2.out.mono ?_); rintro e V4 ⟨f4, rfl, hf4, hb4⟩; obtain ⟨AG, cG, hge, _, _, hgr⟩ := hf4.rd; rw [form_len] at hge; subst hge; have C4 := Lib.hid (C3.out.trans (hb4.mono C3.out.size)); have P4 := Lib.hid (show OwnB V4 wz.heap.size v3 mr2 from own_keep (S := fun _ => False) P3.out (Only.of_below hb4) (fun _ _ h => h)); have GR := Lib.hid hgr; clear hf4 hb4 hgr GF2)
                      | (at_builtin; refine wpList_app _ rfl (.tmp 70) (.tmp 73) _ rfl wz.heap.size 5 i0 (.int .u8 0) 1 1 Tryd.underlying36 hi hz0 hz1 hz2 rfl (by decide) _ mr2.length (byt mr2) rfl P4.out _ AG 2 cG (byt (form i 2)) rfl (by rw [byt_len, form_len]) GR.out (byt_one _) (by rw [HL3.out]; decide) (by rw [HL3.out]; decide) C4.out.size ?_
                         intro v5 V5 hap
                         have C5 := Lib.hid (C4.out.trans (hap.below P4.out C4.out.size))
                         have hp5 : OwnB V5 wz.heap.size v5 mr := by
                           have h1 := hap.own
                           rw [← HMR.out]
                           unfold OwnB
                           rw [List.length_append, form_len, show byt (mr2 ++ form i 2) = byt mr2 ++ byt (form i 2) by simp [byt]]
                           exact h1
                         obtain ⟨A5, c5, hv5, _, _, hr5⟩ := hp5.rd
                         subst hv5
                         have RS := Lib.hid (rshort_c A5 c5 mr V5 hr5 HRL.out (by rw [HRN.out]; decide))
                         rw [HPT.out.1] at RS
                         have U1 := dst_wrap HPT.out.2.2 HXL.out
                         have U2 := Lib.hid (dst_lt HPT.out.2.2 HXL.out)
                         obtain ⟨dd, hdd⟩ : ∃ dd, dd = dst x p.1 := ⟨_, rfl⟩
                         rw [← hdd] at U1 U2
                         have DD := Lib.hid hdd
                         clear hap hp5 hr5 hdd)
                      | (go_at_call 17; (with_reducible refine RS.out.mono ?_); rintro e V6 ⟨rfl, hb6⟩; have C6 := Lib.hid (C5.out.trans (hb6.mono C5.out.size)); clear hb6 RS))
                    have HZ6 := Lib.hid (HBZ.out.trans (C6.out.mono HBZ.out.size))
                    clear U1 C1 C2 C3 C4 C5 C6 P1 P2 P3 P4 FR GR HMR HRL HRN
                    cases acc2 with
                    | none =>
                      have b0 : bestI none = -1 := rfl
                      simp only [bestI, farN]
                      go_wp2_with fail
                      go_roundw
                      case rel => exact ⟨i + 1, some (dd, k), HLI.out, by go_num, rfl, rfl, by rw [HSC.out]; unfold better1; rw [DD.out, HPT.out.2.1], HZ6.out⟩
                      case measure => have := HLI.out; simp [intOf]; omega
                    | some fb =>
                      obtain ⟨fd, fn⟩ := fb
                      simp only [bestI, farN]
                      have v0 : ¬ (fn : Int) < 0 := by omega
                      have v2 : decide ((fn : Int) < 0) = false := decide_eq_false v0
                      by_cases hd : dd < fd
                      · have v1 : (dd : Int) < (fd : Int) := by omega
                        have HD := Lib.hid hd
                        clear hd v0
                        go_wp2_with fail
                        go_roundw
                        case rel => exact ⟨i + 1, some (dd, k), HLI.out, by go_num, rfl, rfl, by rw [HSC.out]; unfold better1; rw [← DD.out]; simp only; rw [if_pos HD.out, ← HPT.out.2.1], HZ6.out⟩
                        case measure => have := HLI.out; simp [intOf]; omega
                      · have v1 : ¬ (dd : Int) < (fd : Int) := by omega
                        have HD := Lib.hid hd
                        clear hd v0
                        go_wp2_with fail
                        go_roundw
                        case rel => exact ⟨i + 1, some (fd, fn), HLI.out, by go_num, rfl, rfl, by rw [HSC.out]; unfold better1; rw [← DD.out]; simp only; rw [if_neg HD.out], HZ6.out⟩
                        case measure => have := HLI.out; simp [intOf]; omega
                  · obtain rfl : i = 16 := by omega
                    have u1 : ¬ ((16 : Nat) : Int) < 16 := by decide
                    clear hli hi16
                    go_wp2_with fail
                    go_roundw
                    case rel => exact ⟨k + 1, acc2, HLT.out, by go_num, rfl, rfl, by rw [rawL_succ, scan_app, ← HAC.out]; exact HAC2.out, HBZ.out⟩
                    case measure => have := HLT.out; simp [intOf]; omega
        · obtain rfl : k = n := by omega
          have r1 : ¬ (k : Int) < (k : Int) := by omega
          obtain ⟨fb, hfb⟩ := scan_some (x := x) (o := o) g2
          rw [hfb] at HAC
          obtain rfl := HAC.out
          have HRF := Lib.hid (refN_go (k := 3 - (o.length + 1)) ⟨g1, g2⟩ hfb)
          rw [show 3 - (o.length + 1) + 1 = 3 - o.length by omega] at HRF
          obtain ⟨fd, fn⟩ := fb
          have HOQ := Lib.hid (HO.out.next HBQ.out)
          have HBW := Lib.hid (HB.out.trans (HBQ.out.mono HB.out.size))
          clear hlt hk hfb
          simp only [bestI, farN]
          go_wp2_with (first
            | (refine wpList_valM rfl _ _ (run_oneI wq fn (.tmp 88) rfl (by rfl)) ?_)
            | (at_builtin; refine wpList_app _ rfl (.tmp 87) (.tmp 89) _ rfl W6.heap.size 3 j0 (.int .i64 0) 1 8 Tryd.underlying25 hj hy0 hy1 hy2 rfl (by decide) _ o.length (its o) rfl (HOQ.out.allocI _) _ (some ⟨wq.heap.size, 0, none⟩) 1 1 (its [fn]) rfl rfl (by exact rd_new wq (its [fn]) 3 (0, 0)) (its_one _) (by omega) (by omega) (by have := HBW.out.size; simp; omega) ?_
               intro v7 V7 hap
               have HV := Lib.hid (OwnI.app (l := o) (m := [fn]) hap)
               have HB7 := Lib.hid ((HBW.out.alloc HBW.out.size _).trans (hap.below (HOQ.out.allocI _) (by have := HBW.out.size; simp; omega)))
               clear hap))
          go_roundw
          case rel =>
            obtain ⟨A7, c7, e7, _, _, _⟩ := HV.out.rd
            refine ⟨o ++ [fn], A7, c7, e7, by rw [← e7]; exact HV.out, ?_, by rw [List.length_append]; simp; omega, HB7.out⟩
            rw [← HFF.out, HRF.out, show (o ++ [fn]).length = o.length + 1 by simp]
          case measure =>
            obtain ⟨A7, c7, e7, _, _, _⟩ := HV.out.rd
            show 3 - lenI v7 < 3 - o.length
            rw [e7]
            show 3 - (o ++ [fn]).length < 3 - o.length
            rw [List.length_append]
            simp
            omega
    · have hof := refN_stop (x := x) (n := n) (S := rawL n) (k := 3 - o.length) hgo
      rw [HFF.out] at hof
      obtain ⟨A', c', e', hoc, hocm, hord⟩ := HO.out.rd
      cases e'
      have HE := Lib.hid hof
      have HR := Lib.hid hord
      have HC := Lib.hid hoc
      clear hof hord hoc hocm
      by_cases g1 : o.length < 3
      · have q1 : (o.length : Int) < 3 := by omega
        have q2 : ¬ (o.length : Int) < (n : Int) := by omega
        clear hgo
        go_wp2_with fail
        go_ret
        exact ⟨A, c, by rw [HE.out]; first | done | rfl, by rw [HE.out]; exact HC.out, by rw [HE.out]; exact HR.out, B6.out.trans (HB.out.mono B6.out.size)⟩
      · have q1 : ¬ (o.length : Int) < 3 := by omega
        clear hgo
        go_wp2_with fail
        go_ret
        exact ⟨A, c, by rw [HE.out]; first | done | rfl, by rw [HE.out]; exact HC.out, by rw [HE.out]; exact HR.out, B6.out.trans (HB.out.mono B6.out.size)⟩
end Go.Proofs.YtbgnjjbmidkhlaaDoor
/- Contract: the example of layer 18; what a ring's nodes are. -/
namespace Go.Proofs.YtbgnjjbmidkhlaaDoor
set_option linter.unusedVariables false
set_option linter.unusedSimpArgs false
set_option maxRecDepth 100000
open Go.RowKit
set_option linter.unusedVariables false
set_option linter.unusedSimpArgs false
theorem rot_lt {x n : Nat} {L : List Pt} (hp : L.Perm (rawL n)) : ∀ p ∈ rotL x L, p.2 < n := fun p h => mem_rawL (hp.mem_iff.1 (mem_rot.1 h))
theorem rot_all {x n : Nat} {L : List Pt} (hp : L.Perm (rawL n)) : ∀ y, y < n → ∃ p ∈ rotL x L, p.2 = y := fun y hy => by
  obtain ⟨p, h1, h2⟩ := rawL_all hy
  exact ⟨p, mem_rot.2 (hp.mem_iff.2 h1), h2⟩
/-- a ring's nodes: unlike ones, three, or all -/
theorem nodes_are {x n : Nat} {L : List Pt} (hp : L.Perm (rawL n)) : (firsts 3 [] (rotL x L)).length = min 3 n ∧ (firsts 3 [] (rotL x L)).Nodup ∧ ∀ y ∈ firsts 3 [] (rotL x L), y < n := by
  rw [firsts_uniq 3 (rotL x L) [] (by simp), List.nil_append]
  have h1 := uniq_len (n := n) (rot_lt (x := x) hp) (rot_all hp)
  refine ⟨by rw [List.length_take, h1], (uniq_nodup _ _).sublist (List.take_sublist _ _), fun y hy => ?_⟩
  obtain ⟨_, p, hpm, rfl⟩ := (uniq_mem _ _ _).1 (List.mem_of_mem_take hy)
  exact rot_lt hp p hpm
theorem three_nodes {o : List Nat} (h1 : o.length = 3) (h2 : o.Nodup) (h3 : ∀ y ∈ o, y < 3) : o = [0, 1, 2] ∨ o = [0, 2, 1] ∨ o = [1, 0, 2] ∨ o = [1, 2, 0] ∨ o = [2, 0, 1] ∨ o = [2, 1, 0] := by
  match o, h1 with
  | [a, b, c], _ =>
    have ha := h3 a (by simp)
    have hb := h3 b (by simp)
    have hc := h3 c (by simp)
    simp only [List.nodup_cons, List.mem_cons, List.not_mem_nil, or_false, not_or] at h2
    obtain ⟨⟨n1, n2⟩, n3, _⟩ := h2
    simp only [List.cons.injEq, and_true]
    omega
theorem perm_len {n : Nat} {L : List Pt} (hp : L.Perm (rawL n)) (hn : n ≤ 32) : L.length ≤ 1000 := by
  rw [hp.length_eq, rawL_len]; omega
theorem NodesOk.of {w W : World} {o : List Nat} {e : Ending} {w' : World} (h : NodesOk W o e w') (hb : Below w.heap.size w W) : ∃ A c, e = .returned (.slice A o.length c) ∧ o.length ≤ c ∧ RdI w' w'.heap.size A o ∧ Below w.heap.size w w' := by
  obtain ⟨A, c, h1, h2, h3, h4⟩ := h
  exact ⟨A, c, h1, h2, h3, hb.trans (h4.mono hb.size)⟩
set_option maxRecDepth 100000 in
set_option maxHeartbeats 8000000 in
theorem awake18_c (w : World) (hR : RoundsAt w) : Calls Tryd.prog 5 #[] w (Yes w) := by
  have HNW := Lib.hid (new_c 3 3 3 w rfl rfl (by decide) hR)
  have HRO := Lib.hid hR
  clear hR
  go_enter Tryd.func5, Tryd.ntmps5
  go_upto_region 2 with (first
    | (go_at_call 6; (with_reducible refine HNW.out.mono ?_); rintro e W1 ⟨L, v, rfl, h1, h2, h3, h4⟩
       have HB1 := Lib.hid h4
       have HPM := Lib.hid h2
       have HNC := Lib.hid (show Calls Tryd.prog 10 #[.pointer (some ⟨w.heap.size, 0, none⟩), .string ⟨#[116]⟩, .string ⟨#[97]⟩] W1 (NodesOk W1 (firsts 3 [] (rotL (atS [116] [97]) L))) from nodes_c w.heap.size 3 L v [116] [97] W1 h3 h1 (perm_len h2 (by decide)) (by intro c hc; simp at hc; omega) (by intro c hc; simp at hc; omega) (by decide) (by decide) (HRO.out.next h4))
       clear h1 h2 h3 h4)
    | (go_at_call 10; (with_reducible refine HNC.out.mono ?_); rintro e W2 hk; obtain ⟨A, c, rfl, k1, k2, k3⟩ := hk.of HB1.out; have HK1 := Lib.hid k1; have HK2 := Lib.hid k2; have HB2 := Lib.hid k3; clear hk k1 k2 k3))
  have hna := nodes_are (x := atS [116] [97]) HPM.out
  have h3 := three_nodes hna.1 hna.2.1 hna.2.2
  clear hna HPM HNC HNW
  generalize firsts 3 [] (rotL (atS [116] [97]) L) = o at *
  obtain ⟨ad, rfl, _, hat⟩ := HK2.out (by intro h0; have h1 : (its o).length = 0 := by { rw [h0]; rfl }; rw [its_len] at h1; rcases h3 with rfl | rfl | rfl | rfl | rfl | rfl <;> simp at h1)
  have key : ∀ a b d : Nat, o = [a, b, d] → W2.cell? ad = some (.int .i64 (a : Int)) ∧ W2.cell? ⟨ad.block, ad.off + 1, none⟩ = some (.int .i64 (b : Int)) ∧ W2.cell? ⟨ad.block, ad.off + 2, none⟩ = some (.int .i64 (d : Int)) := fun a b d h => by
    subst h
    refine ⟨?_, hat 1 _ rfl, hat 2 _ rfl⟩
    have := hat 0 _ rfl
    rwa [show ad.add 0 = ad by simp [Addr.add]] at this
  have HKE := Lib.hid key
  have HC := Lib.hid (HK1.out)
  clear hat key HK1 HK2
  rcases h3 with rfl | rfl | rfl | rfl | rfl | rfl
  all_goals
    obtain ⟨e0, e1, e2⟩ := HKE.out _ _ _ rfl
    clear HKE
    go_wp2_with fail
    go_quiet (fail)
    go_wp2_with fail
    go_ret
    exact ⟨rfl, belowDrewN nq HB2.out⟩
end Go.Proofs.YtbgnjjbmidkhlaaDoor
