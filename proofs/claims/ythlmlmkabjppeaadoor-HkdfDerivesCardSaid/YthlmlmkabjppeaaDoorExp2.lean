/- Contract: a key expanded by the document. -/
import Derived.Test.YthlmlmkabjppeaaDoorExp1
namespace Go.Proofs.YthlmlmkabjppeaaDoor
open Go.RowKit
set_option linter.unusedVariables false
set_option linter.unusedSimpArgs false
set_option maxRecDepth 100000 in
set_option maxHeartbeats 8000000 in
theorem rexpand_c (B C : Nat) (A D : Option Addr) (ca cb : Nat) (k m : List Nat) (n : Nat) (w : World) (hk : Rd w B A (byt k)) (hm : Rd w C D (byt m)) (hB : B ≤ w.heap.size) (hC : C ≤ w.heap.size) (hkl : ∀ c ∈ k, c < 256) (hml : ∀ c ∈ m, c < 256) (hkn : k.length ≤ 8000) (hmn : m.length ≤ 4000) (hn : n ≤ 8160) :
    Calls Tryd.prog 25 #[.slice A k.length ca, .slice D m.length cb, .int .i64 n] w fun e w' => ∃ A2 c2, e = .returned (.slice A2 n c2) ∧ Rd w' w'.heap.size A2 (byt (expd k m n)) ∧ Below w.heap.size w w' := by
  obtain ⟨i0, hi, hz0, hz1, hz2⟩ := info_parts byteInfo
  have HK := Lib.hid hk
  have HM := Lib.hid hm
  have HKL := Lib.hid hkl
  have HML := Lib.hid hml
  have HMN := Lib.hid hmn
  clear hk hm hkl hml hmn
  go_enter Tryd.func25, Tryd.ntmps25
  go_wp2_with fail
  go_loopw [7, 8, 9] (fun vo vl vi wr => ∃ i : Nat, (i = 0 ∨ 32 * (i - 1) < n) ∧ vi = .int .i64 ((i : Int) + 1) ∧ OwnB wr w.heap.size vo (exN k m i) ∧ (∃ AL cl, vl = .slice AL (exT k m i).length cl ∧ Rd wr wr.heap.size AL (byt (exT k m i))) ∧ Below w.heap.size w wr) (fun vo _ _ _ => n + 32 - lenOf vo)
  case atStart => exact ⟨0, .inl rfl, rfl, OwnB.nil_ _ _, ⟨none, 0, rfl, Rd.nil_ _ _ _⟩, Below.refl _ _⟩
  case round =>
    rename World => wr
    obtain ⟨i, hin, rfl, ho, ⟨AL, cl, rfl, hrl⟩, hb⟩ := hrel
    have HO := Lib.hid ho
    have HB := Lib.hid hb
    have HRL := Lib.hid hrl
    have HLN := Lib.hid (exN_len k m i)
    obtain ⟨AO, ko, rfl, hko, hkm, hro⟩ := ho.rd
    have HRO2 := Lib.hid hro
    clear ho hb hrl hro
    by_cases hlt : 32 * i < n
    · have q3 : ((exN k m i).length : Int) < (n : Int) := by rw [HLN.out]; omega
      have HTL := Lib.hid (exT_len2 k m i)
      have HTS := Lib.hid (exT_succ k m i)
      have HNS := Lib.hid (exN_succ k m i)
      have HTB := Lib.hid (exT_lt k m i)
      have HT32 := Lib.hid (exT_len k m i)
      have HKW := Lib.hid (show Rd wr B A (byt k) from HK.out.below (HB.out.mono hB))
      have HMW := Lib.hid (show Rd wr C D (byt m) from HM.out.below (HB.out.mono hC))
      have HCW := Lib.hid (Nat.le_trans hC HB.out.size)
      have HBW := Lib.hid (Nat.le_trans hB HB.out.size)
      have HWW := Lib.hid HB.out.size
      have hw8 : IntKind.u8.wrap ((i : Int) + 1) = (((i + 1) % 256 : Nat) : Int) := by simp [IntKind.wrap, IntKind.signed, IntKind.bits]
      have hw9 : ((i : Int) + 1) % 256 = (((i + 1) % 256 : Nat) : Int) := by omega
      have hib : (i + 1) % 256 < 256 := by omega
      have HNL := Lib.hid (exN_len k m (i + 1))
      obtain ⟨TN, hTN⟩ : ∃ TN, TN = exT k m (i + 1) := ⟨_, rfl⟩
      rw [← hTN] at HTS HNS HT32
      have HTN := Lib.hid hTN
      clear hTN
      generalize exT k m i = TL at *
      obtain ⟨NN, hNN⟩ : ∃ NN, NN = exN k m (i + 1) := ⟨_, rfl⟩
      rw [← hNN] at HNS HNL
      have HNN := Lib.hid hNN
      clear hNN
      generalize exN k m i = NO at *
      generalize hib2 : (i + 1) % 256 = ib at *
      obtain ⟨J, hJ⟩ : ∃ J, J = TL ++ m ++ [ib] := ⟨_, rfl⟩
      have HJB := Lib.hid (show ∀ c ∈ J, c < 256 by
        intro c hc
        rw [hJ] at hc
        rcases List.mem_append.1 hc with h | h
        · rcases List.mem_append.1 h with h | h
          · exact HTB.out c h
          · exact HML.out c h
        · rw [List.mem_singleton.1 h]; exact hib)
      have HJN := Lib.hid (show J.length ≤ 8000 by rw [hJ, List.length_append, List.length_append, List.length_singleton]; have := HTL.out; have := HMN.out; omega)
      have HTM := Lib.hid (show mac k J = TN by rw [hJ]; exact HTS.out.symm)
      have HJ := Lib.hid hJ
      clear hJ HTS HTB
      obtain ⟨TM, hTMd⟩ : ∃ TM, TM = TL ++ m := ⟨_, rfl⟩
      have HTMD := Lib.hid hTMd
      have HTML := Lib.hid (show TM.length ≤ 5000 by rw [hTMd, List.length_append]; have := HTL.out; have := HMN.out; omega)
      rw [← hTMd] at HJ
      clear hTMd
      go_upto_region 6 with (at_builtin; refine wpList_app _ rfl (.tmp 17) (.tmp 18) _ rfl wr.heap.size 5 i0 (.int .u8 0) 1 1 Tryd.underlying22 hi hz0 hz1 hz2 rfl (by decide) _ 0 [] rfl (by exact OwnB.new wr _ [] (Nat.le_refl _) (by simp [maxLen])) wr.heap.size AL TL.length cl (byt TL) rfl (by simp [byt_len]) (by exact HRL.out.ext ((Below.refl _ _).alloc (Nat.le_refl _) _)) (byt_one _) (by have := HTL.out; omega) (by have := HTL.out; omega) (by simp) ?_; intro v1 w1 hap; have ho1 := (show OwnB w1 wr.heap.size v1 TL from (by have := hap.own; simpa [OwnB] using this)); have HB1 := Lib.hid (show Below wr.heap.size wr w1 from ((Below.refl _ _).alloc (Nat.le_refl _) _).trans (hap.below (by exact OwnB.new wr _ [] (Nat.le_refl _) (by simp [maxLen])) (by simp))); obtain ⟨A1, k1, rfl, _, _, _⟩ := ho1.rd; have HO1 := Lib.hid ho1; clear hap ho1)
      go_upto_region 7 with (at_builtin; refine wpList_app _ rfl (.tmp 20) (.tmp 21) _ rfl wr.heap.size 5 i0 (.int .u8 0) 1 1 Tryd.underlying22 hi hz0 hz1 hz2 rfl (by decide) _ _ _ rfl HO1.out C D m.length cb (byt m) rfl (by simp [byt_len]) (HMW.out.below (HB1.out.mono HCW.out)) (byt_one _) (by have := HTL.out; have := HMN.out; omega) (by have := HTL.out; have := HMN.out; omega) HB1.out.size ?_; intro v2 w2 hap; have ho2 := (show OwnB w2 wr.heap.size v2 TM from (by rw [HTMD.out]; exact OwnB.app hap)); have HB2 := Lib.hid (HB1.out.trans (hap.below HO1.out HB1.out.size)); obtain ⟨A2, k2, rfl, _, _, _⟩ := ho2.rd; have HO2 := Lib.hid ho2; clear hap ho2)
      go_upto_region 8 with (first
        | (at_builtin; refine wpList_app _ rfl (.tmp 24) (.tmp 27) _ rfl wr.heap.size 5 i0 (.int .u8 0) 1 1 Tryd.underlying22 hi hz0 hz1 hz2 rfl (by decide) _ _ _ rfl (HO2.out.alloc _) _ _ 1 1 [.int .u8 (ib : Nat)] rfl rfl (by exact rd_one _ _ _) (byt_one [ib]) (by have := HTML.out; omega) (by have := HTML.out; omega) (by have := HB2.out.size; simp; omega) ?_; intro v3 w3 hap; have ho3 := (show OwnB w3 wr.heap.size v3 J from (by rw [HJ.out]; exact OwnB.snoc hap)); have HB3 := Lib.hid (show Below wr.heap.size wr w3 from (HB2.out.alloc HB2.out.size _).trans (hap.below (HO2.out.alloc _) (by have := HB2.out.size; simp; omega))); obtain ⟨A3, k3, rfl, _, _, r3⟩ := ho3.rd; have HR3 := Lib.hid r3; have HO3 := Lib.hid (HO.out.next HB3.out); clear hap ho3 r3)
        | (go_at_call 16; (refine (rmac_c B w3.heap.size A A3 ca k3 k J w3 (HKW.out.below (HB3.out.mono HBW.out)) HR3.out (Nat.le_trans HBW.out HB3.out.size) (Nat.le_refl _) HKL.out HJB.out hkn HJN.out).mono ?_); rw [HTM.out]; rintro e Y ⟨v4, rfl, ho4, hb⟩; have HB4 := Lib.hid hb; obtain ⟨A4, k4, rfl, _, _, r4⟩ := ho4.rd; have HR4 := Lib.hid r4; have HO4 := Lib.hid ho4; clear hb ho4 r4))
      have HOY := Lib.hid (HO3.out.next HB4.out)
      have HOF := Lib.hid (show ∀ g, (Value.slice AO NO.length ko).ownBlock = some g → g < w3.heap.size from own_lt HO3.out)
      have HOG := Lib.hid (show ∀ g, (Value.slice A4 TN.length k4).ownBlock = some g → w3.heap.size ≤ g from own_base HO4.out)
      have HWY := Lib.hid (show Below w.heap.size w Y from (HB.out.trans (HB3.out.mono HWW.out)).trans (HB4.out.mono (Nat.le_trans HWW.out HB3.out.size)))
      go_wp2_with ((at_builtin; refine wpList_app _ rfl (.tmp 30) (.tmp 31) _ rfl w.heap.size 5 i0 (.int .u8 0) 1 1 Tryd.underlying22 hi hz0 hz1 hz2 rfl (by decide) _ _ _ rfl HOY.out _ A4 TN.length k4 (byt TN) rfl (by simp [byt_len]) HR4.out (byt_one _) (by rw [HLN.out, HT32.out]; omega) (by rw [HLN.out, HT32.out]; omega) HWY.out.size ?_; intro v5 w5 hap; have HO5 := Lib.hid (show OwnB w5 w.heap.size v5 NN from (by rw [HNS.out]; exact OwnB.app hap)); have HO45 := Lib.hid (show OwnB w5 w3.heap.size (.slice A4 TN.length k4) TN from own_keep HO4.out (hap.only (S := fun g => (Value.slice AO NO.length ko).ownBlock = some g) (fun g h => h)) (fun g h1 h2 => (by have := HOF.out g h2; have := HOG.out g h1; omega))); have HB5 := Lib.hid (HWY.out.trans (hap.below HOY.out HWY.out.size)); clear hap))
      obtain ⟨A6, c6, e6, _, _, r6⟩ := HO45.out.rd
      refine ⟨⟨i + 1, .inr (by omega), by congr 1, by rw [← HNN.out]; exact HO5.out, ⟨A6, c6, by rw [← HTN.out]; exact e6, by rw [← HTN.out]; exact r6⟩, HB5.out⟩, ?_⟩
      have h1 : lenOf v5 = 32 * (i + 1) := by rw [HO5.out.lenOf, HNL.out]
      have h2 : lenOf (Value.slice AO NO.length ko) = 32 * i := by rw [HO.out.lenOf, HLN.out]
      omega
    · have q3 : ¬ ((exN k m i).length : Int) < (n : Int) := by rw [HLN.out]; omega
      have hexp : expd k m n = (exN k m i).take n := by
        unfold expd
        rw [show (n + 31) / 32 = i by omega]
      have q4 : (n : Int) ≤ (ko : Int) := by have := HLN.out; omega
      have q5 : (0 : Int) ≤ (n : Int) := by omega
      clear hko
      go_wp2_with fail
      go_ret
      exact ⟨AO, ⟨ko, rfl⟩, HRO2.out.take_ n, HB.out⟩
end Go.Proofs.YthlmlmkabjppeaaDoor
