/- Merged: Exp0 Exp1 Exp2. -/
import Derived.Test.YthlmlmkabjppeaaDoorMacM
namespace Go.Proofs.YthlmlmkabjppeaaDoor
open Go.RowKit
set_option linter.unusedVariables false
set_option linter.unusedSimpArgs false
/-- a key expanded -/
def expd (k info : List Nat) (n : Nat) : List Nat := (exN k info ((n + 31) / 32)).take n
theorem expd_len (k info : List Nat) (n : Nat) : (expd k info n).length = n := by unfold expd; rw [List.length_take, exN_len]; omega
theorem exT_lt (k info : List Nat) (i : Nat) : ∀ c ∈ exT k info i, c < 256 := by
  cases i with
  | zero => intro c hc; cases hc
  | succ i => exact mac_lt _ _
theorem exT_len2 (k info : List Nat) (i : Nat) : (exT k info i).length ≤ 32 := by
  cases i with
  | zero => exact Nat.zero_le _
  | succ i => rw [exT_len]; exact Nat.le_refl _
theorem exN_lt (k info : List Nat) (i : Nat) : ∀ c ∈ exN k info i, c < 256 := by
  induction i with
  | zero => intro c hc; cases hc
  | succ i ih =>
    intro c hc
    rcases List.mem_append.1 hc with h | h
    · exact ih c h
    · exact exT_lt k info (i + 1) c h
theorem expd_lt (k info : List Nat) (n : Nat) : ∀ c ∈ expd k info n, c < 256 := fun c hc => exN_lt k info _ c (List.mem_of_mem_take hc)
theorem exN_take (k info : List Nat) (a j : Nat) : (exN k info (a + j)).take (32 * a) = exN k info a := by
  induction j with
  | zero => rw [Nat.add_zero]; exact List.take_of_length_le (by rw [exN_len]; exact Nat.le_refl _)
  | succ j ih =>
    rw [show a + (j + 1) = (a + j) + 1 by omega, exN, List.take_append_of_le_length (by rw [exN_len]; omega), ih]
theorem expd_take (k info : List Nat) (m n : Nat) (h : m ≤ n) : (expd k info n).take m = expd k info m := by
  unfold expd
  rw [List.take_take, Nat.min_eq_left h]
  obtain ⟨j, hj⟩ : ∃ j, (n + 31) / 32 = (m + 31) / 32 + j := ⟨(n + 31) / 32 - (m + 31) / 32, by omega⟩
  rw [hj]
  have h1 := exN_take k info ((m + 31) / 32) j
  rw [← h1, List.take_take, Nat.min_eq_left (by omega)]
theorem exT_succ (k info : List Nat) (i : Nat) : exT k info (i + 1) = mac k (exT k info i ++ info ++ [(i + 1) % 256]) := rfl
theorem exN_succ (k info : List Nat) (i : Nat) : exN k info (i + 1) = exN k info i ++ exT k info (i + 1) := rfl
/-- a block that an append didn't touch -/
theorem blk_apped {w w' : World} {base : Nat} {e : TypeId} {size n n0 : Nat} {v v' : Value} {xs xs0 : List Value} {g : Nat} {t : TypeId} {cs : Array Value} (hb : Blk w g t cs) (hap : Apped w base e size v w' v' n xs) (hne : ∀ k, v.ownBlock = some k → k ≠ g) : Blk w' g t cs := by
  have ho : Only (fun k => v.ownBlock = some k) w w' := hap.only (fun g h => h)
  exact (ho.block g hb.lt (fun h => hne g h rfl)).trans hb
end Go.Proofs.YthlmlmkabjppeaaDoor
namespace Go.Proofs.YthlmlmkabjppeaaDoor
open Go.RowKit
set_option linter.unusedVariables false
set_option linter.unusedSimpArgs false
set_option maxRecDepth 100000 in
set_option maxHeartbeats 8000000 in
theorem expand2_c (B C : Nat) (A D : Option Addr) (ca cb : Nat) (k m : List Nat) (n : Nat) (w : World) (hk : Rd w B A (byt k)) (hm : Rd w C D (byt m)) (hB : B ≤ w.heap.size) (hC : C ≤ w.heap.size) (hkl : ∀ c ∈ k, c < 256) (hml : ∀ c ∈ m, c < 256) (hkn : k.length ≤ 8000) (hmn : m.length ≤ 4000) (hn : n ≤ 8160) (hR : RoundsAt w) :
    Calls Tryd.prog 24 #[.slice A k.length ca, .slice D m.length cb, .int .i64 n] w fun e w' => ∃ A2, e = .returned (.tuple #[.slice A2 n n, .int .i64 0]) ∧ Rd w' w'.heap.size A2 (byt (expd k m n)) ∧ Below w.heap.size w w' ∧ (0 < n → ∃ g, A2 = some ⟨g, 0, none⟩) := by
  obtain ⟨i0, hi, hz0, hz1, hz2⟩ := info_parts byteInfo
  have HK := Lib.hid hk
  have HM := Lib.hid hm
  have HKL := Lib.hid hkl
  have HML := Lib.hid hml
  have HMN := Lib.hid hmn
  have HRO := Lib.hid hR
  have HLB := Lib.hid (Nat.le_refl w.heap.size)
  clear hk hm hkl hml hmn hR
  have q1 : ¬ (n : Int) < 0 := by omega
  have q2 : ¬ (8160 : Int) < (n : Int) := by omega
  go_enter Tryd.func24, Tryd.ntmps24
  go_wp2_with fail
  go_loopw [8, 9, 10] (fun vo vl vi wr => ∃ i : Nat, (i = 0 ∨ 32 * (i - 1) < n) ∧ vi = .int .u8 (((i + 1) % 256 : Nat) : Int) ∧ OwnB wr w.heap.size vo (exN k m i) ∧ (∃ AL cl, vl = .slice AL (exT k m i).length cl ∧ Rd wr wr.heap.size AL (byt (exT k m i))) ∧ Below w.heap.size w wr) (fun vo _ _ _ => n + 32 - lenOf vo)
  case atStart => exact ⟨0, .inl rfl, rfl, OwnB.nil_ _ _, ⟨none, 0, rfl, Rd.nil_ _ _ _⟩, Below.refl _ _⟩
  case round =>
    rename World => wr
    obtain ⟨i, hin, rfl, ho, ⟨AL, cl, rfl, hrl⟩, hb⟩ := hrel
    have HO := Lib.hid ho
    have HB := Lib.hid hb
    have HRL := Lib.hid hrl
    have HLN := Lib.hid (exN_len k m i)
    obtain ⟨AO, ko, rfl, hko, hkm, hro⟩ := ho.rd
    have HRO2 := Lib.hid hro
    clear ho hb hrl hro
    by_cases hlt : 32 * i < n
    · have q3 : ((exN k m i).length : Int) < (n : Int) := by rw [HLN.out]; omega
      have HTL := Lib.hid (exT_len2 k m i)
      have HTS := Lib.hid (exT_succ k m i)
      have HNS := Lib.hid (exN_succ k m i)
      have HTB := Lib.hid (exT_lt k m i)
      have HT32 := Lib.hid (exT_len k m i)
      have HKW := Lib.hid (show Rd wr B A (byt k) from HK.out.below (HB.out.mono hB))
      have HMW := Lib.hid (show Rd wr C D (byt m) from HM.out.below (HB.out.mono hC))
      have HCW := Lib.hid (Nat.le_trans hC HB.out.size)
      have HBW := Lib.hid (Nat.le_trans hB HB.out.size)
      have HWW := Lib.hid HB.out.size
      have hw8 : IntKind.u8.wrap ((((i + 1) % 256 : Nat) : Int) + 1) = (((i + 2) % 256 : Nat) : Int) := by simp [IntKind.wrap, IntKind.signed, IntKind.bits]; omega
      have hib : (i + 1) % 256 < 256 := by omega
      have HNL := Lib.hid (exN_len k m (i + 1))
      obtain ⟨TN, hTN⟩ : ∃ TN, TN = exT k m (i + 1) := ⟨_, rfl⟩
      rw [← hTN] at HTS HNS HT32
      have HTN := Lib.hid hTN
      clear hTN
      generalize exT k m i = TL at *
      obtain ⟨NN, hNN⟩ : ∃ NN, NN = exN k m (i + 1) := ⟨_, rfl⟩
      rw [← hNN] at HNS HNL
      have HNN := Lib.hid hNN
      clear hNN
      generalize exN k m i = NO at *
      generalize hib2 : (i + 1) % 256 = ib at *
      generalize hib3 : (i + 2) % 256 = ic at *
      obtain ⟨J, hJ⟩ : ∃ J, J = TL ++ m ++ [ib] := ⟨_, rfl⟩
      have HJB := Lib.hid (show ∀ c ∈ J, c < 256 by
        intro c hc
        rw [hJ] at hc
        rcases List.mem_append.1 hc with h | h
        · rcases List.mem_append.1 h with h | h
          · exact HTB.out c h
          · exact HML.out c h
        · rw [List.mem_singleton.1 h]; exact hib)
      have HJN := Lib.hid (show J.length ≤ 8000 by rw [hJ, List.length_append, List.length_append, List.length_singleton]; have := HTL.out; have := HMN.out; omega)
      have HTM := Lib.hid (show mac k J = TN by rw [hJ]; exact HTS.out.symm)
      have HJ := Lib.hid hJ
      have HIS := Lib.hid (show (Tryd.prog.info? 26).map (·.size) = some (vb TN).size by rw [vb_size, HT32.out]; kernel_rfl)
      have zf := zero_sum
      have zs1 : zSum.size = 32 := by rfl
      have zs2 : ¬ zSum = #[] := by intro h; have := congrArg Array.size h; rw [zs1] at this; cases this
      clear hJ HTS HTB
      go_upto_region 8 with (first
        | (at_builtin; refine wpList_app _ rfl (.tmp 25) (.tmp 26) _ rfl wr.heap.size 5 i0 (.int .u8 0) 1 1 Tryd.underlying22 hi hz0 hz1 hz2 rfl (by decide) _ 0 [] rfl (by exact OwnB.new wr _ [] (Nat.le_refl _) (by simp [maxLen])) wr.heap.size AL TL.length cl (byt TL) rfl (by simp [byt_len]) (by exact HRL.out.ext ((Below.refl _ _).alloc (Nat.le_refl _) _)) (byt_one _) (by have := HTL.out; omega) (by have := HTL.out; omega) (by simp) ?_; intro v1 w1 hap; have HO1 := Lib.hid (show OwnB w1 wr.heap.size v1 TL from (by have := hap.own; simpa [OwnB] using this)); have HB1 := Lib.hid (show Below wr.heap.size wr w1 from ((Below.refl _ _).alloc (Nat.le_refl _) _).trans (hap.below (by exact OwnB.new wr _ [] (Nat.le_refl _) (by simp [maxLen])) (by simp))); clear hap)
        | (at_builtin; refine wpList_app _ rfl (.tmp 27) (.tmp 28) _ rfl wr.heap.size 5 i0 (.int .u8 0) 1 1 Tryd.underlying22 hi hz0 hz1 hz2 rfl (by decide) _ _ _ rfl HO1.out C D m.length cb (byt m) rfl (by simp [byt_len]) (HMW.out.below (HB1.out.mono HCW.out)) (byt_one _) (by have := HTL.out; have := HMN.out; omega) (by have := HTL.out; have := HMN.out; omega) HB1.out.size ?_; intro v2 w2 hap; have HO2 := Lib.hid (show OwnB w2 wr.heap.size v2 (TL ++ m) from OwnB.app hap); have HB2 := Lib.hid (HB1.out.trans (hap.below HO1.out HB1.out.size)); clear hap)
        | (at_builtin; refine wpList_app _ rfl (.tmp 29) (.tmp 31) _ rfl wr.heap.size 5 i0 (.int .u8 0) 1 1 Tryd.underlying22 hi hz0 hz1 hz2 rfl (by decide) _ _ _ rfl (HO2.out.alloc _) _ _ 1 1 [.int .u8 (ib : Nat)] rfl rfl (by exact rd_one _ _ _) (byt_one [ib]) (by rw [List.length_append]; have := HTL.out; have := HMN.out; omega) (by rw [List.length_append]; have := HTL.out; have := HMN.out; omega) (by have := HB2.out.size; simp; omega) ?_; intro v3 w3 hap; have ho3 := (show OwnB w3 wr.heap.size v3 J from (by rw [HJ.out]; exact OwnB.snoc hap)); have HB3 := Lib.hid (show Below wr.heap.size wr w3 from (HB2.out.alloc HB2.out.size _).trans (hap.below (HO2.out.alloc _) (by have := HB2.out.size; simp; omega))); obtain ⟨A3, k3, rfl, _, _, r3⟩ := ho3.rd; have HR3 := Lib.hid r3; clear hap ho3 r3))
      have HO3 := Lib.hid (HO.out.next HB3.out)
      have hof : ∀ g, (Value.slice AO NO.length ko).ownBlock = some g → g < w3.heap.size := own_lt HO3.out
      have HOF := Lib.hid hof
      have HMC := Lib.hid (mac_c B w3.heap.size A A3 ca k3 k J w3 (HKW.out.below (HB3.out.mono HBW.out)) HR3.out (Nat.le_trans HBW.out HB3.out.size) (Nat.le_refl _) HKL.out HJB.out hkn HJN.out (HRO.out.next (HB.out.trans (HB3.out.mono HWW.out))))
      rw [HTM.out] at HMC
      clear hof
      go_upto_region 10 with (first
        | (go_at_call 13; (refine HMC.out.mono ?_); rintro e w4 ⟨rfl, hb⟩; have HB4 := Lib.hid hb; clear hb)
        | (refine wpList_store_rowTo rfl 26 (.tmp 12) (.tmp 35) rfl rfl w4.heap.size (vb TN) rfl rfl 26 zSum (by exact Blk.new _ _ _) HIS.out (by rw [vb_size, HT32.out]; rfl) (vb_one _) ?_; obtain ⟨Y, hY⟩ : ∃ Y, Y = (w4.alloc (Obj.cells zSum 26)).setRow w4.heap.size (vb TN) := ⟨_, rfl⟩; have h4y : Below w4.heap.size w4 Y := (by rw [hY]; exact below_row ((Below.refl _ _).alloc (Nat.le_refl _) _) (Nat.le_refl _) _); have HBT := Lib.hid (show Blk Y w4.heap.size 26 (vb TN) from (by rw [hY]; exact setRow_heap _ _ _ _ _ (0, 0) (Blk.new w4 _ _))); have HBY := Lib.hid (HB4.out.trans (h4y.mono HB4.out.size)); rw [← hY]; clear hY h4y))
      have HOY := Lib.hid (HO3.out.next HBY.out)
      have HWY := Lib.hid (show Below w.heap.size w Y from (HB.out.trans (HB3.out.mono HWW.out)).trans (HBY.out.mono (Nat.le_trans HWW.out HB3.out.size)))
      have HG3 := Lib.hid HB4.out.size
      have HRT := Lib.hid (show Rd Y Y.heap.size (some ⟨w4.heap.size, 0, none⟩) (byt TN) from (rd_blk HBT.out _ 32 (by show byt TN = ((byt TN).toArray.toList).take 32; rw [List.toList_toArray, List.take_of_length_le (by rw [byt_len, HT32.out]; decide)])).more HBT.out.lt)
      go_wp2_with ((at_builtin; refine wpList_app _ rfl (.tmp 37) (.tmp 38) _ rfl w.heap.size 5 i0 (.int .u8 0) 1 1 Tryd.underlying22 hi hz0 hz1 hz2 rfl (by decide) _ _ _ rfl HOY.out _ (some ⟨w4.heap.size, 0, none⟩) 32 32 (byt TN) rfl (by simp [byt_len, HT32.out]) HRT.out (byt_one _) (by rw [HLN.out]; omega) (by rw [HLN.out]; omega) HWY.out.size ?_; intro v5 w5 hap; have HO5 := Lib.hid (show OwnB w5 w.heap.size v5 NN from (by rw [HNS.out]; exact OwnB.app (by rw [HT32.out]; exact hap))); have HBT5 := Lib.hid (show Blk w5 w4.heap.size 26 (vb TN) from blk_apped (n0 := 0) (xs0 := []) HBT.out hap (fun g hg => (by have := HOF.out g hg; have := HG3.out; omega))); have HB5 := Lib.hid (HWY.out.trans (hap.below HOY.out HWY.out.size)); clear hap))
      refine ⟨⟨i + 1, .inr (by omega), by rw [← hib3], by rw [← HNN.out]; exact HO5.out, ⟨some ⟨w4.heap.size, 0, none⟩, 32, by rw [← HTN.out, HT32.out], by rw [← HTN.out]; exact (rd_blk HBT5.out _ 32 (by show byt TN = ((byt TN).toArray.toList).take 32; rw [List.toList_toArray, List.take_of_length_le (by rw [byt_len, HT32.out]; decide)])).more HBT5.out.lt⟩, HB5.out⟩, ?_⟩
      have h1 : lenOf v5 = 32 * (i + 1) := by rw [HO5.out.lenOf, HNL.out]
      have h2 : lenOf (Value.slice AO NO.length ko) = 32 * i := by rw [HO.out.lenOf, HLN.out]
      omega
    · have q3 : ¬ ((exN k m i).length : Int) < (n : Int) := by rw [HLN.out]; omega
      have hexp : expd k m n = (exN k m i).take n := by
        unfold expd
        rw [show (n + 31) / 32 = i by omega]
      have q4 : (n : Int) ≤ (ko : Int) := by have := HLN.out; omega
      have q5 : (0 : Int) ≤ (n : Int) := by omega
      clear hko
      go_wp2_with fail
      go_ret2
      exact ⟨AO, rfl, HRO2.out.take_ n, HB.out, fun h0 => by
        obtain ⟨g, cap, rest, e1, _⟩ := HO.out.open_ (by intro h1; have := HLN.out; rw [h1] at this; simp at this; omega)
        injection e1 with e2
        exact ⟨g, e2⟩⟩
theorem expand_c (B C : Nat) (A D : Option Addr) (ca cb : Nat) (k m : List Nat) (n : Nat) (w : World) (hk : Rd w B A (byt k)) (hm : Rd w C D (byt m)) (hB : B ≤ w.heap.size) (hC : C ≤ w.heap.size) (hkl : ∀ c ∈ k, c < 256) (hml : ∀ c ∈ m, c < 256) (hkn : k.length ≤ 8000) (hmn : m.length ≤ 4000) (hn : n ≤ 8160) (hR : RoundsAt w) :
    Calls Tryd.prog 24 #[.slice A k.length ca, .slice D m.length cb, .int .i64 n] w fun e w' => ∃ A2, e = .returned (.tuple #[.slice A2 n n, .int .i64 0]) ∧ Rd w' w'.heap.size A2 (byt (expd k m n)) ∧ Below w.heap.size w w' :=
  (expand2_c B C A D ca cb k m n w hk hm hB hC hkl hml hkn hmn hn hR).mono fun e w' ⟨A2, h1, h2, h3, _⟩ => ⟨A2, h1, h2, h3⟩
theorem expandBad_c (A D : Option Addr) (ca cb kl ml : Nat) (n : Int) (w : World) (hn : n < 0 ∨ 8160 < n) :
    Calls Tryd.prog 24 #[.slice A kl ca, .slice D ml cb, .int .i64 n] w fun e w' => e = .returned (.tuple #[.slice none 0 0, .int .i64 1]) ∧ w = w' := by
  rcases hn with hn | hn
  · go_enter Tryd.func24, Tryd.ntmps24
    go_wp2_with fail
    go_ret2
    exact ⟨rfl, rfl⟩
  · have q1 : ¬ n < 0 := by omega
    go_enter Tryd.func24, Tryd.ntmps24
    go_wp2_with fail
    go_ret2
    exact ⟨rfl, rfl⟩
end Go.Proofs.YthlmlmkabjppeaaDoor
namespace Go.Proofs.YthlmlmkabjppeaaDoor
open Go.RowKit
set_option linter.unusedVariables false
set_option linter.unusedSimpArgs false
set_option maxRecDepth 100000 in
set_option maxHeartbeats 8000000 in
theorem rexpand_c (B C : Nat) (A D : Option Addr) (ca cb : Nat) (k m : List Nat) (n : Nat) (w : World) (hk : Rd w B A (byt k)) (hm : Rd w C D (byt m)) (hB : B ≤ w.heap.size) (hC : C ≤ w.heap.size) (hkl : ∀ c ∈ k, c < 256) (hml : ∀ c ∈ m, c < 256) (hkn : k.length ≤ 8000) (hmn : m.length ≤ 4000) (hn : n ≤ 8160) :
    Calls Tryd.prog 25 #[.slice A k.length ca, .slice D m.length cb, .int .i64 n] w fun e w' => ∃ A2 c2, e = .returned (.slice A2 n c2) ∧ Rd w' w'.heap.size A2 (byt (expd k m n)) ∧ Below w.heap.size w w' := by
  obtain ⟨i0, hi, hz0, hz1, hz2⟩ := info_parts byteInfo
  have HK := Lib.hid hk
  have HM := Lib.hid hm
  have HKL := Lib.hid hkl
  have HML := Lib.hid hml
  have HMN := Lib.hid hmn
  clear hk hm hkl hml hmn
  go_enter Tryd.func25, Tryd.ntmps25
  go_wp2_with fail
  go_loopw [7, 8, 9] (fun vo vl vi wr => ∃ i : Nat, (i = 0 ∨ 32 * (i - 1) < n) ∧ vi = .int .i64 ((i : Int) + 1) ∧ OwnB wr w.heap.size vo (exN k m i) ∧ (∃ AL cl, vl = .slice AL (exT k m i).length cl ∧ Rd wr wr.heap.size AL (byt (exT k m i))) ∧ Below w.heap.size w wr) (fun vo _ _ _ => n + 32 - lenOf vo)
  case atStart => exact ⟨0, .inl rfl, rfl, OwnB.nil_ _ _, ⟨none, 0, rfl, Rd.nil_ _ _ _⟩, Below.refl _ _⟩
  case round =>
    rename World => wr
    obtain ⟨i, hin, rfl, ho, ⟨AL, cl, rfl, hrl⟩, hb⟩ := hrel
    have HO := Lib.hid ho
    have HB := Lib.hid hb
    have HRL := Lib.hid hrl
    have HLN := Lib.hid (exN_len k m i)
    obtain ⟨AO, ko, rfl, hko, hkm, hro⟩ := ho.rd
    have HRO2 := Lib.hid hro
    clear ho hb hrl hro
    by_cases hlt : 32 * i < n
    · have q3 : ((exN k m i).length : Int) < (n : Int) := by rw [HLN.out]; omega
      have HTL := Lib.hid (exT_len2 k m i)
      have HTS := Lib.hid (exT_succ k m i)
      have HNS := Lib.hid (exN_succ k m i)
      have HTB := Lib.hid (exT_lt k m i)
      have HT32 := Lib.hid (exT_len k m i)
      have HKW := Lib.hid (show Rd wr B A (byt k) from HK.out.below (HB.out.mono hB))
      have HMW := Lib.hid (show Rd wr C D (byt m) from HM.out.below (HB.out.mono hC))
      have HCW := Lib.hid (Nat.le_trans hC HB.out.size)
      have HBW := Lib.hid (Nat.le_trans hB HB.out.size)
      have HWW := Lib.hid HB.out.size
      have hw8 : IntKind.u8.wrap ((i : Int) + 1) = (((i + 1) % 256 : Nat) : Int) := by simp [IntKind.wrap, IntKind.signed, IntKind.bits]
      have hw9 : ((i : Int) + 1) % 256 = (((i + 1) % 256 : Nat) : Int) := by omega
      have hib : (i + 1) % 256 < 256 := by omega
      have HNL := Lib.hid (exN_len k m (i + 1))
      obtain ⟨TN, hTN⟩ : ∃ TN, TN = exT k m (i + 1) := ⟨_, rfl⟩
      rw [← hTN] at HTS HNS HT32
      have HTN := Lib.hid hTN
      clear hTN
      generalize exT k m i = TL at *
      obtain ⟨NN, hNN⟩ : ∃ NN, NN = exN k m (i + 1) := ⟨_, rfl⟩
      rw [← hNN] at HNS HNL
      have HNN := Lib.hid hNN
      clear hNN
      generalize exN k m i = NO at *
      generalize hib2 : (i + 1) % 256 = ib at *
      obtain ⟨J, hJ⟩ : ∃ J, J = TL ++ m ++ [ib] := ⟨_, rfl⟩
      have HJB := Lib.hid (show ∀ c ∈ J, c < 256 by
        intro c hc
        rw [hJ] at hc
        rcases List.mem_append.1 hc with h | h
        · rcases List.mem_append.1 h with h | h
          · exact HTB.out c h
          · exact HML.out c h
        · rw [List.mem_singleton.1 h]; exact hib)
      have HJN := Lib.hid (show J.length ≤ 8000 by rw [hJ, List.length_append, List.length_append, List.length_singleton]; have := HTL.out; have := HMN.out; omega)
      have HTM := Lib.hid (show mac k J = TN by rw [hJ]; exact HTS.out.symm)
      have HJ := Lib.hid hJ
      clear hJ HTS HTB
      obtain ⟨TM, hTMd⟩ : ∃ TM, TM = TL ++ m := ⟨_, rfl⟩
      have HTMD := Lib.hid hTMd
      have HTML := Lib.hid (show TM.length ≤ 5000 by rw [hTMd, List.length_append]; have := HTL.out; have := HMN.out; omega)
      rw [← hTMd] at HJ
      clear hTMd
      go_upto_region 6 with (at_builtin; refine wpList_app _ rfl (.tmp 17) (.tmp 18) _ rfl wr.heap.size 5 i0 (.int .u8 0) 1 1 Tryd.underlying22 hi hz0 hz1 hz2 rfl (by decide) _ 0 [] rfl (by exact OwnB.new wr _ [] (Nat.le_refl _) (by simp [maxLen])) wr.heap.size AL TL.length cl (byt TL) rfl (by simp [byt_len]) (by exact HRL.out.ext ((Below.refl _ _).alloc (Nat.le_refl _) _)) (byt_one _) (by have := HTL.out; omega) (by have := HTL.out; omega) (by simp) ?_; intro v1 w1 hap; have ho1 := (show OwnB w1 wr.heap.size v1 TL from (by have := hap.own; simpa [OwnB] using this)); have HB1 := Lib.hid (show Below wr.heap.size wr w1 from ((Below.refl _ _).alloc (Nat.le_refl _) _).trans (hap.below (by exact OwnB.new wr _ [] (Nat.le_refl _) (by simp [maxLen])) (by simp))); obtain ⟨A1, k1, rfl, _, _, _⟩ := ho1.rd; have HO1 := Lib.hid ho1; clear hap ho1)
      go_upto_region 7 with (at_builtin; refine wpList_app _ rfl (.tmp 20) (.tmp 21) _ rfl wr.heap.size 5 i0 (.int .u8 0) 1 1 Tryd.underlying22 hi hz0 hz1 hz2 rfl (by decide) _ _ _ rfl HO1.out C D m.length cb (byt m) rfl (by simp [byt_len]) (HMW.out.below (HB1.out.mono HCW.out)) (byt_one _) (by have := HTL.out; have := HMN.out; omega) (by have := HTL.out; have := HMN.out; omega) HB1.out.size ?_; intro v2 w2 hap; have ho2 := (show OwnB w2 wr.heap.size v2 TM from (by rw [HTMD.out]; exact OwnB.app hap)); have HB2 := Lib.hid (HB1.out.trans (hap.below HO1.out HB1.out.size)); obtain ⟨A2, k2, rfl, _, _, _⟩ := ho2.rd; have HO2 := Lib.hid ho2; clear hap ho2)
      go_upto_region 8 with (first
        | (at_builtin; refine wpList_app _ rfl (.tmp 24) (.tmp 27) _ rfl wr.heap.size 5 i0 (.int .u8 0) 1 1 Tryd.underlying22 hi hz0 hz1 hz2 rfl (by decide) _ _ _ rfl (HO2.out.alloc _) _ _ 1 1 [.int .u8 (ib : Nat)] rfl rfl (by exact rd_one _ _ _) (byt_one [ib]) (by have := HTML.out; omega) (by have := HTML.out; omega) (by have := HB2.out.size; simp; omega) ?_; intro v3 w3 hap; have ho3 := (show OwnB w3 wr.heap.size v3 J from (by rw [HJ.out]; exact OwnB.snoc hap)); have HB3 := Lib.hid (show Below wr.heap.size wr w3 from (HB2.out.alloc HB2.out.size _).trans (hap.below (HO2.out.alloc _) (by have := HB2.out.size; simp; omega))); obtain ⟨A3, k3, rfl, _, _, r3⟩ := ho3.rd; have HR3 := Lib.hid r3; have HO3 := Lib.hid (HO.out.next HB3.out); clear hap ho3 r3)
        | (go_at_call 16; (refine (rmac_c B w3.heap.size A A3 ca k3 k J w3 (HKW.out.below (HB3.out.mono HBW.out)) HR3.out (Nat.le_trans HBW.out HB3.out.size) (Nat.le_refl _) HKL.out HJB.out hkn HJN.out).mono ?_); rw [HTM.out]; rintro e Y ⟨v4, rfl, ho4, hb⟩; have HB4 := Lib.hid hb; obtain ⟨A4, k4, rfl, _, _, r4⟩ := ho4.rd; have HR4 := Lib.hid r4; have HO4 := Lib.hid ho4; clear hb ho4 r4))
      have HOY := Lib.hid (HO3.out.next HB4.out)
      have HOF := Lib.hid (show ∀ g, (Value.slice AO NO.length ko).ownBlock = some g → g < w3.heap.size from own_lt HO3.out)
      have HOG := Lib.hid (show ∀ g, (Value.slice A4 TN.length k4).ownBlock = some g → w3.heap.size ≤ g from own_base HO4.out)
      have HWY := Lib.hid (show Below w.heap.size w Y from (HB.out.trans (HB3.out.mono HWW.out)).trans (HB4.out.mono (Nat.le_trans HWW.out HB3.out.size)))
      go_wp2_with ((at_builtin; refine wpList_app _ rfl (.tmp 30) (.tmp 31) _ rfl w.heap.size 5 i0 (.int .u8 0) 1 1 Tryd.underlying22 hi hz0 hz1 hz2 rfl (by decide) _ _ _ rfl HOY.out _ A4 TN.length k4 (byt TN) rfl (by simp [byt_len]) HR4.out (byt_one _) (by rw [HLN.out, HT32.out]; omega) (by rw [HLN.out, HT32.out]; omega) HWY.out.size ?_; intro v5 w5 hap; have HO5 := Lib.hid (show OwnB w5 w.heap.size v5 NN from (by rw [HNS.out]; exact OwnB.app hap)); have HO45 := Lib.hid (show OwnB w5 w3.heap.size (.slice A4 TN.length k4) TN from own_keep HO4.out (hap.only (S := fun g => (Value.slice AO NO.length ko).ownBlock = some g) (fun g h => h)) (fun g h1 h2 => (by have := HOF.out g h2; have := HOG.out g h1; omega))); have HB5 := Lib.hid (HWY.out.trans (hap.below HOY.out HWY.out.size)); clear hap))
      obtain ⟨A6, c6, e6, _, _, r6⟩ := HO45.out.rd
      refine ⟨⟨i + 1, .inr (by omega), by congr 1, by rw [← HNN.out]; exact HO5.out, ⟨A6, c6, by rw [← HTN.out]; exact e6, by rw [← HTN.out]; exact r6⟩, HB5.out⟩, ?_⟩
      have h1 : lenOf v5 = 32 * (i + 1) := by rw [HO5.out.lenOf, HNL.out]
      have h2 : lenOf (Value.slice AO NO.length ko) = 32 * i := by rw [HO.out.lenOf, HLN.out]
      omega
    · have q3 : ¬ ((exN k m i).length : Int) < (n : Int) := by rw [HLN.out]; omega
      have hexp : expd k m n = (exN k m i).take n := by
        unfold expd
        rw [show (n + 31) / 32 = i by omega]
      have q4 : (n : Int) ≤ (ko : Int) := by have := HLN.out; omega
      have q5 : (0 : Int) ≤ (n : Int) := by omega
      clear hko
      go_wp2_with fail
      go_ret
      exact ⟨AO, ⟨ko, rfl⟩, HRO2.out.take_ n, HB.out⟩
end Go.Proofs.YthlmlmkabjppeaaDoor
