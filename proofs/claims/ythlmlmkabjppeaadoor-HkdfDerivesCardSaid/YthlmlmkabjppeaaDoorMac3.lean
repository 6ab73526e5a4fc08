/- Codes: the document's contract. -/
import Derived.Test.YthlmlmkabjppeaaDoorMac2
namespace Go.Proofs.YthlmlmkabjppeaaDoor
open Go.RowKit
set_option linter.unusedVariables false
set_option linter.unusedSimpArgs false
def Sep (u v : Value) : Prop := ∀ g, u.ownBlock = some g → v.ownBlock ≠ some g
theorem own_base_le {w : World} {base base' : Nat} {e : TypeId} {size n : Nat} {v : Value} {xs : List Value} (h : w.ownsRow base e size v n xs) (hb : base' ≤ base) : w.ownsRow base' e size v n xs :=
  ⟨h.1, h.2.elim Or.inl (fun ⟨g, cap, cur, hv, hg, r⟩ => Or.inr ⟨g, cap, cur, hv, Nat.le_trans hb hg, r⟩)⟩
theorem Sep.symm {u v : Value} (h : Sep u v) : Sep v u := fun g h1 h2 => h g h2 h1
/-- two rows of bytes, apart -/
structure Own2 (w : World) (base : Nat) (a : Value) (la : List Nat) (b : Value) (lb : List Nat) : Prop where
  oa : OwnB w base a la
  ob : OwnB w base b lb
  ab : Sep a b
theorem Own2.rot {w : World} {base : Nat} {a b : Value} {la lb : List Nat} (h : Own2 w base a la b lb) : Own2 w base b lb a la := ⟨h.ob, h.oa, h.ab.symm⟩
theorem Own2.alloc {w : World} {base : Nat} {a b : Value} {la lb : List Nat} (h : Own2 w base a la b lb) (o : Obj) : Own2 (w.alloc o) base a la b lb := ⟨h.oa.alloc o, h.ob.alloc o, h.ab⟩
theorem Own2.keep {w w' : World} {base : Nat} {a b : Value} {la lb : List Nat} (h : Own2 w base a la b lb) (hb : Below w.heap.size w w') : Own2 w' base a la b lb := ⟨h.oa.next hb, h.ob.next hb, h.ab⟩
theorem Own2.app {w w' : World} {base : Nat} {a b a' : Value} {la lb new : List Nat} (h : Own2 w base a la b lb) (hap : Apped w base 5 1 a w' a' (la.length + new.length) (byt la ++ byt new)) : Own2 w' base a' (la ++ new) b lb := by
  have ho : Only (fun k => a.ownBlock = some k) w w' := hap.only (fun g h => h)
  refine ⟨OwnB.app hap, own_keep h.ob ho (fun g h1 h2 => h.ab g h2 h1), ?_⟩
  intro g hg hg2
  rcases hap.lies with h1 | h1
  · exact h.ab g (h1 ▸ hg) hg2
  · rw [h1] at hg
    injection hg with hg
    have := own_lt h.ob g hg2
    omega
theorem Own2.snoc {w w' : World} {base : Nat} {a b a' : Value} {la lb : List Nat} {c : Nat} (h : Own2 w base a la b lb) (hap : Apped w base 5 1 a w' a' (la.length + 1) (byt la ++ [.int .u8 (c : Nat)])) : Own2 w' base a' (la ++ [c]) b lb := h.app (new := [c]) hap
theorem Own2.nil_ (w : World) (base : Nat) : Own2 w base (.slice none 0 0) [] (.slice none 0 0) [] := ⟨OwnB.nil_ _ _, OwnB.nil_ _ _, fun g h => by cases h⟩
theorem xr_take_succ (b : Nat) (F : List Nat) (i : Nat) (h : i < F.length) : xr b (F.take (i + 1)) = xr b (F.take i) ++ [F.getD i 0 ^^^ b] := by
  unfold xr
  rw [List.take_add_one, List.getElem?_eq_getElem h, List.map_append, List.getD_eq_getElem?_getD, List.getElem?_eq_getElem h]
  rfl
theorem fill64_at (k : List Nat) (i : Nat) (h : i < k.length) : (fill64 k).getD i 0 = k.getD i 0 := by
  unfold fill64
  rw [List.getD_eq_getElem?_getD, List.getElem?_append_left h, List.getD_eq_getElem?_getD]
theorem fill64_far (k : List Nat) (i : Nat) (h : ¬ i < k.length) : (fill64 k).getD i 0 = 0 := by
  unfold fill64
  rw [List.getD_eq_getElem?_getD, List.getElem?_append_right (by omega), List.getElem?_replicate]
  split <;> rfl
set_option maxRecDepth 100000 in
set_option maxHeartbeats 8000000 in
theorem rmacS_c (B C : Nat) (A D : Option Addr) (ca cb : Nat) (k m : List Nat) (w : World) (hk : Rd w B A (byt k)) (hm : Rd w C D (byt m)) (hB : B ≤ w.heap.size) (hC : C ≤ w.heap.size) (hkl : ∀ c ∈ k, c < 256) (hml : ∀ c ∈ m, c < 256) (hkn : k.length ≤ 8000) (hmn : m.length ≤ 8000) (hlong : ¬ 64 < k.length) :
    Calls Tryd.prog 16 #[.slice A k.length ca, .slice D m.length cb] w fun e w' => ∃ v, e = .returned v ∧ OwnB w' w.heap.size v (mac k m) ∧ Below w.heap.size w w' := by
  obtain ⟨i0, hi, hz0, hz1, hz2⟩ := info_parts byteInfo
  have HK := Lib.hid hk
  have HM := Lib.hid hm
  have HKL := Lib.hid hkl
  have HML := Lib.hid hml
  have HMN := Lib.hid hmn
  clear hk hm hkl hml hmn
  have zf := zero_sum
  have zs1 : zSum.size = 32 := by rfl
  have zs2 : ¬ zSum = #[] := by intro h; have := congrArg Array.size h; rw [zs1] at this; cases this
  have q1 : ¬ (64 : Int) < (k.length : Int) := by omega
  go_enter Tryd.func16, Tryd.ntmps16
  go_wp2_with fail
  obtain ⟨X, hX⟩ : ∃ X, X = w := ⟨_, rfl⟩
  rw [← hX]
  have HX := Lib.hid (show Below w.heap.size w X by rw [hX]; exact Below.refl _ _)
  have hkb2 : keyB k = k := by unfold keyB; rw [if_neg hlong]
  have HMAC := Lib.hid (show mac k m = sha (xr 92 (fill64 k) ++ sha (xr 54 (fill64 k) ++ m)) by unfold mac; rw [hkb2])
  have HKR := Lib.hid (show Rd X B A (byt k) by rw [hX]; exact HK.out)
  have BKle := Lib.hid (show B ≤ X.heap.size by rw [hX]; exact hB)
  have HK64 := Lib.hid (show k.length ≤ 64 by omega)
  have HKB := HKL
  clear hX hkb2 q1
  have HWX := Lib.hid HX.out.size
  have HFL := Lib.hid (fill64_len k HK64.out)
  have HFB := Lib.hid (fill64_lt HKB.out)
  have HFA := Lib.hid (fun i (h : i < k.length) => fill64_at k i h)
  have HFN := Lib.hid (fun i (h : ¬ i < k.length) => fill64_far k i h)
  generalize fill64 k = F at *
  go_loopw [6, 7, 8] (fun va vb' vi wr => ∃ i : Nat, i ≤ 64 ∧ vi = .int .i64 (i : Int) ∧ Own2 wr X.heap.size va (xr 92 (F.take i)) vb' (xr 54 (F.take i)) ∧ Below X.heap.size X wr) (fun _ _ vi _ => 64 - (intOf vi).toNat)
  case atStart => exact ⟨0, by omega, rfl, Own2.nil_ _ _, Below.refl _ _⟩
  case round =>
    rename World => wr
    obtain ⟨i, hi64, rfl, ho, hb⟩ := hrel
    have HO := Lib.hid ho
    have HB := Lib.hid hb
    clear ho hb
    by_cases hlt : i < 64
    · have hiF : i < F.length := by rw [HFL.out]; exact hlt
      have hf := getD_lt HFB.out i
      have HT92 := Lib.hid (xr_take_succ 92 F i hiF)
      have HT54 := Lib.hid (xr_take_succ 54 F i hiF)
      have HL92 := Lib.hid (show (xr 92 (F.take i)).length = i by rw [xr_len, List.length_take]; omega)
      have HL54 := Lib.hid (show (xr 54 (F.take i)).length = i by rw [xr_len, List.length_take]; omega)
      have x5 : bits BinOp.xor .u8 ((F.getD i 0 : Nat) : Int) 54 = ((F.getD i 0 ^^^ 54 : Nat) : Int) := u8_xor_nat (F.getD i 0) 54 hf (by decide)
      have x6 : bits BinOp.xor .u8 ((F.getD i 0 : Nat) : Int) 92 = ((F.getD i 0 ^^^ 92 : Nat) : Int) := u8_xor_nat (F.getD i 0) 92 hf (by decide)
      obtain ⟨A6, k6, rfl, _, _, _⟩ := HO.out.oa.rd
      obtain ⟨A7, k7, rfl, _, _, _⟩ := HO.out.ob.rd
      by_cases hik : i < k.length
      · have hfa := HFA.out i hik
        rw [hfa] at x5 x6 HT92 HT54 hf
        obtain ⟨ad, eAD, hab, hc⟩ := HKR.out.byte hik
        subst eAD
        have q0 : wr.cell? (ad.add i) = some (.int .u8 (k.getD i 0 : Nat)) := (HB.out.cell (p := ad.add i) (by rw [add_block]; exact Nat.lt_of_lt_of_le hab BKle.out)).trans hc
        clear hc hfa
        generalize k.getD i 0 = f at *
        generalize f ^^^ 92 = f92 at *
        generalize f ^^^ 54 = f54 at *
        go_wp2_with (first
          | (at_builtin; refine wpList_app _ rfl (.tmp 32) (.tmp 35) _ rfl X.heap.size 5 i0 (.int .u8 0) 1 1 Tryd.underlying22 hi hz0 hz1 hz2 rfl (by decide) _ _ _ rfl (HO.out.alloc _).oa _ _ 1 1 [.int .u8 (f92 : Nat)] rfl rfl (by exact rd_one _ _ _) (byt_one [f92]) (by have := HL92.out; omega) (by have := HL92.out; omega) (by have := HB.out.size; simp; omega) ?_; intro v1 w1 hap; have HO1 := Lib.hid ((HO.out.alloc _).snoc hap); have HB1 := Lib.hid (show Below X.heap.size X w1 from (HB.out.alloc HB.out.size _).trans (hap.below (HO.out.alloc _).oa (by have := HB.out.size; simp; omega))); clear hap)
          | (at_builtin; refine wpList_app _ rfl (.tmp 37) (.tmp 40) _ rfl X.heap.size 5 i0 (.int .u8 0) 1 1 Tryd.underlying22 hi hz0 hz1 hz2 rfl (by decide) _ _ _ rfl (HO1.out.rot.alloc _).oa _ _ 1 1 [.int .u8 (f54 : Nat)] rfl rfl (by exact rd_one _ _ _) (byt_one [f54]) (by have := HL54.out; omega) (by have := HL54.out; omega) (by have := HB1.out.size; simp; omega) ?_; intro v2 w2 hap; have HO2 := Lib.hid ((HO1.out.rot.alloc _).snoc hap).rot; have HB2 := Lib.hid (show Below X.heap.size X w2 from (HB1.out.alloc HB1.out.size _).trans (hap.below (HO1.out.rot.alloc _).oa (by have := HB1.out.size; simp; omega))); clear hap))
        refine ⟨⟨i + 1, by omega, by congr 1, by rw [HT92.out, HT54.out]; exact HO2.out, HB2.out⟩, ?_⟩
        simp only [intOf]; omega
      · have hfa := HFN.out i hik
        rw [hfa] at x5 x6 HT92 HT54 hf
        clear hfa
        have x5' : bits BinOp.xor .u8 0 54 = ((0 ^^^ 54 : Nat) : Int) := x5
        have x6' : bits BinOp.xor .u8 0 92 = ((0 ^^^ 92 : Nat) : Int) := x6
        clear x5 x6
        generalize (0 ^^^ 92 : Nat) = f92 at *
        generalize (0 ^^^ 54 : Nat) = f54 at *
        go_wp2_with (first
          | (at_builtin; refine wpList_app _ rfl (.tmp 32) (.tmp 35) _ rfl X.heap.size 5 i0 (.int .u8 0) 1 1 Tryd.underlying22 hi hz0 hz1 hz2 rfl (by decide) _ _ _ rfl (HO.out.alloc _).oa _ _ 1 1 [.int .u8 (f92 : Nat)] rfl rfl (by exact rd_one _ _ _) (byt_one [f92]) (by have := HL92.out; omega) (by have := HL92.out; omega) (by have := HB.out.size; simp; omega) ?_; intro v1 w1 hap; have HO1 := Lib.hid ((HO.out.alloc _).snoc hap); have HB1 := Lib.hid (show Below X.heap.size X w1 from (HB.out.alloc HB.out.size _).trans (hap.below (HO.out.alloc _).oa (by have := HB.out.size; simp; omega))); clear hap)
          | (at_builtin; refine wpList_app _ rfl (.tmp 37) (.tmp 40) _ rfl X.heap.size 5 i0 (.int .u8 0) 1 1 Tryd.underlying22 hi hz0 hz1 hz2 rfl (by decide) _ _ _ rfl (HO1.out.rot.alloc _).oa _ _ 1 1 [.int .u8 (f54 : Nat)] rfl rfl (by exact rd_one _ _ _) (byt_one [f54]) (by have := HL54.out; omega) (by have := HL54.out; omega) (by have := HB1.out.size; simp; omega) ?_; intro v2 w2 hap; have HO2 := Lib.hid ((HO1.out.rot.alloc _).snoc hap).rot; have HB2 := Lib.hid (show Below X.heap.size X w2 from (HB1.out.alloc HB1.out.size _).trans (hap.below (HO1.out.rot.alloc _).oa (by have := HB1.out.size; simp; omega))); clear hap))
        refine ⟨⟨i + 1, by omega, by congr 1, by rw [HT92.out, HT54.out]; exact HO2.out, HB2.out⟩, ?_⟩
        simp only [intOf]; omega
    · obtain rfl : i = 64 := by omega
      have ho := HO.out
      rw [List.take_of_length_le (by rw [HFL.out]; decide)] at ho
      have HIb := Lib.hid (xr_lt (by decide : 54 < 256) HFB.out)
      have HOb := Lib.hid (xr_lt (by decide : 92 < 256) HFB.out)
      have HIL := Lib.hid (show (xr 54 F).length = 64 by rw [xr_len, HFL.out])
      have HOL := Lib.hid (show (xr 92 F).length = 64 by rw [xr_len, HFL.out])
      clear HO HFB HFL HFA HFN HKR HKB HK64 BKle
      generalize xr 54 F = I at *
      generalize xr 92 F = O at *
      have HO := Lib.hid ho
      clear ho
      have HMW := Lib.hid (show Rd wr C D (byt m) from (HM.out.below (HX.out.mono hC)).below (HB.out.mono (Nat.le_trans hC HX.out.size)))
      have HXW := Lib.hid (show Below w.heap.size w wr from HX.out.trans (HB.out.mono HX.out.size))
      have HBX := Lib.hid (show X.heap.size ≤ wr.heap.size from HB.out.size)
      obtain ⟨J, hJ⟩ : ∃ J, J = I ++ m := ⟨_, rfl⟩
      obtain ⟨S1, hS1⟩ : ∃ S1, S1 = sha J := ⟨_, rfl⟩
      obtain ⟨P, hP⟩ : ∃ P, P = O ++ S1 := ⟨_, rfl⟩
      obtain ⟨M, hM⟩ : ∃ M, M = mac k m := ⟨_, rfl⟩
      have HJ := Lib.hid hJ
      have HP := Lib.hid hP
      have HM2 := Lib.hid hM
      have HS1 := Lib.hid hS1.symm
      have HMS := Lib.hid (show sha P = M by rw [hM, HMAC.out, hP, hS1, hJ])
      have HSN := Lib.hid (show S1.length = 32 by rw [hS1, sha_len])
      have HMNN := Lib.hid (show M.length = 32 by rw [hM, mac_len])
      have HSLT := Lib.hid (show ∀ c ∈ S1, c < 256 by rw [hS1]; exact sha_lt _)
      clear hJ hS1 hP hM HMAC
      have HSI := Lib.hid (show (Tryd.prog.info? 26).map (·.size) = some (vb S1).size by rw [vb_size, HSN.out]; kernel_rfl)
      have HSM := Lib.hid (show (Tryd.prog.info? 26).map (·.size) = some (vb M).size by rw [vb_size, HMNN.out]; kernel_rfl)
      have HIM := Lib.hid (show ∀ c ∈ J, c < 256 from fun c hc => by
        rw [HJ.out] at hc
        rcases List.mem_append.1 hc with h | h
        · exact HIb.out c h
        · exact HML.out c h)
      have HIN := Lib.hid (show J.length ≤ 10000 by rw [HJ.out, List.length_append, HIL.out]; have := HMN.out; omega)
      have HOM := Lib.hid (show ∀ c ∈ P, c < 256 from fun c hc => by
        rw [HP.out] at hc
        rcases List.mem_append.1 hc with h | h
        · exact HOb.out c h
        · exact HSLT.out c h)
      have HON := Lib.hid (show P.length ≤ 10000 by rw [HP.out, List.length_append, HOL.out, HSN.out]; decide)
      clear HM HB HX hB hC
      obtain ⟨A6, k6, rfl, _, _, _⟩ := HO.out.oa.rd
      obtain ⟨A7, k7, rfl, _, _, _⟩ := HO.out.ob.rd
      go_upto_region 14 with (first
        | (at_builtin; refine wpList_app _ rfl (.tmp 42) (.tmp 43) _ rfl X.heap.size 5 i0 (.int .u8 0) 1 1 Tryd.underlying22 hi hz0 hz1 hz2 rfl (by decide) _ _ _ rfl HO.out.rot.oa C D m.length cb (byt m) rfl (by simp [byt_len]) HMW.out (byt_one m) (by rw [HIL.out]; have := HMN.out; omega) (by rw [HIL.out]; have := HMN.out; omega) HBX.out ?_; intro v3 w3 hap; have ho3 := (HO.out.rot.app hap).rot; rw [← HJ.out] at ho3; have HB3 := Lib.hid (hap.below HO.out.rot.oa HBX.out); obtain ⟨A3, k3, rfl, _, _, r3⟩ := ho3.ob.rd; have HR3 := Lib.hid r3; have HO3 := Lib.hid ho3; clear ho3 r3 hap)
        | (go_at_call 20; (refine (rsum_c w3.heap.size A3 k3 J w3 HR3.out (Nat.le_refl _) HIM.out HIN.out).mono ?_); rw [HS1.out]; rintro e w4 ⟨rfl, hb⟩; have HO4 := Lib.hid (HO3.out.keep hb); have HB4 := Lib.hid (HB3.out.trans (hb.mono (Nat.le_trans HBX.out HB3.out.size))); clear hb)
        | (refine wpList_store_rowTo rfl 26 (.tmp 10) (.tmp 45) rfl rfl w4.heap.size (vb S1) rfl rfl 26 zSum (by exact Blk.new _ _ _) HSI.out (by rw [vb_size, HSN.out]; rfl) (vb_one _) ?_; obtain ⟨Y, hY⟩ : ∃ Y, Y = (w4.alloc (Obj.cells zSum 26)).setRow w4.heap.size (vb S1) := ⟨_, rfl⟩; have h4y : Below w4.heap.size w4 Y := (by rw [hY]; exact ((Below.refl _ _).alloc (Nat.le_refl _) _).trans ⟨rfl, rfl, rfl, by simp [World.setRow], fun i hi => setRow_other _ _ i _ (by omega)⟩); have hby : Blk Y w4.heap.size 26 (vb S1) := (by rw [hY]; exact setRow_heap _ _ _ _ _ (0, 0) (Blk.new w4 _ _)); have HRY := Lib.hid (show Rd Y Y.heap.size (some ⟨w4.heap.size, 0, none⟩) (byt S1) from (rd_blk hby _ 32 (by show byt _ = ((byt S1).toArray.toList).take 32; rw [List.toList_toArray, List.take_of_length_le (by rw [byt_len, HSN.out]; decide)])).more hby.lt); have HOY := Lib.hid (HO4.out.keep h4y); have HBY := Lib.hid (HB4.out.trans (h4y.mono (Nat.le_trans HBX.out HB4.out.size))); rw [← hY]; clear hY h4y hby))
      go_upto_region 15 with (first
        | (at_builtin; refine wpList_app _ rfl (.tmp 46) (.tmp 47) _ rfl X.heap.size 5 i0 (.int .u8 0) 1 1 Tryd.underlying22 hi hz0 hz1 hz2 rfl (by decide) _ _ _ rfl HOY.out.oa _ (some ⟨w4.heap.size, 0, none⟩) 32 32 (byt S1) rfl (by simp [byt_len, HSN.out]) HRY.out (byt_one _) (by rw [HOL.out]; decide) (by rw [HOL.out]; decide) (Nat.le_trans HBX.out HBY.out.size) ?_; intro v5 w5 hap; have ho5 : OwnB w5 X.heap.size v5 P := (by rw [HP.out]; exact OwnB.app (by rw [HSN.out]; exact hap)); have HB5 := Lib.hid (HBY.out.trans (hap.below HOY.out.oa (Nat.le_trans HBX.out HBY.out.size))); obtain ⟨A5, k5, rfl, _, _, r5⟩ := ho5.rd; have HR5 := Lib.hid r5; clear ho5 r5 hap)
        | (go_at_call 20; (refine (rsum_c w5.heap.size A5 k5 P w5 HR5.out (Nat.le_refl _) HOM.out HON.out).mono ?_); rw [HMS.out]; rintro e w6 ⟨rfl, hb⟩; have HB6 := Lib.hid (HB5.out.trans (hb.mono (Nat.le_trans HBX.out HB5.out.size))); clear hb)
        | (refine wpList_store_rowTo rfl 26 (.tmp 11) (.tmp 49) rfl rfl w6.heap.size (vb M) rfl rfl 26 zSum (by exact Blk.new _ _ _) HSM.out (by rw [vb_size, HMNN.out]; rfl) (vb_one _) ?_; obtain ⟨V, hV⟩ : ∃ V, V = (w6.alloc (Obj.cells zSum 26)).setRow w6.heap.size (vb M) := ⟨_, rfl⟩; have h6v : Below w6.heap.size w6 V := (by rw [hV]; exact ((Below.refl _ _).alloc (Nat.le_refl _) _).trans ⟨rfl, rfl, rfl, by simp [World.setRow], fun i hi => setRow_other _ _ i _ (by omega)⟩); have hbv : Blk V w6.heap.size 26 (vb M) := (by rw [hV]; exact setRow_heap _ _ _ _ _ (0, 0) (Blk.new w6 _ _)); have HRV := Lib.hid (show Rd V V.heap.size (some ⟨w6.heap.size, 0, none⟩) (byt M) from (rd_blk hbv _ 32 (by show byt _ = ((byt M).toArray.toList).take 32; rw [List.toList_toArray, List.take_of_length_le (by rw [byt_len, HMNN.out]; decide)])).more hbv.lt); have HBV := Lib.hid (HB6.out.trans (h6v.mono (Nat.le_trans HBX.out HB6.out.size))); rw [← hV]; clear hV h6v hbv))
      go_wp2_with ((at_builtin; refine wpList_app _ rfl (.tmp 50) (.tmp 51) _ rfl V.heap.size 5 i0 (.int .u8 0) 1 1 Tryd.underlying22 hi hz0 hz1 hz2 rfl (by decide) _ 0 [] rfl (by exact OwnB.new V _ [] (Nat.le_refl _) (by simp [maxLen])) _ (some ⟨w6.heap.size, 0, none⟩) 32 32 (byt M) rfl (by simp [byt_len, HMNN.out]) (by exact HRV.out.ext ((Below.refl _ _).alloc (Nat.le_refl _) _)) (byt_one _) (by decide) (by decide) (by simp) ?_; intro v7 w7 hap; have HO7 := Lib.hid (show OwnB w7 V.heap.size v7 M from (by have := hap.own; unfold OwnB; rw [HMNN.out]; simpa using this)); have HB7 := Lib.hid (show Below V.heap.size V w7 from ((Below.refl _ _).alloc (Nat.le_refl _) _).trans (hap.below (by exact OwnB.new V _ [] (Nat.le_refl _) (by simp [maxLen])) (by simp))); clear hap))
      go_ret
      rw [← HM2.out]
      have hxv : X.heap.size ≤ V.heap.size := Nat.le_trans HBX.out HBV.out.size
      have hwx : w.heap.size ≤ X.heap.size := HWX.out
      exact ⟨_, rfl, own_base_le HO7.out (Nat.le_trans hwx hxv), (HXW.out.trans (HBV.out.mono hwx)).trans (HB7.out.mono (Nat.le_trans hwx hxv))⟩
set_option maxRecDepth 100000 in
set_option maxHeartbeats 8000000 in
theorem rmacL_c (B C : Nat) (A D : Option Addr) (ca cb : Nat) (k m : List Nat) (w : World) (hk : Rd w B A (byt k)) (hm : Rd w C D (byt m)) (hB : B ≤ w.heap.size) (hC : C ≤ w.heap.size) (hkl : ∀ c ∈ k, c < 256) (hml : ∀ c ∈ m, c < 256) (hkn : k.length ≤ 8000) (hmn : m.length ≤ 8000) (hlong : 64 < k.length) :
    Calls Tryd.prog 16 #[.slice A k.length ca, .slice D m.length cb] w fun e w' => ∃ v, e = .returned v ∧ OwnB w' w.heap.size v (mac k m) ∧ Below w.heap.size w w' := by
  obtain ⟨i0, hi, hz0, hz1, hz2⟩ := info_parts byteInfo
  have HK := Lib.hid hk
  have HM := Lib.hid hm
  have HKL := Lib.hid hkl
  have HML := Lib.hid hml
  have HMN := Lib.hid hmn
  clear hk hm hkl hml hmn
  have zf := zero_sum
  have zs1 : zSum.size = 32 := by rfl
  have zs2 : ¬ zSum = #[] := by intro h; have := congrArg Array.size h; rw [zs1] at this; cases this
  have HIK := Lib.hid (show (Tryd.prog.info? 26).map (·.size) = some (vb (sha k)).size by rw [vb_size, sha_len]; kernel_rfl)
  have q1 : (64 : Int) < (k.length : Int) := by omega
  go_enter Tryd.func16, Tryd.ntmps16
  go_wp2_with (first
    | (go_at_call 20; (refine (rsum_c B A ca k w HK.out hB HKL.out (by omega)).mono ?_); rintro e w1 ⟨rfl, hb⟩; have HB1 := Lib.hid hb; clear hb)
    | (refine wpList_store_rowTo rfl 26 (.tmp 5) (.tmp 16) rfl rfl w1.heap.size (vb (sha k)) rfl rfl 26 zSum (by exact Blk.new _ _ _) HIK.out (by rw [vb_size, sha_len]; rfl) (vb_one _) ?_; obtain ⟨X1, hX1⟩ : ∃ X1, X1 = (w1.alloc (Obj.cells zSum 26)).setRow w1.heap.size (vb (sha k)) := ⟨_, rfl⟩; have h1x : Below w1.heap.size w1 X1 := (by rw [hX1]; exact ((Below.refl _ _).alloc (Nat.le_refl _) _).trans ⟨rfl, rfl, rfl, by simp [World.setRow], fun i hi => setRow_other _ _ i _ (by omega)⟩); have hbx : Blk X1 w1.heap.size 26 (vb (sha k)) := (by rw [hX1]; exact setRow_heap _ _ _ _ _ (0, 0) (Blk.new w1 _ _)); have HRX1 := Lib.hid (show Rd X1 X1.heap.size (some ⟨w1.heap.size, 0, none⟩) (byt (sha k)) from (rd_blk hbx _ 32 (by show byt _ = ((byt (sha k)).toArray.toList).take 32; rw [List.toList_toArray, List.take_of_length_le (by rw [byt_len, sha_len]; decide)])).more hbx.lt); have HBX1 := Lib.hid (HB1.out.trans (h1x.mono HB1.out.size)); rw [← hX1]; clear hX1 h1x hbx)
    | (at_builtin; refine wpList_app _ rfl (.tmp 17) (.tmp 18) _ rfl w.heap.size 5 i0 (.int .u8 0) 1 1 Tryd.underlying22 hi hz0 hz1 hz2 rfl (by decide) _ 0 [] rfl (by exact OwnB.new X1 _ [] HBX1.out.size (by simp [maxLen])) _ (some ⟨w1.heap.size, 0, none⟩) 32 32 (byt (sha k)) rfl (by simp [byt_len, sha_len]) (by exact HRX1.out.ext ((Below.refl _ _).alloc (Nat.le_refl _) _)) (byt_one _) (by decide) (by decide) (by have := HBX1.out.size; simp; omega) ?_; intro v2 X hap; have ho2 : OwnB X w.heap.size v2 (sha k) := (by have := hap.own; unfold OwnB; rw [sha_len]; simpa using this); have HX := Lib.hid (show Below w.heap.size w X from (HBX1.out.alloc HBX1.out.size _).trans (hap.below (by exact OwnB.new X1 _ [] HBX1.out.size (by simp [maxLen])) (by have := HBX1.out.size; simp; omega))); obtain ⟨AK, CK, rfl, _, _, r2⟩ := ho2.rd; have HKR' := Lib.hid r2; clear ho2 r2 hap))
  obtain ⟨kb, hkb⟩ : ∃ kb, kb = sha k := ⟨_, rfl⟩
  have hkb2 : keyB k = kb := by unfold keyB; rw [if_pos hlong, hkb]
  have HMAC := Lib.hid (show mac k m = sha (xr 92 (fill64 kb) ++ sha (xr 54 (fill64 kb) ++ m)) by unfold mac; rw [hkb2])
  have HK64 := Lib.hid (show kb.length ≤ 64 by rw [hkb, sha_len]; decide)
  have HKB := Lib.hid (show ∀ c ∈ kb, c < 256 by rw [hkb]; exact sha_lt k)
  have HKR := Lib.hid (show Rd X X.heap.size AK (byt kb) by rw [hkb]; exact HKR'.out)
  have BKle := Lib.hid (Nat.le_refl X.heap.size)
  rw [← hkb]
  clear hkb hkb2 HKR' HRX1 HBX1 HB1 HIK q1
  have HWX := Lib.hid HX.out.size
  have HFL := Lib.hid (fill64_len kb HK64.out)
  have HFB := Lib.hid (fill64_lt HKB.out)
  have HFA := Lib.hid (fun i (h : i < kb.length) => fill64_at kb i h)
  have HFN := Lib.hid (fun i (h : ¬ i < kb.length) => fill64_far kb i h)
  generalize fill64 kb = F at *
  go_loopw [6, 7, 8] (fun va vb' vi wr => ∃ i : Nat, i ≤ 64 ∧ vi = .int .i64 (i : Int) ∧ Own2 wr X.heap.size va (xr 92 (F.take i)) vb' (xr 54 (F.take i)) ∧ Below X.heap.size X wr) (fun _ _ vi _ => 64 - (intOf vi).toNat)
  case atStart => exact ⟨0, by omega, rfl, Own2.nil_ _ _, Below.refl _ _⟩
  case round =>
    rename World => wr
    obtain ⟨i, hi64, rfl, ho, hb⟩ := hrel
    have HO := Lib.hid ho
    have HB := Lib.hid hb
    clear ho hb
    by_cases hlt : i < 64
    · have hiF : i < F.length := by rw [HFL.out]; exact hlt
      have hf := getD_lt HFB.out i
      have HT92 := Lib.hid (xr_take_succ 92 F i hiF)
      have HT54 := Lib.hid (xr_take_succ 54 F i hiF)
      have HL92 := Lib.hid (show (xr 92 (F.take i)).length = i by rw [xr_len, List.length_take]; omega)
      have HL54 := Lib.hid (show (xr 54 (F.take i)).length = i by rw [xr_len, List.length_take]; omega)
      have x5 : bits BinOp.xor .u8 ((F.getD i 0 : Nat) : Int) 54 = ((F.getD i 0 ^^^ 54 : Nat) : Int) := u8_xor_nat (F.getD i 0) 54 hf (by decide)
      have x6 : bits BinOp.xor .u8 ((F.getD i 0 : Nat) : Int) 92 = ((F.getD i 0 ^^^ 92 : Nat) : Int) := u8_xor_nat (F.getD i 0) 92 hf (by decide)
      obtain ⟨A6, k6, rfl, _, _, _⟩ := HO.out.oa.rd
      obtain ⟨A7, k7, rfl, _, _, _⟩ := HO.out.ob.rd
      by_cases hik : i < kb.length
      · have hfa := HFA.out i hik
        rw [hfa] at x5 x6 HT92 HT54 hf
        obtain ⟨ad, eAD, hab, hc⟩ := HKR.out.byte hik
        subst eAD
        have q0 : wr.cell? (ad.add i) = some (.int .u8 (kb.getD i 0 : Nat)) := (HB.out.cell (p := ad.add i) (by rw [add_block]; exact Nat.lt_of_lt_of_le hab BKle.out)).trans hc
        clear hc hfa
        generalize kb.getD i 0 = f at *
        generalize f ^^^ 92 = f92 at *
        generalize f ^^^ 54 = f54 at *
        go_wp2_with (first
          | (at_builtin; refine wpList_app _ rfl (.tmp 32) (.tmp 35) _ rfl X.heap.size 5 i0 (.int .u8 0) 1 1 Tryd.underlying22 hi hz0 hz1 hz2 rfl (by decide) _ _ _ rfl (HO.out.alloc _).oa _ _ 1 1 [.int .u8 (f92 : Nat)] rfl rfl (by exact rd_one _ _ _) (byt_one [f92]) (by have := HL92.out; omega) (by have := HL92.out; omega) (by have := HB.out.size; simp; omega) ?_; intro v1 w1 hap; have HO1 := Lib.hid ((HO.out.alloc _).snoc hap); have HB1 := Lib.hid (show Below X.heap.size X w1 from (HB.out.alloc HB.out.size _).trans (hap.below (HO.out.alloc _).oa (by have := HB.out.size; simp; omega))); clear hap)
          | (at_builtin; refine wpList_app _ rfl (.tmp 37) (.tmp 40) _ rfl X.heap.size 5 i0 (.int .u8 0) 1 1 Tryd.underlying22 hi hz0 hz1 hz2 rfl (by decide) _ _ _ rfl (HO1.out.rot.alloc _).oa _ _ 1 1 [.int .u8 (f54 : Nat)] rfl rfl (by exact rd_one _ _ _) (byt_one [f54]) (by have := HL54.out; omega) (by have := HL54.out; omega) (by have := HB1.out.size; simp; omega) ?_; intro v2 w2 hap; have HO2 := Lib.hid ((HO1.out.rot.alloc _).snoc hap).rot; have HB2 := Lib.hid (show Below X.heap.size X w2 from (HB1.out.alloc HB1.out.size _).trans (hap.below (HO1.out.rot.alloc _).oa (by have := HB1.out.size; simp; omega))); clear hap))
        refine ⟨⟨i + 1, by omega, by congr 1, by rw [HT92.out, HT54.out]; exact HO2.out, HB2.out⟩, ?_⟩
        simp only [intOf]; omega
      · have hfa := HFN.out i hik
        rw [hfa] at x5 x6 HT92 HT54 hf
        clear hfa
        have x5' : bits BinOp.xor .u8 0 54 = ((0 ^^^ 54 : Nat) : Int) := x5
        have x6' : bits BinOp.xor .u8 0 92 = ((0 ^^^ 92 : Nat) : Int) := x6
        clear x5 x6
        generalize (0 ^^^ 92 : Nat) = f92 at *
        generalize (0 ^^^ 54 : Nat) = f54 at *
        go_wp2_with (first
          | (at_builtin; refine wpList_app _ rfl (.tmp 32) (.tmp 35) _ rfl X.heap.size 5 i0 (.int .u8 0) 1 1 Tryd.underlying22 hi hz0 hz1 hz2 rfl (by decide) _ _ _ rfl (HO.out.alloc _).oa _ _ 1 1 [.int .u8 (f92 : Nat)] rfl rfl (by exact rd_one _ _ _) (byt_one [f92]) (by have := HL92.out; omega) (by have := HL92.out; omega) (by have := HB.out.size; simp; omega) ?_; intro v1 w1 hap; have HO1 := Lib.hid ((HO.out.alloc _).snoc hap); have HB1 := Lib.hid (show Below X.heap.size X w1 from (HB.out.alloc HB.out.size _).trans (hap.below (HO.out.alloc _).oa (by have := HB.out.size; simp; omega))); clear hap)
          | (at_builtin; refine wpList_app _ rfl (.tmp 37) (.tmp 40) _ rfl X.heap.size 5 i0 (.int .u8 0) 1 1 Tryd.underlying22 hi hz0 hz1 hz2 rfl (by decide) _ _ _ rfl (HO1.out.rot.alloc _).oa _ _ 1 1 [.int .u8 (f54 : Nat)] rfl rfl (by exact rd_one _ _ _) (byt_one [f54]) (by have := HL54.out; omega) (by have := HL54.out; omega) (by have := HB1.out.size; simp; omega) ?_; intro v2 w2 hap; have HO2 := Lib.hid ((HO1.out.rot.alloc _).snoc hap).rot; have HB2 := Lib.hid (show Below X.heap.size X w2 from (HB1.out.alloc HB1.out.size _).trans (hap.below (HO1.out.rot.alloc _).oa (by have := HB1.out.size; simp; omega))); clear hap))
        refine ⟨⟨i + 1, by omega, by congr 1, by rw [HT92.out, HT54.out]; exact HO2.out, HB2.out⟩, ?_⟩
        simp only [intOf]; omega
    · obtain rfl : i = 64 := by omega
      have ho := HO.out
      rw [List.take_of_length_le (by rw [HFL.out]; decide)] at ho
      have HIb := Lib.hid (xr_lt (by decide : 54 < 256) HFB.out)
      have HOb := Lib.hid (xr_lt (by decide : 92 < 256) HFB.out)
      have HIL := Lib.hid (show (xr 54 F).length = 64 by rw [xr_len, HFL.out])
      have HOL := Lib.hid (show (xr 92 F).length = 64 by rw [xr_len, HFL.out])
      clear HO HFB HFL HFA HFN HKR HKB HK64 BKle
      generalize xr 54 F = I at *
      generalize xr 92 F = O at *
      have HO := Lib.hid ho
      clear ho
      have HMW := Lib.hid (show Rd wr C D (byt m) from (HM.out.below (HX.out.mono hC)).below (HB.out.mono (Nat.le_trans hC HX.out.size)))
      have HXW := Lib.hid (show Below w.heap.size w wr from HX.out.trans (HB.out.mono HX.out.size))
      have HBX := Lib.hid (show X.heap.size ≤ wr.heap.size from HB.out.size)
      obtain ⟨J, hJ⟩ : ∃ J, J = I ++ m := ⟨_, rfl⟩
      obtain ⟨S1, hS1⟩ : ∃ S1, S1 = sha J := ⟨_, rfl⟩
      obtain ⟨P, hP⟩ : ∃ P, P = O ++ S1 := ⟨_, rfl⟩
      obtain ⟨M, hM⟩ : ∃ M, M = mac k m := ⟨_, rfl⟩
      have HJ := Lib.hid hJ
      have HP := Lib.hid hP
      have HM2 := Lib.hid hM
      have HS1 := Lib.hid hS1.symm
      have HMS := Lib.hid (show sha P = M by rw [hM, HMAC.out, hP, hS1, hJ])
      have HSN := Lib.hid (show S1.length = 32 by rw [hS1, sha_len])
      have HMNN := Lib.hid (show M.length = 32 by rw [hM, mac_len])
      have HSLT := Lib.hid (show ∀ c ∈ S1, c < 256 by rw [hS1]; exact sha_lt _)
      clear hJ hS1 hP hM HMAC
      have HSI := Lib.hid (show (Tryd.prog.info? 26).map (·.size) = some (vb S1).size by rw [vb_size, HSN.out]; kernel_rfl)
      have HSM := Lib.hid (show (Tryd.prog.info? 26).map (·.size) = some (vb M).size by rw [vb_size, HMNN.out]; kernel_rfl)
      have HIM := Lib.hid (show ∀ c ∈ J, c < 256 from fun c hc => by
        rw [HJ.out] at hc
        rcases List.mem_append.1 hc with h | h
        · exact HIb.out c h
        · exact HML.out c h)
      have HIN := Lib.hid (show J.length ≤ 10000 by rw [HJ.out, List.length_append, HIL.out]; have := HMN.out; omega)
      have HOM := Lib.hid (show ∀ c ∈ P, c < 256 from fun c hc => by
        rw [HP.out] at hc
        rcases List.mem_append.1 hc with h | h
        · exact HOb.out c h
        · exact HSLT.out c h)
      have HON := Lib.hid (show P.length ≤ 10000 by rw [HP.out, List.length_append, HOL.out, HSN.out]; decide)
      clear HM HB HX hB hC
      obtain ⟨A6, k6, rfl, _, _, _⟩ := HO.out.oa.rd
      obtain ⟨A7, k7, rfl, _, _, _⟩ := HO.out.ob.rd
      go_upto_region 14 with (first
        | (at_builtin; refine wpList_app _ rfl (.tmp 42) (.tmp 43) _ rfl X.heap.size 5 i0 (.int .u8 0) 1 1 Tryd.underlying22 hi hz0 hz1 hz2 rfl (by decide) _ _ _ rfl HO.out.rot.oa C D m.length cb (byt m) rfl (by simp [byt_len]) HMW.out (byt_one m) (by rw [HIL.out]; have := HMN.out; omega) (by rw [HIL.out]; have := HMN.out; omega) HBX.out ?_; intro v3 w3 hap; have ho3 := (HO.out.rot.app hap).rot; rw [← HJ.out] at ho3; have HB3 := Lib.hid (hap.below HO.out.rot.oa HBX.out); obtain ⟨A3, k3, rfl, _, _, r3⟩ := ho3.ob.rd; have HR3 := Lib.hid r3; have HO3 := Lib.hid ho3; clear ho3 r3 hap)
        | (go_at_call 20; (refine (rsum_c w3.heap.size A3 k3 J w3 HR3.out (Nat.le_refl _) HIM.out HIN.out).mono ?_); rw [HS1.out]; rintro e w4 ⟨rfl, hb⟩; have HO4 := Lib.hid (HO3.out.keep hb); have HB4 := Lib.hid (HB3.out.trans (hb.mono (Nat.le_trans HBX.out HB3.out.size))); clear hb)
        | (refine wpList_store_rowTo rfl 26 (.tmp 10) (.tmp 45) rfl rfl w4.heap.size (vb S1) rfl rfl 26 zSum (by exact Blk.new _ _ _) HSI.out (by rw [vb_size, HSN.out]; rfl) (vb_one _) ?_; obtain ⟨Y, hY⟩ : ∃ Y, Y = (w4.alloc (Obj.cells zSum 26)).setRow w4.heap.size (vb S1) := ⟨_, rfl⟩; have h4y : Below w4.heap.size w4 Y := (by rw [hY]; exact ((Below.refl _ _).alloc (Nat.le_refl _) _).trans ⟨rfl, rfl, rfl, by simp [World.setRow], fun i hi => setRow_other _ _ i _ (by omega)⟩); have hby : Blk Y w4.heap.size 26 (vb S1) := (by rw [hY]; exact setRow_heap _ _ _ _ _ (0, 0) (Blk.new w4 _ _)); have HRY := Lib.hid (show Rd Y Y.heap.size (some ⟨w4.heap.size, 0, none⟩) (byt S1) from (rd_blk hby _ 32 (by show byt _ = ((byt S1).toArray.toList).take 32; rw [List.toList_toArray, List.take_of_length_le (by rw [byt_len, HSN.out]; decide)])).more hby.lt); have HOY := Lib.hid (HO4.out.keep h4y); have HBY := Lib.hid (HB4.out.trans (h4y.mono (Nat.le_trans HBX.out HB4.out.size))); rw [← hY]; clear hY h4y hby))
      go_upto_region 15 with (first
        | (at_builtin; refine wpList_app _ rfl (.tmp 46) (.tmp 47) _ rfl X.heap.size 5 i0 (.int .u8 0) 1 1 Tryd.underlying22 hi hz0 hz1 hz2 rfl (by decide) _ _ _ rfl HOY.out.oa _ (some ⟨w4.heap.size, 0, none⟩) 32 32 (byt S1) rfl (by simp [byt_len, HSN.out]) HRY.out (byt_one _) (by rw [HOL.out]; decide) (by rw [HOL.out]; decide) (Nat.le_trans HBX.out HBY.out.size) ?_; intro v5 w5 hap; have ho5 : OwnB w5 X.heap.size v5 P := (by rw [HP.out]; exact OwnB.app (by rw [HSN.out]; exact hap)); have HB5 := Lib.hid (HBY.out.trans (hap.below HOY.out.oa (Nat.le_trans HBX.out HBY.out.size))); obtain ⟨A5, k5, rfl, _, _, r5⟩ := ho5.rd; have HR5 := Lib.hid r5; clear ho5 r5 hap)
        | (go_at_call 20; (refine (rsum_c w5.heap.size A5 k5 P w5 HR5.out (Nat.le_refl _) HOM.out HON.out).mono ?_); rw [HMS.out]; rintro e w6 ⟨rfl, hb⟩; have HB6 := Lib.hid (HB5.out.trans (hb.mono (Nat.le_trans HBX.out HB5.out.size))); clear hb)
        | (refine wpList_store_rowTo rfl 26 (.tmp 11) (.tmp 49) rfl rfl w6.heap.size (vb M) rfl rfl 26 zSum (by exact Blk.new _ _ _) HSM.out (by rw [vb_size, HMNN.out]; rfl) (vb_one _) ?_; obtain ⟨V, hV⟩ : ∃ V, V = (w6.alloc (Obj.cells zSum 26)).setRow w6.heap.size (vb M) := ⟨_, rfl⟩; have h6v : Below w6.heap.size w6 V := (by rw [hV]; exact ((Below.refl _ _).alloc (Nat.le_refl _) _).trans ⟨rfl, rfl, rfl, by simp [World.setRow], fun i hi => setRow_other _ _ i _ (by omega)⟩); have hbv : Blk V w6.heap.size 26 (vb M) := (by rw [hV]; exact setRow_heap _ _ _ _ _ (0, 0) (Blk.new w6 _ _)); have HRV := Lib.hid (show Rd V V.heap.size (some ⟨w6.heap.size, 0, none⟩) (byt M) from (rd_blk hbv _ 32 (by show byt _ = ((byt M).toArray.toList).take 32; rw [List.toList_toArray, List.take_of_length_le (by rw [byt_len, HMNN.out]; decide)])).more hbv.lt); have HBV := Lib.hid (HB6.out.trans (h6v.mono (Nat.le_trans HBX.out HB6.out.size))); rw [← hV]; clear hV h6v hbv))
      go_wp2_with ((at_builtin; refine wpList_app _ rfl (.tmp 50) (.tmp 51) _ rfl V.heap.size 5 i0 (.int .u8 0) 1 1 Tryd.underlying22 hi hz0 hz1 hz2 rfl (by decide) _ 0 [] rfl (by exact OwnB.new V _ [] (Nat.le_refl _) (by simp [maxLen])) _ (some ⟨w6.heap.size, 0, none⟩) 32 32 (byt M) rfl (by simp [byt_len, HMNN.out]) (by exact HRV.out.ext ((Below.refl _ _).alloc (Nat.le_refl _) _)) (byt_one _) (by decide) (by decide) (by simp) ?_; intro v7 w7 hap; have HO7 := Lib.hid (show OwnB w7 V.heap.size v7 M from (by have := hap.own; unfold OwnB; rw [HMNN.out]; simpa using this)); have HB7 := Lib.hid (show Below V.heap.size V w7 from ((Below.refl _ _).alloc (Nat.le_refl _) _).trans (hap.below (by exact OwnB.new V _ [] (Nat.le_refl _) (by simp [maxLen])) (by simp))); clear hap))
      go_ret
      rw [← HM2.out]
      have hxv : X.heap.size ≤ V.heap.size := Nat.le_trans HBX.out HBV.out.size
      have hwx : w.heap.size ≤ X.heap.size := HWX.out
      exact ⟨_, rfl, own_base_le HO7.out (Nat.le_trans hwx hxv), (HXW.out.trans (HBV.out.mono hwx)).trans (HB7.out.mono (Nat.le_trans hwx hxv))⟩
theorem rmac_c (B C : Nat) (A D : Option Addr) (ca cb : Nat) (k m : List Nat) (w : World) (hk : Rd w B A (byt k)) (hm : Rd w C D (byt m)) (hB : B ≤ w.heap.size) (hC : C ≤ w.heap.size) (hkl : ∀ c ∈ k, c < 256) (hml : ∀ c ∈ m, c < 256) (hkn : k.length ≤ 8000) (hmn : m.length ≤ 8000) :
    Calls Tryd.prog 16 #[.slice A k.length ca, .slice D m.length cb] w fun e w' => ∃ v, e = .returned v ∧ OwnB w' w.heap.size v (mac k m) ∧ Below w.heap.size w w' := by
  by_cases h : 64 < k.length
  · exact rmacL_c B C A D ca cb k m w hk hm hB hC hkl hml hkn hmn h
  · exact rmacS_c B C A D ca cb k m w hk hm hB hC hkl hml hkn hmn h
end Go.Proofs.YthlmlmkabjppeaaDoor
