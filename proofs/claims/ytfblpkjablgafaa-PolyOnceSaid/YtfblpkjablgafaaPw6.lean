/- Contract: the number below the modulus. -/
import Derived.Test.YtfblpkjablgafaaPw5
namespace Go.Proofs.Ytfblpkjablgafaa
open Go.RowKit
set_option linter.unusedVariables false
set_option linter.unusedSimpArgs false
structure FnSt (w wr : World) (g gm : Nat) (L M : List Nat) : Prop where
  ll : L.length = 5
  lm : M.length = 5
  a : Blk wr g 46 (vq L)
  m : Blk wr gm 46 (vq M)
  o : Blk wr (g + 1) 46 zN5
  bel : Below w.heap.size w wr
  gg : w.heap.size ≤ g
  gb : g + 1 < gm
theorem FnSt.setM {w wr : World} {g gm : Nat} {L M : List Nat} (h : FnSt w wr g gm L M) (k v : Nat) : FnSt w (wr.setCell ⟨gm, k, none⟩ (.int .u64 (v : Int))) g gm L (M.set k v) :=
  ⟨h.ll, by rw [List.length_set]; exact h.lm, h.a.far (by have := h.gb; show g ≠ gm; omega) _, by rw [← vq_set]; exact h.m.set_ _ _, h.o.far (by have := h.gb; show g + 1 ≠ gm; omega) _, h.bel.setCell (by have := h.gb; have := h.gg; show w.heap.size ≤ gm; omega) _, h.gg, h.gb⟩
theorem FnSt.setL {w wr : World} {g gm : Nat} {L M : List Nat} (h : FnSt w wr g gm L M) (k v : Nat) : FnSt w (wr.setCell ⟨g, k, none⟩ (.int .u64 (v : Int))) g gm (L.set k v) M :=
  ⟨by rw [List.length_set]; exact h.ll, h.lm, by rw [← vq_set]; exact h.a.set_ _ _, h.m.far (by have := h.gb; show gm ≠ g; omega) _, h.o.far (by show g + 1 ≠ g; omega) _, h.bel.setCell h.gg _, h.gg, h.gb⟩
theorem FnSt.next {w wr wr' : World} {g gm : Nat} {L M : List Nat} (h : FnSt w wr g gm L M) (hb : Below wr.heap.size wr wr') : FnSt w wr' g gm L M :=
  ⟨h.ll, h.lm, h.a.below hb h.a.lt, h.m.below hb h.m.lt, h.o.below hb h.o.lt, h.bel.trans (hb.mono h.bel.size), h.gg, h.gb⟩
theorem FnSt.cellL {w wr : World} {g gm : Nat} {L M : List Nat} (h : FnSt w wr g gm L M) (k : Nat) (hk : k < 5) : wr.cell? ⟨g, k, none⟩ = some (.int .u64 (L.getD k 0 : Nat)) :=
  (h.a.cell k).trans (vq_at _ k (by rw [h.ll]; exact hk))
theorem FnSt.cellM {w wr : World} {g gm : Nat} {L M : List Nat} (h : FnSt w wr g gm L M) (k : Nat) (hk : k < 5) : wr.cell? ⟨gm, k, none⟩ = some (.int .u64 (M.getD k 0 : Nat)) :=
  (h.m.cell k).trans (vq_at _ k (by rw [h.lm]; exact hk))
theorem new_num (w : World) (L : List Nat) : Blk ((w.alloc (Obj.cells zN5 46)).setRow w.heap.size (vq L)) w.heap.size 46 (vq L) ∧ Below w.heap.size w ((w.alloc (Obj.cells zN5 46)).setRow w.heap.size (vq L)) :=
  ⟨setRow_heap _ _ _ _ _ (0, 0) (Blk.new w _ _), below_row ((Below.refl _ _).alloc (Nat.le_refl _) _) (Nat.le_refl _) _⟩
/-- what 'more' holds behind k rounds -/
def morL (n : List Nat) (k j : Nat) : Nat := if j < k then m5 n j % 67108864 else if j = k then m5 n k else n.getD j 0
theorem m5_lt (n : List Nat) (h : lbel n 67108864 67108864) : ∀ k, k < 5 → m5 n k < 134217733
  | 0, _ => by have := h.1; simp only [m5]; omega
  | k + 1, hk => by
    have h1 := m5_lt n h k (by omega)
    have h2 := lbel_at h (k + 1) hk
    simp only [m5]; omega
theorem and0 (n : Nat) (h : n < 18446744073709551616) : Go.bits BinOp.and IntKind.u64 (n : Int) 0 = 0 := by
  rw [show (0 : Int) = ((0 : Nat) : Int) from rfl, u64_and_nat _ _ h (by decide), Nat.and_zero]
theorem andF (n : Nat) (h : n < 18446744073709551616) : Go.bits BinOp.and IntKind.u64 (n : Int) 18446744073709551615 = (n : Int) := by
  rw [show (18446744073709551615 : Int) = ((18446744073709551615 : Nat) : Int) from rfl, u64_and_nat _ _ h (by decide), show 18446744073709551615 = 2 ^ 64 - 1 from rfl, Nat.and_two_pow_sub_one_eq_mod, Nat.mod_eq_of_lt h]
theorem xor64 (a b : Nat) (ha : a < 18446744073709551616) (hb : b < 18446744073709551616) : Go.bits BinOp.xor IntKind.u64 (a : Int) (b : Int) = ((a ^^^ b : Nat) : Int) := u64_xor_nat _ _ ha hb
theorem xor0 (a : Nat) (ha : a < 18446744073709551616) : Go.bits BinOp.xor IntKind.u64 (a : Int) 0 = (a : Int) := by
  rw [show (0 : Int) = ((0 : Nat) : Int) from rfl, u64_xor_nat _ _ ha (by decide), Nat.xor_zero]
set_option maxRecDepth 100000 in
set_option maxHeartbeats 8000000 in
theorem final_c (n0 : List Nat) (w : World) (hn0 : n0.length = 5) (hb0 : lbel n0 67108864 67125248) :
    Calls Try.prog 28 #[.agg (vq n0)] w fun e w' => e = .returned (.agg (vq (endL n0))) ∧ Below w.heap.size w w' := by
  have zf := zero_num
  have zs1 : zN5.size = 5 := by rfl
  have zs2 : ¬ zN5 = #[] := by intro h; have := congrArg Array.size h; rw [zs1] at this; cases this
  have nsz : (vq n0).size = 5 := by rw [vq_size, hn0]
  have HN0 := Lib.hid hn0
  have b1 := carL_canon n0 hb0
  have b2 : lbel (carL n0) 67108864 67125248 := ⟨b1.1, Nat.lt_trans b1.2.1 (by decide), b1.2.2.1, b1.2.2.2.1, b1.2.2.2.2⟩
  have b3 := carL_canon _ b2
  have HC1 := Lib.hid (fun W => carried_c n0 W hn0 (fun j hj => by
    obtain ⟨h0, h1, h2, h3, h4⟩ := hb0
    have : j = 0 ∨ j = 1 ∨ j = 2 ∨ j = 3 ∨ j = 4 := by omega
    rcases this with rfl | rfl | rfl | rfl | rfl <;> omega))
  have HC2 := Lib.hid (fun W => carried_c (carL n0) W (carL_len n0) (fun j hj => Nat.lt_trans (lbel_at b1 j hj) (by decide)))
  have HEND := Lib.hid (show endL n0 = finL (carL (carL n0)) from rfl)
  have HML := Lib.hid (m5_lt _ b3)
  have HNL := Lib.hid (fun j hj => lbel_at b3 j hj)
  have HOV := Lib.hid (m5_over _ b3)
  have n1l := carL_len n0
  have nl := carL_len (carL n0)
  obtain ⟨n1, hn1⟩ : ∃ n1, n1 = carL n0 := ⟨_, rfl⟩
  rw [← hn1] at HC1 HC2 HEND HML HNL HOV n1l nl
  obtain ⟨n, hn⟩ : ∃ n, n = carL n1 := ⟨_, rfl⟩
  rw [← hn] at HC2 HEND HML HNL HOV nl
  have HN := Lib.hid nl
  have HSZ := Lib.hid (numSz nl)
  have HQ := Lib.hid (show (vq n).size = zN5.size by rw [vq_size, nl]; rfl)
  have HQ0 := Lib.hid (show (vq n0).size = (vq n).size by rw [vq_size, vq_size, nl, hn0])
  clear hn1 hn b1 b2 b3 hb0 n1l nl hn0
  obtain ⟨Z, hZ⟩ : ∃ Z, Z = (w.alloc (Obj.cells (vq n0) 46)).alloc (Obj.cells zN5 46) := ⟨_, rfl⟩
  have A0 := Lib.hid (show Blk Z w.heap.size 46 (vq n0) by rw [hZ]; exact (Blk.new w _ _).alloc _)
  have E0 := Lib.hid (show Blk Z (w.heap.size + 1) 46 zN5 by
    have h1 := Blk.new (w.alloc (Obj.cells (vq n0) 46)) 46 zN5
    rw [show (w.alloc (Obj.cells (vq n0) 46)).heap.size = w.heap.size + 1 by simp] at h1
    rw [hZ]; exact h1)
  have B0 := Lib.hid (show Below w.heap.size w Z by rw [hZ]; exact ((Below.refl _ _).alloc (Nat.le_refl _) _).alloc (by simp) _)
  go_enter Try.func28, Try.ntmps28
  go_upto_region 1 with fail
  rw [← hZ]
  clear hZ
  go_upto_region 2 with (first
    | (refine wpList_loadN rfl (.tmp 1) rfl w.heap.size rfl n0 A0.out HN0.out ?_)
    | (go_at_call 34; (refine (HC1.out _).mono ?_); rintro e w1 ⟨rfl, hb⟩; have A1 := Lib.hid (A0.out.below hb A0.out.lt); have E1 := Lib.hid (E0.out.below hb E0.out.lt); have B1 := Lib.hid (B0.out.trans (hb.mono B0.out.size)); clear hb HC1)
    | (go_at_call 34; (refine (HC2.out _).mono ?_); rintro e w2 ⟨rfl, hb⟩; have A2 := Lib.hid (A1.out.below hb A1.out.lt); have E2 := Lib.hid (E1.out.below hb E1.out.lt); have B2 := Lib.hid (B1.out.trans (hb.mono B1.out.size)); clear hb HC2)
    | (refine wpList_store_rowTo rfl 46 (.tmp 1) (.tmp 9) rfl rfl w.heap.size (vq n) rfl rfl 46 (vq n0) A2.out HSZ.out HQ0.out (vq_one _) ?_))
  have A3 := Lib.hid (show Blk (w2.setRow w.heap.size (vq n)) w.heap.size 46 (vq n) from setRow_heap _ _ _ _ _ (0, 0) A2.out)
  have E3 := Lib.hid (show Blk (w2.setRow w.heap.size (vq n)) (w.heap.size + 1) 46 zN5 from (setRow_other _ _ _ _ (by omega)).trans E2.out)
  have B3 := Lib.hid (show Below w.heap.size w (w2.setRow w.heap.size (vq n)) from below_row B2.out (Nat.le_refl _) _)
  clear A0 A1 A2 E0 E1 E2 B0 B1 B2 HQ0
  generalize w2.setRow w.heap.size (vq n) = W3 at *
  go_upto_region 3 with (first
    | (refine wpList_loadN rfl (.tmp 1) rfl w.heap.size rfl n A3.out HN.out ?_)
    | (refine wpList_store_rowTo rfl 46 (.tmp 3) (.tmp 10) rfl rfl W3.heap.size (vq n) rfl rfl 46 zN5 (by exact Blk.new _ _ _) HSZ.out HQ.out.symm (vq_one _) ?_))
  have hnn := new_num W3 n
  have FS0 := Lib.hid (show FnSt w ((W3.alloc (Obj.cells zN5 46)).setRow W3.heap.size (vq n)) w.heap.size W3.heap.size n n from
    ⟨HN.out, HN.out, A3.out.below hnn.2 A3.out.lt, hnn.1, E3.out.below hnn.2 E3.out.lt, B3.out.trans (hnn.2.mono B3.out.size), Nat.le_refl _, E3.out.lt⟩)
  clear hnn A3 E3 B3
  generalize (W3.alloc (Obj.cells zN5 46)).setRow W3.heap.size (vq n) = W4 at *
  generalize W3.heap.size = gm at *
  have c0 := FS0.out.cellM 0 (by decide)
  have e0 := FS0.out.m.free 0
  have h50 := HNL.out 0 (by decide)
  obtain ⟨v0, hv0⟩ : ∃ v0, v0 = m5 n 0 := ⟨_, rfl⟩
  have hi0 : ((n.getD 0 0 : Nat) : Int) + 5 = (v0 : Int) := by rw [hv0]; rfl
  have HI0 := Lib.hid hi0
  generalize hx0 : n.getD 0 0 = x0 at *
  have HX0 := Lib.hid hx0
  clear hx0 hi0
  go_upto_region 4 with fail
  rw [HI0.out]
  have FS1 := Lib.hid (FS0.out.setM 0 v0)
  have HM1 := Lib.hid (show ∀ j, j < 5 → (n.set 0 v0).getD j 0 = morL n 0 j from fun j hj => by
    rw [getD_set _ _ _ _ (by rw [HN.out]; decide), hv0]
    unfold morL
    by_cases h : j = 0
    · subst h; rfl
    · rw [if_neg h, if_neg (Nat.not_lt_zero j)])
  clear c0 e0 h50 hv0 HI0 FS0 HX0
  generalize W4.setCell ⟨gm, 0, none⟩ (.int .u64 (v0 : Nat)) = W5 at *
  generalize n.set 0 v0 = M0 at *
  go_wp2_with fail
  go_loopw [15] (fun i wr => ∃ (k : Nat) (M : List Nat), k ≤ 4 ∧ i = .int .i64 (k : Int) ∧ FnSt w wr w.heap.size gm n M ∧ ∀ j, j < 5 → M.getD j 0 = morL n k j) (fun i _ => 4 - (intOf i).toNat)
  case atStart => exact ⟨0, M0, by omega, rfl, FS1.out, HM1.out⟩
  case round =>
    rename World => wr
    obtain ⟨k, M, hk, rfl, hst, hM⟩ := hrel
    clear FS1 HM1
    have ST := Lib.hid hst
    have HM := Lib.hid hM
    clear hst hM
    by_cases hlt : k < 4
    · have p1 : (k : Int) < 4 := by omega
      have c1 := ST.out.cellM (k + 1) (by omega)
      have c0 := ST.out.cellM k (by omega)
      rw [HM.out (k + 1) (by omega)] at c1
      rw [HM.out k (by omega)] at c0
      have r1 : morL n k (k + 1) = n.getD (k + 1) 0 := by unfold morL; rw [if_neg (by omega), if_neg (by omega)]
      have r0 : morL n k k = m5 n k := by unfold morL; rw [if_neg (by omega), if_pos rfl]
      rw [r1] at c1
      rw [r0] at c0
      have hl0 := HML.out k (by omega)
      have hl1 := HNL.out (k + 1) (by omega)
      have HV := Lib.hid (show m5 n (k + 1) = n.getD (k + 1) 0 + m5 n k / 67108864 from rfl)
      obtain ⟨v, hv⟩ : ∃ v, v = m5 n (k + 1) := ⟨_, rfl⟩
      rw [← hv] at HV
      have VV := Lib.hid hv
      obtain ⟨u, hu⟩ : ∃ u, u = m5 n k % 67108864 := ⟨_, rfl⟩
      have UU := Lib.hid hu
      clear hv hu r0 r1
      have HMK := Lib.hid (show M.getD k 0 = m5 n k by rw [HM.out k (by omega)]; unfold morL; rw [if_neg (Nat.lt_irrefl k), if_pos rfl])
      have HMO := Lib.hid (show m5 n k = m5 n k from rfl)
      generalize hmk : m5 n k = mk at *
      have HMKE := Lib.hid hmk
      clear hmk
      generalize n.getD (k + 1) 0 = xk at *
      have f1 : bits BinOp.and IntKind.u64 (mk : Int) 67108863 = (u : Int) := by rw [and26 _ (by omega), UU.out]
      have hi1 : (xk : Int) + (mk : Int) / 67108864 = (v : Int) := by have := HV.out; omega
      have HI1 := Lib.hid hi1
      obtain ⟨k1, hk1⟩ : ∃ k1, k1 = k + 1 := ⟨_, rfl⟩
      have k1i : (k : Int) + 1 = (k1 : Int) := by omega
      have k15 : (k1 : Int) < 5 := by omega
      have k05 : (k : Int) < 5 := by omega
      rw [← hk1] at c1
      have e1 := ST.out.m.free k1
      have c0e := cell_ext c0
      have c1e := cell_ext c1
      have HK1 := Lib.hid hk1
      clear hi1 hk1 c0 c1
      go_upto_region 7 with fail
      refine wp_region_loudTail 10 wr [] (fun _ _ _ => True) (by kernel_rfl) (by kernel_rfl) (by kernel_rfl) (by kernel_rfl) (fun _ _ _ _ h hb => True.intro) (Below.refl _ _).drew ?_
      simp only [List.take_succ_cons, List.take_zero, List.drop_succ_cons, List.drop_zero]
      repeat (refine wpLoud_plain rfl rfl rfl ?_; intro K hK; go_big_quiet_op; go_big_quiet_on)
      refine wpLoud_end [] (by rfl) ?_
      intro g z hg
      have ST1 := Lib.hid (ST.out.next z.bel)
      have e1' := ST1.out.m.free k1
      have c1' := (z.cell (c1e ⟨wr, Below.refl _ _⟩))
      clear c0e c1e e1 ST
      generalize z.wd = Y at *
      simp only [fill, Act.put, List.setIfInBounds_toArray, List.set_cons_succ, List.set_cons_zero]
      go_upto_region 8 with fail
      rw [HI1.out]
      have st2 := ST1.out.setM k1 v
      have c2 := st2.cellM k (by omega)
      rw [getD_set _ _ _ _ (by rw [ST1.out.lm]; omega), if_neg (by have := HK1.out; omega), HMK.out] at c2
      have e2 := st2.m.free k
      have ST2 := Lib.hid st2
      clear st2 ST1 e1' c1'
      generalize Y.setCell ⟨gm, k1, none⟩ (.int .u64 (v : Nat)) = W6 at *
      go_wp2_with fail
      refine ⟨⟨k + 1, (M.set k1 v).set k u, by omega, by first | rfl | (congr 1; omega), ST2.out.setM k u, fun j hj => ?_⟩, by simp only [intOf]; omega⟩
      have hml : k < (M.set k1 v).length := by rw [ST2.out.lm]; omega
      have hml1 : k1 < M.length := by have := ST2.out.lm; rw [List.length_set] at this; omega
      rw [getD_set _ _ _ _ hml, getD_set _ _ _ _ hml1, HM.out j hj]
      have hkk := HK1.out
      unfold morL
      by_cases h1 : j = k
      · rw [if_pos h1, if_pos (by omega), UU.out, h1, HMKE.out]
      · rw [if_neg h1]
        by_cases h2 : j = k1
        · rw [if_pos h2, if_neg (by omega), if_pos (by omega), VV.out]
        · rw [if_neg h2]
          by_cases h3 : j < k
          · rw [if_pos h3, if_pos (by omega)]
          · rw [if_neg h3, if_neg h1, if_neg (by omega), if_neg (by omega)]
    · obtain rfl : k = 4 := by omega
      have hm4 := HM.out 4 (by decide)
      rw [show morL n 4 4 = m5 n 4 from rfl] at hm4
      have hl4 := HML.out 4 (by decide)
      have c4 := ST.out.cellM 4 (by decide)
      rw [hm4] at c4
      have e4 := ST.out.m.free 4
      obtain ⟨ov, hov⟩ : ∃ ov, ov = m5 n 4 / 67108864 := ⟨_, rfl⟩
      have HO := HOV.out
      rw [← hov] at HO
      have HFA := Lib.hid (show ∀ j, j < 5 → (finL n).getD j 0 = if ov = 0 then n.getD j 0 else m5 n j % 67108864 from fun j hj => by
        have : j = 0 ∨ j = 1 ∨ j = 2 ∨ j = 3 ∨ j = 4 := by omega
        unfold finL
        rw [← hov]
        by_cases h0 : ov = 0
        · rw [if_pos h0, if_pos h0]
        · rw [if_neg h0, if_neg h0]
          rcases this with rfl | rfl | rfl | rfl | rfl <;> rfl)
      obtain ⟨u4, hu4⟩ : ∃ u4, u4 = m5 n 4 % 67108864 := ⟨_, rfl⟩
      have U4 := Lib.hid hu4
      have hmall : ∀ j, j < 5 → (M.set 4 u4).getD j 0 = m5 n j % 67108864 := fun j hj => by
        rw [getD_set _ _ _ _ (by rw [ST.out.lm]; decide), HM.out j hj, hu4]
        unfold morL
        by_cases h : j = 4
        · rw [if_pos h, h]
        · rw [if_neg h, if_pos (by omega)]
      have HMA := Lib.hid hmall
      have f4 : bits BinOp.and IntKind.u64 ((m5 n 4 : Nat) : Int) 67108863 = (u4 : Int) := by rw [and26 _ (by omega), hu4]
      have o4 : ((m5 n 4 : Nat) : Int) / 67108864 = (ov : Int) := by omega
      clear hu4 hov hmall hm4 HM
      generalize m5 n 4 = m4 at *
      go_upto_region 12 with fail
      have ST1 := Lib.hid (ST.out.setM 4 u4)
      clear c4 e4 ST f4 o4
      generalize wr.setCell ⟨gm, 4, none⟩ (.int .u64 (u4 : Nat)) = W7 at *
      generalize M.set 4 u4 = M5 at *
      obtain ⟨ng, hng⟩ : ∃ ng : Nat, ng = if ov = 0 then 0 else 18446744073709551615 := ⟨_, rfl⟩
      have fng : IntKind.u64.wrap (-(ov : Int)) = (ng : Int) := by
        rcases HO with h | h
        · subst h; rw [hng]; rfl
        · subst h; rw [hng]; rfl
      have HNG := Lib.hid hng
      have HOO := Lib.hid HO
      clear hng HO
      go_wp2_with fail
      go_loopw [41] (fun i wr => ∃ (k : Nat) (L : List Nat), k ≤ 5 ∧ i = .int .i64 (k : Int) ∧ FnSt w wr w.heap.size gm L M5 ∧ ∀ j, j < 5 → L.getD j 0 = if j < k then (finL n).getD j 0 else n.getD j 0) (fun i _ => 5 - (intOf i).toNat)
      case atStart => exact ⟨0, n, by omega, rfl, ST1.out, fun j _ => by rw [if_neg (Nat.not_lt_zero j)]⟩
      case round =>
        rename World => wq
        obtain ⟨k, L, hk, rfl, hst, hL⟩ := hrel
        clear ST1
        have ST := Lib.hid hst
        have HLL := Lib.hid hL
        clear hst hL
        by_cases hlt : k < 5
        · have p1 : (k : Int) < 5 := by omega
          have c0 := ST.out.cellL k hlt
          have c1 := ST.out.cellM k hlt
          rw [HLL.out k hlt, if_neg (Nat.lt_irrefl k)] at c0
          rw [HMA.out k hlt] at c1
          have ha := HNL.out k hlt
          have hb : m5 n k % 67108864 < 67108864 := Nat.mod_lt _ (by decide)
          have HV := Lib.hid (HFA.out k hlt)
          obtain ⟨v, hv⟩ : ∃ v, v = (finL n).getD k 0 := ⟨_, rfl⟩
          rw [← hv] at HV
          have VV := Lib.hid hv
          clear hv
          generalize n.getD k 0 = a at *
          generalize m5 n k % 67108864 = b at *
          obtain ⟨d, hd⟩ : ∃ d, d = a ^^^ b := ⟨_, rfl⟩
          have hd64 : d < 18446744073709551616 := by
            rw [hd]; exact Nat.xor_lt_two_pow (n := 64) (by omega) (by omega)
          have f1 : bits BinOp.xor IntKind.u64 (a : Int) (b : Int) = (d : Int) := by rw [xor64 _ _ (by omega) (by omega), hd]
          obtain ⟨r, hr⟩ : ∃ r, r = if ov = 0 then 0 else d := ⟨_, rfl⟩
          have f2 : bits BinOp.and IntKind.u64 (d : Int) (ng : Int) = (r : Int) := by
            rw [HNG.out, hr]
            rcases HOO.out with h | h
            · subst h; exact and0 d hd64
            · subst h; exact andF d hd64
          have f3 : bits BinOp.xor IntKind.u64 (a : Int) (r : Int) = (v : Int) := by
            rw [HV.out, hr]
            rcases HOO.out with h | h
            · subst h; exact xor0 a (by omega)
            · subst h
              show bits BinOp.xor IntKind.u64 (a : Int) (d : Int) = (b : Int)
              rw [xor64 _ _ (by omega) hd64, hd, ← Nat.xor_assoc, Nat.xor_self, Nat.zero_xor]
          clear hd hr hd64
          have e0 := ST.out.a.free k
          have c0e := cell_ext c0
          have c1e := cell_ext c1
          clear c0 c1
          go_upto_region 15 with fail
          refine wp_region_loudTail 15 wq [] (fun _ _ _ => True) (by kernel_rfl) (by kernel_rfl) (by kernel_rfl) (by kernel_rfl) (fun _ _ _ _ h hb => True.intro) (Below.refl _ _).drew ?_
          simp only [List.take_succ_cons, List.take_zero, List.drop_succ_cons, List.drop_zero]
          repeat (refine wpLoud_plain rfl rfl rfl ?_; intro K hK; go_big_quiet_op; go_big_quiet_on)
          refine wpLoud_end [] (by rfl) ?_
          intro g z hg
          have ST1 := Lib.hid (ST.out.next z.bel)
          have e0' := ST1.out.a.free k
          have c0' := (z.cell (c0e ⟨wq, Below.refl _ _⟩))
          clear c0e c1e e0
          generalize z.wd = Y at *
          simp only [fill, Act.put, List.setIfInBounds_toArray, List.set_cons_succ, List.set_cons_zero]
          go_wp2_with fail
          refine ⟨⟨k + 1, L.set k v, by omega, rfl, ST1.out.setL k v, fun j hj => ?_⟩, by simp only [intOf]; omega⟩
          rw [getD_set _ _ _ _ (by rw [ST1.out.ll]; exact hlt), HLL.out j hj, VV.out]
          by_cases hjk : j = k
          · subst hjk; rw [if_pos rfl, if_pos (Nat.lt_succ_self _)]
          · rw [if_neg hjk]
            by_cases h3 : j < k
            · rw [if_pos h3, if_pos (by omega)]
            · rw [if_neg h3, if_neg (by omega)]
        · obtain rfl : k = 5 := by omega
          have HLE := Lib.hid (show L = finL n by
            rw [five_eq L ST.out.ll, HLL.out 0 (by decide), HLL.out 1 (by decide), HLL.out 2 (by decide), HLL.out 3 (by decide), HLL.out 4 (by decide)]
            exact (five_eq (finL n) (by unfold finL; split; exact HN.out; rfl)).symm)
          clear fng
          have HSZL := Lib.hid (numSz ST.out.ll)
          have HQL := Lib.hid (show (vq L).size = zN5.size by rw [vq_size, ST.out.ll]; rfl)
          go_wp2_with (first
            | (refine wpList_loadN rfl (.tmp 1) rfl w.heap.size rfl L ST.out.a ST.out.ll ?_)
            | (refine wpList_store_rowTo rfl 46 (.tmp 2) (.tmp 60) rfl rfl (w.heap.size + 1) (vq L) rfl rfl 46 zN5 ST.out.o HSZL.out HQL.out.symm (vq_one _) ?_))
          first
            | rw [Exit.noGoto_ret]
            | skip
          refine bodyPost_ret (results_cell_row rfl _ _ (w.heap.size + 1) 46 (vq L) (0, 0) _ rfl (setRow_heap _ _ zN5 _ 46 (0, 0) ST.out.o) Try.underlying46 rfl HSZL.out) rfl ?_
          exact ⟨by rw [HEND.out, HLE.out], below_row ST.out.bel (by omega) _⟩
end Go.Proofs.Ytfblpkjablgafaa
