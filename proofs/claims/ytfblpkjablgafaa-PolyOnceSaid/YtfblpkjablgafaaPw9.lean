/- Contract: a key's r. -/
import Derived.Test.YtfblpkjablgafaaPw8
import Derived.Laws.CopyRow
namespace Go.Proofs.Ytfblpkjablgafaa
open Go.RowKit
set_option linter.unusedVariables false
set_option linter.unusedSimpArgs false
theorem copy_b (w : World) (g : Nat) (T : TypeId) (D : List Nat) (nd cd ca : Nat) (ad : Addr) (k : List Nat) (m : Nat) (hm : m = min k.length nd) (hb : Blk w g T (vb D)) (hr : ∀ j u, (byt k)[j]? = some u → w.cell? (ad.add j) = some u) (hfit : m ≤ D.length) :
    (Builtin.copy_ #[24, 24] 3 #[.slice (some ⟨g, 0, none⟩) nd cd, .slice (some ad) k.length ca]).run Try.prog w = .ok (.int .i64 (m : Int)) (w.setRow g (vb (k.take m ++ D.drop m))) := by
  obtain ⟨i0, hi, hz0, hz1, hz2⟩ := info_parts byteInfo
  have hml : (byt (k.take m)).length = m := by rw [byt_len, List.length_take]; omega
  have h1 := run_copy_row (P := Try.prog) w 24 24 3 5 g 0 nd cd ad k.length ca (vb D) T (byt (k.take m)) Try.underlying24 (by rw [hi]; simp [hz1]) hb (by rw [hml, hm]) (fun j v h => hr j v (by
      rw [byt, List.map_take] at h
      rw [byt]
      rw [List.getElem?_take] at h
      split at h
      · exact h
      · cases h)) (by rw [hml, vb_size]; omega) (byt_one _)
  rw [hml] at h1
  refine h1.trans ?_
  congr 2
  simp [vb, byt, List.map_drop]
theorem u8_and252 : ∀ c : Nat, c < 256 → c &&& 252 = c / 4 * 4 := by decide +kernel
theorem and252 (c : Nat) (h : c < 256) : bits BinOp.and .u8 (c : Int) 252 = ((c / 4 * 4 : Nat) : Int) := by
  rw [show (252 : Int) = ((252 : Nat) : Int) from rfl, u8_and_nat _ _ h (by decide), u8_and252 c h]
theorem u8_and15' : ∀ c : Nat, c < 256 → c &&& 15 = c % 16 := by decide +kernel
theorem and15 (c : Nat) (h : c < 256) : bits BinOp.and .u8 (c : Int) 15 = ((c % 16 : Nat) : Int) := by
  rw [show (15 : Int) = ((15 : Nat) : Int) from rfl, u8_and_nat _ _ h (by decide), u8_and15' c h]
def zl17 : List Nat := List.replicate 17 0
theorem zero_b17 (w : World) : (zeroValue 52).run Try.prog w = .ok (.agg (vb zl17)) w := by kernel_rfl
structure ClSt (w wr : World) (gr go : Nat) (O : List Nat) : Prop where
  len : O.length = 17
  at_ : Blk wr go 52 (vb O)
  out : Blk wr gr 46 zN5
  bel : Below w.heap.size w wr
  gg : w.heap.size ≤ go
  ne : gr ≠ go
theorem ClSt.set {w wr : World} {gr go : Nat} {O : List Nat} (h : ClSt w wr gr go O) (k v : Nat) : ClSt w (wr.setCell ⟨go, k, none⟩ (.int .u8 (v : Int))) gr go (O.set k v) :=
  ⟨by rw [List.length_set]; exact h.len, by rw [← vb_set]; exact h.at_.set_ _ _, h.out.far (by show gr ≠ go; exact h.ne) _, h.bel.setCell (by show w.heap.size ≤ go; exact h.gg) _, h.gg, h.ne⟩
theorem ClSt.cell {w wr : World} {gr go : Nat} {O : List Nat} (h : ClSt w wr gr go O) (k : Nat) (hk : k < 17) : wr.cell? ⟨go, k, none⟩ = some (.int .u8 (O.getD k 0 : Nat)) :=
  (h.at_.cell k).trans (vb_at _ k (by rw [h.len]; exact hk))
theorem b17Ln {L : List Nat} (h : L.length = 17) : (Try.prog.info? 52).map (·.size) = some (byt L).length := by rw [byt_len, h]; kernel_rfl
theorem wpList_load17 {ops : Array Oper} {rest : List Oper} {o : Oper} {a : Act} {w : World} {Q : Exit → Act → World → Prop} (hw : Region.wanted o (yielded ops a.tmps) = true) (x : Operand) (ho : o.op = .load 52 x) (g : Nat) (hx : a.eval x = .pointer (some ⟨g, 0, none⟩)) (L : List Nat)
    (hc : Blk w g 52 (vb L)) (h5 : L.length = 17) (h : wpList Try.prog ops Q rest (a.put o.dst (.agg (vb L))) w) : wpList Try.prog ops Q (o :: rest) a w :=
  wpList_loadG hw 52 x ho g 0 hx (byt L) _ (by have := rangeAt_blk hc; simpa [vb] using this) Try.underlying52 rfl (b17Ln h5) h
/-- what stands at place j when the first loop is at i, the second at i2 -/
def clB (k : List Nat) (i i2 j : Nat) : Nat := if j % 4 = 3 ∧ j < i ∧ j < 16 then k.getD j 0 % 16 else if j % 4 = 0 ∧ 0 < j ∧ j < i2 ∧ j < 16 then k.getD j 0 / 4 * 4 else if j < 16 then k.getD j 0 else 0
theorem clamp_end (k O : List Nat) (h17 : O.length = 17) (h : ∀ j, j < 17 → O.getD j 0 = clB k 19 16 j) : O = clampL k ++ [0] := by
  refine list_ext (by rw [h17]; rfl) fun j hj => ?_
  rw [h17] at hj
  rw [h j hj]
  have : j = 0 ∨ j = 1 ∨ j = 2 ∨ j = 3 ∨ j = 4 ∨ j = 5 ∨ j = 6 ∨ j = 7 ∨ j = 8 ∨ j = 9 ∨ j = 10 ∨ j = 11 ∨ j = 12 ∨ j = 13 ∨ j = 14 ∨ j = 15 ∨ j = 16 := by omega
  rcases this with rfl | rfl | rfl | rfl | rfl | rfl | rfl | rfl | rfl | rfl | rfl | rfl | rfl | rfl | rfl | rfl | rfl <;> rfl
set_option maxRecDepth 100000 in
set_option maxHeartbeats 8000000 in
theorem clamped_c (k : List Nat) (w : World) (hk : k.length = 32) (hl : ∀ c ∈ k, c < 256) :
    Calls Try.prog 21 #[.agg (vb k)] w fun e w' => e = .returned (.agg (vq (limbL (number (clampL k))))) ∧ Below w.heap.size w w' := by
  have zf := zero_num
  have zs1 : zN5.size = 5 := by rfl
  have zs2 : ¬ zN5 = #[] := by intro h; have := congrArg Array.size h; rw [zs1] at this; cases this
  have zg := zero_b17
  have zg1 : (vb zl17).size = 17 := by rfl
  have ksz : (vb k).size = 32 := by rw [vb_size, hk]
  have HK := Lib.hid hk
  have HL := Lib.hid (fun j => getD_lt hl j)
  have HLM := Lib.hid (show ∀ c ∈ clampL k ++ [0], c < 256 from fun c hc => by
    rcases List.mem_append.1 hc with h | h
    · obtain ⟨i, _, rfl⟩ := List.mem_map.1 h
      have := getD_lt hl i
      unfold clampB
      split
      · omega
      · split <;> omega
    · rw [List.mem_singleton.1 h]; decide)
  have HNUM := Lib.hid (show number (clampL k ++ [0]) = number (clampL k) by rw [number_append]; simp [number])
  obtain ⟨Z, hZ⟩ : ∃ Z, Z = ((w.alloc (Obj.cells (vb k) 23)).alloc (Obj.cells zN5 46)).alloc (Obj.cells (vb zl17) 52) := ⟨_, rfl⟩
  have A0 := Lib.hid (show Blk Z w.heap.size 23 (vb k) by rw [hZ]; exact ((Blk.new w _ _).alloc _).alloc _)
  have E0 := Lib.hid (show Blk Z (w.heap.size + 1) 46 zN5 by
    have h1 := (Blk.new (w.alloc (Obj.cells (vb k) 23)) 46 zN5).alloc (Obj.cells (vb zl17) 52)
    rw [show (w.alloc (Obj.cells (vb k) 23)).heap.size = w.heap.size + 1 by simp] at h1
    rw [hZ]; exact h1)
  have C0 := Lib.hid (show Blk Z (w.heap.size + 1 + 1) 52 (vb zl17) by
    have h1 := Blk.new ((w.alloc (Obj.cells (vb k) 23)).alloc (Obj.cells zN5 46)) 52 (vb zl17)
    rw [show ((w.alloc (Obj.cells (vb k) 23)).alloc (Obj.cells zN5 46)).heap.size = w.heap.size + 1 + 1 by simp] at h1
    rw [hZ]; exact h1)
  have B0 := Lib.hid (show Below w.heap.size w Z by rw [hZ]; exact (((Below.refl _ _).alloc (Nat.le_refl _) _).alloc (by simp) _).alloc (by simp; omega) _)
  clear hl
  go_enter Try.func21, Try.ntmps21
  go_upto_region 2 with fail
  rw [← hZ]
  clear hZ
  refine wp_region_loudTail 2 Z [] (fun _ _ _ => True) (by kernel_rfl) (by kernel_rfl) (by kernel_rfl) (by kernel_rfl) (fun _ _ _ _ h hb => True.intro) (Below.refl _ _).drew ?_
  simp only [List.take_succ_cons, List.take_zero, List.drop_succ_cons, List.drop_zero]
  repeat (refine wpLoud_plain rfl rfl rfl ?_; intro K hK; go_big_quiet_op; go_big_quiet_on)
  refine wpLoud_end [] (by rfl) ?_
  intro g z hg
  have A1 := Lib.hid (A0.out.below z.bel A0.out.lt)
  have E1 := Lib.hid (E0.out.below z.bel E0.out.lt)
  have C1 := Lib.hid (C0.out.below z.bel C0.out.lt)
  have B1 := Lib.hid (B0.out.trans (z.bel.mono B0.out.size))
  clear A0 E0 C0 B0
  generalize z.wd = Y at *
  simp only [fill, Act.put, List.setIfInBounds_toArray, List.set_cons_succ, List.set_cons_zero]
  have hcopy := copy_b Y (w.heap.size + 1 + 1) 52 zl17 16 17 32 ⟨w.heap.size, 0, none⟩ k 16 (by rw [HK.out]; rfl) C1.out (fun j u hu => by
    have h1 := A1.out.cell j
    have e : (Addr.add ⟨w.heap.size, 0, none⟩ j) = ⟨w.heap.size, j, none⟩ := by cases j <;> simp [Addr.add]
    rw [e, h1]
    simpa [vb] using hu) (by decide)
  rw [HK.out] at hcopy
  obtain ⟨D0, hD0⟩ : ∃ D0, D0 = k.take 16 ++ zl17.drop 16 := ⟨_, rfl⟩
  rw [← hD0] at hcopy
  have HD0 := Lib.hid (show ∀ j, j < 17 → D0.getD j 0 = clB k 3 4 j from fun j hj => by
    rw [hD0]
    unfold clB
    rw [if_neg (by omega), if_neg (by omega)]
    by_cases h : j < 16
    · rw [if_pos h, getD_app_l _ _ _ (by rw [List.length_take, HK.out]; exact h), List.getD_eq_getElem?_getD, List.getElem?_take_of_lt h, List.getD_eq_getElem?_getD]
    · obtain rfl : j = 16 := by omega
      rw [if_neg h, getD_app_r _ _ _ (by rw [List.length_take, HK.out]; decide), List.length_take, HK.out]; rfl)
  have hDl : D0.length = 17 := by rw [hD0, List.length_append, List.length_take, HK.out]; rfl
  have ST0 := Lib.hid (show ClSt w (Y.setRow (w.heap.size + 1 + 1) (vb D0)) (w.heap.size + 1) (w.heap.size + 1 + 1) D0 from
    ⟨hDl, setRow_heap _ _ _ _ _ (0, 0) C1.out, (setRow_other _ _ _ _ (by omega)).trans E1.out, below_row B1.out (by omega) _, by omega, by omega⟩)
  clear hD0 hDl A1 E1 C1 B1
  obtain ⟨Y2, hY2⟩ : ∃ Y2, Y2 = Y.setRow (w.heap.size + 1 + 1) (vb D0) := ⟨_, rfl⟩
  rw [← hY2] at hcopy ST0
  clear hY2
  go_wp2_with fail
  clear hcopy
  go_loopw [4] (fun i wr => ∃ (q : Nat) (O : List Nat), q ≤ 4 ∧ i = .int .i64 ((4 * q + 3 : Nat) : Int) ∧ ClSt w wr (w.heap.size + 1) (w.heap.size + 1 + 1) O ∧ ∀ j, j < 17 → O.getD j 0 = clB k (4 * q + 3) 4 j) (fun i _ => 19 - (intOf i).toNat)
  case atStart => exact ⟨0, D0, by omega, rfl, ST0.out, HD0.out⟩
  case round =>
    rename World => wr
    obtain ⟨q, O, hq, rfl, hst, hO⟩ := hrel
    have ST := Lib.hid hst
    have HO := Lib.hid hO
    clear hst hO ST0 HD0
    by_cases hlt : q < 4
    · obtain ⟨i, hi⟩ : ∃ i, i = 4 * q + 3 := ⟨_, rfl⟩
      rw [← hi]
      have p1 : (i : Int) < 16 := by omega
      have p2 : (i : Int) < 17 := by omega
      have d0 := ST.out.cell i (by omega)
      have r0 : clB k (4 * q + 3) 4 i = k.getD i 0 := by
        unfold clB
        rw [if_neg (by omega), if_neg (by omega), if_pos (by omega)]
      rw [HO.out i (by omega), r0] at d0
      have e0 := ST.out.at_.free i
      have hc := HL.out i
      have f1 := and15 (k.getD i 0) hc
      obtain ⟨v, hv⟩ : ∃ v, v = k.getD i 0 % 16 := ⟨_, rfl⟩
      rw [← hv] at f1
      have VV := Lib.hid hv
      have HI := Lib.hid hi
      clear hv r0 hi
      generalize hcc : k.getD i 0 = c at *
      have HCC := Lib.hid hcc
      clear hcc
      go_wp2_with fail
      have hI := HI.out
      refine ⟨⟨q + 1, O.set i v, by omega, by congr 1; omega, ST.out.set i v, fun j hj => ?_⟩, by simp only [intOf]; omega⟩
      rw [getD_set _ _ _ _ (by rw [ST.out.len]; omega), HO.out j hj]
      unfold clB
      by_cases hji : j = i
      · rw [if_pos hji, if_pos (by omega), VV.out, hji, HCC.out]
      · rw [if_neg hji]
        by_cases h1 : j % 4 = 3 ∧ j < 4 * q + 3 ∧ j < 16
        · rw [if_pos h1, if_pos (by omega)]
        · rw [if_neg h1, if_neg (show ¬ (j % 4 = 3 ∧ j < 4 * (q + 1) + 3 ∧ j < 16) by omega)]
    · obtain rfl : q = 4 := by omega
      clear zf zs1 zs2 zg zg1
      rw [show ((4 * 4 + 3 : Nat) : Int) = 19 from rfl]
      have HO19 := Lib.hid (show ∀ j, j < 17 → O.getD j 0 = clB k 19 4 j from HO.out)
      go_wp2_with fail
      go_loopw [5] (fun i wr => ∃ (q : Nat) (O : List Nat), q ≤ 3 ∧ i = .int .i64 ((4 * q + 4 : Nat) : Int) ∧ ClSt w wr (w.heap.size + 1) (w.heap.size + 1 + 1) O ∧ ∀ j, j < 17 → O.getD j 0 = clB k 19 (4 * q + 4) j) (fun i _ => 16 - (intOf i).toNat)
      case atStart => exact ⟨0, O, by omega, rfl, ST.out, HO19.out⟩
      case round =>
        rename World => wq
        obtain ⟨q, O', hq, rfl, hst, hO⟩ := hrel
        clear ST HO HO19
        have ST := Lib.hid hst
        have HO := Lib.hid hO
        clear hst hO
        by_cases hlt : q < 3
        · obtain ⟨i, hi⟩ : ∃ i, i = 4 * q + 4 := ⟨_, rfl⟩
          rw [← hi]
          have p1 : (i : Int) < 16 := by omega
          have p2 : (i : Int) < 17 := by omega
          have d0 := ST.out.cell i (by omega)
          have r0 : clB k 19 (4 * q + 4) i = k.getD i 0 := by
            unfold clB
            rw [if_neg (by omega), if_neg (by omega), if_pos (by omega)]
          rw [HO.out i (by omega), r0] at d0
          have e0 := ST.out.at_.free i
          have hc := HL.out i
          have f1 := and252 (k.getD i 0) hc
          obtain ⟨v, hv⟩ : ∃ v, v = k.getD i 0 / 4 * 4 := ⟨_, rfl⟩
          rw [← hv] at f1
          have VV := Lib.hid hv
          have HI := Lib.hid hi
          clear hv r0 hi
          generalize hcc : k.getD i 0 = c at *
          have HCC := Lib.hid hcc
          clear hcc
          go_wp2_with fail
          have hI := HI.out
          refine ⟨⟨q + 1, O'.set i v, by omega, by congr 1; omega, ST.out.set i v, fun j hj => ?_⟩, by simp only [intOf]; omega⟩
          rw [getD_set _ _ _ _ (by rw [ST.out.len]; omega), HO.out j hj]
          unfold clB
          by_cases hji : j = i
          · rw [if_pos hji, if_neg (by omega), if_pos (by omega), VV.out, hji, HCC.out]
          · rw [if_neg hji]
            by_cases h0 : j % 4 = 3 ∧ j < 19 ∧ j < 16
            · rw [if_pos h0, if_pos h0]
            · rw [if_neg h0, if_neg h0]
              by_cases h1 : j % 4 = 0 ∧ 0 < j ∧ j < 4 * q + 4 ∧ j < 16
              · rw [if_pos h1, if_pos (by omega)]
              · rw [if_neg h1, if_neg (show ¬ (j % 4 = 0 ∧ 0 < j ∧ j < 4 * (q + 1) + 4 ∧ j < 16) by omega)]
        · obtain rfl : q = 3 := by omega
          have HE := Lib.hid (clamp_end k O' ST.out.len HO.out)
          clear HO
          rw [show ((4 * 3 + 4 : Nat) : Int) = 16 from rfl]
          have HLC := Lib.hid (fun W => limbs_c O' W ST.out.len (by rw [HE.out]; exact HLM.out))
          rw [HE.out, HNUM.out, ← HE.out] at HLC
          have HLE := Lib.hid (limbL_len (number (clampL k)))
          obtain ⟨R, hR⟩ : ∃ R, R = limbL (number (clampL k)) := ⟨_, rfl⟩
          rw [← hR] at HLC HLE
          have HRR := Lib.hid hR
          clear hR
          have HSZ := Lib.hid (numSz HLE.out)
          have HQ := Lib.hid (show zN5.size = (vq R).size by rw [vq_size, HLE.out]; rfl)
          go_wp2_with (first
            | (refine wpList_load17 rfl (.tmp 3) rfl (w.heap.size + 1 + 1) rfl O' ST.out.at_ ST.out.len ?_)
            | (go_at_call 25; (refine (HLC.out _).mono ?_); rintro e w1 ⟨rfl, hb⟩; have E2 := Lib.hid (ST.out.out.below hb ST.out.out.lt); have B2 := Lib.hid (ST.out.bel.trans (hb.mono ST.out.bel.size)); clear hb)
            | (refine wpList_store_rowTo rfl 46 (.tmp 2) (.tmp 28) rfl rfl (w.heap.size + 1) (vq R) rfl rfl 46 zN5 E2.out HSZ.out HQ.out (vq_one _) ?_))
          first
            | rw [Exit.noGoto_ret]
            | skip
          refine bodyPost_ret (results_cell_row rfl _ _ (w.heap.size + 1) 46 (vq R) (0, 0) _ rfl (setRow_heap _ _ zN5 _ 46 (0, 0) E2.out) Try.underlying46 rfl HSZ.out) rfl ?_
          exact ⟨by rw [HRR.out], below_row B2.out (by omega) _⟩
end Go.Proofs.Ytfblpkjablgafaa
