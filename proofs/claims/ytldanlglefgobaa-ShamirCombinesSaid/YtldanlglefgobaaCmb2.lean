/- ShamirCombines: the reference's Combine. -/
import Derived.Test.YtldanlglefgobaaCmb1
import Derived.Test.YtldanlglefgobaaSham8
namespace Go.Proofs.Ytldanlglefgobaa
open Go.RowKit
set_option linter.unusedVariables false
def upl (L : List Nat) (i : Nat) : Nat → Nat
  | 0 => 1
  | k + 1 => if k = i then upl L i k else gm (upl L i k) (shX L k)
def dnl (L : List Nat) (i : Nat) : Nat → Nat
  | 0 => 1
  | k + 1 => if k = i then dnl L i k else gm (dnl L i k) (shX L k ^^^ shX L i)
theorem upl_lt (L : List Nat) (i k : Nat) : upl L i k < 256 := by
  induction k with
  | zero => simp [upl]
  | succ k ih => unfold upl; split; exact ih; exact gm_lt _ _
theorem dnl_lt (L : List Nat) (i k : Nat) : dnl L i k < 256 := by
  induction k with
  | zero => simp [dnl]
  | succ k ih => unfold dnl; split; exact ih; exact gm_lt _ _
theorem plc_zero {L : List Nat} {n : Nat} (h : plc L n = 0) : (∀ j, j < n → shX L j ≠ 0) ∧ ∀ i j, i < n → j < n → i ≠ j → shX L j ≠ shX L i := by
  have hz : zeroX L n = false := by
    unfold plc at h
    cases hz : zeroX L n with
    | false => rfl
    | true => rw [hz] at h; simp at h
  have hd : dupX L n = false := by
    unfold plc at h
    rw [hz] at h
    cases hd : dupX L n with
    | false => rfl
    | true => rw [hd] at h; simp at h
  have key : ∀ i j, i < n → j < i → shX L j ≠ shX L i := fun i j hi hj he => by
    rw [dupX, List.any_eq_false] at hd
    exact hd i (List.mem_range.2 hi) (hasX_of hj he)
  refine ⟨fun j hj h0 => ?_, fun i j hi hj hne => ?_⟩
  · have := zeroX_of (L := L) (k := n) hj h0
    rw [hz] at this
    cases this
  · rcases Nat.lt_or_ge j i with h1 | h1
    · exact key i j hi h1
    · exact fun he => key j i hj (by omega) he.symm
theorem gm4 (a b c d : Nat) (ha : a < 256) (hb : b < 256) (hc : c < 256) (hd : d < 256) : gm (gm a b) (gm c d) = gm (gm a c) (gm b d) := by
  rw [gm_assoc a b (gm c d) ha hb (gm_lt _ _), ← gm_assoc b c d hb hc hd, gm_comm b c hb hc, gm_assoc c b d hc hb hd, ← gm_assoc a c (gm b d) ha hc (gm_lt _ _)]
theorem wtl_dnl {L : List Nat} {n i : Nat} (hl : ∀ c ∈ L, c < 256) (hd : ∀ j, j < n → i ≠ j → shX L j ≠ shX L i) : ∀ k, k ≤ n → gm (wtl L i k) (dnl L i k) = upl L i k ∧ dnl L i k ≠ 0
  | 0, _ => ⟨by show gm 1 1 = 1; exact gm_one 1 (by omega), by simp [dnl]⟩
  | k + 1, hk => by
    obtain ⟨h1, h2⟩ := wtl_dnl hl hd k (by omega)
    unfold wtl dnl upl
    by_cases hki : k = i
    · rw [if_pos hki, if_pos hki, if_pos hki]
      exact ⟨h1, h2⟩
    · rw [if_neg hki, if_neg hki, if_neg hki]
      have hx := shX_lt hl k
      have hy : shX L k ^^^ shX L i < 256 := xor_lt256 hx (shX_lt hl i)
      have hy0 : shX L k ^^^ shX L i ≠ 0 := xor_ne (hd k (by omega) (fun h => hki h.symm))
      refine ⟨?_, gm_ne (dnl_lt L i k) hy h2 hy0⟩
      rw [gm4 _ _ _ _ (wtl_lt L i k) (gm_lt _ _) (dnl_lt L i k) hy, h1, gm_assoc _ _ _ hx (finv_lt _) hy, gm_comm (finv _) _ (finv_lt _) hy, gm_finv _ hy hy0, gm_one _ hx]
theorem up_dn {L : List Nat} {n i : Nat} (hl : ∀ c ∈ L, c < 256) (hp : plc L n = 0) (hi : i < n) : gm (upl L i n) (rinv (dnl L i n)) = wtl L i n := by
  obtain ⟨h1, h2⟩ := wtl_dnl hl (fun j hj hne => (plc_zero hp).2 i j hi hj hne) n (Nat.le_refl _)
  have hdl := dnl_lt L i n
  have hr : rinv (dnl L i n) < 256 := by rw [rinv_is _ hdl h2]; exact tinv_lt ftab_small _
  rw [← h1, gm_assoc _ _ _ (wtl_lt L i n) hdl hr, gm_comm _ _ hdl hr, gm_rinv _ hdl h2, gm_one _ (wtl_lt L i n)]
/-- what the reference's Combine keeps in memory -/
structure RcW (w : World) (l : List Nat) (wr : World) : Prop where
  bo : Blk wr (w.heap.size + 1) 42 (vb l)
  br : Blk wr w.heap.size 42 z32
  bel : Below w.heap.size w wr
theorem RcW.drewN {w wr : World} {l : List Nat} (h : RcW w l wr) (n : Nat) : RcW w l (wr.drewN n) := ⟨h.bo, h.br, belowDrewN n h.bel⟩
theorem RcW.set_ {w wr : World} {l : List Nat} (h : RcW w l wr) (i v : Nat) : RcW w (l.set i v) (wr.setCell ⟨w.heap.size + 1, i, none⟩ (.int .u8 (v : Int))) :=
  ⟨by have := h.bo.set_ i (.int .u8 (v : Int)); rw [vb_set] at this; exact this, h.br.far (by show w.heap.size ≠ w.heap.size + 1; omega) _, h.bel.setCell (by show w.heap.size ≤ w.heap.size + 1; omega) _⟩
set_option maxRecDepth 100000 in
set_option maxHeartbeats 1000000 in
theorem rcombine_c (n cap : Nat) (ad : Addr) (L : List Nat) (w : World) (hn : 0 < n) (hn2 : n ≤ 1000) (hcap : n ≤ cap) (hcap2 : cap ≤ 9223372036854775807) (hL : L.length = n * 33) (hl : ∀ c ∈ L, c < 256) (hb : ad.block < w.heap.size) (ha : AtA w ad (byt L)) (hp : plc L n = 0) :
    Calls Try.prog 30 #[.slice (some ad) n cap] w fun e w' => e = .returned (.agg (vb (cmbTo L n n 0))) ∧ Below w.heap.size w w' := by
  have HW := Lib.hid (fun i (hi : i < n) => up_dn hl hp hi)
  have HNZ := Lib.hid (fun i (hi : i < n) => (wtl_dnl hl (fun j hj hne => (plc_zero hp).2 i j hi hj hne) n (Nat.le_refl _)).2)
  have HA := Lib.hid ha
  have HL := Lib.hid hl
  have zs := zero_arr
  have zn := z32_size
  have ze := z32_ne
  clear ha hl hp
  go_enter Try.func30, Try.ntmps30
  go_wp2_with fail
  have h0 : RcW w (cmbTo L n 0 0) ((w.alloc (.cells z32 42)).alloc (.cells z32 42)) := by
    rw [cmbTo_zero]
    exact ⟨heap_alloc2_new _ _ _, heap_alloc2_old _ _ _, ((Below.refl _ _).alloc (Nat.le_refl _) _).alloc (by simp) _⟩
  have H0 := Lib.hid h0
  clear h0
  go_loopw [4] (fun i wr => ∃ j : Nat, j ≤ n ∧ i = .int .i64 j ∧ RcW w (cmbTo L n j 0) wr) (fun i _ => n - (intOf i).toNat)
  case atStart => exact ⟨0, by omega, rfl, H0.out⟩
  case round =>
    rename World => wr
    obtain ⟨j, hj, rfl, hrc⟩ := hrel
    have HR := Lib.hid hrc
    clear hrc H0
    by_cases hlt : j < n
    · have HAt := Lib.hid (HA.out.below HR.out.bel hb)
      have cj : wr.cell? (ad.add (j * 33)) = some (.int .u8 (shX L j : Nat)) := HAt.out.x hL hlt
      have hxj := shX_lt HL.out j
      have hjn : (j : Int) < (n : Int) := by omega
      go_wp2_with fail
      have e13 : decide (j < n) = true := decide_eq_true hlt
      go_loopw [5, 6, 7] (fun a b i wr2 => ∃ k z : Nat, k ≤ n ∧ i = .int .i64 k ∧ a = .int .u8 (upl L j k : Nat) ∧ b = .int .u8 (dnl L j k : Nat) ∧ wr2 = wr.drewN z) (fun _ _ i _ => n - (intOf i).toNat)
      case atStart => exact ⟨0, 0, by omega, rfl, rfl, rfl, rfl⟩
      case round =>
        obtain ⟨k, z, hk, rfl, rfl, rfl, rfl⟩ := hrel
        have hul := upl_lt L j k
        have hdl := dnl_lt L j k
        by_cases hkn : k < n
        · have ck : wr.cell? (ad.add (k * 33)) = some (.int .u8 (shX L k : Nat)) := HAt.out.x hL hkn
          have hxk := shX_lt HL.out k
          have hki : (k : Int) < (n : Int) := by omega
          have HU := Lib.hid (show upl L j (k + 1) = if k = j then upl L j k else gm (upl L j k) (shX L k) from rfl)
          have HD := Lib.hid (show dnl L j (k + 1) = if k = j then dnl L j k else gm (dnl L j k) (shX L k ^^^ shX L j) from rfl)
          have hxc : bits BinOp.xor .u8 (shX L k : Nat) (shX L j : Nat) = ((shX L k ^^^ shX L j : Nat) : Int) := u8_xor_nat _ _ hxk hxj
          have hxl := xor_lt256 hxk hxj
          generalize shX L k = xk at *
          generalize xk ^^^ shX L j = xx at *
          generalize upl L j k = u at *
          generalize dnl L j k = v at *
          by_cases hkj : k = j
          · have tk : ((k : Int) != (j : Int)) = false := by rw [hkj]; simp
            have hu2 : upl L j (k + 1) = u := by rw [HU.out, if_pos hkj]
            have hd2 : dnl L j (k + 1) = v := by rw [HD.out, if_pos hkj]
            have HU2 := Lib.hid hu2
            have HD2 := Lib.hid hd2
            clear hkj hu2 hd2
            go_wp2_with fail
            go_roundw
            case rel =>
              go_light
              exact ⟨k + 1, z, by omega, by go_num, by rw [HU2.out], by rw [HD2.out], rfl⟩
            case measure => simp [intOf]; omega
          · have tk : ((k : Int) != (j : Int)) = true := bne_iff_ne.2 (by omega)
            have hu2 : upl L j (k + 1) = gm u xk := by rw [HU.out, if_neg hkj]
            have hd2 : dnl L j (k + 1) = gm v xx := by rw [HD.out, if_neg hkj]
            have HU2 := Lib.hid hu2
            have HD2 := Lib.hid hd2
            clear hkj hu2 hd2
            go_upto_region 11 with (go_at_call 21; ((with_reducible refine (rmul_c u xk _ hul hxk).mono ?_); rintro e w4 ⟨rfl, rfl⟩))
            refine wp_region_class (fun z => wr.drewN z) (by kernel_rfl) (by kernel_rfl) ⟨z + 1, rfl⟩ ?_
            repeat (go_big_quiet_step ((go_at_call 21; exact quiet_from (rmul_c v xx _ hdl hxl))))
            refine wpQuiet_nil ?_
            rintro _ ⟨z3, rfl⟩
            go_wp2_with fail
            go_roundw
            case rel =>
              go_light
              exact ⟨k + 1, z3, by omega, by go_num, by rw [HU2.out], by rw [HD2.out], rfl⟩
            case measure => simp [intOf]; omega
        · have hkn2 : k = n := by omega
          have hv := HW.out j hlt
          have hnz := HNZ.out j hlt
          have hrv : rinv (dnl L j n) < 256 := by rw [rinv_is _ (dnl_lt L j n) hnz]; exact tinv_lt ftab_small _
          have hv : gm (upl L j k) (rinv (dnl L j k)) = wtl L j n := by rw [hkn2]; exact hv
          have hrv : rinv (dnl L j k) < 256 := by rw [hkn2]; exact hrv
          clear hnz
          have HV := Lib.hid hv
          generalize upl L j k = U at *
          generalize dnl L j k = D at *
          have HRI := Lib.hid (fun W => rinv_c D W hdl)
          generalize rinv D = V at *
          have HC0 := Lib.hid (HR.out.drewN z)
          have tkn : decide (k < n) = false := decide_eq_false hkn
          have tkn2 : decide ((k : Int) < (n : Int)) = false := decide_eq_false (by omega)
          clear hv hkn hkn2 hk cj
          go_wp2_with (first
            | (go_at_call 22; ((with_reducible refine (HRI.out _).mono ?_); rintro e w4 ⟨rfl, rfl⟩))
            | (go_at_call 21; ((with_reducible refine (rmul_c U V _ hul hrv).mono ?_); rintro e w5 ⟨rfl, rfl⟩; rw [HV.out])))
          have hwl := wtl_lt L j n
          have HCS := Lib.hid (fun k => (show cmb L n (j + 1) k = cmb L n j k ^^^ gm (wtl L j n) (shY L j k) from rfl))
          generalize wtl L j n = v at *
          go_loopw [9] (fun i wr5 => ∃ m : Nat, m ≤ 32 ∧ i = .int .i64 m ∧ RcW w (cmbTo L n j m) wr5) (fun i _ => 32 - (intOf i).toNat)
          case atStart => exact ⟨0, by omega, rfl, HC0.out⟩
          case round =>
            rename World => wr5
            obtain ⟨m, hm, rfl, hrc⟩ := hrel
            have HC := Lib.hid hrc
            clear hrc
            by_cases hm32 : m < 32
            · have hyl := shY_lt HL.out j m
              have HCM := Lib.hid (HCS.out m)
              have HST := Lib.hid (cmbTo_set L n j m)
              have hcl := cmb_lt L n j m
              have d4 : wr5.cell? ⟨w.heap.size + 1, m, none⟩ = some (.int .u8 (cmb L n j m : Nat)) := by
                have h := (HC.out.bo.cell m).trans (vb_at _ m (by rw [cmbTo_len]; exact hm32))
                rw [cmbTo_at _ _ _ _ _ hm32, if_neg (by omega)] at h
                exact h
              have f4 : wr5.frozen? ⟨w.heap.size + 1, m, none⟩ = false := HC.out.bo.free m
              have hA5 := HA.out.below HC.out.bel hb
              have y1 : wr5.cell? (ad.add (j * 33 + (1 + m))) = some (.int .u8 (shY L j m : Nat)) := hA5 _ _ (byt_at (by omega))
              have y2 : wr5.cell? ((ad.add (j * 33)).add (1 + m)) = some (.int .u8 (shY L j m : Nat)) := by rw [Addr.add_add]; exact y1
              have y5 : wr5.cell? ⟨(ad.add (j * 33)).block, (ad.add (j * 33)).off + 1 + m, none⟩ = some (.int .u8 (shY L j m : Nat)) := by
                have e5 : (⟨(ad.add (j * 33)).block, (ad.add (j * 33)).off + 1 + m, none⟩ : Addr) = (ad.add (j * 33)).add (1 + m) := by
                  generalize ad.add (j * 33) = p
                  cases p
                  simp [Addr.add, Nat.add_assoc]
                rw [e5]; exact y2
              have hgl := gm_lt v (shY L j m)
              have hxc : bits BinOp.xor .u8 (cmb L n j m : Nat) (gm v (shY L j m) : Nat) = ((cmb L n j m ^^^ gm v (shY L j m) : Nat) : Int) := u8_xor_nat _ _ hcl hgl
              have hres := xor_lt256 hcl hgl
              clear hA5
              generalize shY L j m = y at *
              generalize cmb L n j m = c at *
              generalize hcr : c ^^^ gm v y = cr2 at *
              clear hcr
              go_wp2_with fail
              refine wp_region_still_tail 15 (by kernel_rfl) (by kernel_rfl) ?_
              simp only [List.take_succ_cons, List.take_zero, List.drop_succ_cons, List.drop_zero]
              iterate 12 still_step
              still_call ((rmul_c v y _ hwl hyl).mono fun _ _ h => ⟨h.1, h.2.symm⟩)
              repeat still_step
              try refine wpStill_nil ?_
              change wpList _ _ _ _ _ wr5.drew
              go_wp2_with fail
              go_roundw
              case rel =>
                go_light
                refine ⟨m + 1, by omega, by go_num, ?_⟩
                have h := (HC.out.set_ m cr2).drewN 1
                rw [← HCM.out, HST.out] at h
                rw [← HCM.out]
                exact h
              case measure => simp [intOf]; omega
            · have hm2 : m = 32 := by omega
              have hc := HC.out
              rw [hm2, cmbTo_all] at hc
              have HC2 := Lib.hid hc
              clear hc hm2
              go_wp2_with fail
              go_roundw
              case rel =>
                go_light
                exact ⟨j + 1, by omega, by go_num, HC2.out⟩
              case measure => simp [intOf]; omega
    · have hjn : j = n := by omega
      have hc := HR.out
      rw [hjn] at hc
      have HC2 := Lib.hid hc
      have hol := cmbTo_len L n n 0
      have hos : (Try.prog.info? 42).map (·.size) = some (vb (cmbTo L n n 0)).size := by rw [vb_size, hol]; kernel_rfl
      have HOS := Lib.hid hos
      have HOL := Lib.hid (key_z32 _ hol)
      clear hc hjn hol hos
      go_wp2_with (first
        | (refine wpList_load_row rfl 42 (.tmp 3) rfl (w.heap.size + 1) rfl 42 _ _ _ HC2.out.bo Try.underlying42 rfl HOS.out ?_)
        | (refine wpList_store_rowTo rfl 42 (.tmp 2) (.tmp 68) rfl rfl w.heap.size (vb (cmbTo L n n 0)) rfl rfl 42 z32 HC2.out.br HOS.out HOL.out (vb_one _) ?_))
      (try simp only [Exit.inBlock, Exit.then])
      refine bodyPost_ret (results_cell_row rfl _ _ w.heap.size 42 (vb (cmbTo L n n 0)) (0, 0) _ rfl (Blk.row (old := z32) HC2.out.br) Try.underlying42 rfl HOS.out) rfl ?_
      exact ⟨rfl, Below.setRow HC2.out.bel (Nat.le_refl _) _⟩
end Go.Proofs.Ytldanlglefgobaa
