/- PolyClamps' walk: the bits of a key that don't count. -/
import Derived.Test.YtfblpkjablgafaaSms1
namespace Go.Proofs.Ytfblpkjablgafaa
open Go.RowKit
set_option linter.unusedVariables false
set_option linter.unusedSimpArgs false
theorem u8_and240 : ∀ c : Nat, c < 256 → c &&& 240 = c / 16 * 16 := by decide +kernel
theorem and240 (c : Nat) (h : c < 256) : bits BinOp.and .u8 (c : Int) 240 = ((c / 16 * 16 : Nat) : Int) := by
  rw [show (240 : Int) = ((240 : Nat) : Int) from rfl, u8_and_nat _ _ h (by decide), u8_and240 c h]
theorem u8_and3' : ∀ c : Nat, c < 256 → c &&& 3 = c % 4 := by decide +kernel
theorem and3u8 (c : Nat) (h : c < 256) : bits BinOp.and .u8 (c : Int) 3 = ((c % 4 : Nat) : Int) := by
  rw [show (3 : Int) = ((3 : Nat) : Int) from rfl, u8_and_nat _ _ h (by decide), u8_and3' c h]
theorem or_lo (a b : Nat) (ha : a < 256) (hb : b < 256) : bits BinOp.or .u8 ((a % 16 : Nat) : Int) ((b / 16 * 16 : Nat) : Int) = ((a % 16 + b / 16 * 16 : Nat) : Int) := by
  rw [u8_or_nat _ _ (by omega) (by omega), or_at (a % 16) (b / 16) 4 (by omega)]
theorem or_hi (a b : Nat) (ha : a < 256) (hb : b < 256) : bits BinOp.or .u8 ((a / 4 * 4 : Nat) : Int) ((b % 4 : Nat) : Int) = ((a / 4 * 4 + b % 4 : Nat) : Int) := by
  rw [u8_or_nat _ _ (by omega) (by omega), Nat.or_comm, or_at (b % 4) (a / 4) 2 (by omega)]
  congr 1; omega
theorem tag_eq (l m : List Nat) (hl : l.length = 16) (hm : m.length = 16) (hs : ∀ c ∈ l, c < 256) (hs2 : ∀ c ∈ m, c < 256) (w : World) :
    (Op.equalIn 10000 29 (.agg (vb l)) (.agg (vb m))).run Try.prog w = .ok (l == m) w :=
  run_equalIn_barr Try.underlying29 Try.underlying5 (by kernel_rfl) (by kernel_rfl) l m hl hm hs hs2 w
/-- what a key that is alike but for such bits keeps -/
structure Alike (k O : List Nat) : Prop where
  len : O.length = 32
  lt : ∀ c ∈ O, c < 256
  cl : ∀ j, j < 16 → clampB j (O.getD j 0) = clampB j (k.getD j 0)
  dr : O.drop 16 = k.drop 16
theorem Alike.set {k O : List Nat} (h : Alike k O) (i v : Nat) (hi : i < 16) (hv : v < 256) (hc : clampB i v = clampB i (O.getD i 0)) : Alike k (O.set i v) := by
  refine ⟨by rw [List.length_set]; exact h.len, fun c hc => ?_, fun j hj => ?_, ?_⟩
  · rcases List.mem_or_eq_of_mem_set hc with h1 | h1
    · exact h.lt c h1
    · rw [h1]; exact hv
  · rw [getD_set _ _ _ _ (by rw [h.len]; omega)]
    by_cases e : j = i
    · subst e; rw [if_pos rfl, hc]; exact h.cl j hj
    · rw [if_neg e]; exact h.cl j hj
  · rw [List.drop_set, if_pos hi]; exact h.dr
theorem Alike.tag {k O : List Nat} (h : Alike k O) (m : List Nat) : polT O m = polT k m := by
  have e : clampL O = clampL k := by
    unfold clampL
    exact List.map_congr_left fun i hi => h.cl i (List.mem_range.1 hi)
  rw [polT, polT, polV, polV, e, h.dr]
structure CmSt (w wr : World) (go : Nat) (k bs O : List Nat) : Prop where
  al : Alike k O
  kat : Blk wr w.heap.size 23 (vb k)
  bat : Blk wr (w.heap.size + 1) 28 (vb bs)
  oat : Blk wr go 23 (vb O)
  bel : Below w.heap.size w wr
  gg : w.heap.size + 1 < go
theorem CmSt.set {w wr : World} {go : Nat} {k bs O : List Nat} (h : CmSt w wr go k bs O) (i v : Nat) (hi : i < 16) (hv : v < 256) (hc : clampB i v = clampB i (O.getD i 0)) : CmSt w (wr.setCell ⟨go, i, none⟩ (.int .u8 (v : Int))) go k bs (O.set i v) :=
  ⟨h.al.set i v hi hv hc, h.kat.far (by show w.heap.size ≠ go; have := h.gg; omega) _, h.bat.far (by show w.heap.size + 1 ≠ go; have := h.gg; omega) _, by rw [← vb_set]; exact h.oat.set_ _ _, h.bel.setCell (by show w.heap.size ≤ go; have := h.gg; omega) _, h.gg⟩
theorem CmSt.drew {w wr : World} {go : Nat} {k bs O : List Nat} (h : CmSt w wr go k bs O) : CmSt w wr.drew go k bs O := ⟨h.al, h.kat, h.bat, h.oat, h.bel.drew, h.gg⟩
theorem CmSt.next {w wr wr' : World} {go : Nat} {k bs O : List Nat} (h : CmSt w wr go k bs O) (hb : Below wr.heap.size wr wr') : CmSt w wr' go k bs O := ⟨h.al, h.kat.below hb h.kat.lt, h.bat.below hb h.bat.lt, h.oat.below hb h.oat.lt, h.bel.trans (hb.mono h.bel.size), h.gg⟩
set_option maxRecDepth 100000 in
set_option maxHeartbeats 8000000 in
theorem polyClamps_w (k : List Nat) (A : Option Addr) (ca : Nat) (l bs : List Nat) (w : World) (hk : k.length = 32) (hkl : ∀ c ∈ k, c < 256) (hl : ∀ c ∈ l, c < 256) (hr : Rd w w.heap.size A (byt l)) (h1 : l.length ≤ maxLen) (hb : bs.length = 16) (hbl : ∀ c ∈ bs, c < 256) :
    Calls Try.prog 5 #[.agg (vb k), .slice A l.length ca, .agg (vb bs)] w (Yes w) := by
  unfold maxLen at h1
  have HAW := Lib.hid (fun W => awake05_c W)
  have ksz : (vb k).size = 32 := by rw [vb_size, hk]
  have bsz : (vb bs).size = 16 := by rw [vb_size, hb]
  by_cases g1 : l.length ≤ 300
  · have p1 : ¬ (300 : Int) < (l.length : Int) := by omega
    have zf := zero_key
    have zs1 : zKey.size = 32 := by rfl
    have zs2 : ¬ zKey = #[] := by intro h; have := congrArg Array.size h; rw [zs1] at this; cases this
    have HK := Lib.hid hk
    have HKL := Lib.hid hkl
    have HL := Lib.hid hl
    have HR := Lib.hid hr
    have HSK := Lib.hid (keySz hk)
    have HBB := Lib.hid (fun j => getD_lt hbl j)
    have HBN := Lib.hid hb
    clear hl hr hbl hb
    obtain ⟨Z, hZ⟩ : ∃ Z, Z = (w.alloc (Obj.cells (vb k) 23)).alloc (Obj.cells (vb bs) 28) := ⟨_, rfl⟩
    have A0 := Lib.hid (show Blk Z w.heap.size 23 (vb k) by rw [hZ]; exact (Blk.new _ _ _).alloc _)
    have C0 := Lib.hid (show Blk Z (w.heap.size + 1) 28 (vb bs) by
      have h1 := Blk.new (w.alloc (Obj.cells (vb k) 23)) 28 (vb bs)
      rw [show (w.alloc (Obj.cells (vb k) 23)).heap.size = w.heap.size + 1 by simp] at h1
      rw [hZ]; exact h1)
    have B0 := Lib.hid (show Below w.heap.size w Z by rw [hZ]; exact ((Below.refl _ _).alloc (Nat.le_refl _) _).alloc (by simp) _)
    go_enter Try.func5, Try.ntmps5
    go_upto_region 3 with fail
    rw [← hZ]
    obtain ⟨Y, hY⟩ : ∃ Y, Y = (Z.alloc (Obj.cells zKey 23)).setRow Z.heap.size (vb k) := ⟨_, rfl⟩
    have hz : Z.heap.size = w.heap.size + 1 + 1 := by rw [hZ]; simp
    have ST0 := Lib.hid (show CmSt w Y Z.heap.size k bs k from ⟨⟨hk, hkl, fun _ _ => rfl, rfl⟩, by rw [hY]; exact (setRow_other _ _ _ _ (by omega)).trans (A0.out.alloc _), by rw [hY]; exact (setRow_other _ _ _ _ (by omega)).trans (C0.out.alloc _), by rw [hY]; exact setRow_heap _ _ zKey _ _ (0, 0) (heap_alloc_new _ _), by rw [hY]; exact below_row (B0.out.alloc B0.out.size _) (by omega) _, by omega⟩)
    clear hZ hz hkl
    go_wp2_with (first
      | (refine wpList_loadG rfl 23 (.tmp 3) rfl w.heap.size 0 rfl (byt k) _ (by have := rangeAt_blk A0.out; simpa [vb] using this) Try.underlying23 rfl (by have := HSK.out; rw [byt_len]; rw [vb_size] at this; exact this) ?_)
      | (refine wpList_store_rowTo rfl 23 (.tmp 7) (.tmp 14) rfl rfl Z.heap.size (vb k) rfl rfl 23 zKey (by exact heap_alloc_new _ _) HSK.out (by rw [vb_size, HK.out]; rfl) (vb_one _) ?_; rw [← hY]; clear hY))
    clear A0 B0 C0 zf zs1 zs2
    generalize Z.heap.size = go at *
    go_loopw [8] (fun i wr => ∃ (q : Nat) (O : List Nat), q ≤ 4 ∧ i = .int .i64 ((4 * q + 3 : Nat) : Int) ∧ CmSt w wr go k bs O) (fun i _ => 19 - (intOf i).toNat)
    case atStart => exact ⟨0, k, by omega, rfl, ST0.out⟩
    case round =>
      rename World => wr
      obtain ⟨q, O, hq, rfl, hst⟩ := hrel
      have ST := Lib.hid hst
      clear hst ST0
      by_cases hlt : q < 4
      · obtain ⟨i, hi⟩ : ∃ i, i = 4 * q + 3 := ⟨_, rfl⟩
        rw [← hi]
        have p2 : (i : Int) < 16 := by omega
        have p3 : (i : Int) < 32 := by omega
        have d0 := (ST.out.oat.cell i).trans (vb_at _ i (by rw [ST.out.al.len]; omega))
        have e0 := ST.out.oat.free i
        have d1 := (ST.out.bat.cell i).trans (vb_at _ i (by rw [HBN.out]; omega))
        have hc := getD_lt ST.out.al.lt i
        have hd := HBB.out i
        have CC := Lib.hid (show ∀ c d, c < 256 → clampB i (c % 16 + d / 16 * 16) = clampB i c from fun c d _ => by
          unfold clampB
          rw [if_pos (by omega), if_pos (by omega)]; omega)
        have HO := Lib.hid (fun v (hv : v < 256) (h : clampB i v = clampB i (O.getD i 0)) => (ST.out.set i v (by omega) hv h).drew)
        have HI := Lib.hid hi
        clear hi
        generalize O.getD i 0 = c at *
        generalize bs.getD i 0 = d at *
        have f1 := and15 c hc
        have f2 := and240 d hd
        have f3 := or_lo c d hc hd
        have hv : c % 16 + d / 16 * 16 < 256 := by omega
        have HV := Lib.hid hv
        have HW := Lib.hid (CC.out c d hc)
        obtain ⟨v, hvv⟩ : ∃ v, v = c % 16 + d / 16 * 16 := ⟨_, rfl⟩
        rw [← hvv] at f3 HV HW
        obtain ⟨c1, hc1⟩ : ∃ c1, c1 = c % 16 := ⟨_, rfl⟩
        rw [← hc1] at f1 f3
        obtain ⟨d1', hd1⟩ : ∃ d1, d1 = d / 16 * 16 := ⟨_, rfl⟩
        rw [← hd1] at f2 f3
        clear hvv hc1 hd1 hv CC
        go_wp2_with fail
        go_still_tail 11, (by kernel_rfl)
        go_wp2_with fail
        have hI := HI.out
        exact ⟨⟨q + 1, _, by omega, by congr 1; omega, HO.out v HV.out HW.out⟩, by simp only [intOf]; omega⟩
      · obtain rfl : q = 4 := by omega
        rw [show ((4 * 4 + 3 : Nat) : Int) = 19 from rfl]
        go_wp2_with fail
        go_loopw [9] (fun i wr => ∃ (q : Nat) (O : List Nat), q ≤ 3 ∧ i = .int .i64 ((4 * q + 4 : Nat) : Int) ∧ CmSt w wr go k bs O) (fun i _ => 16 - (intOf i).toNat)
        case atStart => exact ⟨0, O, by omega, rfl, ST.out⟩
        case round =>
          rename World => wq
          obtain ⟨q, O', hq, rfl, hst⟩ := hrel
          clear ST
          have ST := Lib.hid hst
          clear hst
          by_cases hlt : q < 3
          · obtain ⟨i, hi⟩ : ∃ i, i = 4 * q + 4 := ⟨_, rfl⟩
            rw [← hi]
            have p2 : (i : Int) < 16 := by omega
            have p3 : (i : Int) < 32 := by omega
            have d0 := (ST.out.oat.cell i).trans (vb_at _ i (by rw [ST.out.al.len]; omega))
            have e0 := ST.out.oat.free i
            have d1 := (ST.out.bat.cell i).trans (vb_at _ i (by rw [HBN.out]; omega))
            have hc := getD_lt ST.out.al.lt i
            have hd := HBB.out i
            have CC := Lib.hid (show ∀ c d, c < 256 → clampB i (c / 4 * 4 + d % 4) = clampB i c from fun c d _ => by
              unfold clampB
              rw [if_neg (by omega), if_pos (by omega), if_neg (by omega), if_pos (by omega)]; omega)
            have HO := Lib.hid (fun v (hv : v < 256) (h : clampB i v = clampB i (O'.getD i 0)) => (ST.out.set i v (by omega) hv h).drew)
            have HI := Lib.hid hi
            clear hi
            generalize O'.getD i 0 = c at *
            generalize bs.getD i 0 = d at *
            have f1 := and252 c hc
            have f2 := and3u8 d hd
            have f3 := or_hi c d hc hd
            have hv : c / 4 * 4 + d % 4 < 256 := by omega
            have HV := Lib.hid hv
            have HW := Lib.hid (CC.out c d hc)
            obtain ⟨v, hvv⟩ : ∃ v, v = c / 4 * 4 + d % 4 := ⟨_, rfl⟩
            rw [← hvv] at f3 HV HW
            obtain ⟨c1, hc1⟩ : ∃ c1, c1 = c / 4 * 4 := ⟨_, rfl⟩
            rw [← hc1] at f1 f3
            obtain ⟨d1', hd1⟩ : ∃ d1, d1 = d % 4 := ⟨_, rfl⟩
            rw [← hd1] at f2 f3
            clear hvv hc1 hd1 hv CC
            go_wp2_with fail
            go_still_tail 11, (by kernel_rfl)
            go_wp2_with fail
            have hI := HI.out
            exact ⟨⟨q + 1, _, by omega, by congr 1; omega, HO.out v HV.out HW.out⟩, by simp only [intOf]; omega⟩
          · obtain rfl : q = 3 := by omega
            rw [show ((4 * 3 + 4 : Nat) : Int) = 16 from rfl]
            go_upto_region 12 with fail
            have HT := Lib.hid (fun (O : List Nat) (ho : Alike k O) (x : Ext wq) (u : Value) (hu : ArrAt x.wd u wq.heap.size [(A, ca, l)]) => by
              have h := tag_parts O l [(A, ca, l)] u wq.heap.size x.wd ho.len ho.lt HL.out (by omega) (by simp [cat]) (by simp) hu (fun p hp => by
                rw [List.mem_singleton.1 hp]
                have hb := ST.out.bel.trans (x.bel.mono ST.out.bel.size)
                exact ((HR.out.below hb).more hb.size))
              rw [ho.tag l] at h
              exact h)
            have HT1 := Lib.hid (HT.out k ⟨HK.out, HKL.out, fun _ _ => rfl, rfl⟩)
            have HT2 := Lib.hid (HT.out O' ST.out.al)
            have tl : (polT k l).length = 16 := form_len _ _
            have HEQ := fun W => tag_eq (polT k l) (polT k l) tl tl (form_lt _ _) (form_lt _ _) W
            rw [beq_self_eq_true] at HEQ
            have HLO := Lib.hid (keyLn ST.out.al.len)
            have HLK := Lib.hid (keyLn HK.out)
            generalize polT k l = T at *
            clear HT tl p1 ksz bsz
            refine wp_region_loud wq [47, 51] (fun _ u w' => ArrAt w' u wq.heap.size [(A, ca, l)]) (by kernel_rfl) (by kernel_rfl) (by kernel_rfl) (by kernel_rfl) (fun _ _ _ _ h hb => h.next hb) (Below.refl _ _).drew ?_
            repeat (first
              | (refine wpLoud_loadB rfl rfl 23 (.tmp 3) rfl w.heap.size 0 rfl (vb k) _ (fun z => by exact rangeAt_blk (ST.out.kat.below z.bel ST.out.kat.lt)) Try.underlying23 rfl HLK.out _ (by simp only [Act.put, List.setIfInBounds_toArray, List.set_cons_succ, List.set_cons_zero]; rfl) ?_)
              | (refine wpLoud_loadB rfl rfl 23 (.tmp 7) rfl go 0 rfl (vb O') _ (fun z => by exact rangeAt_blk (ST.out.oat.below z.bel ST.out.oat.lt)) Try.underlying23 rfl HLO.out _ (by simp only [Act.put, List.setIfInBounds_toArray, List.set_cons_succ, List.set_cons_zero]; rfl) ?_)
              | (refine wpLoud_make rfl (fun _ _ h => by cases h) rfl 47 rfl rfl (fun y => ⟨_, _, run_build1 y.wd (A, ca, l) (.tmp 46) rfl rfl, (Below.refl _ _).alloc (Nat.le_refl _) _, ⟨_, rfl, y.bel.size, Blk.new _ _ _⟩⟩) _ (by simp only [Act.put, List.setIfInBounds_toArray, List.set_cons_succ, List.set_cons_zero]; rfl) ?_)
              | (refine wpLoud_make rfl (fun _ _ h => by cases h) rfl 51 rfl rfl (fun y => ⟨_, _, run_build1 y.wd (A, ca, l) (.tmp 50) rfl rfl, (Below.refl _ _).alloc (Nat.le_refl _) _, ⟨_, rfl, y.bel.size, Blk.new _ _ _⟩⟩) _ (by simp only [Act.put, List.setIfInBounds_toArray, List.set_cons_succ, List.set_cons_zero]; rfl) ?_)
              | (refine wpLoud_call 48 rfl [47] (.agg (vb T)) 12 (fun g => #[.agg (vb k), g 47]) rfl (fun _ _ h => by cases h) rfl (fun g w => by kernel_rfl) (fun g z hg => by
                  refine (HT1.out z _ (hg 47 (by simp))).mono ?_
                  rintro e w' ⟨rfl, hb⟩
                  exact ⟨_, rfl, hb, rfl⟩) _ (by simp only [Act.put, List.setIfInBounds_toArray, List.set_cons_succ, List.set_cons_zero]; rfl) ?_)
              | (refine wpLoud_call 52 rfl [51] (.agg (vb T)) 12 (fun g => #[.agg (vb O'), g 51]) rfl (fun _ _ h => by cases h) rfl (fun g w => by kernel_rfl) (fun g z hg => by
                  refine (HT2.out z _ (hg 51 (by simp))).mono ?_
                  rintro e w' ⟨rfl, hb⟩
                  exact ⟨_, rfl, hb, rfl⟩) _ (by simp only [Act.put, List.setIfInBounds_toArray, List.set_cons_succ, List.set_cons_zero]; rfl) ?_)
              | (refine wpLoud_call 55 rfl [] (.bool true) 8 (fun g => #[]) rfl (fun _ _ h => by cases h) rfl (fun g w => by kernel_rfl) (fun g z hg => by
                  refine (HAW.out z.wd).mono ?_
                  rintro e w' ⟨rfl, hb⟩
                  exact ⟨_, rfl, hb, rfl⟩) _ (by simp only [Act.put, List.setIfInBounds_toArray, List.set_cons_succ, List.set_cons_zero]; rfl) ?_)
              | (refine wpLoud_plain rfl rfl rfl ?_; intro K hK; go_big_quiet_op; go_big_quiet_on))
            refine wpLoud_end [] (by rfl) ?_
            intro g z hg
            have HBF := Lib.hid (ST.out.bel.trans (z.bel.mono ST.out.bel.size))
            generalize z.wd = Y5 at *
            simp only [fill, Act.put, List.setIfInBounds_toArray, List.set_cons_succ, List.set_cons_zero]
            go_wp2_with fail
            go_ret
            exact ⟨rfl, HBF.out⟩
  · have p1 : (300 : Int) < (l.length : Int) := by omega
    clear hl hr
    go_enter Try.func5, Try.ntmps5
    go_wp2_with (go_at_call 8; (refine (HAW.out _).mono ?_); rintro e w2 ⟨rfl, hbw⟩)
    go_ret
    exact ⟨rfl, (((Below.refl _ _).alloc (Nat.le_refl _) _).alloc (by simp) _).trans (hbw.mono (by simp; omega))⟩
end Go.Proofs.Ytfblpkjablgafaa
