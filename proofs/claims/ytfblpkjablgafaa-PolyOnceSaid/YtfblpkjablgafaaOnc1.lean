/- PolyOnce's walk. -/
import Derived.Test.YtfblpkjablgafaaClm1
import Derived.Test.YtfblpkjablgafaaRt8
import Derived.Test.YtfblpkjablgafaaLos
namespace Go.Proofs.Ytfblpkjablgafaa
open Go.RowKit
set_option linter.unusedVariables false
set_option linter.unusedSimpArgs false
structure MoAt (k : List Nat) (S i : Nat) (O : List Nat) : Prop where
  len : O.length = 32
  lt : ∀ c ∈ O, c < 256
  lo : ∀ j, j < 16 → O.getD j 0 = k.getD j 0
  hi : ∀ j, j < i → O.getD (16 + j) 0 = S / 256 ^ j % 256
theorem MoAt.step {k O : List Nat} {S i v : Nat} (h : MoAt k S i O) (hi : i < 16) (hv : v = S / 256 ^ i % 256) : MoAt k S (i + 1) (O.set (16 + i) v) := by
  have hl : 16 + i < O.length := by rw [h.len]; omega
  refine ⟨by rw [List.length_set]; exact h.len, fun c hc => ?_, fun j hj => ?_, fun j hj => ?_⟩
  · rcases List.mem_or_eq_of_mem_set hc with h1 | h1
    · exact h.lt c h1
    · rw [h1, hv]; exact Nat.mod_lt _ (by decide)
  · rw [getD_set _ _ _ _ hl, if_neg (by omega)]; exact h.lo j hj
  · rw [getD_set _ _ _ _ hl]
    by_cases e : j = i
    · rw [if_pos (by omega), e, hv]
    · rw [if_neg (by omega)]; exact h.hi j (by omega)
theorem MoAt.all {k O : List Nat} {S : Nat} (h : MoAt k S 16 O) (m : List Nat) : polT O m = form ((polV k m + S % 340282366920938463463374607431768211456) % 340282366920938463463374607431768211456) 16 := by
  have e1 : clampL O = clampL k := by
    unfold clampL
    exact List.map_congr_left fun i hi => by rw [h.lo i (List.mem_range.1 hi)]
  have e2 : O.drop 16 = form S 16 := list_ext (by rw [List.length_drop, h.len, form_len]) fun j hj => by
    rw [List.length_drop, h.len] at hj
    rw [form_at 16 S j (by omega), ← h.hi j (by omega), List.getD_eq_getElem?_getD, List.getD_eq_getElem?_getD, List.getElem?_drop]
  rw [polT, polV, e1, e2, List.take_of_length_le (by rw [form_len]; exact Nat.le_refl _)]
  have e3 : number (form S 16) = S % 340282366920938463463374607431768211456 := by
    rw [← form_mod 16 S]
    exact number_form _ 16 (Nat.mod_lt _ (by decide))
  rw [e3]
  rfl
theorem once_byte (V K M i : Nat) (hi : i < 16) : (form ((V + (K + M) % 340282366920938463463374607431768211456) % 340282366920938463463374607431768211456) 16).getD i 0 = ((V + K) % 340282366920938463463374607431768211456 + M) / 256 ^ i % 256 := by
  rw [form_at 16 _ i hi]
  have e : (V + (K + M) % 340282366920938463463374607431768211456) % 340282366920938463463374607431768211456 = ((V + K) % 340282366920938463463374607431768211456 + M) % 340282366920938463463374607431768211456 := by omega
  rw [e]
  generalize (V + K) % 340282366920938463463374607431768211456 + M = S
  have h := form_mod 16 S
  have h1 := form_at 16 (S % 256 ^ 16) i hi
  rw [h, form_at 16 S i hi] at h1
  exact h1.symm
structure OnSt (w wr : World) (go : Nat) (k bs O : List Nat) : Prop where
  kat : Blk wr w.heap.size 23 (vb k)
  bat : Blk wr (w.heap.size + 1) 28 (vb bs)
  oat : Blk wr go 23 (vb O)
  bel : Below w.heap.size w wr
  gg : w.heap.size + 1 < go
theorem OnSt.set {w wr : World} {go : Nat} {k bs O : List Nat} (h : OnSt w wr go k bs O) (i v : Nat) : OnSt w (wr.setCell ⟨go, i, none⟩ (.int .u8 (v : Int))) go k bs (O.set i v) :=
  ⟨h.kat.far (by show w.heap.size ≠ go; have := h.gg; omega) _, h.bat.far (by show w.heap.size + 1 ≠ go; have := h.gg; omega) _, by rw [← vb_set]; exact h.oat.set_ _ _, h.bel.setCell (by show w.heap.size ≤ go; have := h.gg; omega) _, h.gg⟩
theorem OnSt.drewN {w wr : World} {go : Nat} {k bs O : List Nat} (h : OnSt w wr go k bs O) (n : Nat) : OnSt w (wr.drewN n) go k bs O := ⟨h.kat, h.bat, h.oat, belowDrewN n h.bel, h.gg⟩
set_option maxRecDepth 100000 in
set_option maxHeartbeats 16000000 in
theorem polyOnce_w (k bs : List Nat) (A : Option Addr) (ca : Nat) (l : List Nat) (w : World) (hk : k.length = 32) (hkl : ∀ c ∈ k, c < 256) (hb : bs.length = 16) (hbl : ∀ c ∈ bs, c < 256) (hl : ∀ c ∈ l, c < 256) (hr : Rd w w.heap.size A (byt l)) (h1 : l.length ≤ maxLen) :
    Calls Try.prog 6 #[.agg (vb k), .agg (vb bs), .slice A l.length ca] w (Yes w) := by
  unfold maxLen at h1
  have HAW := Lib.hid (fun W => awake05_c W)
  have ksz : (vb k).size = 32 := by rw [vb_size, hk]
  have bsz : (vb bs).size = 16 := by rw [vb_size, hb]
  by_cases g1 : l.length ≤ 300
  · have p1 : ¬ (300 : Int) < (l.length : Int) := by omega
    have zf := zero_key
    have zs1 : zKey.size = 32 := by rfl
    have zs2 : ¬ zKey = #[] := by intro h; have := congrArg Array.size h; rw [zs1] at this; cases this
    have HK := Lib.hid hk
    have HKL := Lib.hid hkl
    have HL := Lib.hid hl
    have HR := Lib.hid hr
    have HSK := Lib.hid (keySz hk)
    have HBB := Lib.hid (fun j => getD_lt hbl j)
    have HBN := Lib.hid hb
    obtain ⟨K, hKn⟩ : ∃ K, K = number (k.drop 16) := ⟨_, rfl⟩
    obtain ⟨M, hMn⟩ : ∃ M, M = number bs := ⟨_, rfl⟩
    have HKA := Lib.hid (show ∀ i, i < 16 → k.getD (16 + i) 0 = K / 256 ^ i % 256 from fun i hi => by rw [hKn]; exact key_at k hk hkl i hi)
    have HMA := Lib.hid (show ∀ i, i < 16 → bs.getD i 0 = M / 256 ^ i % 256 from fun i hi => by rw [hMn]; exact byte_of bs hbl i (by omega))
    have HPK := Lib.hid (show polT k l = form ((polV k l + K) % 340282366920938463463374607431768211456) 16 by rw [polT, List.take_of_length_le (l := k.drop 16) (by rw [List.length_drop, hk]; decide), ← hKn])
    clear hl hr hbl hb hKn hMn
    obtain ⟨Z, hZ⟩ : ∃ Z, Z = (w.alloc (Obj.cells (vb k) 23)).alloc (Obj.cells (vb bs) 28) := ⟨_, rfl⟩
    have A0 := Lib.hid (show Blk Z w.heap.size 23 (vb k) by rw [hZ]; exact (Blk.new _ _ _).alloc _)
    have C0 := Lib.hid (show Blk Z (w.heap.size + 1) 28 (vb bs) by
      have h1 := Blk.new (w.alloc (Obj.cells (vb k) 23)) 28 (vb bs)
      rw [show (w.alloc (Obj.cells (vb k) 23)).heap.size = w.heap.size + 1 by simp] at h1
      rw [hZ]; exact h1)
    have B0 := Lib.hid (show Below w.heap.size w Z by rw [hZ]; exact ((Below.refl _ _).alloc (Nat.le_refl _) _).alloc (by simp) _)
    go_enter Try.func6, Try.ntmps6
    go_upto_region 3 with fail
    rw [← hZ]
    obtain ⟨Y, hY⟩ : ∃ Y, Y = (Z.alloc (Obj.cells zKey 23)).setRow Z.heap.size (vb k) := ⟨_, rfl⟩
    have hz : Z.heap.size = w.heap.size + 1 + 1 := by rw [hZ]; simp
    have ST0 := Lib.hid (show OnSt w Y Z.heap.size k bs k from ⟨by rw [hY]; exact (setRow_other _ _ _ _ (by omega)).trans (A0.out.alloc _), by rw [hY]; exact (setRow_other _ _ _ _ (by omega)).trans (C0.out.alloc _), by rw [hY]; exact setRow_heap _ _ zKey _ _ (0, 0) (heap_alloc_new _ _), by rw [hY]; exact below_row (B0.out.alloc B0.out.size _) (by omega) _, by omega⟩)
    have MO0 := Lib.hid (show MoAt k (K + M) 0 k from ⟨hk, hkl, fun _ _ => rfl, fun j hj => by omega⟩)
    clear hZ hz hkl
    go_wp2_with (first
      | (refine wpList_loadG rfl 23 (.tmp 3) rfl w.heap.size 0 rfl (byt k) _ (by have := rangeAt_blk A0.out; simpa [vb] using this) Try.underlying23 rfl (by have := HSK.out; rw [byt_len]; rw [vb_size] at this; exact this) ?_)
      | (refine wpList_store_rowTo rfl 23 (.tmp 7) (.tmp 17) rfl rfl Z.heap.size (vb k) rfl rfl 23 zKey (by exact heap_alloc_new _ _) HSK.out (by rw [vb_size, HK.out]; rfl) (vb_one _) ?_; rw [← hY]; clear hY))
    clear A0 B0 C0 zf zs1 zs2
    generalize Z.heap.size = go at *
    go_loopw [8, 9] (fun c i wr => ∃ (n cc : Nat) (O : List Nat), n ≤ 16 ∧ i = .int .i64 (n : Int) ∧ c = .int .i64 (cc : Int) ∧ cc = pcy K M n ∧ MoAt k (K + M) n O ∧ OnSt w wr go k bs O) (fun _ i _ => 16 - (intOf i).toNat)
    case atStart => exact ⟨0, 0, k, by omega, rfl, rfl, rfl, MO0.out, ST0.out⟩
    case round =>
      rename World => wr
      obtain ⟨i, cc, O, hi, rfl, rfl, hcc, hmo, hst⟩ := hrel
      have HCC := Lib.hid hcc
      have MO := Lib.hid hmo
      have ST := Lib.hid hst
      have hc1 := pcy_le K M i
      rw [← hcc] at hc1
      clear hcc hmo hst ST0 MO0
      by_cases hlt : i < 16
      · obtain ⟨y, hy⟩ : ∃ y, y = 16 + i := ⟨_, rfl⟩
        have p2 : (i : Int) < 16 := by omega
        have ey : 16 + (i : Int) = (y : Int) := by omega
        have ey2 : IntKind.i64.wrap (y : Int) = (y : Int) := IntWalk.i64_in _ (by omega)
        have hy32 : (y : Int) < 32 := by omega
        have hka := HKA.out i hlt
        rw [← hy] at hka
        have hma := HMA.out i hlt
        have d0 := (ST.out.kat.cell y).trans (vb_at k y (by omega))
        have d1 := (ST.out.bat.cell i).trans (vb_at bs i (by rw [HBN.out]; exact hlt))
        have d2 := (ST.out.oat.cell y).trans (vb_at O y (by rw [MO.out.len]; omega))
        have e2 := ST.out.oat.free y
        have hkb := getD_lt HKL.out y
        have hbb := HBB.out i
        obtain ⟨z, hz⟩ : ∃ z, z = cc + k.getD y 0 + bs.getD i 0 := ⟨_, rfl⟩
        obtain ⟨v, hv⟩ : ∃ v, v = z % 256 := ⟨_, rfl⟩
        obtain ⟨c2, hc2⟩ : ∃ c2, c2 = z / 256 := ⟨_, rfl⟩
        have HZ := Lib.hid (show z = pcy K M i + K / 256 ^ i % 256 + M / 256 ^ i % 256 by rw [hz, hka, hma, HCC.out])
        have HM2 := Lib.hid (MO.out.step hlt (show v = (K + M) / 256 ^ i % 256 by rw [hv, HZ.out]; exact pcy_byte K M i))
        have HC2 := Lib.hid (show c2 = pcy K M (i + 1) by rw [hc2, HZ.out]; rfl)
        rw [← hy] at HM2
        have hzb : z < 600 := by omega
        generalize k.getD y 0 = ky at *
        generalize bs.getD i 0 = bi at *
        have f0 : IntKind.i64.wrap (ky : Int) = (ky : Int) := IntWalk.i64_in _ (by omega)
        have f1 : IntKind.i64.wrap (bi : Int) = (bi : Int) := IntWalk.i64_in _ (by omega)
        obtain ⟨s1, hs1⟩ : ∃ s1, s1 = cc + ky := ⟨_, rfl⟩
        have f2 : (cc : Int) + (ky : Int) = (s1 : Int) := by omega
        have f3 : IntKind.i64.wrap (s1 : Int) = (s1 : Int) := IntWalk.i64_in _ (by omega)
        have f4 : (s1 : Int) + (bi : Int) = (z : Int) := by omega
        have f5 : IntKind.i64.wrap (z : Int) = (z : Int) := IntWalk.i64_in _ (by omega)
        have f6 : (z : Int) % 256 = (v : Int) := by omega
        have f7 : (z : Int) / 256 = (c2 : Int) := by omega
        have f8 : (v : Int) % 256 = (v : Int) := by omega
        have HST := Lib.hid (fun n => (ST.out.drewN n).set y v)
        generalize O.getD y 0 = oy at *
        clear hz hv hc2 hy hka hma hs1 hc1
        go_wp2_with fail
        go_quiet (fail)
        have HS1 := Lib.hid (HST.out nq)
        have d3 : (wr.drewN nq).cell? ⟨go, y, none⟩ = some (.int .u8 (oy : Int)) := d2
        have e3 : (wr.drewN nq).frozen? ⟨go, y, none⟩ = false := e2
        clear d0 d1 d2 e2 ST HST
        generalize wr.drewN nq = wp at *
        go_wp2_with fail
        exact ⟨⟨i + 1, c2, _, by omega, by go_num, rfl, HC2.out, HM2.out, HS1.out⟩, by simp only [intOf]; omega⟩
      · obtain rfl : i = 16 := by omega
        go_upto_region 11 with fail
        have HT := Lib.hid (fun (O' : List Nat) (ho : O'.length = 32) (hb : ∀ c ∈ O', c < 256) (x : Ext wr) (u : Value) (hu : ArrAt x.wd u wr.heap.size [(A, ca, l)]) =>
          tag_parts O' l [(A, ca, l)] u wr.heap.size x.wd ho hb HL.out (by omega) (by simp [cat]) (by simp) hu (fun p hp => by
            rw [List.mem_singleton.1 hp]
            have hb := ST.out.bel.trans (x.bel.mono ST.out.bel.size)
            exact ((HR.out.below hb).more hb.size)))
        have HT1 := Lib.hid (HT.out k HK.out HKL.out)
        have HT2 := Lib.hid (HT.out O MO.out.len MO.out.lt)
        rw [HPK.out] at HT1
        rw [MO.out.all l] at HT2
        have HYB := Lib.hid (once_byte (polV k l) K M)
        have HXB := Lib.hid (fun i hi => form_at 16 ((polV k l + K) % 340282366920938463463374607431768211456) i hi)
        have HXL := Lib.hid (form_len ((polV k l + K) % 340282366920938463463374607431768211456) 16)
        have HYL := Lib.hid (form_len ((polV k l + (K + M) % 340282366920938463463374607431768211456) % 340282366920938463463374607431768211456) 16)
        have HXT := Lib.hid (form_lt ((polV k l + K) % 340282366920938463463374607431768211456) 16)
        obtain ⟨S, hS⟩ : ∃ S, S = (polV k l + K) % 340282366920938463463374607431768211456 := ⟨_, rfl⟩
        rw [← hS] at HT1 HYB HXB HXL HXT
        clear HT hS HPK
        have HLO := Lib.hid (keyLn MO.out.len)
        have HLK := Lib.hid (keyLn HK.out)
        generalize form S 16 = X at *
        generalize form ((polV k l + (K + M) % 340282366920938463463374607431768211456) % 340282366920938463463374607431768211456) 16 = Yv at *
        have HXS := Lib.hid (tagSz HXL.out)
        have HYS := Lib.hid (tagSz HYL.out)
        clear p1 ksz bsz
        refine Sep.wp_region_loudTail 10 wr [10, 11] [44, 48, 10, 11] (fun k u w' => if (k = 44 ∨ k = 48) then ArrAt w' u wr.heap.size [(A, ca, l)] else ∃ g, u = .pointer (some ⟨g, 0, none⟩) ∧ wr.heap.size ≤ g ∧ Blk w' g 29 zT) (by kernel_rfl) (by kernel_rfl) (by kernel_rfl) (by kernel_rfl) (fun k u w1 w2 h hb => by
          by_cases h44 : k = 44 ∨ k = 48
          · rw [if_pos h44] at h ⊢; exact h.next hb
          · rw [if_neg h44] at h ⊢; obtain ⟨g, e, h1, h2⟩ := h; exact ⟨g, e, h1, h2.below hb h2.lt⟩) (fun k u w1 hk h => by
          have hk2 : k = 10 ∨ k = 11 := by simpa using hk
          rcases hk2 with rfl | rfl <;> (rw [if_neg (by decide)] at h; obtain ⟨g, e, _, h2⟩ := h; exact ⟨g, e, h2.lt⟩)) (fun k hk => by
          have hk2 : k = 10 ∨ k = 11 := by simpa using hk
          rcases hk2 with rfl | rfl <;> rfl) (Below.refl _ _).drew ?_
        simp only [List.take_succ_cons, List.take_zero, List.drop_succ_cons, List.drop_zero]
        repeat (first
          | (refine Sep.wpLoud_loadB rfl rfl 23 (.tmp 3) rfl w.heap.size 0 rfl (vb k) _ (fun z => by exact rangeAt_blk (ST.out.kat.below z.bel ST.out.kat.lt)) Try.underlying23 rfl HLK.out _ (by simp only [Act.put, List.setIfInBounds_toArray, List.set_cons_succ, List.set_cons_zero]; rfl) ?_)
          | (refine Sep.wpLoud_loadB rfl rfl 23 (.tmp 7) rfl go 0 rfl (vb O) _ (fun z => by exact rangeAt_blk (ST.out.oat.below z.bel ST.out.oat.lt)) Try.underlying23 rfl HLO.out _ (by simp only [Act.put, List.setIfInBounds_toArray, List.set_cons_succ, List.set_cons_zero]; rfl) ?_)
          | (refine Sep.wpLoud_make rfl (fun _ _ h => by cases h) rfl 44 rfl rfl (fun y => ⟨_, _, run_build1 y.wd (A, ca, l) (.tmp 43) rfl rfl, (Below.refl _ _).alloc (Nat.le_refl _) _, by rw [if_pos (by decide)]; exact ⟨_, rfl, y.bel.size, Blk.new _ _ _⟩, fun h => by cases h⟩) _ (by simp only [Act.put, List.setIfInBounds_toArray, List.set_cons_succ, List.set_cons_zero]; rfl) ?_)
          | (refine Sep.wpLoud_make rfl (fun _ _ h => by cases h) rfl 48 rfl rfl (fun y => ⟨_, _, run_build1 y.wd (A, ca, l) (.tmp 47) rfl rfl, (Below.refl _ _).alloc (Nat.le_refl _) _, by rw [if_pos (by decide)]; exact ⟨_, rfl, y.bel.size, Blk.new _ _ _⟩, fun h => by cases h⟩) _ (by simp only [Act.put, List.setIfInBounds_toArray, List.set_cons_succ, List.set_cons_zero]; rfl) ?_)
          | (refine Sep.wpLoud_make rfl (fun _ _ h => by cases h) rfl 10 rfl rfl (fun y => ⟨_, _, run_allocT y.wd rfl, (Below.refl _ _).alloc (Nat.le_refl _) _, by rw [if_neg (by decide)]; exact ⟨_, rfl, y.bel.size, Blk.new _ _ _⟩, fun _ => rfl⟩) _ (by simp only [Act.put, List.setIfInBounds_toArray, List.set_cons_succ, List.set_cons_zero]; rfl) ?_)
          | (refine Sep.wpLoud_make rfl (fun _ _ h => by cases h) rfl 11 rfl rfl (fun y => ⟨_, _, run_allocT y.wd rfl, (Below.refl _ _).alloc (Nat.le_refl _) _, by rw [if_neg (by decide)]; exact ⟨_, rfl, y.bel.size, Blk.new _ _ _⟩, fun _ => rfl⟩) _ (by simp only [Act.put, List.setIfInBounds_toArray, List.set_cons_succ, List.set_cons_zero]; rfl) ?_)
          | (refine Sep.wpLoud_call 45 rfl rfl [44] (.agg (vb X)) 12 (fun g => #[.agg (vb k), g 44]) rfl (fun _ _ h => by cases h) rfl (fun g w => by kernel_rfl) (fun g z hg => by
              refine (HT1.out z _ (by have := hg 44 (by simp); rwa [if_pos (by decide)] at this)).mono ?_
              rintro e w' ⟨rfl, hb⟩
              exact ⟨_, rfl, hb, rfl⟩) _ (by simp only [Act.put, List.setIfInBounds_toArray, List.set_cons_succ, List.set_cons_zero]; rfl) ?_)
          | (refine Sep.wpLoud_call 49 rfl rfl [48] (.agg (vb Yv)) 12 (fun g => #[.agg (vb O), g 48]) rfl (fun _ _ h => by cases h) rfl (fun g w => by kernel_rfl) (fun g z hg => by
              refine (HT2.out z _ (by have := hg 48 (by simp); rwa [if_pos (by decide)] at this)).mono ?_
              rintro e w' ⟨rfl, hb⟩
              exact ⟨_, rfl, hb, rfl⟩) _ (by simp only [Act.put, List.setIfInBounds_toArray, List.set_cons_succ, List.set_cons_zero]; rfl) ?_)
          | (refine Sep.wpLoud_plain rfl rfl rfl ?_; intro K hK; go_big_quiet_op; go_big_quiet_on))
        refine Sep.wpLoud_end [10, 11] (by rfl) ?_
        intro g z hg hsep
        obtain ⟨g7, e7, b7, h7⟩ := (by have := hg 10 (by simp); rwa [if_neg (by decide)] at this : ∃ g', g 10 = .pointer (some ⟨g', 0, none⟩) ∧ wr.heap.size ≤ g' ∧ Blk z.wd g' 29 zT)
        obtain ⟨g8, e8, b8, h8⟩ := (by have := hg 11 (by simp); rwa [if_neg (by decide)] at this : ∃ g', g 11 = .pointer (some ⟨g', 0, none⟩) ∧ wr.heap.size ≤ g' ∧ Blk z.wd g' 29 zT)
        have hne : g7 ≠ g8 := fun e => by
          have := hsep 10 (by simp) 11 (by simp) rfl rfl (by decide)
          rw [e7, e8, e] at this
          exact this rfl
        have HBZ := Lib.hid (ST.out.bel.trans (z.bel.mono ST.out.bel.size))
        have BZ := Lib.hid (ST.out.bat.below z.bel ST.out.bat.lt)
        have hw7 : w.heap.size + 1 < g7 := Nat.lt_of_lt_of_le ST.out.bat.lt b7
        have hw8 : w.heap.size + 1 < g8 := Nat.lt_of_lt_of_le ST.out.bat.lt b8
        clear hg hsep
        generalize z.wd = Y2 at *
        simp only [fill, Act.put, List.setIfInBounds_toArray, List.set_cons_succ, List.set_cons_zero, e7, e8]
        clear e7 e8
        obtain ⟨Y4, hY4⟩ : ∃ Y4, Y4 = (Y2.setRow g7 (vb X)).setRow g8 (vb Yv) := ⟨_, rfl⟩
        have HX4 := Lib.hid (show Blk Y4 g7 29 (vb X) by rw [hY4]; exact (setRow_other _ _ _ _ hne).trans (setRow_heap _ _ zT _ _ (0, 0) h7))
        have h8' : Blk (Y2.setRow g7 (vb X)) g8 29 zT := (setRow_other _ _ _ _ (Ne.symm hne)).trans h8
        have HY4 := Lib.hid (show Blk Y4 g8 29 (vb Yv) by rw [hY4]; exact setRow_heap _ _ zT _ _ (0, 0) h8')
        have HB4 := Lib.hid (show Blk Y4 (w.heap.size + 1) 28 (vb bs) by rw [hY4]; exact (setRow_other _ _ _ _ (by omega)).trans ((setRow_other _ _ _ _ (by omega)).trans BZ.out))
        have HBB4 := Lib.hid (show Below w.heap.size w Y4 by rw [hY4]; exact below_row (below_row HBZ.out (by omega) _) (by omega) _)
        have H7 := Lib.hid h7
        have H8 := Lib.hid h8'
        have HQ7 := Lib.hid (show zT.size = (vb X).size by rw [vb_size, HXL.out]; rfl)
        have HQ8 := Lib.hid (show zT.size = (vb Yv).size by rw [vb_size, HYL.out]; rfl)
        clear h7 h8 h8' HBZ BZ ST HT1 HT2 MO HCC hc1
        go_wp2_with (first
          | (refine wpList_store_rowTo rfl 29 (.tmp 10) (.tmp 45) rfl rfl g7 (vb X) rfl rfl 29 zT H7.out HXS.out HQ7.out (vb_one _) ?_)
          | (refine wpList_store_rowTo rfl 29 (.tmp 11) (.tmp 49) rfl rfl g8 (vb Yv) rfl rfl 29 zT H8.out HYS.out HQ8.out (vb_one _) ?_; rw [← hY4]; clear hY4))
        go_loopw [8, 12] (fun c i wr => ∃ (n cc q : Nat), n ≤ 16 ∧ i = .int .i64 (n : Int) ∧ c = .int .i64 (cc : Int) ∧ cc = pcy S M n ∧ wr = Y4.drewN q) (fun _ i _ => 16 - (intOf i).toNat)
        case atStart => exact ⟨0, 0, 0, by omega, rfl, rfl, rfl, rfl⟩
        case round =>
          rename World => wx
          obtain ⟨i, cc, q, hi, rfl, rfl, hcc, hwx⟩ := hrel
          have HWX := Lib.hid hwx
          have HCC := Lib.hid hcc
          have hc1 := pcy_le S M i
          rw [← hcc] at hc1
          clear hcc hwx
          by_cases hlt : i < 16
          · have p2 : (i : Int) < 16 := by omega
            have hyb := HYB.out i hlt
            have hxb := HXB.out i hlt
            have hma := HMA.out i hlt
            have d0 : wx.cell? ⟨g7, i, none⟩ = some (.int .u8 (X.getD i 0 : Nat)) := by rw [HWX.out]; exact (HX4.out.cell i).trans (vb_at X i (by rw [HXL.out]; exact hlt))
            have d1 : wx.cell? ⟨g8, i, none⟩ = some (.int .u8 (Yv.getD i 0 : Nat)) := by rw [HWX.out]; exact (HY4.out.cell i).trans (vb_at Yv i (by rw [HYL.out]; exact hlt))
            have d2 : wx.cell? ⟨w.heap.size + 1, i, none⟩ = some (.int .u8 (bs.getD i 0 : Nat)) := by rw [HWX.out]; exact (HB4.out.cell i).trans (vb_at bs i (by rw [HBN.out]; exact hlt))
            have hbb := HBB.out i
            have hxl := getD_lt HXT.out i
            obtain ⟨z, hz⟩ : ∃ z, z = cc + X.getD i 0 + bs.getD i 0 := ⟨_, rfl⟩
            obtain ⟨v, hv⟩ : ∃ v, v = z % 256 := ⟨_, rfl⟩
            obtain ⟨c2, hc2⟩ : ∃ c2, c2 = z / 256 := ⟨_, rfl⟩
            have HZ := Lib.hid (show z = pcy S M i + S / 256 ^ i % 256 + M / 256 ^ i % 256 by rw [hz, hxb, hma, HCC.out])
            have HC2 := Lib.hid (show c2 = pcy S M (i + 1) by rw [hc2, HZ.out]; rfl)
            have hyv : Yv.getD i 0 = v := by rw [hyb, hv, HZ.out]; exact (pcy_byte S M i).symm
            rw [hyv] at d1
            have hzb : z < 600 := by omega
            generalize X.getD i 0 = xi at *
            generalize bs.getD i 0 = bi at *
            have f0 : IntKind.i64.wrap (xi : Int) = (xi : Int) := IntWalk.i64_in _ (by omega)
            have f1 : IntKind.i64.wrap (bi : Int) = (bi : Int) := IntWalk.i64_in _ (by omega)
            obtain ⟨s1, hs1⟩ : ∃ s1, s1 = cc + xi := ⟨_, rfl⟩
            have f2 : (cc : Int) + (xi : Int) = (s1 : Int) := by omega
            have f3 : IntKind.i64.wrap (s1 : Int) = (s1 : Int) := IntWalk.i64_in _ (by omega)
            have f4 : (s1 : Int) + (bi : Int) = (z : Int) := by omega
            have f5 : IntKind.i64.wrap (z : Int) = (z : Int) := IntWalk.i64_in _ (by omega)
            have f6 : (z : Int) % 256 = (v : Int) := by omega
            have f7 : (z : Int) / 256 = (c2 : Int) := by omega
            have f8 : (v : Int) % 256 = (v : Int) := by omega
            have t0 : ((v : Int) != (v : Int)) = false := by simp
            clear hz hv hc2 hxb hma hyb hyv hs1 hc1
            go_wp2_with fail
            go_quiet (fail)
            have d3 : (wx.drewN nq).cell? ⟨g8, i, none⟩ = some (.int .u8 (v : Int)) := d1
            have HW2 := Lib.hid (show wx.drewN nq = Y4.drewN (q + nq) by rw [HWX.out]; exact World.drewN_drewN ..)
            clear d0 d1 d2 HWX
            generalize wx.drewN nq = wp at *
            go_wp2_with fail
            exact ⟨⟨i + 1, c2, _, by omega, by go_num, rfl, HC2.out, HW2.out⟩, by simp only [intOf]; omega⟩
          · obtain rfl : i = 16 := by omega
            have HBX := Lib.hid (show Below w.heap.size w wx by rw [HWX.out]; exact belowDrewN q HBB4.out)
            go_wp2_with (go_at_call 8; (refine (HAW.out _).mono ?_); rintro e w2 ⟨rfl, hbw⟩)
            go_ret
            exact ⟨rfl, HBX.out.trans (hbw.mono HBX.out.size)⟩
  · have p1 : (300 : Int) < (l.length : Int) := by omega
    clear hl hr
    go_enter Try.func6, Try.ntmps6
    go_wp2_with (go_at_call 8; (refine (HAW.out _).mono ?_); rintro e w2 ⟨rfl, hbw⟩)
    go_ret
    exact ⟨rfl, (((Below.refl _ _).alloc (Nat.le_refl _) _).alloc (by simp) _).trans (hbw.mono (by simp; omega))⟩
end Go.Proofs.Ytfblpkjablgafaa
