/- PolySums' walk: a key whose first half is nought; no parts. -/
import Derived.Test.YtfblpkjablgafaaAw05
namespace Go.Proofs.Ytfblpkjablgafaa
open Go.RowKit
set_option linter.unusedVariables false
set_option linter.unusedSimpArgs false
def zKey : Array Value := vb (List.replicate 32 0)
theorem zero_key (w : World) : (zeroValue 23).run Try.prog w = .ok (.agg zKey) w := by kernel_rfl
theorem keySz {L : List Nat} (h : L.length = 32) : (Try.prog.info? 23).map (·.size) = some (vb L).size := by rw [vb_size, h]; kernel_rfl
theorem keyLn {L : List Nat} (h : L.length = 32) : (Try.prog.info? 23).map (·.size) = some (byt L).length := by rw [byt_len, h]; kernel_rfl
/-- a tag of parts that lie in a row of their own -/
theorem tag_parts (k m : List Nat) (ps : List Part) (u : Value) (base : Nat) (w : World) (hk : k.length = 32) (hl : ∀ c ∈ k, c < 256) (hm : ∀ c ∈ m, c < 256) (hml : m.length ≤ 10000) (he : cat ps ps.length = m) (hn : ps.length ≤ 1000)
    (ha : ArrAt w u base ps) (hr : ∀ p ∈ ps, Rd w w.heap.size p.1 (byt p.2.2)) :
    Calls Try.prog 12 #[.agg (vb k), u] w fun e w' => e = .returned (.agg (vb (polT k m))) ∧ Below w.heap.size w w' := by
  obtain ⟨g, rfl, hg, hb⟩ := ha
  refine tag_c k m _ w hk hl hm hml fun W hW => ?_
  have h := concatN_c g ps.length ps.length ps W rfl (fun i hi => by
    refine (hW.cell (p := ⟨g, i, none⟩) hb.lt).trans ?_
    rw [hb.cell i]
    simp [hi]) (Nat.lt_of_lt_of_le hb.lt hW.size) (fun p hp => ((hr p hp).below hW).more hW.size) (by rw [he]; omega) hn (Nat.le_refl _)
  rw [he] at h
  exact h
theorem tag_none (k : List Nat) (w : World) (hk : k.length = 32) (hl : ∀ c ∈ k, c < 256) :
    Calls Try.prog 12 #[.agg (vb k), .slice none 0 0] w fun e w' => e = .returned (.agg (vb (polT k []))) ∧ Below w.heap.size w w' :=
  tag_c k [] _ w hk hl (fun c hc => by cases hc) (by decide) fun W _ => concat0_c W
theorem run_allocT (w : World) {o : Oper} {a : Act} (ho : o.op = .alloc 29) : (execOp a.eval o).run Try.prog w = .ok (.value (.pointer (some ⟨w.heap.size, 0, none⟩))) (w.alloc (.cells zT 29)) := by
  unfold execOp
  simp only [ho]
  kernel_rfl
theorem polA_zero (m : List Nat) : ∀ i, polA 0 m i = 0
  | 0 => rfl
  | i + 1 => by rw [polA, Nat.mul_zero]; rfl
theorem polT_same (k : List Nat) (m : List Nat) (hk : k.length = 32) (hl : ∀ c ∈ k, c < 256) (h : polV k m = 0) : polT k m = k.drop 16 := by
  have e : (k.drop 16).length = 16 := by rw [List.length_drop, hk]
  have hb : ∀ c ∈ k.drop 16, c < 256 := fun c hc => hl c (List.mem_of_mem_drop hc)
  have hn := number_lt _ hb
  rw [e] at hn
  have h256 : (256 : Nat) ^ 16 = 340282366920938463463374607431768211456 := by decide
  have hf := form_number _ hb
  rw [e] at hf
  rw [polT, h, Nat.zero_add, List.take_of_length_le (by omega), Nat.mod_eq_of_lt (by omega), hf]
theorem polT_nil (k : List Nat) (hk : k.length = 32) (hl : ∀ c ∈ k, c < 256) : polT k [] = k.drop 16 := polT_same k [] hk hl rfl
def zL (k : List Nat) (i : Nat) : List Nat := List.replicate i 0 ++ k.drop i
theorem zL_set (k : List Nat) (i : Nat) (h : i < k.length) : (zL k i).set i 0 = zL k (i + 1) := by
  unfold zL
  rw [List.set_append_right _ _ (by simp), List.length_replicate, Nat.sub_self, List.drop_eq_getElem_cons h, List.set_cons_zero, List.replicate_succ']
  simp
theorem zL_len (k : List Nat) (i : Nat) (h : i ≤ k.length) : (zL k i).length = k.length := by simp [zL]; omega
theorem zL_lt (k : List Nat) (i : Nat) (hl : ∀ c ∈ k, c < 256) : ∀ c ∈ zL k i, c < 256 := fun c hc => by
  rcases List.mem_append.1 hc with h | h
  · rw [List.eq_of_mem_replicate h]; decide
  · exact hl c (List.mem_of_mem_drop h)
theorem number_rep : ∀ n, number (List.replicate n 0) = 0
  | 0 => rfl
  | n + 1 => by rw [List.replicate_succ, number, number_rep n]
theorem zL_tag (k m : List Nat) (hk : k.length = 32) (hl : ∀ c ∈ k, c < 256) : polT (zL k 16) m = k.drop 16 := by
  have h1 : clampL (zL k 16) = List.replicate 16 0 := by
    unfold clampL
    have : ∀ i ∈ List.range 16, clampB i ((zL k 16).getD i 0) = 0 := fun i hi => by
      have hi := List.mem_range.1 hi
      have e : (zL k 16).getD i 0 = 0 := by
        unfold zL
        rw [getD_app_l _ _ _ (by simp; omega), rep_at]
      rw [e]
      unfold clampB
      split
      · rfl
      · split <;> rfl
    rw [List.map_congr_left this]
    rfl
  have h2 : polV (zL k 16) m = 0 := by rw [polV, h1, number_rep, polA_zero]
  have h3 := polT_same (zL k 16) m (by rw [zL_len k 16 (by omega), hk]) (zL_lt k 16 hl) h2
  rw [h3]
  unfold zL
  rw [List.drop_append_of_le_length (by simp)]
  simp
set_option maxRecDepth 100000 in
set_option maxHeartbeats 8000000 in
theorem polySums_w (k : List Nat) (A : Option Addr) (ca : Nat) (l : List Nat) (w : World) (hk : k.length = 32) (hkl : ∀ c ∈ k, c < 256) (hl : ∀ c ∈ l, c < 256) (hr : Rd w w.heap.size A (byt l)) (h1 : l.length ≤ maxLen) :
    Calls Try.prog 4 #[.agg (vb k), .slice A l.length ca] w (Yes w) := by
  unfold maxLen at h1
  have HAW := Lib.hid (fun W => awake05_c W)
  have ksz : (vb k).size = 32 := by rw [vb_size, hk]
  by_cases g1 : l.length ≤ 300
  · have p1 : ¬ (300 : Int) < (l.length : Int) := by omega
    have zf := zero_key
    have zs1 : zKey.size = 32 := by rfl
    have zs2 : ¬ zKey = #[] := by intro h; have := congrArg Array.size h; rw [zs1] at this; cases this
    have HK := Lib.hid hk
    have HKL := Lib.hid hkl
    have HL := Lib.hid hl
    have HR := Lib.hid hr
    have HSK := Lib.hid (keySz hk)
    clear hl hr hkl
    obtain ⟨Z, hZ⟩ : ∃ Z, Z = w.alloc (Obj.cells (vb k) 23) := ⟨_, rfl⟩
    have A0 := Lib.hid (show Blk Z w.heap.size 23 (vb k) by rw [hZ]; exact Blk.new _ _ _)
    have B0 := Lib.hid (show Below w.heap.size w Z by rw [hZ]; exact (Below.refl _ _).alloc (Nat.le_refl _) _)
    go_enter Try.func4, Try.ntmps4
    go_upto_region 3 with fail
    rw [← hZ]
    obtain ⟨Y, hY⟩ : ∃ Y, Y = (Z.alloc (Obj.cells zKey 23)).setRow Z.heap.size (vb k) := ⟨_, rfl⟩
    have hz : Z.heap.size = w.heap.size + 1 := by rw [hZ]; simp
    have A1 := Lib.hid (show Blk Y w.heap.size 23 (vb k) by rw [hY]; exact (setRow_other _ _ _ _ (by omega)).trans (A0.out.alloc _))
    have E1 := Lib.hid (show Blk Y Z.heap.size 23 (vb k) by rw [hY]; exact setRow_heap _ _ zKey _ _ (0, 0) (heap_alloc_new _ _))
    have B1 := Lib.hid (show Below w.heap.size w Y by rw [hY]; exact below_row (B0.out.alloc B0.out.size _) (by omega) _)
    have HZ := Lib.hid hz
    clear hZ hz
    go_wp2_with (first
      | (refine wpList_loadG rfl 23 (.tmp 2) rfl w.heap.size 0 rfl (byt k) _ (by have := rangeAt_blk A0.out; simpa [vb] using this) Try.underlying23 rfl (by have := HSK.out; rw [byt_len]; rw [vb_size] at this; exact this) ?_)
      | (refine wpList_store_rowTo rfl 23 (.tmp 5) (.tmp 13) rfl rfl Z.heap.size (vb k) rfl rfl 23 zKey (by exact heap_alloc_new _ _) HSK.out (by rw [vb_size, HK.out]; rfl) (vb_one _) ?_; rw [← hY]; clear hY))
    clear A0 B0 zf zs1 zs2
    generalize Z.heap.size = gz at *
    go_loopw [6] (fun i wr => ∃ q : Nat, q ≤ 16 ∧ i = .int .i64 (q : Int) ∧ Blk wr gz 23 (vb (zL k q)) ∧ Blk wr w.heap.size 23 (vb k) ∧ Below w.heap.size w wr) (fun i _ => 16 - (intOf i).toNat)
    case atStart => exact ⟨0, by omega, rfl, E1.out, A1.out, B1.out⟩
    case round =>
      rename World => wr
      obtain ⟨q, hq, rfl, he, hA, hB⟩ := hrel
      clear A1 E1 B1
      have E1 := Lib.hid he
      have A1 := Lib.hid hA
      have B1 := Lib.hid hB
      by_cases hlt : q < 16
      · have hll := zL_len k q (by rw [HK.out]; omega)
        rw [HK.out] at hll
        have d0 := (he.cell q).trans (vb_at _ q (by rw [hll]; omega))
        have e0 := he.free q
        have HS := Lib.hid (zL_set k q (by rw [HK.out]; omega))
        have p2 : (q : Int) < 16 := by omega
        have p3 : (q : Int) < 32 := by omega
        clear he hA hB hll
        go_wp2_with fail
        go_roundw
        case rel => exact ⟨q + 1, by omega, by go_num, by rw [← HS.out, ← vb_set]; exact E1.out.set_ _ _, A1.out.far (by show w.heap.size ≠ gz; have := HZ.out; omega) _, B1.out.setCell (by show w.heap.size ≤ gz; have := HZ.out; omega) _⟩
        case measure => simp [intOf]; omega
      · obtain rfl : q = 16 := by omega
        clear he hA hB
        go_upto_region 8 with fail
        have hzb := zL_len k 16 (by rw [HK.out]; decide)
        rw [HK.out] at hzb
        have HZL := Lib.hid hzb
        have HZS := Lib.hid (keyLn hzb)
        have HKS := Lib.hid (keyLn HK.out)
        have HZ16 := Lib.hid (zL_tag k l HK.out HKL.out)
        have HT1 := Lib.hid (fun (x : Ext wr) (u : Value) (hu : ArrAt x.wd u wr.heap.size [(A, ca, l)]) => by
          have h := tag_parts (zL k 16) l [(A, ca, l)] u wr.heap.size x.wd hzb (zL_lt k 16 HKL.out) HL.out (by omega) (by simp [cat]) (by simp) hu (fun p hp => by
            rw [List.mem_singleton.1 hp]
            have hb := B1.out.trans (x.bel.mono B1.out.size)
            exact ((HR.out.below hb).more hb.size))
          rw [HZ16.out] at h
          exact h)
        have HT2 := Lib.hid (fun (x : Ext wr) => by
          have h := tag_none k x.wd HK.out HKL.out
          rw [polT_nil k HK.out HKL.out] at h
          exact h)
        have htl : (k.drop 16).length = 16 := by rw [List.length_drop, HK.out]
        have HTS := Lib.hid (tagSz htl)
        have HTL := Lib.hid htl
        have HTB := Lib.hid (show ∀ c ∈ k.drop 16, c < 256 from fun c hc => HKL.out c (List.mem_of_mem_drop hc))
        have HDR := Lib.hid (show ∀ (x : World), Blk x w.heap.size 23 (vb k) → Rd x (w.heap.size + 1) (some ⟨w.heap.size, 16, none⟩) (byt (k.drop 16)) from fun x h => by
          intro hn
          refine ⟨_, rfl, Nat.lt_succ_self _, fun j u hu => ?_⟩
          rw [Addr.add_mid, h.cell]
          unfold byt at hu
          rw [List.map_drop, List.getElem?_drop] at hu
          simpa [vb, byt] using hu)
        obtain ⟨T, hT⟩ : ∃ T, T = k.drop 16 := ⟨_, rfl⟩
        rw [← hT] at HT1 HT2 HTS HTL HTB HDR
        clear hT hzb htl HZ16 p1 ksz
        refine wp_region_loudTail 8 wr [22, 7, 8] (fun k u w' => if k = 22 then ArrAt w' u wr.heap.size [(A, ca, l)] else ∃ g, u = .pointer (some ⟨g, 0, none⟩) ∧ wr.heap.size ≤ g ∧ Blk w' g 29 zT) (by kernel_rfl) (by kernel_rfl) (by kernel_rfl) (by kernel_rfl) (fun k u w1 w2 h hb => by
          split at h
          · rw [if_pos ‹_›]; exact h.next hb
          · rw [if_neg ‹_›]; obtain ⟨g, e, h1, h2⟩ := h; exact ⟨g, e, h1, h2.below hb h2.lt⟩) (Below.refl _ _).drew ?_
        simp only [List.take_succ_cons, List.take_zero, List.drop_succ_cons, List.drop_zero]
        repeat (first
          | (refine wpLoud_loadB rfl rfl 23 (.tmp 5) rfl gz 0 rfl (vb (zL k 16)) _ (fun z => by exact rangeAt_blk (E1.out.below z.bel E1.out.lt)) Try.underlying23 rfl HZS.out _ (by simp only [Act.put, List.setIfInBounds_toArray, List.set_cons_succ, List.set_cons_zero]; rfl) ?_)
          | (refine wpLoud_loadB rfl rfl 23 (.tmp 2) rfl w.heap.size 0 rfl (vb k) _ (fun z => by exact rangeAt_blk (A1.out.below z.bel A1.out.lt)) Try.underlying23 rfl HKS.out _ (by simp only [Act.put, List.setIfInBounds_toArray, List.set_cons_succ, List.set_cons_zero]; rfl) ?_)
          | (refine wpLoud_make rfl (fun _ _ h => by cases h) rfl 22 rfl rfl (fun y => ⟨_, _, run_build1 y.wd (A, ca, l) (.tmp 21) rfl rfl, (Below.refl _ _).alloc (Nat.le_refl _) _, by rw [if_pos rfl]; exact ⟨_, rfl, y.bel.size, Blk.new _ _ _⟩⟩) _ (by simp only [Act.put, List.setIfInBounds_toArray, List.set_cons_succ, List.set_cons_zero]; rfl) ?_)
          | (refine wpLoud_make rfl (fun _ _ h => by cases h) rfl 7 rfl rfl (fun y => ⟨_, _, run_allocT y.wd rfl, (Below.refl _ _).alloc (Nat.le_refl _) _, by rw [if_neg (by decide)]; exact ⟨_, rfl, y.bel.size, Blk.new _ _ _⟩⟩) _ (by simp only [Act.put, List.setIfInBounds_toArray, List.set_cons_succ, List.set_cons_zero]; rfl) ?_)
          | (refine wpLoud_make rfl (fun _ _ h => by cases h) rfl 8 rfl rfl (fun y => ⟨_, _, run_allocT y.wd rfl, (Below.refl _ _).alloc (Nat.le_refl _) _, by rw [if_neg (by decide)]; exact ⟨_, rfl, y.bel.size, Blk.new _ _ _⟩⟩) _ (by simp only [Act.put, List.setIfInBounds_toArray, List.set_cons_succ, List.set_cons_zero]; rfl) ?_)
          | (refine wpLoud_call 23 rfl [22] (.agg (vb T)) 12 (fun g => #[.agg (vb (zL k 16)), g 22]) rfl (fun _ _ h => by cases h) rfl (fun g w => by kernel_rfl) (fun g z hg => by
              refine (HT1.out z _ (by have := hg 22 (by simp); rwa [if_pos rfl] at this)).mono ?_
              rintro e w' ⟨rfl, hb⟩
              exact ⟨_, rfl, hb, rfl⟩) _ (by simp only [Act.put, List.setIfInBounds_toArray, List.set_cons_succ, List.set_cons_zero]; rfl) ?_)
          | (refine wpLoud_call 25 rfl [] (.agg (vb T)) 12 (fun g => #[.agg (vb k), .slice none 0 0]) rfl (fun _ _ h => by cases h) rfl (fun g w => by kernel_rfl) (fun g z hg => by
              refine (HT2.out z).mono ?_
              rintro e w' ⟨rfl, hb⟩
              exact ⟨_, rfl, hb, rfl⟩) _ (by simp only [Act.put, List.setIfInBounds_toArray, List.set_cons_succ, List.set_cons_zero]; rfl) ?_)
          | (refine wpLoud_plain rfl rfl rfl ?_; intro K hK; go_big_quiet_op; go_big_quiet_on))
        refine wpLoud_end [7, 8] (by rfl) ?_
        intro g z hg
        obtain ⟨g7, e7, b7, h7⟩ := (by have := hg 7 (by simp); rwa [if_neg (by decide)] at this : ∃ g', g 7 = .pointer (some ⟨g', 0, none⟩) ∧ wr.heap.size ≤ g' ∧ Blk z.wd g' 29 zT)
        obtain ⟨g8, e8, b8, h8⟩ := (by have := hg 8 (by simp); rwa [if_neg (by decide)] at this : ∃ g', g 8 = .pointer (some ⟨g', 0, none⟩) ∧ wr.heap.size ≤ g' ∧ Blk z.wd g' 29 zT)
        have HBZ := Lib.hid (B1.out.trans (z.bel.mono B1.out.size))
        have AZ := Lib.hid (A1.out.below z.bel A1.out.lt)
        have hw7 : w.heap.size < g7 := Nat.lt_of_lt_of_le A1.out.lt b7
        have hw8 : w.heap.size < g8 := Nat.lt_of_lt_of_le A1.out.lt b8
        generalize z.wd = Y2 at *
        simp only [fill, Act.put, List.setIfInBounds_toArray, List.set_cons_succ, List.set_cons_zero, e7, e8]
        obtain ⟨old, ho8, hs8⟩ : ∃ old, Blk (Y2.setRow g7 (vb T)) g8 29 old ∧ old.size = (vb T).size := by
          by_cases h : g8 = g7
          · subst h
            exact ⟨_, setRow_heap _ _ zT _ _ (0, 0) h7, rfl⟩
          · exact ⟨zT, (setRow_other _ _ _ _ h).trans h8, by rw [vb_size, HTL.out]; rfl⟩
        have hT7 : Blk ((Y2.setRow g7 (vb T)).setRow g8 (vb T)) g7 29 (vb T) := by
          by_cases h : g7 = g8
          · subst h
            exact setRow_heap _ _ old _ _ (0, 0) ho8
          · exact (setRow_other _ _ _ _ h).trans (setRow_heap _ _ zT _ _ (0, 0) h7)
        have hT8 : Blk ((Y2.setRow g7 (vb T)).setRow g8 (vb T)) g8 29 (vb T) := setRow_heap _ _ old _ _ (0, 0) ho8
        have hA8 : Blk ((Y2.setRow g7 (vb T)).setRow g8 (vb T)) w.heap.size 23 (vb k) := (setRow_other _ _ _ _ (by omega)).trans ((setRow_other _ _ _ _ (by omega)).trans AZ.out)
        have hB8 : Below w.heap.size w ((Y2.setRow g7 (vb T)).setRow g8 (vb T)) := below_row (below_row HBZ.out (by omega) _) (by omega) _
        obtain ⟨Y4, hY4⟩ : ∃ Y4, Y4 = (Y2.setRow g7 (vb T)).setRow g8 (vb T) := ⟨_, rfl⟩
        rw [← hY4] at hT7 hT8 hA8 hB8
        have H7 := Lib.hid h7
        have HO8 := Lib.hid ho8
        have HS8 := Lib.hid hs8
        have HQ7 := Lib.hid (show zT.size = (vb T).size by rw [vb_size, HTL.out]; rfl)
        have T7 := Lib.hid hT7
        have T8 := Lib.hid hT8
        have A8 := Lib.hid hA8
        have B8 := Lib.hid hB8
        clear h7 ho8 hs8 h8 hT7 hT8 hA8 hB8 HBZ AZ A1 E1 B1 HT1 HT2
        go_upto_region 9 with (first
          | (refine wpList_store_rowTo rfl 29 (.tmp 7) (.tmp 23) rfl rfl g7 (vb T) rfl rfl 29 zT H7.out HTS.out HQ7.out (vb_one _) ?_)
          | (refine wpList_store_rowTo rfl 29 (.tmp 8) (.tmp 25) rfl rfl g8 (vb T) rfl rfl 29 old HO8.out HTS.out HS8.out (vb_one _) ?_; rw [← hY4]; clear hY4))
        have HSM := Lib.hid (show ∀ (g : Nat) (x : Ext Y4), Blk Y4 g 29 (vb T) → Calls Try.prog 14 #[.slice (some ⟨g, 0, none⟩) 16 16, .slice (some ⟨w.heap.size, 16, none⟩) 16 16] x.wd (fun e w' => ∃ u, e = .returned u ∧ Below x.wd.heap.size x.wd w' ∧ u = .bool true) from fun g x h => by
          have h1 := same_c (g + 1) (w.heap.size + 1) (some ⟨g, 0, none⟩) (some ⟨w.heap.size, 16, none⟩) 16 16 T T x.wd HTB.out HTB.out (rd_blk (h.below x.bel h.lt) _ 16 (by show byt _ = ((byt T).toArray.toList).take 16; rw [List.toList_toArray, List.take_of_length_le (by rw [byt_len, HTL.out]; decide)])) (HDR.out _ (A8.out.below x.bel A8.out.lt)) (by rw [HTL.out]; decide) (by rw [HTL.out]; decide)
          rw [beq_self_eq_true, HTL.out] at h1
          refine h1.mono ?_
          rintro e w' ⟨rfl, n, rfl⟩
          exact ⟨_, rfl, belowDrewN n (Below.refl _ _), rfl⟩)
        refine wp_region_loud Y4 [] (fun _ _ _ => True) (by kernel_rfl) (by kernel_rfl) (by kernel_rfl) (by kernel_rfl) (fun _ _ _ _ _ _ => True.intro) (Below.refl _ _).drew ?_
        repeat (first
          | (refine wpLoud_call 28 rfl [] (.bool true) 14 (fun g => #[.slice (some ⟨g7, 0, none⟩) 16 16, .slice (some ⟨w.heap.size, 16, none⟩) 16 16]) rfl (fun _ _ h => by cases h) rfl (fun g w => by kernel_rfl) (fun g z hg => HSM.out _ z T7.out) _ (by simp only [Act.put, List.setIfInBounds_toArray, List.set_cons_succ, List.set_cons_zero]; rfl) ?_)
          | (refine wpLoud_call 32 rfl [] (.bool true) 14 (fun g => #[.slice (some ⟨g8, 0, none⟩) 16 16, .slice (some ⟨w.heap.size, 16, none⟩) 16 16]) rfl (fun _ _ h => by cases h) rfl (fun g w => by kernel_rfl) (fun g z hg => HSM.out _ z T8.out) _ (by simp only [Act.put, List.setIfInBounds_toArray, List.set_cons_succ, List.set_cons_zero]; rfl) ?_)
          | (refine wpLoud_call 35 rfl [] (.bool true) 8 (fun g => #[]) rfl (fun _ _ h => by cases h) rfl (fun g w => by kernel_rfl) (fun g z hg => by
              refine (HAW.out z.wd).mono ?_
              rintro e w' ⟨rfl, hb⟩
              exact ⟨_, rfl, hb, rfl⟩) _ (by simp only [Act.put, List.setIfInBounds_toArray, List.set_cons_succ, List.set_cons_zero]; rfl) ?_)
          | (refine wpLoud_plain rfl rfl rfl ?_; intro K hK; go_big_quiet_op; go_big_quiet_on))
        refine wpLoud_end [] (by rfl) ?_
        intro g z hg
        have HBF := Lib.hid (B8.out.trans (z.bel.mono B8.out.size))
        generalize z.wd = Y5 at *
        simp only [fill, Act.put, List.setIfInBounds_toArray, List.set_cons_succ, List.set_cons_zero]
        go_wp2_with fail
        go_ret
        exact ⟨rfl, HBF.out⟩
  · have p1 : (300 : Int) < (l.length : Int) := by omega
    clear hl hr
    go_enter Try.func4, Try.ntmps4
    go_wp2_with (go_at_call 8; (refine (HAW.out _).mono ?_); rintro e w2 ⟨rfl, hbw⟩)
    go_ret
    exact ⟨rfl, ((Below.refl _ _).alloc (Nat.le_refl _) _).trans (hbw.mono (by simp))⟩
end Go.Proofs.Ytfblpkjablgafaa
