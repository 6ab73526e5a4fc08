/- PolyTags' walk. -/
import Derived.Test.YtfblpkjablgafaaRta
import Derived.Test.YtfblpkjablgafaaSms1
import Derived.Test.YtfblpkjablgafaaClm1
namespace Go.Proofs.Ytfblpkjablgafaa
open Go.RowKit
set_option linter.unusedVariables false
set_option linter.unusedSimpArgs false
theorem pick_c (x : Int) (n : Nat) (w : World) (h1 : 1 ≤ n) (h8 : n ≤ 100000) (hx0 : -9223372036854775808 ≤ x) (hx1 : x ≤ 9223372036854775807) :
    Calls Try.prog 10 #[.int .i64 x, .int .i64 n] w fun e w' => (∃ K : Nat, K < n ∧ e = .returned (.int .i64 K)) ∧ w = w' := by
  have t1 : decide ((n : Int) < 1) = false := decide_eq_false (by omega)
  have hn0 : ((n : Int) == 0) = false := beq_eq_false_iff_ne.2 (by omega)
  have hm1 : x.tmod (n : Int) < (n : Int) := Int.tmod_lt_of_pos x (by omega)
  have hm2 : -(n : Int) < x.tmod (n : Int) := by
    have h := Int.natAbs_tmod x (n : Int)
    have h2 : x.natAbs % n < n := Nat.mod_lt _ (by omega)
    have h3 : (n : Int).natAbs = n := rfl
    rw [h3] at h
    omega
  generalize hq : x.tmod (n : Int) = q at *
  have HQ := Lib.hid hq
  by_cases hneg : q < 0
  · have t2 : decide (q < 0) = true := decide_eq_true hneg
    go_enter Try.func10, Try.ntmps10
    go_wp2
    go_ret
    exact ⟨⟨(q + n).toNat, by omega, by rw [show (((q + n).toNat : Nat) : Int) = q + n by omega]; rfl⟩, rfl⟩
  · have t2 : decide (q < 0) = false := decide_eq_false hneg
    go_enter Try.func10, Try.ntmps10
    go_wp2
    go_ret
    exact ⟨⟨q.toNat, by omega, by rw [show ((q.toNat : Nat) : Int) = q by omega]; rfl⟩, rfl⟩
theorem rd_mid {w : World} {g : Nat} {l : List Nat} (h : LentAt w g l) (off n : Nat) (hn : off + n ≤ l.length) : Rd w (g + 1) (some ⟨g, off, none⟩) (byt ((l.drop off).take n)) := fun _ => ⟨_, rfl, Nat.lt_succ_self _, fun j u hu => by
  have hj : j < n := by
    rcases Nat.lt_or_ge j n with h1 | h1
    · exact h1
    · rw [List.getElem?_eq_none (by rw [byt_len, List.length_take]; omega)] at hu; cases hu
  rw [Addr.add_mid, h.cell]
  have e1 := vb_at (lent l) (off + j) (by rw [lent_len]; omega)
  rw [e1, lent_at (by omega), ← hu, byt_at (by rw [List.length_take, List.length_drop]; omega)]
  congr 3
  rw [List.getD_eq_getElem?_getD, List.getD_eq_getElem?_getD, List.getElem?_take_of_lt hj, List.getElem?_drop]⟩
theorem run_build3 (w : World) (p0 p1 p2 : Part) {o : Oper} {a : Act} (x0 x1 x2 : Operand) (ho : o.op = .buildSlice 44 3 #[(0, x0), (1, x1), (2, x2)]) (h0 : a.eval x0 = pv p0) (h1 : a.eval x1 = pv p1) (h2 : a.eval x2 = pv p2) :
    (execOp a.eval o).run Try.prog w = .ok (.value (.slice (some ⟨w.heap.size, 0, none⟩) 3 3)) (w.alloc (.cells ([p0, p1, p2].map pv).toArray 24)) :=
  run_build_parts w [p0, p1, p2] #[(0, x0), (1, x1), (2, x2)] ho (by simp [h0, h1, h2]) (by simp) (by simp)
def cut3 (gi : Nat) (l : List Nat) (k : Nat) : List Part := [(some ⟨gi, 0, none⟩, l.length + 8, l.take k), (none, 0, []), (some ⟨gi, k, none⟩, l.length + 8 - k, l.drop k)]
theorem cut3_cat (gi : Nat) (l : List Nat) (k : Nat) : cat (cut3 gi l k) 3 = l := by
  show l.take k ++ ([] ++ (l.drop k ++ [])) = l
  rw [List.append_nil, List.nil_append, List.take_append_drop]
set_option maxRecDepth 100000 in
set_option maxHeartbeats 8000000 in
theorem polyTags_w (k : List Nat) (A : Option Addr) (ca : Nat) (l : List Nat) (x : Int) (w : World) (hk : k.length = 32) (hkl : ∀ c ∈ k, c < 256) (hl : ∀ c ∈ l, c < 256) (hr : Rd w w.heap.size A (byt l)) (h1 : l.length ≤ maxLen) (hca : l.length ≤ ca) (hca2 : ca ≤ maxLen) (hx0 : -9223372036854775808 ≤ x) (hx1 : x ≤ 9223372036854775807) :
    Calls Try.prog 3 #[.agg (vb k), .slice A l.length ca, .int .i64 x] w (Yes w) := by
  unfold maxLen at h1
  have HAW := Lib.hid (fun W => awake05_c W)
  have ksz : (vb k).size = 32 := by rw [vb_size, hk]
  by_cases g1 : l.length ≤ 300
  · have HP1 := Lib.hid (show ∀ W, Calls Try.prog 10 #[.int .i64 x, .int .i64 ((l.length : Int) + 1)] W fun e w' => (∃ K : Nat, K < l.length + 1 ∧ e = .returned (.int .i64 K)) ∧ W = w' from fun W => pick_c x (l.length + 1) W (by omega) (by omega) hx0 hx1)
    have p1 : ¬ (300 : Int) < (l.length : Int) := by omega
    have zf := zero_tag
    have zs1 : zT.size = 16 := by rfl
    have zs2 : ¬ zT = #[] := by intro h; have := congrArg Array.size h; rw [zs1] at this; cases this
    have HK := Lib.hid hk
    have HKL := Lib.hid hkl
    have HL := Lib.hid hl
    have HR := Lib.hid hr
    have HRT := Lib.hid (fun W (hb : Below w.heap.size w W) => rtag_c k l A ca W hk hkl hl ((hr.below hb).more hb.size) (by omega) hca hca2)
    have HSK := Lib.hid (keyLn hk)
    clear hl hr hkl hx0 hx1
    obtain ⟨Z, hZ⟩ : ∃ Z, Z = w.alloc (Obj.cells (vb k) 23) := ⟨_, rfl⟩
    have A0 := Lib.hid (show Blk Z w.heap.size 23 (vb k) by rw [hZ]; exact Blk.new _ _ _)
    have B0 := Lib.hid (show Below w.heap.size w Z by rw [hZ]; exact (Below.refl _ _).alloc (Nat.le_refl _) _)
    have HLN := Lib.hid (lent_c A ca l Z HL.out ((HR.out.below B0.out).more B0.out.size) (by omega))
    have hgz : w.heap.size < Z.heap.size := A0.out.lt
    have tl : (polT k l).length = 16 := form_len _ _
    have tlt := form_lt ((polV k l + number ((k.drop 16).take 16)) % 340282366920938463463374607431768211456) 16
    have HEQ := fun W => tag_eq (polT k l) (polT k l) tl tl tlt tlt W
    rw [beq_self_eq_true] at HEQ
    have HTS := Lib.hid (tagSz tl)
    have HTN := Lib.hid (tagLn tl)
    have HTZ := Lib.hid (show zT.size = (vb (polT k l)).size by rw [vb_size, tl]; rfl)
    have HT := Lib.hid (fun (Y : World) (ps : List Part) (x : Ext Y) (u : Value) (hc : cat ps ps.length = l) (hn : ps.length ≤ 1000) (hu : ArrAt x.wd u Y.heap.size ps) (hp : ∀ p ∈ ps, Rd x.wd x.wd.heap.size p.1 (byt p.2.2)) =>
      tag_parts k l ps u Y.heap.size x.wd HK.out HKL.out HL.out (by omega) hc hn hu hp)
    generalize polT k l = T at *
    clear tl tlt
    go_enter Try.func3, Try.ntmps3
    go_upto_region 3 with fail
    rw [← hZ]
    clear hZ
    go_upto_region 6 with (first
      | (go_at_call 9; ((refine HLN.out.mono ?_); rintro e w1 ⟨rfl, hg1, hb1⟩; have HG1 := Lib.hid hg1; have HB1 := Lib.hid (B0.out.trans (hb1.mono B0.out.size)); have A1 := Lib.hid (A0.out.below hb1 A0.out.lt); clear hg1 hb1))
      | (go_at_call 10; ((with_reducible refine (HP1.out _).mono ?_); rintro e w2 ⟨⟨K, hK, rfl⟩, rfl⟩))
      | (refine wpList_loadG rfl 23 (.tmp 3) rfl w.heap.size 0 rfl (byt k) _ (by have := rangeAt_blk A1.out; simpa [vb] using this) Try.underlying23 rfl HSK.out ?_)
      | (go_at_call 11; ((refine (HRT.out w1 HB1.out).mono ?_); rintro e w4 ⟨rfl, hb⟩; have HG4 := Lib.hid (show LentAt w4 Z.heap.size l from HG1.out.below hb HG1.out.lt); have HB4 := Lib.hid (HB1.out.trans (hb.mono HB1.out.size)); have A4 := Lib.hid (A1.out.below hb A1.out.lt); clear hb))
      | (refine wpList_store_rowTo rfl 29 (.tmp 9) (.tmp 23) rfl rfl w4.heap.size (vb T) rfl rfl 29 zT (by exact Blk.new _ _ _) HTS.out HTZ.out (vb_one _) ?_))
    obtain ⟨Y, hY⟩ : ∃ Y, Y = (w4.alloc (Obj.cells zT 29)).setRow w4.heap.size (vb T) := ⟨_, rfl⟩
    have h4y : Below w4.heap.size w4 Y := by rw [hY]; exact below_row ((Below.refl _ _).alloc (Nat.le_refl _) _) (Nat.le_refl _) _
    have HS := Lib.hid (show Blk Y w4.heap.size 29 (vb T) by rw [hY]; exact setRow_heap _ _ _ _ _ (0, 0) (Blk.new w4 _ _))
    have HG := Lib.hid (show LentAt Y Z.heap.size l from HG4.out.below h4y HG4.out.lt)
    have HB := Lib.hid (HB4.out.trans (h4y.mono HB4.out.size))
    have AY := Lib.hid (A4.out.below h4y A4.out.lt)
    rw [← hY]
    clear hY h4y zf zs1 zs2 HP1 HG1 HG4 HB1 HB4 A0 A1 A4 HRT HLN
    generalize w4.heap.size = gs at *
    generalize Z.heap.size = gi at *
    have HRY := Lib.hid (HR.out.below HB.out)
    have b1 : (0 : Int) ≤ (K : Int) := by omega
    have b2 : (K : Int) ≤ (l.length : Int) + 8 := by omega
    have b3 : (K : Int) ≤ (l.length : Int) := by omega
    have HO1 := Lib.hid (fun (x : Ext Y) (u : Value) (hu : ArrAt x.wd u Y.heap.size [(some ⟨gi, 0, none⟩, l.length + 8, l)]) => HT.out Y _ x u (by simp [cat]) (by simp) hu (fun p hp => by
      rw [List.mem_singleton.1 hp]
      exact ((show LentAt x.wd gi l from HG.out.below x.bel HG.out.lt).rd).more (Nat.lt_of_lt_of_le HG.out.lt x.bel.size)))
    have HO2 := Lib.hid (fun (x : Ext Y) (u : Value) (hu : ArrAt x.wd u Y.heap.size (cut3 gi l K)) => HT.out Y _ x u (cut3_cat _ _ _) (by simp [cut3]) hu (fun p hp => by
      have hG : LentAt x.wd gi l := HG.out.below x.bel HG.out.lt
      have hle := Nat.lt_of_lt_of_le HG.out.lt x.bel.size
      simp only [cut3, List.mem_cons, List.not_mem_nil, or_false] at hp
      rcases hp with rfl | rfl | rfl
      · have := rd_mid hG 0 K (by omega)
        rw [List.drop_zero] at this
        exact this.more hle
      · exact Rd.nil_ _ _ _
      · have := rd_mid hG K (l.length - K) (by omega)
        rw [List.take_of_length_le (by rw [List.length_drop]; exact Nat.le_refl _)] at this
        exact this.more hle))
    refine wp_region_loud Y [26, 38] (fun k u w' => if k = 26 then ArrAt w' u Y.heap.size [(some ⟨gi, 0, none⟩, l.length + 8, l)] else ArrAt w' u Y.heap.size (cut3 gi l K)) (by kernel_rfl) (by kernel_rfl) (by kernel_rfl) (by kernel_rfl) (fun k u w1 w2 h hb => by
      by_cases h26 : k = 26
      · rw [if_pos h26] at h ⊢; exact h.next hb
      · rw [if_neg h26] at h ⊢; exact h.next hb) (Below.refl _ _).drew ?_
    repeat (first
      | (refine wpLoud_loadB rfl rfl 23 (.tmp 3) rfl w.heap.size 0 rfl (vb k) _ (fun z => by exact rangeAt_blk (AY.out.below z.bel AY.out.lt)) Try.underlying23 rfl HSK.out _ (by simp only [Act.put, List.setIfInBounds_toArray, List.set_cons_succ, List.set_cons_zero]; rfl) ?_)
      | (refine wpLoud_loadB rfl rfl 29 (.tmp 9) rfl gs 0 rfl (vb T) _ (fun z => by exact rangeAt_blk (HS.out.below z.bel HS.out.lt)) Try.underlying29 rfl HTN.out _ (by simp only [Act.put, List.setIfInBounds_toArray, List.set_cons_succ, List.set_cons_zero]; rfl) ?_)
      | (refine wpLoud_make rfl (fun _ _ h => by cases h) rfl 26 rfl rfl (fun y => ⟨_, _, run_build1 y.wd (some ⟨gi, 0, none⟩, l.length + 8, l) (.tmp 25) rfl rfl, (Below.refl _ _).alloc (Nat.le_refl _) _, by rw [if_pos rfl]; exact ⟨_, rfl, y.bel.size, Blk.new _ _ _⟩⟩) _ (by simp only [Act.put, List.setIfInBounds_toArray, List.set_cons_succ, List.set_cons_zero]; rfl) ?_)
      | (refine wpLoud_make rfl (fun _ _ h => by cases h) rfl 38 rfl rfl (fun y => ⟨_, _, run_build3 y.wd (some ⟨gi, 0, none⟩, l.length + 8, l.take K) (none, 0, []) (some ⟨gi, K, none⟩, l.length + 8 - K, l.drop K) (.tmp 34) (.const (.slice none 0 0)) (.tmp 37) rfl (by show Value.slice _ _ _ = Value.slice _ _ _; first | rfl | (simp only [List.length_take, List.length_drop]; done) | (simp only [List.length_take, List.length_drop]; congr 1 <;> first | rfl | omega | (congr 2 <;> omega))) rfl (by show Value.slice _ _ _ = Value.slice _ _ _; first | rfl | (simp only [List.length_take, List.length_drop]; done) | (simp only [List.length_take, List.length_drop]; congr 1 <;> first | rfl | omega | (congr 2 <;> omega))), (Below.refl _ _).alloc (Nat.le_refl _) _, by rw [if_neg (by decide)]; exact ⟨_, rfl, y.bel.size, Blk.new _ _ _⟩⟩) _ (by simp only [Act.put, List.setIfInBounds_toArray, List.set_cons_succ, List.set_cons_zero]; rfl) ?_)
      | (refine wpLoud_call 27 rfl [26] (.agg (vb T)) 12 (fun g => #[.agg (vb k), g 26]) rfl (fun _ _ h => by cases h) rfl (fun g w => by kernel_rfl) (fun g z hg => by
          refine (HO1.out z _ (by have := hg 26 (by simp); rw [if_pos rfl] at this; exact this)).mono ?_
          rintro e w' ⟨rfl, hb⟩
          exact ⟨_, rfl, hb, rfl⟩) _ (by simp only [Act.put, List.setIfInBounds_toArray, List.set_cons_succ, List.set_cons_zero]; rfl) ?_)
      | (refine wpLoud_call 39 rfl [38] (.agg (vb T)) 12 (fun g => #[.agg (vb k), g 38]) rfl (fun _ _ h => by cases h) rfl (fun g w => by kernel_rfl) (fun g z hg => by
          refine (HO2.out z _ (by have := hg 38 (by simp); rw [if_neg (by decide)] at this; exact this)).mono ?_
          rintro e w' ⟨rfl, hb⟩
          exact ⟨_, rfl, hb, rfl⟩) _ (by simp only [Act.put, List.setIfInBounds_toArray, List.set_cons_succ, List.set_cons_zero]; rfl) ?_)
      | (refine wpLoud_call 46 rfl [] (.bool true) 13 (fun g => #[.slice (some ⟨gi, 0, none⟩) l.length (l.length + 8), .slice A l.length ca]) rfl (fun _ _ h => by cases h) rfl (fun g w => by kernel_rfl) (fun g z hg => by
          refine (kept_c gi w.heap.size A ca l z.wd HL.out (HG.out.below z.bel HG.out.lt) (HRY.out.ext z.bel) (by omega)).mono ?_
          rintro e w' ⟨rfl, n, rfl⟩
          exact ⟨_, rfl, belowDrewN n (Below.refl _ _), rfl⟩) _ (by simp only [Act.put, List.setIfInBounds_toArray, List.set_cons_succ, List.set_cons_zero]; rfl) ?_)
      | (refine wpLoud_call 49 rfl [] (.bool true) 8 (fun g => #[]) rfl (fun _ _ h => by cases h) rfl (fun g w => by kernel_rfl) (fun g z hg => by
          refine (HAW.out z.wd).mono ?_
          rintro e w' ⟨rfl, hb⟩
          exact ⟨_, rfl, hb, rfl⟩) _ (by simp only [Act.put, List.setIfInBounds_toArray, List.set_cons_succ, List.set_cons_zero]; rfl) ?_)
      | (refine wpLoud_plain rfl rfl rfl ?_; intro K hK; go_big_quiet_op; go_big_quiet_on))
    refine wpLoud_end [] (by rfl) ?_
    intro g z hg
    have HBZ := Lib.hid (HB.out.trans (z.bel.mono HB.out.size))
    generalize z.wd = Y2 at *
    simp only [fill, Act.put, List.setIfInBounds_toArray, List.set_cons_succ, List.set_cons_zero]
    go_wp2_with fail
    go_ret
    exact ⟨rfl, HBZ.out⟩
  · have p1 : (300 : Int) < (l.length : Int) := by omega
    clear hl hr
    go_enter Try.func3, Try.ntmps3
    go_wp2_with (go_at_call 8; (refine (HAW.out _).mono ?_); rintro e w2 ⟨rfl, hbw⟩)
    go_ret
    exact ⟨rfl, ((Below.refl _ _).alloc (Nat.le_refl _) _).trans (hbw.mono (by simp))⟩
end Go.Proofs.Ytfblpkjablgafaa
