/- Contract: Get of frames. -/
import Derived.Test.YtcmahmlcoodfoaaFra6
namespace Go.Proofs.Ytcmahmlcoodfoaa
open Go.RowKit Go.Great
set_option linter.unusedVariables false
theorem OwnB.rdAt {w : World} {base : Nat} {A : Option Addr} {n c : Nat} {l : List Nat} (h : OwnB w base (.slice A n c) l) : Rd w w.heap.size A (byt l) := by
  obtain ⟨A', c', e, _, _, h3⟩ := h.rd
  injection e with e1 e2 e3
  rw [e1]; exact h3
theorem OwnB.setRow {w : World} {base : Nat} {v : Value} {l : List Nat} (h : OwnB w base v l) (g : Nat) (cs : Array Value) (hg : g < base) : OwnB (w.setRow g cs) base v l :=
  own_keep (S := fun i => i = g) h ⟨rfl, rfl, rfl, by simp [World.setRow], fun k _ hn => setRow_other w g k cs (by omega)⟩ (fun k hk => by have := own_base h k hk; omega)
theorem OwnB.setCell {w : World} {base : Nat} {v : Value} {l : List Nat} (h : OwnB w base v l) (g i : Nat) (x : Value) (hg : g < base) : OwnB (w.setCell ⟨g, i, none⟩ x) base v l :=
  own_keep (S := fun i => i = g) h ⟨rfl, rfl, rfl, by rw [heapSize_set]; exact Nat.le_refl _, fun k _ hn => Below.heap_setCell _ _ _ _ (by simp; omega)⟩ (fun k hk => by have := own_base h k hk; omega)
def GetsF (X : Fr) (c : Nat) (w : World) (e : Ending) (w' : World) : Prop := ∃ v, e = .returned (.tuple #[.agg (frV X v), .int .i64 (c : Nat)]) ∧ Fin w' X v ∧ Below w.heap.size w w'
set_option maxRecDepth 100000 in
set_option maxHeartbeats 1000000 in
theorem get_short (A : Option Addr) (c : Nat) (l : List Nat) (w : World) (h : l.length < 13) :
    Calls Try.prog 15 #[.slice A l.length c] w (GetsF zFr 2 w) := by
  have zf := zero_frame
  have HZ := Lib.hid zF_size
  go_enter Try.func15, Try.ntmps15
  go_wp2_with (first
    | (refine wpList_valG (by kernel_rfl) (.agg zF) (run_built _ 43 [] _ built_f #[] rfl rfl) ?_)
    | (refine wpList_store_rowTo rfl 43 (.tmp 2) (.tmp 16) rfl rfl w.heap.size zF rfl rfl 43 zF (by exact heap_alloc_new _ _) HZ.out rfl (frV_one _ _ _ _) ?_))
  refine bodyPost_ret (results_row_tmp rfl _ _ w.heap.size 43 zF (0, 0) _ rfl (Blk.row (old := zF) (heap_alloc_new _ _)) Try.underlying43 rfl (by kernel_rfl)) rfl ⟨_, rfl, zF_fin _, ?_⟩
  exact Below.trans ((Below.refl _ _).alloc (Nat.le_refl _) _) ((below_setRow (Below.refl _ _) (Nat.le_refl _) _))
theorem rd_off {w : World} {B : Nat} {ad : Addr} {l : List Nat} (h : Rd w B (some ad) (byt l)) (k : Nat) (hk : k ≠ 0) : Rd w B (some ⟨ad.block, ad.off + k, none⟩) (byt (l.drop k)) := by
  have h1 := h.drop_ k
  have e : ad.add k = ⟨ad.block, ad.off + k, none⟩ := by simp [Addr.add, hk]
  rw [e] at h1
  exact h1
set_option maxRecDepth 100000 in
set_option maxHeartbeats 2000000 in
theorem get_main (ad : Addr) (c : Nat) (l : List Nat) (w : World) (hl : ∀ c ∈ l, c < 256) (hr : Rd w w.heap.size (some ad) (byt l)) (hlen : l.length ≤ 100000) (h : 13 ≤ l.length) (hc : l.length ≤ c)  :
    Calls Try.prog 15 #[.slice (some ad) l.length c] w (GetsF (getF l).1 (getF l).2 w) := by
  have zf := zero_frame
  have zs1 : zF.size = 51 := by rfl
  have zs2 : ¬ zF = #[] := by intro h; have := congrArg Array.size h; rw [zs1] at this; cases this
  have HZ := Lib.hid zF_size
  have HS0 := Lib.hid (sizeF (fr0 l) (.slice none 0 0) (fr0_ok hl))
  have hget : ∀ a n, ∀ W, Below w.heap.size w W → 1 ≤ n → n ≤ 8 → a ≠ 0 → a + n ≤ l.length → Calls Try.prog 31 #[.slice (some ⟨ad.block, ad.off + a, none⟩) (l.length - a) (c - a), .int .i64 n] W fun e w' => e = .returned (.tuple #[.int .u64 (numAt l a n : Nat), .int .i64 0]) ∧ W = w' :=
    fun a n W hW h1 h2 h3 h4 => getAt w.heap.size _ _ l a n _ W (rd_off (hr.below hW) a h3) hl (by omega) h1 h2 (by omega) (by omega)
  have HG1 := Lib.hid (show ∀ W, Below w.heap.size w W → Calls Try.prog 31 #[.slice (some ⟨ad.block, ad.off + 1, none⟩) (l.length - 1) (c - 1), .int .i64 2] W fun e w' => e = .returned (.tuple #[.int .u64 (numAt l 1 2 : Nat), .int .i64 0]) ∧ W = w' from fun W hW => hget 1 2 W hW (by decide) (by decide) (by decide) (by omega))
  have HG3 := Lib.hid (show ∀ W, Below w.heap.size w W → Calls Try.prog 31 #[.slice (some ⟨ad.block, ad.off + 3, none⟩) (l.length - 3) (c - 3), .int .i64 2] W fun e w' => e = .returned (.tuple #[.int .u64 (numAt l 3 2 : Nat), .int .i64 0]) ∧ W = w' from fun W hW => hget 3 2 W hW (by decide) (by decide) (by decide) (by omega))
  have HG5 := Lib.hid (show ∀ W, Below w.heap.size w W → Calls Try.prog 31 #[.slice (some ⟨ad.block, ad.off + 5, none⟩) (l.length - 5) (c - 5), .int .i64 8] W fun e w' => e = .returned (.tuple #[.int .u64 (numAt l 5 8 : Nat), .int .i64 0]) ∧ W = w' from fun W hW => hget 5 8 W hW (by decide) (by decide) (by decide) (by omega))
  have w1 := wrap16_u (numAt l 1 2) (numAt_lt hl _ _ _ (by decide))
  have w2 := wrap16_u (numAt l 3 2) (numAt_lt hl _ _ _ (by decide))
  have HGT := Lib.hid hget
  have HRD := Lib.hid hr
  have HL := Lib.hid hl
  obtain ⟨a1, e1, hab, hcb⟩ := hr.byte (k := 0) (by omega)
  injection e1 with e1
  subst e1
  rw [show ad.add 0 = ad by simp [Addr.add]] at hcb
  have hX : fr0 l = ⟨l.getD 0 0, numAt l 1 2, numAt l 3 2, numAt l 5 8, 0, 0, z32, z12, []⟩ := rfl
  have HX := Lib.hid hX
  clear hget hX hr
  generalize hK : l.getD 0 0 = K0 at *
  have HK := Lib.hid hK
  clear hK
  generalize numAt l 1 2 = F0 at *
  generalize numAt l 3 2 = T0 at *
  generalize numAt l 5 8 = I0 at *
  go_enter Try.func15, Try.ntmps15
  go_upto_region 1 with fail
  obtain ⟨W, hW⟩ : ∃ W, W = w.alloc (Obj.cells zF 43) := ⟨_, rfl⟩
  have hbw : Below w.heap.size w W := by rw [hW]; exact (Below.refl _ _).alloc (Nat.le_refl _) _
  have h2 : Blk W w.heap.size 43 zF := by rw [hW]; exact Blk.new _ _ _
  have hcc : W.cell? ad = some (.int .u8 (K0 : Nat)) := (hbw.cell hab).trans hcb
  rw [← hW]
  clear hW hcb
  have HBW := Lib.hid hbw
  have H2 := Lib.hid h2
  clear hbw h2
  go_upto_region 9 with (first
    | (go_at_call 31; ((with_reducible refine (HG1.out _ HBW.out).mono ?_); rintro e w' ⟨rfl, rfl⟩))
    | (go_at_call 31; ((with_reducible refine (HG3.out _ HBW.out).mono ?_); rintro e w' ⟨rfl, rfl⟩))
    | (go_at_call 31; ((with_reducible refine (HG5.out _ HBW.out).mono ?_); rintro e w' ⟨rfl, rfl⟩))
    | (refine wpList_valG (by kernel_rfl) (.agg (frV ⟨K0, F0, T0, I0, 0, 0, z32, z12, []⟩ (.slice none 0 0))) (run_built _ 43 _ _ (built_4 _ _ _ _) _ rfl rfl) ?_)
    | (refine wpList_store_rowTo rfl 43 (.tmp 10) (.tmp 43) rfl rfl W.heap.size (frV ⟨K0, F0, T0, I0, 0, 0, z32, z12, []⟩ (.slice none 0 0)) rfl rfl 43 zF (by exact heap_alloc_new _ _) HS0.out rfl (frV_one _ _ _ _) ?_))
  obtain ⟨W1, hW1⟩ : ∃ W1, W1 = (W.alloc (Obj.cells zF 43)).setRow W.heap.size (frV ⟨K0, F0, T0, I0, 0, 0, z32, z12, []⟩ (.slice none 0 0)) := ⟨_, rfl⟩
  have ht : TwoF w W1 W.heap.size (fr0 l) (.slice none 0 0) := by
    rw [hW1, HX.out]
    exact ⟨HBW.out.trans ((((Below.refl _ _).alloc (Nat.le_refl _) _).trans (below_setRow (Below.refl _ _) (Nat.le_refl _) _)).mono HBW.out.size), H2.out.lt, (H2.out.alloc _).rowFar (by have := H2.out.lt; omega), Blk.row (old := zF) (heap_alloc_new _ _)⟩
  rw [← hW1]
  clear hW1
  have hf := FrAt.of (fr0_ok HL.out) ht.work
  have c0 : W1.cell? ⟨W.heap.size, 0, none⟩ = some (.int .u8 (K0 : Nat)) := by have h1 := hf.c0; rw [HX.out] at h1; exact h1
  have c4 : W1.cell? ⟨W.heap.size, 4, none⟩ = some (.int .u64 0) := by have h1 := hf.c4; rw [HX.out] at h1; exact h1
  have c5 : W1.cell? ⟨W.heap.size, 5, none⟩ = some (.int .u64 0) := by have h1 := hf.c5; rw [HX.out] at h1; exact h1
  have f4 : W1.frozen? ⟨W.heap.size, 4, none⟩ = false := ht.work.free 4
  have f5 : W1.frozen? ⟨W.heap.size, 5, none⟩ = false := ht.work.free 5
  have f50 : W1.frozen? ⟨W.heap.size, 50, none⟩ = false := ht.work.free 50
  have HT := Lib.hid ht
  clear hf ht
  have eb : ∀ (a b : Nat), (a = b → ((a : Int) == (b : Int)) = true) ∧ (a ≠ b → ((a : Int) == (b : Int)) = false) := fun a b => by
    constructor
    · intro h; rw [beq_iff_eq]; omega
    · intro h; rw [beq_eq_false_iff_ne]; omega
  by_cases k1 : K0 = 72
  · have kh : ((K0 : Int) == 72) = true := (eb K0 72).1 k1
    have kd : ((K0 : Int) == 68) = false := (eb K0 68).2 (by omega)
    rcases Nat.lt_trichotomy l.length 61 with hlt | h61 | hgt
    · have hres : getF l = (zFr, 2) := by unfold getF; rw [HK.out, if_neg (by omega), if_pos (.inl ⟨k1, hlt⟩)]
      have HRES := Lib.hid hres
      clear eb hres
      go_wp2_with (first
        | (refine wpList_store_rowTo rfl 43 (.tmp 2) (.tmp 64) rfl rfl w.heap.size zF rfl rfl 43 zF (by exact HT.out.out) HZ.out rfl (frV_one _ _ _ _) ?_)
        | (refine wpList_store_rowTo rfl 43 (.tmp 2) (.tmp 46) rfl rfl w.heap.size zF rfl rfl 43 zF (by exact HT.out.out) HZ.out rfl (frV_one _ _ _ _) ?_))
      all_goals refine bodyPost_ret (results_row_tmp rfl _ _ w.heap.size 43 zF (0, 0) _ rfl (HT.out.out.row) Try.underlying43 rfl (by kernel_rfl)) rfl ?_
      all_goals rw [HRES.out]
      all_goals exact ⟨_, rfl, zF_fin _, HT.out.bel.trans (below_setRow (Below.refl _ _) (Nat.le_refl _) _)⟩
    · skip
      have HG13 := Lib.hid (show ∀ W, Below w.heap.size w W → Calls Try.prog 31 #[.slice (some ⟨ad.block, ad.off + 13, none⟩) (48) (c - 13), .int .i64 8] W fun e w' => e = .returned (.tuple #[.int .u64 (numAt l 13 8 : Nat), .int .i64 0]) ∧ W = w' from fun W hW => by
        have h1 := HGT.out 13 8 W hW (by decide) (by decide) (by decide) (by omega)
        rw [show ad.off + 13 = ad.off + 13 by omega, show l.length - 13 = 48 by omega, show c - 13 = c - 13 by omega] at h1
        exact h1)
      have HG21 := Lib.hid (show ∀ W, Below w.heap.size w W → Calls Try.prog 31 #[.slice (some ⟨ad.block, ad.off + 13 + 8, none⟩) (40) (c - 13 - 8), .int .i64 8] W fun e w' => e = .returned (.tuple #[.int .u64 (numAt l 21 8 : Nat), .int .i64 0]) ∧ W = w' from fun W hW => by
        have h1 := HGT.out 21 8 W hW (by decide) (by decide) (by decide) (by omega)
        rw [show ad.off + 21 = ad.off + 13 + 8 by omega, show l.length - 21 = 40 by omega, show c - 21 = c - 13 - 8 by omega] at h1
        exact h1)
      have hc13 : ¬ c = 13 := by omega
      have hc16 : ¬ c - 13 = 16 := by omega
      have hres : getF l = if ckF (frH l) then (frH l, 0) else (zFr, 4) := by unfold getF; rw [HK.out, if_neg (by omega), if_neg (by omega), if_pos ⟨k1, h61⟩]
      have e61 : ((l.length : Int) == 61) = true := by rw [beq_iff_eq]; omega
      have HRES := Lib.hid hres
      clear eb hres
      go_upto_region 15 with (first
        | (go_at_call 31; ((with_reducible refine (HG13.out _ HT.out.bel).mono ?_); rintro e w' ⟨rfl, rfl⟩))
        | (go_at_call 31; ((with_reducible refine (HG21.out _ (by exact (HT.out.set 4 _ (frV_set4 _ _ _)).bel)).mono ?_); rintro e w' ⟨rfl, rfl⟩)))
      obtain ⟨W3, hW3⟩ : ∃ W3, W3 = (W1.setCell ⟨W.heap.size, 4, none⟩ (.int .u64 (numAt l 13 8 : Nat))).setCell ⟨W.heap.size, 5, none⟩ (.int .u64 (numAt l 21 8 : Nat)) := ⟨_, rfl⟩
      have ht3 : TwoF w W3 W.heap.size { fr0 l with b := numAt l 13 8, o := numAt l 21 8 } (.slice none 0 0) := by
        rw [hW3]
        exact (HT.out.set 4 _ (frV_set4 _ _ _)).set 5 _ (frV_set5 _ _ _)
      rw [← hW3]
      clear hW3 c4 c5 f4 f5 f50
      have HT3 := Lib.hid ht3
      clear ht3
      refine wp_region_still_tail 4 (by kernel_rfl) (by kernel_rfl) ?_
      simp only [List.take_succ_cons, List.take_zero, List.drop_succ_cons, List.drop_zero]
      repeat still_step
      try refine wpStill_nil ?_
      change wpList _ _ _ _ _ W3.drew
      have HP0 := Lib.hid (show ((l.drop 29).take 32).length = 32 by rw [List.length_take, List.length_drop]; omega)
      have hrs : Rd W3.drew w.heap.size (some ⟨ad.block, ad.off + 13 + 16, none⟩) (byt (l.drop 29)) := by
        have h1 := rd_off (HRD.out.below HT3.out.drew.bel) 29 (by decide)
        rw [show ad.off + 29 = ad.off + 13 + 16 by omega] at h1
        exact h1
      have HRS := Lib.hid hrs
      clear hrs
      refine wpList_copy_splice rfl (.tmp 88) (.tmp 90) 35 35 rfl 5 Try.underlying35 (by kernel_rfl) (some ⟨W.heap.size, 6, none⟩) (some ⟨ad.block, ad.off + 13 + 16, none⟩) 32 32 32 _ rfl rfl W.heap.size 6 (frL { fr0 l with b := numAt l 13 8, o := numAt l 21 8 } (.slice none 0 0)) 43 HT3.out.drew.work (byt ((l.drop 29).take 32)) (by rw [byt_len, HP0.out]; rfl) (fun _ => ⟨rfl, _, rfl, fun j u hu => ?_⟩) (by rw [byt_len, HP0.out]; simp [frL, byt_len, fr0, z32, z12]) (byt_one _) (w.heap.size + 1) W3.drew (Below.refl _ _) (by have := HT3.out.lt; omega) ?_
      · obtain ⟨a1, e1, _, h1⟩ := HRS.out (by intro h0; have h2 := byt_len (l.drop 29); rw [h0, List.length_drop] at h2; simp at h2; omega)
        injection e1 with e1
        subst e1
        refine h1 j u ?_
        rw [show byt ((l.drop 29).take 32) = (byt (l.drop 29)).take 32 by simp [byt, List.map_take], List.getElem?_take] at hu
        split at hu
        · exact hu
        · cases hu
      intro W4 hh hb4
      have ht4 : TwoF w W4 W.heap.size (frH l) (.slice none 0 0) := by
        refine ⟨HT3.out.drew.bel.trans (hb4.mono (Nat.le_succ _)), HT3.out.lt, HT3.out.drew.out.below hb4 (Nat.lt_succ_self _), ?_⟩
        have h1 := hh.out
        rw [frL_p_set _ _ _ (by rw [HP0.out]; exact z32_len.symm)] at h1
        exact h1
      have HT5 := Lib.hid ht4
      have HX5 := Lib.hid (frH_ok HL.out (by omega))
      have HFI := Lib.hid (show ∀ W' cs, Below W4.heap.size W4 W' → Fin (W'.setRow w.heap.size cs) (frH l) (.slice none 0 0) from fun W' _ _ => ⟨HX5.out, by simp [frH], none, 0, rfl, Nat.le_refl _, Rd.nil_ _ _ _⟩)
      clear ht4 hh hb4 HT3
      obtain ⟨ck, hck⟩ : ∃ ck, ck = ckF (frH l) := ⟨_, rfl⟩
      have hres := HRES.out
      rw [← hck] at hres
      have HCK := Lib.hid hck
      have HLF := Lib.hid (len_f HX5.out (.slice none 0 0))
      have HSF := Lib.hid (sizeF _ (.slice none 0 0) HX5.out)
      clear hck
      cases ck
      all_goals
        simp only [if_true, if_false, Bool.false_eq_true] at hres
        have HRES2 := Lib.hid hres
        clear hres
        go_wp2_with (first
          | (refine wpList_loadG (by kernel_rfl) 43 (.tmp 10) rfl W.heap.size 0 rfl (frL (frH l) (.slice none 0 0)) _ (by first | exact (FrAt.of HX5.out HT5.out.work).al | exact (FrAt.of HX5.out (HT5.out.next HB6.out).work).al) Try.underlying43 rfl HLF.out ?_)
          | (go_at_call 25; (refine (check_c (frH l) _ _ _ HX5.out).mono ?_); rw [← HCK.out]; rintro e w6 ⟨rfl, hb⟩; have HB6 := Lib.hid hb; clear hb)
          | (refine wpList_store_rowTo rfl 43 (.tmp 2) (.tmp 108) rfl rfl w.heap.size zF rfl rfl 43 zF (by exact (HT5.out.next HB6.out).out) HZ.out rfl (frV_one _ _ _ _) ?_)
          | (refine wpList_store_rowTo rfl 43 (.tmp 2) (.tmp 109) rfl rfl w.heap.size (frV (frH l) (.slice none 0 0)) rfl rfl 43 zF (by exact (HT5.out.next HB6.out).out) HSF.out (by rw [frV_size HX5.out]; rfl) (frV_one _ _ _ _) ?_))
        first
          | (refine bodyPost_ret (results_row_tmp rfl _ _ w.heap.size 43 zF (0, 0) _ rfl (HT5.out.next HB6.out).out.row Try.underlying43 rfl (by kernel_rfl)) rfl ?_
             rw [HRES2.out]
             exact ⟨_, rfl, zF_fin _, (HT5.out.next HB6.out).bel.trans (below_setRow (Below.refl _ _) (Nat.le_refl _) _)⟩)
          | (refine bodyPost_ret (results_row_tmp rfl _ _ w.heap.size 43 (frV (frH l) (.slice none 0 0)) (0, 0) _ rfl (HT5.out.next HB6.out).out.row Try.underlying43 rfl HSF.out) rfl ?_
             rw [HRES2.out]
             exact ⟨_, rfl, HFI.out _ _ HB6.out, (HT5.out.next HB6.out).bel.trans (below_setRow (Below.refl _ _) (Nat.le_refl _) _)⟩)
    · have hres : getF l = (zFr, 4) := by unfold getF; rw [HK.out, if_neg (by omega), if_neg (by omega), if_neg (by omega), if_neg (by omega)]
      have e61 : ((l.length : Int) == 61) = false := by rw [beq_eq_false_iff_ne]; omega
      have HRES := Lib.hid hres
      clear eb hres
      go_wp2_with (first
        | (refine wpList_store_rowTo rfl 43 (.tmp 2) (.tmp 64) rfl rfl w.heap.size zF rfl rfl 43 zF (by exact HT.out.out) HZ.out rfl (frV_one _ _ _ _) ?_)
        | (refine wpList_store_rowTo rfl 43 (.tmp 2) (.tmp 46) rfl rfl w.heap.size zF rfl rfl 43 zF (by exact HT.out.out) HZ.out rfl (frV_one _ _ _ _) ?_))
      all_goals refine bodyPost_ret (results_row_tmp rfl _ _ w.heap.size 43 zF (0, 0) _ rfl (HT.out.out.row) Try.underlying43 rfl (by kernel_rfl)) rfl ?_
      all_goals rw [HRES.out]
      all_goals exact ⟨_, rfl, zF_fin _, HT.out.bel.trans (below_setRow (Below.refl _ _) (Nat.le_refl _) _)⟩
  · have kh : ((K0 : Int) == 72) = false := (eb K0 72).2 k1
    by_cases k2 : K0 = 68
    · have kd : ((K0 : Int) == 68) = true := (eb K0 68).1 k2
      rcases Nat.lt_or_ge l.length 41 with hl4 | hg4
      · have hres : getF l = (zFr, 2) := by unfold getF; rw [HK.out, if_neg (by omega), if_pos (.inr ⟨k2, hl4⟩)]
        have HRES := Lib.hid hres
        clear eb hres
        go_wp2_with (first
          | (refine wpList_store_rowTo rfl 43 (.tmp 2) (.tmp 64) rfl rfl w.heap.size zF rfl rfl 43 zF (by exact HT.out.out) HZ.out rfl (frV_one _ _ _ _) ?_)
          | (refine wpList_store_rowTo rfl 43 (.tmp 2) (.tmp 46) rfl rfl w.heap.size zF rfl rfl 43 zF (by exact HT.out.out) HZ.out rfl (frV_one _ _ _ _) ?_))
        all_goals refine bodyPost_ret (results_row_tmp rfl _ _ w.heap.size 43 zF (0, 0) _ rfl (HT.out.out.row) Try.underlying43 rfl (by kernel_rfl)) rfl ?_
        all_goals rw [HRES.out]
        all_goals exact ⟨_, rfl, zF_fin _, HT.out.bel.trans (below_setRow (Below.refl _ _) (Nat.le_refl _) _)⟩
      · skip
        have hc13 : ¬ c = 13 := by omega
        have hc25 : ¬ c - 13 = 12 := by omega
        have hres : getF l = if ckF (frD l) then (frD l, 0) else (zFr, 4) := by unfold getF; rw [HK.out, if_neg (by omega), if_neg (by omega), if_neg (by omega), if_pos k2]
        have HRES := Lib.hid hres
        clear eb hres
        have HN0 := Lib.hid (show ((l.drop 13).take 12).length = 12 by rw [List.length_take, List.length_drop]; omega)
        have hgo : goInt (byt ((l.drop 13).take 12)).length = .int .i64 12 := by rw [byt_len, HN0.out]; rfl
        have hrs : Rd W1 w.heap.size (some ⟨ad.block, ad.off + 13, none⟩) (byt (l.drop 13)) := rd_off (HRD.out.below HT.out.bel) 13 (by decide)
        have HRS := Lib.hid hrs
        have hsrc : ∀ j u, (byt ((l.drop 13).take 12))[j]? = some u → W1.cell? ((⟨ad.block, ad.off + 13, none⟩ : Addr).add j) = some u := by
          intro j u hu
          obtain ⟨a1, e1, _, h1⟩ := HRS.out (by intro h0; have h2 := byt_len (l.drop 13); rw [h0, List.length_drop] at h2; simp at h2; omega)
          injection e1 with e1
          subst e1
          refine h1 j u ?_
          rw [show byt ((l.drop 13).take 12) = (byt (l.drop 13)).take 12 by simp [byt, List.map_take], List.getElem?_take] at hu
          split at hu
          · exact hu
          · cases hu
        have HSRC := Lib.hid hsrc
        clear hrs hsrc c4 c5 f4 f5 f50
        have HCL := Lib.hid (show ∀ W', Below w.heap.size w W' → Calls Try.prog 41 #[.slice (some ⟨ad.block, ad.off + 13 + 12, none⟩) (l.length - 13 - 12) (c - 13 - 12)] W' (Gives (l.drop 25) W') from fun W' hW' => by
          have h1 := clone_c w.heap.size (some ⟨ad.block, ad.off + 13 + 12, none⟩) (c - 13 - 12) (l.drop 25) W' (by
            have h1 := rd_off (HRD.out.below hW') 25 (by decide)
            rw [show ad.off + 25 = ad.off + 13 + 12 by omega] at h1
            exact h1) (by rw [List.length_drop]; omega)
          rw [List.length_drop, show l.length - 25 = l.length - 13 - 12 by omega] at h1
          exact h1)
        have hcopy : ∃ W4, (Builtin.copy_ #[35, 35] 3 #[.slice (some ⟨W.heap.size, 38, none⟩) 12 12, .slice (some ⟨ad.block, ad.off + 13, none⟩) (l.length - 13) (c - 13)]).run Try.prog W1 = .ok (.int .i64 12) W4 ∧ Blk W4 W.heap.size 43 (splice (frL (fr0 l) (.slice none 0 0)) 38 (byt ((l.drop 13).take 12))).toArray ∧ Below (w.heap.size + 1) W1 W4 := by
          have h1 := run_copy_row (P := Try.prog) W1 35 35 3 5 W.heap.size 38 12 12 ⟨ad.block, ad.off + 13, none⟩ (l.length - 13) (c - 13) (frV (fr0 l) (.slice none 0 0)) 43 (byt ((l.drop 13).take 12)) Try.underlying35 (by kernel_rfl) HT.out.work (by rw [byt_len, HN0.out]; exact (Nat.min_eq_right (by omega)).symm) HSRC.out (by rw [byt_len, HN0.out, frV_size (fr0_ok HL.out)]; decide) (byt_one _)
          rw [hgo] at h1
          exact ⟨_, h1, Blk.row HT.out.work, below_setRow (Below.refl _ _) (by have := HT.out.lt; omega) _⟩
        obtain ⟨W4, hcopy, hh, hb4⟩ := hcopy
        have ht4 : TwoF w W4 W.heap.size { fr0 l with n := (l.drop 13).take 12 } (.slice none 0 0) := by
          refine ⟨HT.out.bel.trans (hb4.mono (Nat.le_succ _)), HT.out.lt, HT.out.out.below hb4 (Nat.lt_succ_self _), ?_⟩
          have h1 := hh
          rw [frL_n_set (fr0_ok HL.out) _ _ (by rw [HN0.out]; exact z12_len.symm)] at h1
          exact h1
        have HT4 := Lib.hid ht4
        have hcf := FrAt.of (x := { fr0 l with n := (l.drop 13).take 12 }) ⟨(fr0_ok HL.out).k, (fr0_ok HL.out).f, (fr0_ok HL.out).t, (fr0_ok HL.out).i, (fr0_ok HL.out).b, (fr0_ok HL.out).o, (fr0_ok HL.out).p, HN0.out, (fr0_ok HL.out).ps, take_lt (drop_lt HL.out _) _, (fr0_ok HL.out).ds⟩ ht4.work
        have HCF := Lib.hid hcf
        clear ht4 hh hb4 HT hgo hcf
        go_upto_region 19 with (go_at_call 41; ((with_reducible refine (HCL.out _ HT4.out.bel).mono ?_); rintro e w5 ⟨v5, rfl, ho, hb⟩; obtain ⟨A5, k5, rfl, _, _, _⟩ := ho.rd; have HO5 := Lib.hid ho; have HT45 := Lib.hid (HT4.out.next hb); have c50 := (HCF.out.next hb).cd; have f50 : w5.frozen? ⟨W.heap.size, 50, none⟩ = false := HT45.out.work.free 50; have HSZ4 := Lib.hid HT4.out.work.lt; clear ho hb))
        have e25 : l.length - 25 = (frD l).d.length := by simp [frD]
        rw [e25]
        obtain ⟨W6, hW6⟩ : ∃ W6, W6 = w5.setCell ⟨W.heap.size, 50, none⟩ (.slice A5 (frD l).d.length k5) := ⟨_, rfl⟩
        have hok : FrOk { fr0 l with n := (l.drop 13).take 12 } := ⟨(fr0_ok HL.out).k, (fr0_ok HL.out).f, (fr0_ok HL.out).t, (fr0_ok HL.out).i, (fr0_ok HL.out).b, (fr0_ok HL.out).o, (fr0_ok HL.out).p, HN0.out, (fr0_ok HL.out).ps, take_lt (drop_lt HL.out _) _, (fr0_ok HL.out).ds⟩
        have ht6 : TwoF w W6 W.heap.size (frD l) (.slice A5 (frD l).d.length k5) := by
          rw [hW6]
          exact HT45.out.set 50 _ (frV_set50 hok _ _ (l.drop 25))
        have ho6 : OwnB W6 W4.heap.size (.slice A5 (frD l).d.length k5) (frD l).d := by
          rw [hW6]
          exact OwnB.setCell HO5.out _ _ _ HSZ4.out
        rw [← hW6]
        clear hW6 c50 f50
        have HT5 := Lib.hid ht6
        have HO6 := Lib.hid ho6
        have HX5 := Lib.hid (frD_ok HL.out (by omega))
        have HFI := Lib.hid (show ∀ W' cs, Below W6.heap.size W6 W' → Fin (W'.setRow w.heap.size cs) (frD l) (.slice A5 (frD l).d.length k5) from fun W' cs hb => ⟨HX5.out, by simp [frD]; omega, A5, k5, rfl, by assumption, ((HO6.out.next hb).setRow w.heap.size cs (Nat.lt_trans HT5.out.lt HSZ4.out)).rdAt⟩)
        clear ht6 ho6 HT45 HCF hok
        obtain ⟨ck, hck⟩ : ∃ ck, ck = ckF (frD l) := ⟨_, rfl⟩
        have hres := HRES.out
        rw [← hck] at hres
        have HCK := Lib.hid hck
        have HLF := Lib.hid (len_f HX5.out (.slice A5 (frD l).d.length k5))
        have HSF := Lib.hid (sizeF _ (.slice A5 (frD l).d.length k5) HX5.out)
        clear hck
        cases ck
        all_goals
          simp only [if_true, if_false, Bool.false_eq_true] at hres
          have HRES2 := Lib.hid hres
          clear hres
          go_wp2_with (first
            | (refine wpList_loadG (by kernel_rfl) 43 (.tmp 10) rfl W.heap.size 0 rfl (frL (frD l) (.slice A5 (frD l).d.length k5)) _ (by first | exact (FrAt.of HX5.out HT5.out.work).al | exact (FrAt.of HX5.out (HT5.out.next HB6.out).work).al) Try.underlying43 rfl HLF.out ?_)
            | (go_at_call 25; (refine (check_c (frD l) _ _ _ HX5.out).mono ?_); rw [← HCK.out]; rintro e w6 ⟨rfl, hb⟩; have HB6 := Lib.hid hb; clear hb)
            | (refine wpList_store_rowTo rfl 43 (.tmp 2) (.tmp 108) rfl rfl w.heap.size zF rfl rfl 43 zF (by exact (HT5.out.next HB6.out).out) HZ.out rfl (frV_one _ _ _ _) ?_)
            | (refine wpList_store_rowTo rfl 43 (.tmp 2) (.tmp 109) rfl rfl w.heap.size (frV (frD l) (.slice A5 (frD l).d.length k5)) rfl rfl 43 zF (by exact (HT5.out.next HB6.out).out) HSF.out (by rw [frV_size HX5.out]; rfl) (frV_one _ _ _ _) ?_))
          first
            | (refine bodyPost_ret (results_row_tmp rfl _ _ w.heap.size 43 zF (0, 0) _ rfl (HT5.out.next HB6.out).out.row Try.underlying43 rfl (by kernel_rfl)) rfl ?_
               rw [HRES2.out]
               exact ⟨_, rfl, zF_fin _, (HT5.out.next HB6.out).bel.trans (below_setRow (Below.refl _ _) (Nat.le_refl _) _)⟩)
            | (refine bodyPost_ret (results_row_tmp rfl _ _ w.heap.size 43 (frV (frD l) (.slice A5 (frD l).d.length k5)) (0, 0) _ rfl (HT5.out.next HB6.out).out.row Try.underlying43 rfl HSF.out) rfl ?_
               rw [HRES2.out]
               exact ⟨_, rfl, HFI.out _ _ HB6.out, (HT5.out.next HB6.out).bel.trans (below_setRow (Below.refl _ _) (Nat.le_refl _) _)⟩)
    · have kd : ((K0 : Int) == 68) = false := (eb K0 68).2 k2
      have hres : getF l = (zFr, 4) := by unfold getF; rw [HK.out, if_neg (by omega), if_neg (by omega), if_neg (by omega), if_neg k2]
      have HRES := Lib.hid hres
      clear eb hres
      go_wp2_with (first
        | (refine wpList_store_rowTo rfl 43 (.tmp 2) (.tmp 64) rfl rfl w.heap.size zF rfl rfl 43 zF (by exact HT.out.out) HZ.out rfl (frV_one _ _ _ _) ?_)
        | (refine wpList_store_rowTo rfl 43 (.tmp 2) (.tmp 46) rfl rfl w.heap.size zF rfl rfl 43 zF (by exact HT.out.out) HZ.out rfl (frV_one _ _ _ _) ?_))
      all_goals refine bodyPost_ret (results_row_tmp rfl _ _ w.heap.size 43 zF (0, 0) _ rfl (HT.out.out.row) Try.underlying43 rfl (by kernel_rfl)) rfl ?_
      all_goals rw [HRES.out]
      all_goals exact ⟨_, rfl, zF_fin _, HT.out.bel.trans (below_setRow (Below.refl _ _) (Nat.le_refl _) _)⟩
end Go.Proofs.Ytcmahmlcoodfoaa
