/- Contract: the document's Get. -/
import Derived.Test.YtcmahmlcoodfoaaFra4
import Derived.Test.YtcmahmlcoodfoaaFra7
import Derived.Test.YtcmahmlcoodfoaaFra8
namespace Go.Proofs.Ytcmahmlcoodfoaa
open Go.RowKit Go.Great
set_option linter.unusedVariables false
/-- the frames of the document's Get: the answer's, the empty one -/
structure ThreeF (w W1 : World) : Prop where
  bel : Below w.heap.size w W1
  lt : w.heap.size + 1 < W1.heap.size
  out : Blk W1 w.heap.size 43 zF
  no : Blk W1 (w.heap.size + 1) 43 zF
structure WorkF (w W1 : World) (G : Nat) (X : Fr) (v : Value) : Prop where
  th : ThreeF w W1
  lt : w.heap.size + 1 < G
  work : Blk W1 G 43 (frV X v)
theorem ThreeF.next {w W1 W2 : World} (h : ThreeF w W1) (hb : Below W1.heap.size W1 W2) : ThreeF w W2 :=
  ⟨h.bel.trans (hb.mono h.bel.size), Nat.lt_of_lt_of_le h.lt hb.size, h.out.below hb h.out.lt, h.no.below hb h.no.lt⟩
theorem WorkF.next {w W1 W2 : World} {G : Nat} {X : Fr} {v : Value} (h : WorkF w W1 G X v) (hb : Below W1.heap.size W1 W2) : WorkF w W2 G X v :=
  ⟨h.th.next hb, h.lt, h.work.below hb h.work.lt⟩
theorem WorkF.set {w W1 : World} {G : Nat} {X Y : Fr} {v u : Value} (h : WorkF w W1 G X v) (i : Nat) (x : Value) (e : (frV X v).setIfInBounds i x = frV Y u) : WorkF w (W1.setCell ⟨G, i, none⟩ x) G Y u :=
  ⟨⟨h.th.bel.trans ⟨rfl, rfl, rfl, by rw [heapSize_set]; exact Nat.le_refl _, fun k hk => Below.heap_setCell _ _ _ _ (by have := h.lt; simp; omega)⟩, by rw [heapSize_set]; exact h.th.lt, h.th.out.far (p := ⟨G, i, none⟩) (by have := h.lt; simp; omega) x, h.th.no.far (p := ⟨G, i, none⟩) (by have := h.lt; simp; omega) x⟩, h.lt, by rw [← e]; exact h.work.set_ i x⟩
theorem rd_cell {w : World} {B : Nat} {ad : Addr} {l : List Nat} (h : Rd w B (some ad) (byt l)) (i : Nat) (hi : i < l.length) : w.cell? (ad.add i) = some (.int .u8 (l.getD i 0 : Nat)) := by
  obtain ⟨a1, e1, _, hc⟩ := h.byte hi
  injection e1 with e1
  subst e1
  exact hc
theorem WorkF.some_ {w W1 : World} {G : Nat} {X : Fr} {v : Value} (h : WorkF w W1 G X v) (hX : FrOk X) (i : Nat) (hi : i < 51) : ∃ u, W1.cell? ⟨G, i, none⟩ = some u := by
  rw [h.work.cell i]
  exact ⟨_, Array.getElem?_eq_getElem (by rw [frV_size hX]; exact hi)⟩
theorem formF_lt {x : Fr} (h : FrOk x) : ∀ c ∈ formF x, c < 256 := by
  intro c hc
  unfold formF at hc
  split at hc <;> simp only [List.mem_append] at hc
  · rcases hc with ((hc | hc) | hc) | hc
    · exact hdF_lt h c hc
    · exact form_lt _ _ c hc
    · exact form_lt _ _ c hc
    · exact h.ps c hc
  · rcases hc with (hc | hc) | hc
    · exact hdF_lt h c hc
    · exact h.ns c hc
    · exact h.ds c hc
theorem formF_len {x : Fr} (h : FrOk x) : (formF x).length ≤ 61 + x.d.length := by
  unfold formF
  split <;> simp [hdF_len, form_len, h.p, h.n] <;> omega
theorem run_allocF (w : World) {o : Oper} {a : Act} (ho : o.op = .alloc 43) : (execOp a.eval o).run Try.prog w = .ok (.value (.pointer (some ⟨w.heap.size, 0, none⟩))) (w.alloc (.cells zF 43)) := by
  have zf := zero_frame w
  simp [execOp, ho, Instr.alloc, zf, Sem.run_bind, Result.andThen, newVar, newRow, Value.cells]
theorem rnumAt (B : Nat) (ad : Addr) (ca : Nat) (l : List Nat) (a n : Nat) (w : World) (hr : Rd w B (some ad) (byt l)) (hl : ∀ c ∈ l, c < 256) (ha : a ≠ 0) (hn8 : n ≤ 8) (hfit : a + n ≤ l.length) :
    Calls Try.prog 33 #[.slice (some ⟨ad.block, ad.off + a, none⟩) n ca] w fun e w' => e = .returned (.int .u64 (numAt l a n : Nat)) ∧ w = w' := by
  have hL : ((l.drop a).take n).length = n := by rw [List.length_take, List.length_drop]; omega
  have hr2 : Rd w B (some ⟨ad.block, ad.off + a, none⟩) (byt ((l.drop a).take n)) := by
    have h1 := rd_off hr a ha
    intro hne
    obtain ⟨a1, e1, hb, hc⟩ := h1 (fun h0 => hne (by
      have : (l.drop a).length = 0 := by rw [← byt_len, h0]; rfl
      rw [List.eq_nil_of_length_eq_zero this]; simp [byt]))
    refine ⟨a1, e1, hb, fun j u hu => hc j u ?_⟩
    rw [show byt ((l.drop a).take n) = (byt (l.drop a)).take n by simp [byt, List.map_take], List.getElem?_take] at hu
    split at hu
    · exact hu
    · cases hu
  have h := rnumber_c B (some ⟨ad.block, ad.off + a, none⟩) ca ((l.drop a).take n) w hr2 (take_lt (drop_lt hl a) n) (by omega)
  rw [hL] at h
  exact h
set_option maxRecDepth 100000 in
set_option maxHeartbeats 1000000 in
theorem rget_short (A : Option Addr) (c : Nat) (l : List Nat) (w : World) (h : l.length < 13) :
    Calls Try.prog 16 #[.slice A l.length c] w (GetsF zFr 2 w) := by
  have zf := zero_frame
  have zs1 : zF.size = 51 := by rfl
  have zs2 : ¬ zF = #[] := by intro h; have := congrArg Array.size h; rw [zs1] at this; cases this
  have HZ := Lib.hid zF_size
  have HZ2 := Lib.hid (len_f zFr_ok (.slice none 0 0))
  go_enter Try.func16, Try.ntmps16
  go_upto_region 2 with (refine wpList_store_rowTo rfl 43 (.tmp 4) (.tmp 8) rfl rfl (w.heap.size + 1) zF rfl rfl 43 zF (by exact heap_alloc2_new _ _ _) HZ.out rfl (frV_one _ _ _ _) ?_)
  obtain ⟨Z, hZ⟩ : ∃ Z, Z = ((w.alloc (Obj.cells zF 43)).alloc (Obj.cells zF 43)).setRow (w.heap.size + 1) zF := ⟨_, rfl⟩
  have ht : ThreeF w Z := by
    rw [hZ]
    exact ⟨(((Below.refl _ _).alloc (Nat.le_refl _) _).alloc (le_alloc (Nat.le_refl _)) _).trans (below_setRow (Below.refl _ _) (by omega) _), by simp [World.setRow], ((Blk.new w _ _).alloc _).rowFar (by omega), Blk.row (old := zF) (heap_alloc2_new _ _ _)⟩
  rw [← hZ]
  clear hZ
  have HT := Lib.hid ht
  have HRA := Lib.hid (show Z.rangeAt (w.heap.size + 1) 0 (frL zFr (.slice none 0 0)) from (FrAt.of (v := .slice none 0 0) zFr_ok ht.no).al)
  clear ht
  go_wp2_with (first
    | (refine wpList_loadG (by kernel_rfl) 43 (.tmp 4) rfl (w.heap.size + 1) 0 rfl (frL zFr (.slice none 0 0)) _ HRA.out Try.underlying43 rfl HZ2.out ?_)
    | (refine wpList_store_rowTo rfl 43 (.tmp 2) (.tmp 12) rfl rfl w.heap.size zF rfl rfl 43 zF (by exact HT.out.out) HZ.out rfl (frV_one _ _ _ _) ?_))
  refine bodyPost_ret (results_row_tmp rfl _ _ w.heap.size 43 zF (0, 0) _ rfl HT.out.out.row Try.underlying43 rfl (by kernel_rfl)) rfl ⟨_, rfl, zF_fin _, HT.out.bel.trans (below_setRow (Below.refl _ _) (Nat.le_refl _) _)⟩
set_option maxRecDepth 100000 in
set_option maxHeartbeats 4000000 in
theorem rget_main (ad : Addr) (c : Nat) (l : List Nat) (w : World) (hl : ∀ c ∈ l, c < 256) (hr : Rd w w.heap.size (some ad) (byt l)) (hlen : l.length ≤ 100000) (h : 13 ≤ l.length) (hc : l.length ≤ c) :
    Calls Try.prog 16 #[.slice (some ad) l.length c] w (GetsF (getF l).1 (getF l).2 w) := by
  have zf := zero_frame
  have zs1 : zF.size = 51 := by rfl
  have zs2 : ¬ zF = #[] := by intro h; have := congrArg Array.size h; rw [zs1] at this; cases this
  have HZ := Lib.hid zF_size
  have HZ2 := Lib.hid (len_f zFr_ok (.slice none 0 0))
  have HS0 := Lib.hid (sizeF (fr0 l) (.slice none 0 0) (fr0_ok hl))
  have HRD := Lib.hid hr
  have HL := Lib.hid hl
  have HN1 := Lib.hid (show ∀ W, Below w.heap.size w W → Calls Try.prog 33 #[.slice (some ⟨ad.block, ad.off + 1, none⟩) 2 (c - 1)] W fun e w' => e = .returned (.int .u64 (numAt l 1 2 : Nat)) ∧ W = w' from fun W hW => rnumAt w.heap.size ad (c - 1) l 1 2 W (HRD.out.below hW) HL.out (by decide) (by decide) (by omega))
  have HN3 := Lib.hid (show ∀ W, Below w.heap.size w W → Calls Try.prog 33 #[.slice (some ⟨ad.block, ad.off + 3, none⟩) 2 (c - 3)] W fun e w' => e = .returned (.int .u64 (numAt l 3 2 : Nat)) ∧ W = w' from fun W hW => rnumAt w.heap.size ad (c - 3) l 3 2 W (HRD.out.below hW) HL.out (by decide) (by decide) (by omega))
  have HN5 := Lib.hid (show ∀ W, Below w.heap.size w W → Calls Try.prog 33 #[.slice (some ⟨ad.block, ad.off + 5, none⟩) 8 (c - 5)] W fun e w' => e = .returned (.int .u64 (numAt l 5 8 : Nat)) ∧ W = w' from fun W hW => rnumAt w.heap.size ad (c - 5) l 5 8 W (HRD.out.below hW) HL.out (by decide) (by decide) (by omega))
  have w1 := wrap16_u (numAt l 1 2) (numAt_lt hl _ _ _ (by decide))
  have w2 := wrap16_u (numAt l 3 2) (numAt_lt hl _ _ _ (by decide))
  obtain ⟨a1, e1, hab, hcb⟩ := hr.byte (k := 0) (by omega)
  injection e1 with e1
  subst e1
  rw [show ad.add 0 = ad by simp [Addr.add]] at hcb
  have hX : fr0 l = ⟨l.getD 0 0, numAt l 1 2, numAt l 3 2, numAt l 5 8, 0, 0, z32, z12, []⟩ := rfl
  have HX := Lib.hid hX
  clear hX hr
  generalize hK : l.getD 0 0 = K0 at *
  have HK := Lib.hid hK
  clear hK
  generalize numAt l 1 2 = F0 at *
  generalize numAt l 3 2 = T0 at *
  generalize numAt l 5 8 = I0 at *
  go_enter Try.func16, Try.ntmps16
  go_upto_region 4 with (refine wpList_store_rowTo rfl 43 (.tmp 4) (.tmp 8) rfl rfl (w.heap.size + 1) zF rfl rfl 43 zF (by exact heap_alloc2_new _ _ _) HZ.out rfl (frV_one _ _ _ _) ?_)
  obtain ⟨Z, hZ⟩ : ∃ Z, Z = ((w.alloc (Obj.cells zF 43)).alloc (Obj.cells zF 43)).setRow (w.heap.size + 1) zF := ⟨_, rfl⟩
  have ht : ThreeF w Z := by
    rw [hZ]
    exact ⟨(((Below.refl _ _).alloc (Nat.le_refl _) _).alloc (le_alloc (Nat.le_refl _)) _).trans (below_setRow (Below.refl _ _) (by omega) _), by simp [World.setRow], ((Blk.new w _ _).alloc _).rowFar (by omega), Blk.row (old := zF) (heap_alloc2_new _ _ _)⟩
  rw [← hZ]
  clear hZ
  have HT := Lib.hid ht
  have hcc := cell_ext (ht.bel.cell (by exact hab) |>.trans hcb)
  clear ht hcb
  refine wp_region_loudTail 16 Z [5] (fun _ u W => ∃ g, u = .pointer (some ⟨g, 0, none⟩) ∧ Z.heap.size ≤ g ∧ Blk W g 43 zF) (by kernel_rfl) (by kernel_rfl) (by kernel_rfl) (by kernel_rfl) (fun _ _ _ _ h hb => by obtain ⟨g, e, h1, h2⟩ := h; exact ⟨g, e, h1, h2.below hb h2.lt⟩) (Below.refl _ _).drew ?_
  simp only [List.take_succ_cons, List.take_zero, List.drop_succ_cons, List.drop_zero]
  repeat (first
    | (refine wpLoud_plain rfl rfl rfl ?_; intro K hK; go_big_quiet_op; go_big_quiet_on)
    | (refine wpLoud_call 18 rfl [] _ 33 (fun g => #[.slice (some ⟨ad.block, ad.off + 1, none⟩) 2 (c - 1)]) rfl (fun _ _ h => by cases h) rfl (fun g w => by kernel_rfl) (fun g z hg => (HN1.out _ (HT.out.bel.trans (z.bel.mono HT.out.bel.size))).mono fun e w' h => ⟨_, h.1, h.2 ▸ Below.refl _ _, rfl⟩) _ (by simp only [Act.put, List.setIfInBounds_toArray, List.set_cons_succ, List.set_cons_zero]; rfl) ?_)
    | (refine wpLoud_call 22 rfl [] _ 33 (fun g => #[.slice (some ⟨ad.block, ad.off + 3, none⟩) 2 (c - 3)]) rfl (fun _ _ h => by cases h) rfl (fun g w => by kernel_rfl) (fun g z hg => (HN3.out _ (HT.out.bel.trans (z.bel.mono HT.out.bel.size))).mono fun e w' h => ⟨_, h.1, h.2 ▸ Below.refl _ _, rfl⟩) _ (by simp only [Act.put, List.setIfInBounds_toArray, List.set_cons_succ, List.set_cons_zero]; rfl) ?_)
    | (refine wpLoud_call 26 rfl [] _ 33 (fun g => #[.slice (some ⟨ad.block, ad.off + 5, none⟩) 8 (c - 5)]) rfl (fun _ _ h => by cases h) rfl (fun g w => by kernel_rfl) (fun g z hg => (HN5.out _ (HT.out.bel.trans (z.bel.mono HT.out.bel.size))).mono fun e w' h => ⟨_, h.1, h.2 ▸ Below.refl _ _, rfl⟩) _ (by simp only [Act.put, List.setIfInBounds_toArray, List.set_cons_succ, List.set_cons_zero]; rfl) ?_)
    | (refine wpLoud_val rfl rfl (fun _ _ h => by cases h) (.agg (frV ⟨K0, F0, T0, I0, 0, 0, z32, z12, []⟩ (.slice none 0 0))) (fun z => run_built _ 43 _ _ (built_4 K0 F0 T0 I0) #[(0, .tmp 15), (1, .tmp 19), (2, .tmp 23), (3, .tmp 26)] rfl (by kernel_rfl)) _ (by simp only [Act.put, List.setIfInBounds_toArray, List.set_cons_succ, List.set_cons_zero]; rfl) ?_)
    | (refine wpLoud_make rfl (fun _ _ h => by cases h) rfl 5 rfl rfl (fun y => ⟨_, _, run_allocF y.wd rfl, (Below.refl _ _).alloc (Nat.le_refl _) _, _, rfl, y.bel.size, Blk.new _ _ _⟩) _ (by simp only [Act.put, List.setIfInBounds_toArray, List.set_cons_succ, List.set_cons_zero]; rfl) ?_))
  refine wpLoud_end [5] (by rfl) ?_
  intro gg z hg
  obtain ⟨G, e5, hG, hbG⟩ := hg 5 (by simp)
  have HT4 := Lib.hid (HT.out.next z.bel)
  have HBG := Lib.hid hbG
  have HG := Lib.hid hG
  have HZL := Lib.hid HT.out.lt
  generalize z.wd = Y at *
  simp only [fill, Act.put, List.setIfInBounds_toArray, List.set_cons_succ, List.set_cons_zero]
  rw [e5]
  clear hg e5 hG hbG hcc HT
  go_upto_region 5 with (refine wpList_store_rowTo rfl 43 (.tmp 5) (.tmp 27) rfl rfl G (frV ⟨K0, F0, T0, I0, 0, 0, z32, z12, []⟩ (.slice none 0 0)) rfl rfl 43 zF (by exact HBG.out) HS0.out rfl (frV_one _ _ _ _) ?_)
  obtain ⟨W1, hW1⟩ : ∃ W1, W1 = Y.setRow G (frV ⟨K0, F0, T0, I0, 0, 0, z32, z12, []⟩ (.slice none 0 0)) := ⟨_, rfl⟩
  have ht : WorkF w W1 G (fr0 l) (.slice none 0 0) := by
    have h1 : w.heap.size + 1 < G := Nat.lt_of_lt_of_le HZL.out HG.out
    rw [hW1, HX.out]
    exact ⟨⟨HT4.out.bel.trans (below_setRow (Below.refl _ _) (by omega) _), by simp [World.setRow]; exact HT4.out.lt, HT4.out.out.rowFar (by omega), HT4.out.no.rowFar (by omega)⟩, h1, HBG.out.row⟩
  rw [← hW1]
  clear hW1
  have hf := FrAt.of (fr0_ok HL.out) ht.work
  have c0 : W1.cell? ⟨G, 0, none⟩ = some (.int .u8 (K0 : Nat)) := by have h1 := hf.c0; rw [HX.out] at h1; exact h1
  have c4 : W1.cell? ⟨G, 4, none⟩ = some (.int .u64 0) := by have h1 := hf.c4; rw [HX.out] at h1; exact h1
  have c5 : W1.cell? ⟨G, 5, none⟩ = some (.int .u64 0) := by have h1 := hf.c5; rw [HX.out] at h1; exact h1
  have f4 : W1.frozen? ⟨G, 4, none⟩ = false := ht.work.free 4
  have f5 : W1.frozen? ⟨G, 5, none⟩ = false := ht.work.free 5
  have HT := Lib.hid ht
  clear hf ht HT4 HBG HG HZL
  have eb : ∀ (a b : Nat), (a = b → ((a : Int) == (b : Int)) = true) ∧ (a ≠ b → ((a : Int) == (b : Int)) = false) := fun a b => by
    constructor
    · intro h; rw [beq_iff_eq]; omega
    · intro h; rw [beq_eq_false_iff_ne]; omega
  by_cases k1 : K0 = 72
  · have kh : ((K0 : Int) == 72) = true := (eb K0 72).1 k1
    have kd : ((K0 : Int) == 68) = false := (eb K0 68).2 (by omega)
    rcases Nat.lt_or_ge l.length 61 with hlt | h61
    · have hres : getF l = (zFr, 2) := by unfold getF; rw [HK.out, if_neg (by omega), if_pos (.inl ⟨k1, hlt⟩)]
      have HRES := Lib.hid hres
      clear eb hres
      have HRA := Lib.hid (show W1.rangeAt (w.heap.size + 1) 0 (frL zFr (.slice none 0 0)) from (FrAt.of (v := .slice none 0 0) zFr_ok HT.out.th.no).al)
      go_wp2_with (first
        | (refine wpList_loadG (by kernel_rfl) 43 (.tmp 4) rfl (w.heap.size + 1) 0 rfl (frL zFr (.slice none 0 0)) _ HRA.out Try.underlying43 rfl HZ2.out ?_)
        | (refine wpList_store_rowTo rfl 43 (.tmp 2) (.tmp 34) rfl rfl w.heap.size zF rfl rfl 43 zF (by exact HT.out.th.out) HZ.out rfl (frV_one _ _ _ _) ?_))
      refine bodyPost_ret (results_row_tmp rfl _ _ w.heap.size 43 zF (0, 0) _ rfl HT.out.th.out.row Try.underlying43 rfl (by kernel_rfl)) rfl ?_
      rw [HRES.out]
      exact ⟨_, rfl, zF_fin _, HT.out.th.bel.trans (below_setRow (Below.refl _ _) (Nat.le_refl _) _)⟩
    · skip
      have HN13 := Lib.hid (show ∀ W, Below w.heap.size w W → Calls Try.prog 33 #[.slice (some ⟨ad.block, ad.off + 13, none⟩) 8 (c - 13)] W fun e w' => e = .returned (.int .u64 (numAt l 13 8 : Nat)) ∧ W = w' from fun W hW => rnumAt w.heap.size ad (c - 13) l 13 8 W (HRD.out.below hW) HL.out (by decide) (by decide) (by omega))
      have HN21 := Lib.hid (show ∀ W, Below w.heap.size w W → Calls Try.prog 33 #[.slice (some ⟨ad.block, ad.off + 21, none⟩) 8 (c - 21)] W fun e w' => e = .returned (.int .u64 (numAt l 21 8 : Nat)) ∧ W = w' from fun W hW => rnumAt w.heap.size ad (c - 21) l 21 8 W (HRD.out.below hW) HL.out (by decide) (by decide) (by omega))
      have hc13 : ¬ c = 13 := by omega
      have hres := get_end_H HL.out h61 (by rw [HK.out]; exact k1)
      have HRES := Lib.hid hres
      clear hres eb
      go_wp2_with (first
        | (go_at_call 33; ((with_reducible refine (HN13.out _ HT.out.th.bel).mono ?_); rintro e w' ⟨rfl, rfl⟩))
        | (go_at_call 33; ((with_reducible refine (HN21.out _ (by exact (HT.out.set 4 _ (frV_set4 _ _ _)).th.bel)).mono ?_); rintro e w' ⟨rfl, rfl⟩)))
      obtain ⟨W3, hW3⟩ : ∃ W3, W3 = (W1.setCell ⟨G, 4, none⟩ (.int .u64 (numAt l 13 8 : Nat))).setCell ⟨G, 5, none⟩ (.int .u64 (numAt l 21 8 : Nat)) := ⟨_, rfl⟩
      have ht3 : WorkF w W3 G { fr0 l with b := numAt l 13 8, o := numAt l 21 8 } (.slice none 0 0) := by
        rw [hW3]
        exact (HT.out.set 4 _ (frV_set4 _ _ _)).set 5 _ (frV_set5 _ _ _)
      rw [← hW3]
      clear hW3 c0 c4 c5 f4 f5
      have HT3 := Lib.hid ht3
      clear ht3
      go_loopw [6] (fun i wr => ∃ k : Nat, k ≤ 32 ∧ i = .int .i64 k ∧ WorkF w wr G (frHk l k) (.slice none 0 0)) (fun i _ => 32 - (intOf i).toNat)
      case atStart => exact ⟨0, by omega, rfl, HT3.out⟩
      case round =>
        rename World => wr
        obtain ⟨k, hk, rfl, ht⟩ := hrel
        have HTK := Lib.hid ht
        clear ht
        by_cases hlt : k < 32
        · have hb := rd_cell (HRD.out.below HTK.out.th.bel) (29 + k) (by omega)
          have hfr := HTK.out.work.free (6 + k)
          obtain ⟨u0, hcl⟩ := HTK.out.some_ (frHk_ok HL.out h61 k hk) (6 + k) (by omega)
          have HSET := Lib.hid (frHk_set (l := l) h61 (.slice none 0 0) k hlt)
          generalize l.getD (29 + k) 0 = bv at *
          go_wp2_with fail
          go_roundw
          case rel => exact ⟨k + 1, by omega, rfl, HTK.out.set _ _ HSET.out⟩
          case measure => simp [intOf]; omega
        · obtain rfl : k = 32 := by omega
          have ht5 := HTK.out
          rw [frHk_end h61] at ht5
          have HT5 := Lib.hid ht5
          clear ht5 HTK
          have HX5 := Lib.hid (frH_ok HL.out h61)
          have HDL := Lib.hid (show (frH l).d.length ≤ 100000 by simp [frH])
          have HRB := Lib.hid (show ∀ W', Below wr.heap.size wr W' → Rd W' wr.heap.size none (byt (frH l).d) from fun W' _ => Rd.nil_ _ _ _)
          have HFI := Lib.hid (show ∀ W' cs, Below wr.heap.size wr W' → Fin (W'.setRow w.heap.size cs) (frH l) (.slice none (frH l).d.length 0) from fun W' _ _ => ⟨HX5.out, by simp [frH], none, 0, rfl, by simp [frH], Rd.nil_ _ _ _⟩)
          have c0 : wr.cell? ⟨G, 0, none⟩ = some (.int .u8 (K0 : Nat)) := by have h1 := (FrAt.of HX5.out HT5.out.work).c0; rw [show (frH l).k = K0 from HK.out] at h1; exact h1
          go_upto_region 22 with fail
          have HCKC := Lib.hid (fun W => rcheck_c (frH l) none 0 W HX5.out)
          have HFMC := Lib.hid (fun W (hb : Below wr.heap.size wr W) => fform_c (frH l) wr.heap.size none 0 W HX5.out (HRB.out W hb) hb.size (by have := HDL.out; omega))
          have HSMC := Lib.hid (fun W base v (ho : OwnB W base v (formF (frH l))) (hr : Rd W w.heap.size (some ad) (byt l)) => (show Calls Try.prog 20 #[v, .slice (some ad) l.length c] W fun e w' => e = .returned (.bool (formF (frH l) == l)) ∧ ∃ n, w' = W.drewN n from by
            obtain ⟨A9, k9, rfl, _, _, r9⟩ := ho.rd
            exact same_c _ _ A9 (some ad) k9 c (formF (frH l)) l W (formF_lt HX5.out) HL.out r9 hr (by have := formF_len HX5.out; have := HDL.out; omega) (by omega)))
          have hres := HRES.out
          generalize ckF (frH l) = ck at *
          generalize (formF (frH l) == l) = sm at *
          have HLF := Lib.hid (len_f HX5.out (.slice none (frH l).d.length 0))
          have HSF := Lib.hid (sizeF _ (.slice none (frH l).d.length 0) HX5.out)
          have hcase : ck = false ∨ (ck = true ∧ sm = false) ∨ (ck = true ∧ sm = true) := by cases ck <;> cases sm <;> simp
          clear HRES
          rcases hcase with rfl | ⟨rfl, rfl⟩ | ⟨rfl, rfl⟩
          all_goals
            simp only [Bool.false_and, Bool.true_and, if_true, if_false, Bool.false_eq_true] at hres
            have HRES2 := Lib.hid hres
            clear hres
            go_wp2_with (first
              | (refine wpList_loadG rfl 43 (.tmp 5) rfl G 0 rfl (frL (frH l) (.slice none (frH l).d.length 0)) _ (by first | exact (FrAt.of HX5.out HT5.out.work).al | exact (FrAt.of HX5.out HT6.out.work).al | exact (FrAt.of HX5.out HT8.out.work).al) Try.underlying43 rfl HLF.out ?_)
              | (refine wpList_loadG rfl 43 (.tmp 4) rfl (w.heap.size + 1) 0 rfl (frL zFr (.slice none 0 0)) _ (by first | exact (FrAt.of (v := .slice none 0 0) zFr_ok HT8.out.th.no).al | exact (FrAt.of (v := .slice none 0 0) zFr_ok HT6.out.th.no).al) Try.underlying43 rfl HZ2.out ?_)
              | (go_at_call 19; (refine (HCKC.out _).mono ?_); rintro e w6 ⟨rfl, hb⟩; have HT6 := Lib.hid (HT5.out.next hb); have HB6 := Lib.hid hb; clear hb)
              | (go_at_call 29; (refine (HFMC.out _ HB6.out).mono ?_); rintro e w7 ⟨v7, rfl, ho, hb⟩; have HT7 := Lib.hid (HT6.out.next hb); have HB7 := Lib.hid (HB6.out.trans (hb.mono HB6.out.size)); have HO7 := Lib.hid ho; clear hb ho)
              | (go_at_call 20; (refine (HSMC.out _ _ _ HO7.out (HRD.out.below HT7.out.th.bel)).mono ?_); rintro e w8 ⟨rfl, n8, rfl⟩; have HT8 := Lib.hid (HT7.out.next (belowDrewN n8 (Below.refl _ _))); have HB8 := Lib.hid (show Below wr.heap.size wr (w7.drewN n8) from belowDrewN n8 HB7.out))
              | (refine wpList_store_rowTo rfl 43 (.tmp 2) (.tmp 89) rfl rfl w.heap.size zF rfl rfl 43 zF (by first | exact HT8.out.th.out | exact HT6.out.th.out) HZ.out rfl (frV_one _ _ _ _) ?_)
              | (refine wpList_store_rowTo rfl 43 (.tmp 2) (.tmp 90) rfl rfl w.heap.size (frV (frH l) (.slice none (frH l).d.length 0)) rfl rfl 43 zF (by exact HT8.out.th.out) HSF.out (by rw [frV_size HX5.out]; rfl) (frV_one _ _ _ _) ?_))
            first
              | (refine bodyPost_ret (results_row_tmp rfl _ _ w.heap.size 43 zF (0, 0) _ rfl HT8.out.th.out.row Try.underlying43 rfl (by kernel_rfl)) rfl ?_
                 rw [HRES2.out]
                 exact ⟨_, rfl, zF_fin _, HT8.out.th.bel.trans (below_setRow (Below.refl _ _) (Nat.le_refl _) _)⟩)
              | (refine bodyPost_ret (results_row_tmp rfl _ _ w.heap.size 43 (frV (frH l) (.slice none (frH l).d.length 0)) (0, 0) _ rfl HT8.out.th.out.row Try.underlying43 rfl HSF.out) rfl ?_
                 rw [HRES2.out]
                 exact ⟨_, rfl, HFI.out _ _ HB8.out, HT8.out.th.bel.trans (below_setRow (Below.refl _ _) (Nat.le_refl _) _)⟩)
              | (refine bodyPost_ret (results_row_tmp rfl _ _ w.heap.size 43 zF (0, 0) _ rfl HT6.out.th.out.row Try.underlying43 rfl (by kernel_rfl)) rfl ?_
                 rw [HRES2.out]
                 exact ⟨_, rfl, zF_fin _, HT6.out.th.bel.trans (below_setRow (Below.refl _ _) (Nat.le_refl _) _)⟩)
  · have kh : ((K0 : Int) == 72) = false := (eb K0 72).2 k1
    by_cases k2 : K0 = 68
    · have kd : ((K0 : Int) == 68) = true := (eb K0 68).1 k2
      rcases Nat.lt_or_ge l.length 41 with hl4 | hg4
      · have hres : getF l = (zFr, 2) := by unfold getF; rw [HK.out, if_neg (by omega), if_pos (.inr ⟨k2, hl4⟩)]
        have HRES := Lib.hid hres
        clear eb hres
        have HRA := Lib.hid (show W1.rangeAt (w.heap.size + 1) 0 (frL zFr (.slice none 0 0)) from (FrAt.of (v := .slice none 0 0) zFr_ok HT.out.th.no).al)
        go_wp2_with (first
          | (refine wpList_loadG (by kernel_rfl) 43 (.tmp 4) rfl (w.heap.size + 1) 0 rfl (frL zFr (.slice none 0 0)) _ HRA.out Try.underlying43 rfl HZ2.out ?_)
          | (refine wpList_store_rowTo rfl 43 (.tmp 2) (.tmp 61) rfl rfl w.heap.size zF rfl rfl 43 zF (by exact HT.out.th.out) HZ.out rfl (frV_one _ _ _ _) ?_))
        refine bodyPost_ret (results_row_tmp rfl _ _ w.heap.size 43 zF (0, 0) _ rfl HT.out.th.out.row Try.underlying43 rfl (by kernel_rfl)) rfl ?_
        rw [HRES.out]
        exact ⟨_, rfl, zF_fin _, HT.out.th.bel.trans (below_setRow (Below.refl _ _) (Nat.le_refl _) _)⟩
      · skip
        have hc13 : ¬ c = 13 := by omega
        have hres := get_end_D HL.out hg4 (by rw [HK.out]; exact k2)
        have HRES := Lib.hid hres
        clear hres eb c4 c5 f4 f5
        obtain ⟨i0, hi, hz0, hz1, hz2⟩ := info_parts byteInfo
        go_wp2_with fail
        go_loopw [7] (fun i wr => ∃ k : Nat, k ≤ 12 ∧ i = .int .i64 k ∧ WorkF w wr G (frDk l k) (.slice none 0 0)) (fun i _ => 12 - (intOf i).toNat)
        case atStart => exact ⟨0, by omega, rfl, HT.out⟩
        case round =>
          rename World => wr
          obtain ⟨k, hk, rfl, ht⟩ := hrel
          have HTK := Lib.hid ht
          clear ht
          by_cases hlt : k < 12
          · have hb := rd_cell (HRD.out.below HTK.out.th.bel) (13 + k) (by omega)
            have hfr := HTK.out.work.free (38 + k)
            obtain ⟨u0, hcl⟩ := HTK.out.some_ (frDk_ok HL.out (by omega) k hk) (38 + k) (by omega)
            have HSET := Lib.hid (frDk_set (l := l) (by omega) (.slice none 0 0) k hlt)
            generalize l.getD (13 + k) 0 = bv at *
            go_wp2_with fail
            go_roundw
            case rel => exact ⟨k + 1, by omega, rfl, HTK.out.set _ _ HSET.out⟩
            case measure => simp [intOf]; omega
          · obtain rfl : k = 12 := by omega
            have ht4 := HTK.out
            rw [frDk_end (by omega)] at ht4
            have HT4 := Lib.hid ht4
            have hok : FrOk { fr0 l with n := (l.drop 13).take 12 } := by
              have h1 := frDk_ok HL.out (show 25 ≤ l.length by omega) 12 (by omega)
              rw [frDk_end (by omega)] at h1
              exact h1
            have HOK := Lib.hid hok
            clear ht4 hok HTK
            have hrs : Rd wr w.heap.size (some ⟨ad.block, ad.off + 25, none⟩) (byt (l.drop 25)) := rd_off (HRD.out.below HT4.out.th.bel) 25 (by decide)
            have HRS := Lib.hid hrs
            clear hrs
            go_upto_region 22 with (at_builtin; refine wpList_app _ rfl (.tmp 74) (.tmp 76) _ rfl wr.heap.size 5 i0 (.int .u8 0) 1 1 Try.underlying35 hi hz0 hz1 hz2 rfl (by decide) _ 0 [] rfl (by exact OwnB.new _ _ [] (Nat.le_refl _) (by simp [maxLen])) w.heap.size (some ⟨ad.block, ad.off + 25, none⟩) (l.length - 25) (c - 25) (byt (l.drop 25)) rfl (by simp [byt_len]) (HRS.out.below ((Below.refl _ _).alloc HT4.out.th.bel.size _)) (byt_one _) (by omega) (by omega) (by simp) ?_; intro v5 w5 hap; have HO5 := Lib.hid (show OwnB w5 wr.heap.size v5 (l.drop 25) from by have h1 := hap.own; rw [Nat.zero_add, List.nil_append] at h1; unfold OwnB; rw [List.length_drop]; exact h1); have hb5 : Below wr.heap.size wr w5 := ((Below.refl _ _).alloc (Nat.le_refl _) _).trans (hap.below (by exact OwnB.new _ _ [] (Nat.le_refl _) (by simp [maxLen])) (by simp)); have HT45 := Lib.hid (HT4.out.next hb5); obtain ⟨A5, k5, rfl, hk5, _, _⟩ := HO5.out.rd; have c50 := (FrAt.of HOK.out HT45.out.work).cd; have f50 : w5.frozen? ⟨G, 50, none⟩ = false := HT45.out.work.free 50; have HSZ4 := Lib.hid HT4.out.work.lt; have c0 : w5.cell? ⟨G, 0, none⟩ = some (.int .u8 (K0 : Nat)) := (by have h1 := (FrAt.of HOK.out HT45.out.work).c0; rw [show ({ fr0 l with n := (l.drop 13).take 12 } : Fr).k = K0 from HK.out] at h1; exact h1); clear hap hb5)
            have e25 : l.length - 25 = (frD l).d.length := by simp [frD]
            rw [e25]
            obtain ⟨W6, hW6⟩ : ∃ W6, W6 = w5.setCell ⟨G, 50, none⟩ (.slice A5 (frD l).d.length k5) := ⟨_, rfl⟩
            have ht6 : WorkF w W6 G (frD l) (.slice A5 (frD l).d.length k5) := by
              rw [hW6]
              exact HT45.out.set 50 _ (frV_set50 HOK.out _ _ (l.drop 25))
            have ho6 : OwnB W6 wr.heap.size (.slice A5 (frD l).d.length k5) (frD l).d := by
              rw [hW6]
              exact OwnB.setCell HO5.out _ _ _ HSZ4.out
            rw [← hW6]
            clear hW6 c50 f50
            have HT5 := Lib.hid ht6
            have HO6 := Lib.hid ho6
            have HX5 := Lib.hid (frD_ok HL.out (by omega))
            have HDL := Lib.hid (show (frD l).d.length ≤ 100000 by simp [frD]; omega)
            have HK5 := Lib.hid (show (frD l).d.length ≤ k5 from hk5)
            have HRB := Lib.hid (show ∀ W', Below W6.heap.size W6 W' → Rd W' W6.heap.size A5 (byt (frD l).d) from fun W' hb => HO6.out.rdAt.below hb)
            have HFI := Lib.hid (show ∀ W' cs, Below W6.heap.size W6 W' → Fin (W'.setRow w.heap.size cs) (frD l) (.slice A5 (frD l).d.length k5) from fun W' cs hb => ⟨HX5.out, HDL.out, A5, k5, rfl, HK5.out, ((HO6.out.next hb).setRow w.heap.size cs (Nat.lt_trans (by have := HT5.out.lt; omega) HSZ4.out)).rdAt⟩)
            clear ht6 ho6 HT45
            have HCKC := Lib.hid (fun W => rcheck_c (frD l) A5 k5 W HX5.out)
            have HFMC := Lib.hid (fun W (hb : Below W6.heap.size W6 W) => fform_c (frD l) W6.heap.size A5 k5 W HX5.out (HRB.out W hb) hb.size (by have := HDL.out; omega))
            have HSMC := Lib.hid (fun W base v (ho : OwnB W base v (formF (frD l))) (hr : Rd W w.heap.size (some ad) (byt l)) => (show Calls Try.prog 20 #[v, .slice (some ad) l.length c] W fun e w' => e = .returned (.bool (formF (frD l) == l)) ∧ ∃ n, w' = W.drewN n from by
              obtain ⟨A9, k9, rfl, _, _, r9⟩ := ho.rd
              exact same_c _ _ A9 (some ad) k9 c (formF (frD l)) l W (formF_lt HX5.out) HL.out r9 hr (by have := formF_len HX5.out; have := HDL.out; omega) (by omega)))
            have hres := HRES.out
            generalize ckF (frD l) = ck at *
            generalize (formF (frD l) == l) = sm at *
            have HLF := Lib.hid (len_f HX5.out (.slice A5 (frD l).d.length k5))
            have HSF := Lib.hid (sizeF _ (.slice A5 (frD l).d.length k5) HX5.out)
            have hcase : ck = false ∨ (ck = true ∧ sm = false) ∨ (ck = true ∧ sm = true) := by cases ck <;> cases sm <;> simp
            clear HRES
            rcases hcase with rfl | ⟨rfl, rfl⟩ | ⟨rfl, rfl⟩
            all_goals
              simp only [Bool.false_and, Bool.true_and, if_true, if_false, Bool.false_eq_true] at hres
              have HRES2 := Lib.hid hres
              clear hres
              go_wp2_with (first
                | (refine wpList_loadG rfl 43 (.tmp 5) rfl G 0 rfl (frL (frD l) (.slice A5 (frD l).d.length k5)) _ (by first | exact (FrAt.of HX5.out HT5.out.work).al | exact (FrAt.of HX5.out HT6.out.work).al | exact (FrAt.of HX5.out HT8.out.work).al) Try.underlying43 rfl HLF.out ?_)
                | (refine wpList_loadG rfl 43 (.tmp 4) rfl (w.heap.size + 1) 0 rfl (frL zFr (.slice none 0 0)) _ (by first | exact (FrAt.of (v := .slice none 0 0) zFr_ok HT8.out.th.no).al | exact (FrAt.of (v := .slice none 0 0) zFr_ok HT6.out.th.no).al) Try.underlying43 rfl HZ2.out ?_)
                | (go_at_call 19; (refine (HCKC.out _).mono ?_); rintro e w6 ⟨rfl, hb⟩; have HT6 := Lib.hid (HT5.out.next hb); have HB6 := Lib.hid hb; clear hb)
                | (go_at_call 29; (refine (HFMC.out _ HB6.out).mono ?_); rintro e w7 ⟨v7, rfl, ho, hb⟩; have HT7 := Lib.hid (HT6.out.next hb); have HB7 := Lib.hid (HB6.out.trans (hb.mono HB6.out.size)); have HO7 := Lib.hid ho; clear hb ho)
                | (go_at_call 20; (refine (HSMC.out _ _ _ HO7.out (HRD.out.below HT7.out.th.bel)).mono ?_); rintro e w8 ⟨rfl, n8, rfl⟩; have HT8 := Lib.hid (HT7.out.next (belowDrewN n8 (Below.refl _ _))); have HB8 := Lib.hid (show Below W6.heap.size W6 (w7.drewN n8) from belowDrewN n8 HB7.out))
                | (refine wpList_store_rowTo rfl 43 (.tmp 2) (.tmp 89) rfl rfl w.heap.size zF rfl rfl 43 zF (by first | exact HT8.out.th.out | exact HT6.out.th.out) HZ.out rfl (frV_one _ _ _ _) ?_)
                | (refine wpList_store_rowTo rfl 43 (.tmp 2) (.tmp 90) rfl rfl w.heap.size (frV (frD l) (.slice A5 (frD l).d.length k5)) rfl rfl 43 zF (by exact HT8.out.th.out) HSF.out (by rw [frV_size HX5.out]; rfl) (frV_one _ _ _ _) ?_))
              first
                | (refine bodyPost_ret (results_row_tmp rfl _ _ w.heap.size 43 zF (0, 0) _ rfl HT8.out.th.out.row Try.underlying43 rfl (by kernel_rfl)) rfl ?_
                   rw [HRES2.out]
                   exact ⟨_, rfl, zF_fin _, HT8.out.th.bel.trans (below_setRow (Below.refl _ _) (Nat.le_refl _) _)⟩)
                | (refine bodyPost_ret (results_row_tmp rfl _ _ w.heap.size 43 (frV (frD l) (.slice A5 (frD l).d.length k5)) (0, 0) _ rfl HT8.out.th.out.row Try.underlying43 rfl HSF.out) rfl ?_
                   rw [HRES2.out]
                   exact ⟨_, rfl, HFI.out _ _ HB8.out, HT8.out.th.bel.trans (below_setRow (Below.refl _ _) (Nat.le_refl _) _)⟩)
                | (refine bodyPost_ret (results_row_tmp rfl _ _ w.heap.size 43 zF (0, 0) _ rfl HT6.out.th.out.row Try.underlying43 rfl (by kernel_rfl)) rfl ?_
                   rw [HRES2.out]
                   exact ⟨_, rfl, zF_fin _, HT6.out.th.bel.trans (below_setRow (Below.refl _ _) (Nat.le_refl _) _)⟩)
    · have kd : ((K0 : Int) == 68) = false := (eb K0 68).2 k2
      have hres := get_end_0 (l := l) h (by rw [HK.out]; exact k1) (by rw [HK.out]; exact k2)
      have HRES := Lib.hid hres
      clear hres eb c4 c5 f4 f5
      go_upto_region 22 with fail
      have HT5 := HT
      have HX5 := Lib.hid (fr0_ok HL.out)
      have HDL := Lib.hid (show (fr0 l).d.length ≤ 100000 by simp [fr0])
      have HRB := Lib.hid (show ∀ W', Below W1.heap.size W1 W' → Rd W' W1.heap.size none (byt (fr0 l).d) from fun W' _ => Rd.nil_ _ _ _)
      have HFI := Lib.hid (show ∀ W' cs, Below W1.heap.size W1 W' → Fin (W'.setRow w.heap.size cs) (fr0 l) (.slice none (fr0 l).d.length 0) from fun W' _ _ => ⟨HX5.out, by simp [fr0], none, 0, rfl, by simp [fr0], Rd.nil_ _ _ _⟩)
      have HCKC := Lib.hid (fun W => rcheck_c (fr0 l) none 0 W HX5.out)
      have HFMC := Lib.hid (fun W (hb : Below W1.heap.size W1 W) => fform_c (fr0 l) W1.heap.size none 0 W HX5.out (HRB.out W hb) hb.size (by have := HDL.out; omega))
      have HSMC := Lib.hid (fun W base v (ho : OwnB W base v (formF (fr0 l))) (hr : Rd W w.heap.size (some ad) (byt l)) => (show Calls Try.prog 20 #[v, .slice (some ad) l.length c] W fun e w' => e = .returned (.bool (formF (fr0 l) == l)) ∧ ∃ n, w' = W.drewN n from by
        obtain ⟨A9, k9, rfl, _, _, r9⟩ := ho.rd
        exact same_c _ _ A9 (some ad) k9 c (formF (fr0 l)) l W (formF_lt HX5.out) HL.out r9 hr (by have := formF_len HX5.out; have := HDL.out; omega) (by omega)))
      have hres := HRES.out
      generalize ckF (fr0 l) = ck at *
      generalize (formF (fr0 l) == l) = sm at *
      have HLF := Lib.hid (len_f HX5.out (.slice none (fr0 l).d.length 0))
      have HSF := Lib.hid (sizeF _ (.slice none (fr0 l).d.length 0) HX5.out)
      have hcase : ck = false ∨ (ck = true ∧ sm = false) ∨ (ck = true ∧ sm = true) := by cases ck <;> cases sm <;> simp
      clear HRES
      rcases hcase with rfl | ⟨rfl, rfl⟩ | ⟨rfl, rfl⟩
      all_goals
        simp only [Bool.false_and, Bool.true_and, if_true, if_false, Bool.false_eq_true] at hres
        have HRES2 := Lib.hid hres
        clear hres
        go_wp2_with (first
          | (refine wpList_loadG rfl 43 (.tmp 5) rfl G 0 rfl (frL (fr0 l) (.slice none (fr0 l).d.length 0)) _ (by first | exact (FrAt.of HX5.out HT5.out.work).al | exact (FrAt.of HX5.out HT6.out.work).al | exact (FrAt.of HX5.out HT8.out.work).al) Try.underlying43 rfl HLF.out ?_)
          | (refine wpList_loadG rfl 43 (.tmp 4) rfl (w.heap.size + 1) 0 rfl (frL zFr (.slice none 0 0)) _ (by first | exact (FrAt.of (v := .slice none 0 0) zFr_ok HT8.out.th.no).al | exact (FrAt.of (v := .slice none 0 0) zFr_ok HT6.out.th.no).al) Try.underlying43 rfl HZ2.out ?_)
          | (go_at_call 19; (refine (HCKC.out _).mono ?_); rintro e w6 ⟨rfl, hb⟩; have HT6 := Lib.hid (HT5.out.next hb); have HB6 := Lib.hid hb; clear hb)
          | (go_at_call 29; (refine (HFMC.out _ HB6.out).mono ?_); rintro e w7 ⟨v7, rfl, ho, hb⟩; have HT7 := Lib.hid (HT6.out.next hb); have HB7 := Lib.hid (HB6.out.trans (hb.mono HB6.out.size)); have HO7 := Lib.hid ho; clear hb ho)
          | (go_at_call 20; (refine (HSMC.out _ _ _ HO7.out (HRD.out.below HT7.out.th.bel)).mono ?_); rintro e w8 ⟨rfl, n8, rfl⟩; have HT8 := Lib.hid (HT7.out.next (belowDrewN n8 (Below.refl _ _))); have HB8 := Lib.hid (show Below W1.heap.size W1 (w7.drewN n8) from belowDrewN n8 HB7.out))
          | (refine wpList_store_rowTo rfl 43 (.tmp 2) (.tmp 89) rfl rfl w.heap.size zF rfl rfl 43 zF (by first | exact HT8.out.th.out | exact HT6.out.th.out) HZ.out rfl (frV_one _ _ _ _) ?_)
          | (refine wpList_store_rowTo rfl 43 (.tmp 2) (.tmp 90) rfl rfl w.heap.size (frV (fr0 l) (.slice none (fr0 l).d.length 0)) rfl rfl 43 zF (by exact HT8.out.th.out) HSF.out (by rw [frV_size HX5.out]; rfl) (frV_one _ _ _ _) ?_))
        first
          | (refine bodyPost_ret (results_row_tmp rfl _ _ w.heap.size 43 zF (0, 0) _ rfl HT8.out.th.out.row Try.underlying43 rfl (by kernel_rfl)) rfl ?_
             rw [HRES2.out]
             exact ⟨_, rfl, zF_fin _, HT8.out.th.bel.trans (below_setRow (Below.refl _ _) (Nat.le_refl _) _)⟩)
          | (refine bodyPost_ret (results_row_tmp rfl _ _ w.heap.size 43 (frV (fr0 l) (.slice none (fr0 l).d.length 0)) (0, 0) _ rfl HT8.out.th.out.row Try.underlying43 rfl HSF.out) rfl ?_
             rw [HRES2.out]
             exact ⟨_, rfl, HFI.out _ _ HB8.out, HT8.out.th.bel.trans (below_setRow (Below.refl _ _) (Nat.le_refl _) _)⟩)
          | (refine bodyPost_ret (results_row_tmp rfl _ _ w.heap.size 43 zF (0, 0) _ rfl HT6.out.th.out.row Try.underlying43 rfl (by kernel_rfl)) rfl ?_
             rw [HRES2.out]
             exact ⟨_, rfl, zF_fin _, HT6.out.th.bel.trans (below_setRow (Below.refl _ _) (Nat.le_refl _) _)⟩)
end Go.Proofs.Ytcmahmlcoodfoaa
