/- Contract: a tag. -/
import Derived.Test.YtfblpkjablgafaaDoorPwM
import Derived.Test.YtfblpkjablgafaaDoorChk
import Derived.Test.YtfblpkjablgafaaDoorRnd
import Derived.Test.YtfblpkjablgafaaDoorCat
import Derived.RangeFuncBox
import Derived.RangeFuncFrom
import Derived.Deep.RegionHeld3
namespace Go.Proofs.YtfblpkjablgafaaDoor
open Go.RowKit
set_option linter.unusedVariables false
set_option linter.unusedSimpArgs false
attribute [local go_sem] Oper.semAt_some
def blkA (m : List Nat) (i : Nat) : List Nat := (m.drop (16 * i)).take 16
/-- the sum behind these blocks -/
def polF (r : Nat) (m : List Nat) (pre : List (Blk16 m.length)) : Nat := pre.foldl (fun a x => (a + blkV (blkA m x.1)) * r % P130) 0
theorem polF_snoc (r : Nat) (m : List Nat) (pre : List (Blk16 m.length)) (x : Blk16 m.length) : polF r m (pre ++ [x]) = (polF r m pre + blkV (blkA m x.1)) * r % P130 := by
  simp [polF]
theorem polF_upto (r : Nat) (m : List Nat) : ∀ k, 16 * k < m.length + 16 → polF r m (upto16 m.length k) = polA r m k
  | 0, _ => rfl
  | k + 1, h => by
    rw [upto16, dif_pos (show 16 * k < m.length by omega), polF_snoc, polF_upto r m k (by omega)]
    rfl
theorem OwnB.row {w : World} {base : Nat} {v : Value} {l : List Nat} (h : OwnB w base v l) : ∃ g A ca, v = .slice A l.length ca ∧ l.length ≤ ca ∧ ca ≤ 9223372036854775807 ∧ (0 < l.length → A = some ⟨g, 0, none⟩ ∧ base ≤ g) ∧ Rd w w.heap.size A (byt l) := by
  obtain ⟨A, ca, e, h1, h2, h3⟩ := h.rd
  rcases Nat.eq_zero_or_pos l.length with h0 | h0
  · exact ⟨0, A, ca, e, h1, by unfold maxLen at h2; omega, fun h => by omega, h3⟩
  · obtain ⟨g, cap, rest, e2, hbg, _⟩ := h.open_ (fun h => by rw [h] at h0; simp at h0)
    rw [e] at e2
    injection e2 with e3 _ _
    exact ⟨g, A, ca, e, h1, by unfold maxLen at h2; omega, fun _ => ⟨e3, hbg⟩, h3⟩
def KeptBut (n₀ gh : Nat) (A B : World) : Prop := ∀ i, i < n₀ → i ≠ gh → B.heap[i]? = A.heap[i]?
theorem KeptBut.cell {n₀ gh : Nat} {A B : World} (h : KeptBut n₀ gh A B) {a : Addr} {v : Value} (hl : a.block < n₀) (hn : a.block ≠ gh) (hc : A.cell? a = some v) : B.cell? a = some v := by
  unfold World.cell? at *
  rw [h _ hl hn]; exact hc
structure TagI (Z : World) (gh : Nat) (a : Nat) (W : World) : Prop where
  gr : Z.grownBy W (some gh)
  ex : ∃ H : List Nat, H.length = 5 ∧ lbel H 67108864 67125248 ∧ V5 H % P130 = a ∧ Blk W gh 77 (vq H)
theorem TagI.own {β : Type} {Z : World} {gh B : Nat} (f : β → Nat) (hg : gh < Z.heap.size) (hB : Z.heap.size ≤ B) : OwnFrom B (fun (s : β) W => TagI Z gh (f s) W) := fun s W W' row hs hg' hr => by
  obtain ⟨H, h5, hb, hv, hbl⟩ := hs.ex
  refine ⟨⟨hg'.os.trans hs.gr.os, hg'.tape.trans hs.gr.tape, hg'.output.trans hs.gr.output, Nat.le_trans hs.gr.size hg'.size, fun k hk hn => ?_⟩, H, h5, hb, hv, ?_⟩
  · refine (hg'.block k (Nat.lt_of_lt_of_le hk hs.gr.size) ?_).trans (hs.gr.block k hk hn)
    intro e
    have := (hr k e.symm).1
    omega
  · unfold Blk
    refine (hg'.block gh (Nat.lt_of_lt_of_le hg hs.gr.size) ?_).trans hbl
    intro e
    have := (hr gh e.symm).1
    omega
set_option maxRecDepth 100000 in
set_option maxHeartbeats 8000000 in
theorem tag_c (k m : List Nat) (pv : Value) (w : World) (hk : k.length = 32) (hl : ∀ c ∈ k, c < 256) (hm : ∀ c ∈ m, c < 256) (hml : m.length ≤ 10000)
    (hcon : ∀ W, Below w.heap.size w W → Calls Tryd.prog 40 #[pv] W (Gives m W)) :
    Calls Tryd.prog 28 #[.agg (vb k), pv] w fun e w' => e = .returned (.agg (vb (polT k m))) ∧ Below w.heap.size w w' := by
  have zf := zero_num
  have zs1 : zN5.size = 5 := by rfl
  have zs2 : ¬ zN5 = #[] := by intro h; have := congrArg Array.size h; rw [zs1] at this; cases this
  have zt := zero_tag
  have zt1 : zT.size = 16 := by rfl
  have zt2 : ¬ zT = #[] := by intro h; have := congrArg Array.size h; rw [zt1] at this; cases this
  have ksz : (vb k).size = 32 := by rw [vb_size, hk]
  have HK := Lib.hid hk
  have HL := Lib.hid hl
  have HM := Lib.hid hm
  have HCON := Lib.hid hcon
  have HCL := Lib.hid (fun W => clamped_c k W hk hl)
  clear hl hm hcon
  refine (callsIn_wide (n := 8)).1 ?_
  refine callsIn_of_wp_marks Tryd.func28 rfl trivial ?_ rfl
  simp only [Tryd.ntmps28, List.size_toArray, List.length_cons, List.length_nil, Nat.reduceAdd, Nat.reduceSub, Array.replicate_succ, Array.replicate_zero, List.push_toArray, List.append_toArray, List.nil_append, List.cons_append]
  refine wpIn_seq (wpIn_wide.2 ?_)
  go_wp2_with fail
  obtain ⟨Z, hZ⟩ : ∃ Z, Z = ((w.alloc (Obj.cells (vb k) 23)).alloc (Obj.cells zT 49)) := ⟨_, rfl⟩
  have A0 := Lib.hid (show Blk Z w.heap.size 23 (vb k) by rw [hZ]; exact (Blk.new w _ _).alloc _)
  have C0 := Lib.hid (show Blk Z (w.heap.size + 1) 49 zT by
    have h1 := Blk.new (w.alloc (Obj.cells (vb k) 23)) 49 zT
    rw [show (w.alloc (Obj.cells (vb k) 23)).heap.size = w.heap.size + 1 by simp] at h1
    rw [hZ]; exact h1)
  have B0 := Lib.hid (show Below w.heap.size w Z by rw [hZ]; exact ((Below.refl _ _).alloc (Nat.le_refl _) _).alloc (by simp) _)
  have Z0 := Lib.hid (show Z.heap.size = w.heap.size + 1 + 1 by rw [hZ]; simp)
  rw [← hZ]
  clear hZ zt zt1 zt2
  obtain ⟨R, hR⟩ : ∃ R, R = limbL (number (clampL k)) := ⟨_, rfl⟩
  rw [← hR] at HCL
  have HRR := Lib.hid hR
  have hR5 : R.length = 5 := by rw [hR]; rfl
  have HR5 := Lib.hid hR5
  have HSZ := Lib.hid (numSz hR5)
  have HQ := Lib.hid (show zN5.size = (vq R).size by rw [vq_size, hR5]; rfl)
  clear hR hR5
  refine wpIn_seq (wpIn_wide.2 ?_)
  go_wp2_with (first
    | (refine wpList_loadG rfl 23 (.tmp 2) rfl w.heap.size 0 rfl (byt k) _ (by have := rangeAt_blk A0.out; simpa [vb] using this) Tryd.underlying23 rfl (by rw [byt_len, HK.out]; kernel_rfl) ?_)
    | (go_at_call 38; (refine (HCL.out _).mono ?_); rintro e w1 ⟨rfl, hb⟩; have B1 := Lib.hid hb; clear hb)
    | (refine wpList_store_rowTo rfl 77 (.tmp 5) (.tmp 10) rfl rfl w1.heap.size (vq R) rfl rfl 77 zN5 (by exact heap_alloc_new _ _) HSZ.out HQ.out (vq_one _) ?_))
  obtain ⟨Y, hY⟩ : ∃ Y, Y = (w1.alloc (Obj.cells zN5 77)).setRow w1.heap.size (vq R) := ⟨_, rfl⟩
  rw [← hY]
  have B2 := Lib.hid (show Below w.heap.size w Y by rw [hY]; exact below_row ((B0.out.trans (B1.out.mono B0.out.size)).alloc (by have := B0.out.size; have := B1.out.size; omega) _) (by have := B0.out.size; have := B1.out.size; omega) _)
  have A1 := Lib.hid (show Blk Y w.heap.size 23 (vb k) by
    rw [hY]
    exact (setRow_other _ _ _ _ (by have := B1.out.size; have := Z0.out; omega)).trans ((A0.out.below B1.out A0.out.lt).alloc _))
  have C1 := Lib.hid (show Blk Y (w.heap.size + 1) 49 zT by
    rw [hY]
    exact (setRow_other _ _ _ _ (by have := B1.out.size; have := Z0.out; omega)).trans ((C0.out.below B1.out C0.out.lt).alloc _))
  have R1 := Lib.hid (show Blk Y w1.heap.size 77 (vq R) by rw [hY]; exact setRow_heap _ _ zN5 _ _ (0, 0) (heap_alloc_new _ _))
  have W1 := Lib.hid (show w.heap.size + 1 < w1.heap.size by have := B1.out.size; have := Z0.out; omega)
  clear hY A0 C0 B0 Z0 B1
  generalize w1.heap.size = gr at *
  refine wpIn_seq (wpIn_wide.2 ?_)
  go_wp2_with fail
  clear zf zs1 zs2
  obtain ⟨X, hX⟩ : ∃ X, X = Y.alloc (Obj.cells zN5 77) := ⟨_, rfl⟩
  have A2 := Lib.hid (show Blk X w.heap.size 23 (vb k) by rw [hX]; exact A1.out.alloc _)
  have C2 := Lib.hid (show Blk X (w.heap.size + 1) 49 zT by rw [hX]; exact C1.out.alloc _)
  have R2 := Lib.hid (show Blk X gr 77 (vq R) by rw [hX]; exact R1.out.alloc _)
  have E2 := Lib.hid (show Blk X Y.heap.size 77 zN5 by rw [hX]; exact Blk.new _ _ _)
  have B3 := Lib.hid (show Below w.heap.size w X by rw [hX]; exact B2.out.alloc B2.out.size _)
  have G3 := Lib.hid (show gr < Y.heap.size from R1.out.lt)
  rw [← hX]
  clear hX A1 C1 R1 B2
  generalize Y.heap.size = gh at *
  refine wpIn_seq ?_
  refine wpIn_seq (wpIn_wide.2 ?_)
  go_wp2_with (first
    | (go_at_call 40; (refine (HCON.out X B3.out).mono ?_); rintro e w2 ⟨v1, rfl, ho, hb⟩; obtain ⟨g, A, ca, rfl, hca1, hca2, hA, hrd⟩ := ho.row; have HRD := Lib.hid hrd; have HA := Lib.hid hA; have D2 := Lib.hid hb; have CA1 := Lib.hid hca1; have CA2 := Lib.hid hca2; clear hA hb ho hrd hca1 hca2)
    | (go_at_call 39; (refine (chunk_c A m.length ca _).mono ?_); rintro e w3 ⟨rfl, h3⟩; have X3 := Lib.hid h3; clear h3))
  have hV : Below X.heap.size X w3 := by rw [X3.out]; exact (D2.out.alloc D2.out.size _).alloc (by simp; have := D2.out.size; omega) _
  have A3 := Lib.hid (A2.out.below hV A2.out.lt)
  have C3 := Lib.hid (C2.out.below hV C2.out.lt)
  have R3 := Lib.hid (R2.out.below hV R2.out.lt)
  have E3 := Lib.hid (E2.out.below hV E2.out.lt)
  have B4 := Lib.hid (B3.out.trans (hV.mono B3.out.size))
  have HA3 := Lib.hid (show 0 < m.length → A = some ⟨g, 0, none⟩ ∧ g ≠ gh from fun h => ⟨(HA.out h).1, by have := (HA.out h).2; have := E2.out.lt; omega⟩)
  have hz3 : w3.heap.size = w2.heap.size + 1 + 1 := by rw [X3.out]; simp
  have HRD3 := Lib.hid (show Rd w3 w2.heap.size A (byt m) from by rw [X3.out]; exact HRD.out.below (((Below.refl _ _).alloc (Nat.le_refl _) _).alloc (by simp) _))
  have hb1 : w3.cell? ⟨w2.heap.size, 0, none⟩ = some (.slice A m.length ca) := by
    have h1 := (Blk.new w2 26 #[.slice A m.length ca]).alloc (Obj.cells #[Value.int .i64 16] 3)
    rw [X3.out]; exact h1.cell 0
  have hb2 : w3.cell? ⟨w2.heap.size + 1, 0, none⟩ = some (.int .i64 16) := by
    have h1 := Blk.new (w2.alloc (Obj.cells #[.slice A m.length ca] 26)) 3 #[Value.int .i64 16]
    rw [show (w2.alloc (Obj.cells #[.slice A m.length ca] 26)).heap.size = w2.heap.size + 1 by simp] at h1
    rw [X3.out]; exact h1.cell 0
  have hgh : gh < w2.heap.size := Nat.lt_of_lt_of_le E2.out.lt D2.out.size
  clear A2 C2 R2 E2 B3 HA HRD X3 D2 hV HCON HCL
  have HZ3 := Lib.hid hz3
  have HGH := Lib.hid hgh
  gi_wp2
  refine wpIn_rangeFunc_ownF (n := 8) rfl (by decide) (gf := 51) (lb := #[.pointer (some ⟨w2.heap.size, 0, none⟩), .pointer (some ⟨w2.heap.size + 1, 0, none⟩)]) rfl trivial (enters_of Tryd.func51 (by kernel_rfl) rfl)
    (chunk_stops 7 w2.heap.size (w2.heap.size + 1) g A m.length ca (KeptBut w3.heap.size gh) (fun P Q v h hc => h.cell (by show w2.heap.size < _; omega) (by show w2.heap.size ≠ gh; omega) hc) (fun P Q v h hc => h.cell (by show w2.heap.size + 1 < _; omega) (by show w2.heap.size + 1 ≠ gh; omega) hc) (fun h => (HA3.out h).1) (by decide) (by omega) CA1.out CA2.out w3 (by omega) (by omega) hb1 hb2)
    (fun h1 h2 i hi hn => (h2 i hi hn).trans (h1 i hi hn)) (fun W l o o' hl _ _ _ i hi hn => World.putObj_heap_other (by omega)) (Below.refl _ _) (fun _ => rfl)
    (fun pre W => TagI w3 gh (polF (V5 R) m pre) W)
    (fun _ _ _ => False)
    (TagI.own (fun pre => polF (V5 R) m pre) (by omega) (Nat.le_refl _))
    (fun _ _ _ _ _ hs _ _ => hs)
    ⟨World.grownBy.refl _ _, zL5, rfl, ⟨by decide, by decide, by decide, by decide, by decide⟩, rfl, E3.out⟩
    (fun x => { tmps := #[.agg (vb k), pv, .pointer (some ⟨w.heap.size, 0, none⟩), undef, .pointer (some ⟨w.heap.size + 1, 0, none⟩), .pointer (some ⟨gr, 0, none⟩), .pointer (some ⟨gh, 0, none⟩), chunkV g m.length x, undef, .agg (byt k).toArray, .agg (vq R), pv, .slice A m.length ca, .func (.func 51) #[] #[.pointer (some ⟨w2.heap.size, 0, none⟩), .pointer (some ⟨w2.heap.size + 1, 0, none⟩)], chunkV g m.length x, undef, undef, undef, undef, undef, undef, undef, undef, undef, undef, undef, undef, undef, undef, undef], defers := [] }) ?assign ?body ?done ?stop
  case assign =>
    intro l x W K hK
    gi_wp2
    exact hK
  case body =>
    rintro l pre x W hI _
    obtain ⟨H, h5, hbl, hv, hE⟩ := hI.ex
    have g3 := hI.gr
    have HG3 := Lib.hid g3
    have RW := Lib.hid (show Blk W gr 77 (vq R) from (g3.block gr R3.out.lt (by intro e; injection e with e; have := G3.out; omega)).trans R3.out)
    have EW := Lib.hid hE
    have H5 := Lib.hid h5
    have HBL := Lib.hid hbl
    have HV := Lib.hid hv
    have hx := x.2
    obtain ⟨off, hoff⟩ : ∃ off, off = 16 * x.1 := ⟨_, rfl⟩
    obtain ⟨bl, hbk⟩ : ∃ bl, bl = blkA m x.1 := ⟨_, rfl⟩
    obtain ⟨n, hn⟩ : ∃ n, n = bl.length := ⟨_, rfl⟩
    have hnm : n = min 16 (m.length - off) := by rw [hn, hbk, hoff]; simp [blkA]
    have hcv : chunkV g m.length x = .slice (some ⟨g, off, none⟩) n n := by rw [hnm, hoff]; rfl
    have hn16 : n ≤ 16 := by rw [hnm]; exact Nat.min_le_left _ _
    have HBK := Lib.hid hbk
    have HN := Lib.hid hn
    have hdat : ∀ j u, (byt bl)[j]? = some u → W.cell? (Addr.add ⟨g, off, none⟩ j) = some u := fun j u hu => by
      obtain ⟨hAe, hgn⟩ := HA3.out (by omega)
      have hj : j < 16 := by
        rcases Nat.lt_or_ge j 16 with h | h
        · exact h
        · rw [List.getElem?_eq_none (by rw [byt_len, ← hn]; omega)] at hu; cases hu
      have hu2 : (byt m)[off + j]? = some u := by
        rw [hbk] at hu
        unfold byt blkA at *
        rw [List.map_take, List.map_drop, List.getElem?_take_of_lt hj, List.getElem?_drop] at hu
        rw [hoff]; exact hu
      obtain ⟨ad, e, hb, hc⟩ := HRD3.out (fun h0 => by rw [h0] at hu2; cases hu2)
      rw [hAe] at e
      injection e with e
      subst e
      have h1 := hc _ u hu2
      rw [Addr.add_mid, Nat.zero_add] at h1
      rw [Addr.add_mid]
      refine (World.cell?_of_block ?_).trans h1
      exact g3.block g (Nat.lt_of_lt_of_le hb (by omega)) (by intro e; injection e with e; omega)
    have zg := zero_b17
    have zg1 : (vb zl17).size = 17 := by rfl
    have hcopy := copy_b (W.alloc (Obj.cells (vb zl17) 83)) W.heap.size 83 zl17 17 17 n ⟨g, off, none⟩ bl n (by rw [← hn]; omega) (Blk.new _ _ _) (fun j u hu => (((Below.refl _ W).alloc (Nat.le_refl _) _).cell (cell_lt (hdat j u hu))).trans (hdat j u hu)) (by show n ≤ 17; omega)
    rw [← hn] at hcopy
    obtain ⟨D0, hD0⟩ : ∃ D0, D0 = bl.take n ++ zl17.drop n := ⟨_, rfl⟩
    rw [← hD0] at hcopy
    obtain ⟨Y2, hY2⟩ : ∃ Y2, Y2 = (W.alloc (Obj.cells (vb zl17) 83)).setRow W.heap.size (vb D0) := ⟨_, rfl⟩
    rw [← hY2] at hcopy
    have hDl : D0.length = 17 := by rw [hD0, List.length_append, List.length_take, List.length_drop]; show min n bl.length + (17 - n) = 17; omega
    have b0 : Blk Y2 W.heap.size 83 (vb D0) := by rw [hY2]; exact setRow_heap _ _ _ _ _ (0, 0) (heap_alloc_new _ _)
    have d0 := (b0.cell n).trans (vb_at D0 n (by omega))
    have e0 := b0.free n
    have B0' := Lib.hid b0
    have HBY := Lib.hid (show Below W.heap.size W Y2 by rw [hY2]; exact below_row ((Below.refl _ _).alloc (Nat.le_refl _) _) (Nat.le_refl _) _)
    have hnum : number (D0.set n 1) = blkV bl := by
      have e1 : bl.take n = bl := by rw [hn]; exact List.take_length
      have e2 : D0.set n 1 = bl ++ ((zl17.drop n).set 0 1) := by rw [hD0, e1, List.set_append_right _ _ (by omega), hn, Nat.sub_self]
      rw [e2, number_append, ← hn, blkV, ← hn]
      have e3 : number ((zl17.drop n).set 0 1) = 1 := by
        have : n = 0 ∨ n = 1 ∨ n = 2 ∨ n = 3 ∨ n = 4 ∨ n = 5 ∨ n = 6 ∨ n = 7 ∨ n = 8 ∨ n = 9 ∨ n = 10 ∨ n = 11 ∨ n = 12 ∨ n = 13 ∨ n = 14 ∨ n = 15 ∨ n = 16 := by omega
        rcases this with h | h | h | h | h | h | h | h | h | h | h | h | h | h | h | h | h <;> rw [h] <;> rfl
      rw [e3, Nat.mul_one]
    have HNUM := Lib.hid hnum
    have HDL := Lib.hid (show (D0.set n 1).length = 17 by rw [List.length_set]; exact hDl)
    have HDB := Lib.hid (show ∀ c ∈ D0.set n 1, c < 256 from fun c hc => by
      rcases List.mem_or_eq_of_mem_set hc with h | h
      · rw [hD0] at h
        rcases List.mem_append.1 h with h | h
        · have h2 := List.mem_of_mem_take h
          rw [hbk] at h2
          exact HM.out c (List.mem_of_mem_drop (List.mem_of_mem_take h2))
        · have := List.mem_of_mem_drop h
          rw [List.eq_of_mem_replicate this]; decide
      · rw [h]; decide)
    have HBV := Lib.hid (show blkV bl < 2 * 340282366920938463463374607431768211456 by
      unfold blkV
      have h1 := number_lt bl (fun c hc => by rw [hbk] at hc; exact HM.out c (List.mem_of_mem_drop (List.mem_of_mem_take hc)))
      have h2 : 256 ^ bl.length ≤ 256 ^ 16 := Nat.pow_le_pow_right (by decide) (by omega)
      have h3 : 256 ^ 16 = 340282366920938463463374607431768211456 := by decide
      omega)
    have q1 : (n : Int) < 17 := by omega
    clear hD0 hDl b0 hY2 hnum hdat hbk hn hnm hv hbl h5 hE hI g3 hb1 hb2 ksz hoff

    rw [hcv]
    clear hcv
    gi_wp2
    obtain ⟨V1, hV1⟩ : ∃ V1, V1 = Y2.setCell ⟨W.heap.size, n, none⟩ (.int .u8 1) := ⟨_, rfl⟩
    rw [← hV1]
    have HBX0 := Lib.hid (show Below W.heap.size W V1 by rw [hV1]; exact HBY.out.setCell (Nat.le_refl _) _)
    have HS0 := Lib.hid (show Blk V1 W.heap.size 83 (vb (D0.set n 1)) by
      have h1 := B0'.out.set_ n (.int .u8 (1 : Nat))
      rw [vb_set] at h1
      rw [hV1]; exact h1)
    have HRW := Lib.hid (show Blk V1 gr 77 (vq R) by exact RW.out.below HBX0.out RW.out.lt)
    have HEW := Lib.hid (show Blk V1 gh 77 (vq H) by exact EW.out.below HBX0.out EW.out.lt)
    have hghW : gh < W.heap.size := EW.out.lt
    have hgrW : gr < W.heap.size := RW.out.lt
    clear hcopy d0 e0 hV1 zg zg1 q1
    generalize D0.set n 1 = BL at *
    have HLC := Lib.hid (fun w' => by have h := limbs_c BL w' HDL.out HDB.out; rw [HNUM.out] at h; exact h)
    have bR : lbel R 67108864 67108864 := by
      rw [HRR.out]
      refine limbL_below _ ?_
      have h1 := number_lt (clampL k) (fun c hc => by
        obtain ⟨i, _, rfl⟩ := List.mem_map.1 hc
        have := getD_lt HL.out i
        unfold clampB
        split
        · omega
        · split <;> omega)
      have h2 : (clampL k).length = 16 := rfl
      rw [h2] at h1
      omega
    have bA : lbel (addL H (limbL (blkV bl))) 268435456 268435456 := addL_below _ _ HBL.out (limbL_below _ HBV.out)
    have HAC := Lib.hid (fun w' => add_c H (limbL (blkV bl)) w' H5.out rfl (fun j hj => by
      have h1 : H.getD j 0 < 67125248 := by
        obtain ⟨b0, b1, b2, b3, b4⟩ := HBL.out
        have : j = 0 ∨ j = 1 ∨ j = 2 ∨ j = 3 ∨ j = 4 := by omega
        rcases this with rfl | rfl | rfl | rfl | rfl <;> omega
      have h2 := lbel_at (limbL_below _ HBV.out) j hj
      omega))
    obtain ⟨H2, hH2⟩ : ∃ H2, H2 = rndL H R (blkV bl) := ⟨_, rfl⟩
    have HTC := Lib.hid (fun w' => by have h := times_c (addL H (limbL (blkV bl))) R w' rfl HR5.out bA bR; rw [show carL (mulAll (addL H (limbL (blkV bl))) R 5) = H2 by rw [hH2, rndL]] at h; exact h)
    have HRN := Lib.hid (rndL_ok H R (blkV bl) _ HR5.out HBL.out bR HBV.out HV.out)
    have hcl : H2.length = 5 := by rw [hH2]; rfl
    rw [← hH2] at HRN
    clear hH2
    have HCL2 := Lib.hid hcl
    have HNS := Lib.hid (numSz hcl)
    have HNQ := Lib.hid (show (vq H).size = (vq H2).size by rw [vq_size, vq_size, H5.out, hcl])
    clear bR bA hcl
    have hne1 : W.heap.size ≠ gh := by omega
    have hne2 : gr ≠ gh := by have := G3.out; omega
    have fin : ∀ w7 : World, Below W.heap.size W w7 → Blk w7 gh 77 (vq H) → KeepsOthers W (w7.setRow gh (vq H2)) ∧ KeptBut w3.heap.size gh W (w7.setRow gh (vq H2)) ∧ TagI w3 gh (polF (V5 R) m (pre ++ [x])) (w7.setRow gh (vq H2)) := fun w7 hb hl => by
      have hgr : W.grownBy (w7.setRow gh (vq H2)) (some gh) := ⟨hb.os, hb.tape, hb.output, by simp [World.setRow]; exact hb.size, fun i hi hn => (setRow_other _ _ _ _ (fun e => hn (by rw [e]))).trans (hb.block i hi)⟩
      refine ⟨KeepsOthers.of_grownBy hgr (fun j o e ho => ?_), fun i hi hn => hgr.block i (by have := HG3.out.size; omega) (fun e => hn (by injection e)), ⟨HG3.out.os.symm ▸ hgr.os, HG3.out.tape.symm ▸ hgr.tape, HG3.out.output.symm ▸ hgr.output, Nat.le_trans HG3.out.size hgr.size, fun i hi hn => (hgr.block i (Nat.lt_of_lt_of_le hi HG3.out.size) hn).trans (HG3.out.block i hi hn)⟩, _, HCL2.out, HRN.out.1, ?_, setRow_heap _ _ (vq H) _ _ (0, 0) hl⟩
      · injection e with e
        subst e
        rw [show W.heap[gh]? = _ from EW.out] at ho
        injection ho with ho
        rw [← ho]; rfl
      · rw [polF_snoc, HRN.out.2, HBK.out]
    have FIN := Lib.hid fin
    clear fin
    have fin := FIN.out
    refine round_held (S := fun w' => Blk w' W.heap.size 83 (vb BL) ∧ Blk w' gr 77 (vq R)) (by kernel_rfl) (by kernel_rfl) (fun ⟨_, _, h⟩ => h) ?_
    show wpAnyH _ _ _ _ _ 7 _ _ V1.drew
    have HSX : Blk V1.drew W.heap.size 83 (vb BL) ∧ Blk V1.drew gr 77 (vq R) := ⟨HS0.out, HRW.out⟩
    have HBX : Below W.heap.size W V1.drew := HBX0.out.drew
    have HLX : Blk V1.drew gh 77 (vq H) := HEW.out
    have sk : ∀ a b : World, (Blk a W.heap.size 83 (vb BL) ∧ Blk a gr 77 (vq R)) → Below a.heap.size a b → (Blk b W.heap.size 83 (vb BL) ∧ Blk b gr 77 (vq R)) := fun a b h hb => ⟨h.1.below hb h.1.lt, h.2.below hb h.2.lt⟩
    refine anyH_val 1 rfl (by kernel_rfl) (by kernel_rfl) (by kernel_rfl) (fun _ _ _ _ h => h) rfl (.agg (vb BL)) (fun w' hw' => load_run 83 (.tmp 8) rfl W.heap.size 0 rfl (byt BL) _ (by have := rangeAt_blk hw'.1; simpa [vb] using this) Tryd.underlying83 rfl (b17Ln HDL.out)) HSX _ (by conv => lhs; arg 2; whnf) ?_
    refine anyH_val 4 rfl (by kernel_rfl) (by kernel_rfl) (by kernel_rfl) (fun _ _ _ _ h => h) rfl (.agg (vq R)) (fun w' hw' => load_run 77 (.tmp 5) rfl gr 0 rfl (q64 R) _ (by have := rangeAt_blk hw'.2; simpa [vq] using this) Tryd.underlying77 rfl (by rw [q64_len, HR5.out]; kernel_rfl)) HSX _ (by conv => lhs; arg 2; whnf) ?_
    simp only [Act.put, List.setIfInBounds_toArray, List.set_cons_succ, List.set_cons_zero]
    refine anyH_two 0 2 (by kernel_rfl) rfl rfl rfl rfl ?_ ?_
    · skip
      refine op_value (load_run 77 (.tmp 6) rfl gh 0 rfl (q64 H) _ (by have := rangeAt_blk HLX; simpa [vq] using this) Tryd.underlying77 rfl (by rw [q64_len, H5.out]; kernel_rfl)) _ (by conv => lhs; arg 2; whnf) ⟨HSX, ?_⟩
      refine anyH_op 2 (by kernel_rfl) rfl rfl ?_
      refine op_call (by kernel_rfl) _ (fun v => by conv => lhs; arg 2; whnf) ((HLC.out _).mono ?_)
      rintro e w5 ⟨rfl, hb5⟩
      have HSX := sk _ _ HSX hb5
      have HLX := HLX.below hb5 HLX.lt
      have HBX := HBX.trans (hb5.mono HBX.size)
      clear hb5
      refine ⟨_, rfl, HSX, ?_⟩
      simp only [Act.put, List.setIfInBounds_toArray, List.set_cons_succ, List.set_cons_zero]
      refine anyH_op 3 (by kernel_rfl) rfl rfl ?_
      refine op_call (by kernel_rfl) _ (fun v => by conv => lhs; arg 2; whnf) ((HAC.out _).mono ?_)
      rintro e w6 ⟨rfl, hb6⟩
      have HSX := sk _ _ HSX hb6
      have HLX := HLX.below hb6 HLX.lt
      have HBX := HBX.trans (hb6.mono HBX.size)
      clear hb6
      refine ⟨_, rfl, HSX, ?_⟩
      simp only [Act.put, List.setIfInBounds_toArray, List.set_cons_succ, List.set_cons_zero]
      refine anyH_op 5 (by kernel_rfl) rfl rfl ?_
      refine op_call (by kernel_rfl) _ (fun v => by conv => lhs; arg 2; whnf) ((HTC.out _).mono ?_)
      rintro e w7 ⟨rfl, hb7⟩
      have HSX := sk _ _ HSX hb7
      have HLX := HLX.below hb7 HLX.lt
      have HBX := HBX.trans (hb7.mono HBX.size)
      clear hb7
      refine ⟨_, rfl, HSX, ?_⟩
      simp only [Act.put, List.setIfInBounds_toArray, List.set_cons_succ, List.set_cons_zero]
      refine anyH_op 6 (by kernel_rfl) rfl rfl ?_
      refine wp_store_row 77 (.tmp 6) (.tmp 24) rfl gh (vq H2) rfl rfl 77 (vq H) HLX HNS.out HNQ.out (vq_one _) ?_
      refine ⟨⟨(setRow_other _ _ _ _ hne1).trans HSX.1, (setRow_other _ _ _ _ hne2).trans HSX.2⟩, ?_⟩
      refine wpAnyH_done (by kernel_rfl) ?_ _
      exact fin _ HBX HLX
    · skip
      refine op_call (by kernel_rfl) _ (fun v => by conv => lhs; arg 2; whnf) ((HLC.out _).mono ?_)
      rintro e w5 ⟨rfl, hb5⟩
      have HSX := sk _ _ HSX hb5
      have HLX := HLX.below hb5 HLX.lt
      have HBX := HBX.trans (hb5.mono HBX.size)
      clear hb5
      refine ⟨_, rfl, HSX, ?_⟩
      refine anyH_op 0 (by kernel_rfl) rfl rfl ?_
      refine op_value (load_run 77 (.tmp 6) rfl gh 0 rfl (q64 H) _ (by have := rangeAt_blk HLX; simpa [vq] using this) Tryd.underlying77 rfl (by rw [q64_len, H5.out]; kernel_rfl)) _ (by conv => lhs; arg 2; whnf) ⟨HSX, ?_⟩
      simp only [Act.put, List.setIfInBounds_toArray, List.set_cons_succ, List.set_cons_zero]
      refine anyH_op 3 (by kernel_rfl) rfl rfl ?_
      refine op_call (by kernel_rfl) _ (fun v => by conv => lhs; arg 2; whnf) ((HAC.out _).mono ?_)
      rintro e w6 ⟨rfl, hb6⟩
      have HSX := sk _ _ HSX hb6
      have HLX := HLX.below hb6 HLX.lt
      have HBX := HBX.trans (hb6.mono HBX.size)
      clear hb6
      refine ⟨_, rfl, HSX, ?_⟩
      simp only [Act.put, List.setIfInBounds_toArray, List.set_cons_succ, List.set_cons_zero]
      refine anyH_op 5 (by kernel_rfl) rfl rfl ?_
      refine op_call (by kernel_rfl) _ (fun v => by conv => lhs; arg 2; whnf) ((HTC.out _).mono ?_)
      rintro e w7 ⟨rfl, hb7⟩
      have HSX := sk _ _ HSX hb7
      have HLX := HLX.below hb7 HLX.lt
      have HBX := HBX.trans (hb7.mono HBX.size)
      clear hb7
      refine ⟨_, rfl, HSX, ?_⟩
      simp only [Act.put, List.setIfInBounds_toArray, List.set_cons_succ, List.set_cons_zero]
      refine anyH_op 6 (by kernel_rfl) rfl rfl ?_
      refine wp_store_row 77 (.tmp 6) (.tmp 24) rfl gh (vq H2) rfl rfl 77 (vq H) HLX HNS.out HNQ.out (vq_one _) ?_
      refine ⟨⟨(setRow_other _ _ _ _ hne1).trans HSX.1, (setRow_other _ _ _ _ hne2).trans HSX.2⟩, ?_⟩
      refine wpAnyH_done (by kernel_rfl) ?_ _
      exact fin _ HBX HLX
  case done =>
    rintro D ys W hD rfl hI hK
    obtain ⟨H, h5, hbl, hv, hE⟩ := hI.ex
    have g3 := hI.gr
    have HR := HRR.out
    rw [polF_upto _ _ _ (by omega), HR, limbL_V] at hv
    have HE := Lib.hid (endL_ok H _ hbl hv)
    have H5 := Lib.hid h5
    have HBL := Lib.hid hbl
    have EW := Lib.hid hE
    have AW := Lib.hid (show Blk W w.heap.size 23 (vb k) from (g3.block _ A3.out.lt (by intro e; injection e with e; have := G3.out; have := W1.out; omega)).trans A3.out)
    have CW := Lib.hid (show Blk W (w.heap.size + 1) 49 zT from (g3.block _ C3.out.lt (by intro e; injection e with e; have := G3.out; have := W1.out; omega)).trans C3.out)
    have BW := Lib.hid (show Below w.heap.size w W from B4.out.trans ((Below.refl _ _).grown g3 B4.out.size (fun k hk => by injection hk with hk; have := G3.out; have := W1.out; omega)))
    have DK := Lib.hid hK
    have HDD := Lib.hid hD
    have hne3 : w.heap.size + 1 ≠ gh := by have := G3.out; have := W1.out; omega
    have hneD : D ≠ w.heap.size + 1 := by have := C3.out.lt; omega
    clear hI h5 hbl hv hE g3 hK hD HR ksz hb1 hb2
    have HKL := Lib.hid (show (k.drop 16).length = 16 by rw [List.length_drop, HK.out])
    have HKB := Lib.hid (show ∀ c ∈ k.drop 16, c < 256 from fun c hc => HL.out c (List.mem_of_mem_drop hc))
    have HFK := Lib.hid (show form (number (k.drop 16)) 16 = k.drop 16 by
      have h := form_number (k.drop 16) HKB.out
      rw [HKL.out] at h; exact h)
    have HPL := Lib.hid (fun (w' : World) (h : Blk w' w.heap.size 23 (vb k)) => plus_c (V5 (endL H)) (number (k.drop 16)) ⟨w.heap.size, 16, none⟩ 16 w' (by
      rw [HFK.out]
      intro hn
      refine ⟨_, rfl, h.lt, fun j u hu => ?_⟩
      rw [Addr.add_mid, h.cell]
      unfold byt at hu
      rw [List.map_drop, List.getElem?_drop] at hu
      simpa [vb, byt] using hu) (by decide))
    have HFI := Lib.hid (fun w' => final_c H w' H5.out HBL.out)
    have hel : (endL H).length = 5 := by
      unfold endL finL
      split
      · rfl
      · rfl
    have HBY := Lib.hid (fun w' => bytes_c (endL H) w' hel HE.out.1)
    clear hel
    obtain ⟨E, hE⟩ : ∃ E, E = endL H := ⟨_, rfl⟩
    rw [← hE] at HPL HFI HBY HE
    clear hE
    have hTl : (form (V5 E + number (k.drop 16)) 16).length = 16 := form_len _ _
    have HT1 := Lib.hid (tagSz hTl)
    have HT2 := Lib.hid (show zT.size = (vb (form (V5 E + number (k.drop 16)) 16)).size by rw [vb_size, hTl]; rfl)
    have HTL := Lib.hid hTl
    clear hTl
    have HPT := Lib.hid (show form (V5 E + number (k.drop 16)) 16 = polT k m by
      rw [polT, HE.out.2, List.take_of_length_le (by rw [HKL.out]; exact Nat.le_refl _)]
      exact (form_mod 16 _).symm)
    generalize number (k.drop 16) = KN at *
    generalize V5 E = EN at *
    gi_wp2
    refine wpIn_wide.2 ?_
    refine wp_region_noPanic ?_
    refine wp_region_held (S := fun w' => Blk w' gh 77 (vq H)) (by kernel_rfl) ?_
    show wpAnyH _ _ _ _ _ 6 _ _ W.drew
    have HSX : Blk W.drew gh 77 (vq H) := EW.out
    have HBX : Below W.heap.size W W.drew := (Below.refl _ _).drew
    have HAX : Blk W.drew w.heap.size 23 (vb k) := AW.out
    have HCX : Blk W.drew (w.heap.size + 1) 49 zT := CW.out
    refine anyH_val 0 rfl (by kernel_rfl) (by kernel_rfl) (by kernel_rfl) (fun _ _ _ _ h => h) rfl (.agg (vq H)) (fun w' hw' => load_run 77 (.tmp 6) rfl gh 0 rfl (q64 H) _ (by have := rangeAt_blk hw'; simpa [vq] using this) Tryd.underlying77 rfl (by rw [q64_len, H5.out]; kernel_rfl)) HSX _ (by conv => lhs; arg 2; whnf) ?_
    simp only [Act.put, List.setIfInBounds_toArray, List.set_cons_succ, List.set_cons_zero]
    refine anyH_quiet 3 rfl (by kernel_rfl) (by kernel_rfl) (by kernel_rfl) (fun _ _ _ _ h => h) rfl rfl HSX ?_
    intro K hK
    conv => arg 2; whnf
    go_big_quiet_op
    refine ⟨_, fun _ _ => rfl, ?_⟩
    refine hK _ ?_
    clear hK K
    refine anyH_op 1 (by kernel_rfl) rfl rfl ?_
    refine op_call (by kernel_rfl) _ (fun v => by conv => lhs; arg 2; whnf) ((HFI.out _).mono ?_)
    rintro e w5 ⟨rfl, hb⟩
    have HSX := HSX.below hb HSX.lt
    have HAX := HAX.below hb HAX.lt
    have HCX := HCX.below hb HCX.lt
    have HBX := HBX.trans (hb.mono HBX.size)
    clear hb
    refine ⟨_, rfl, HSX, ?_⟩
    simp only [Act.put, List.setIfInBounds_toArray, List.set_cons_succ, List.set_cons_zero]
    refine anyH_op 2 (by kernel_rfl) rfl rfl ?_
    refine op_call (by kernel_rfl) _ (fun v => by conv => lhs; arg 2; whnf) ((HBY.out _).mono ?_)
    rintro e w6 ⟨rfl, hb⟩
    have HSX := HSX.below hb HSX.lt
    have HAX := HAX.below hb HAX.lt
    have HCX := HCX.below hb HCX.lt
    have HBX := HBX.trans (hb.mono HBX.size)
    clear hb
    refine ⟨_, rfl, HSX, ?_⟩
    simp only [Act.put, List.setIfInBounds_toArray, List.set_cons_succ, List.set_cons_zero]
    refine anyH_op 4 (by kernel_rfl) rfl rfl ?_
    refine op_call (by kernel_rfl) _ (fun v => by conv => lhs; arg 2; whnf) ((HPL.out _ HAX).mono ?_)
    rintro e w7 ⟨rfl, hb⟩
    have HSX := HSX.below hb HSX.lt
    have HAX := HAX.below hb HAX.lt
    have HCX := HCX.below hb HCX.lt
    have HBX := HBX.trans (hb.mono HBX.size)
    clear hb
    refine ⟨_, rfl, HSX, ?_⟩
    simp only [Act.put, List.setIfInBounds_toArray, List.set_cons_succ, List.set_cons_zero]
    refine anyH_op 5 (by kernel_rfl) rfl rfl ?_
    refine wp_store_row 49 (.tmp 4) (.tmp 29) rfl (w.heap.size + 1) (vb (form (EN + KN) 16)) rfl rfl 49 zT HCX HT1.out HT2.out (vb_one _) ?_
    refine ⟨(setRow_other _ _ _ _ (fun e => hne3 e.symm)).trans HSX, ?_⟩
    refine wpAnyH_done (by kernel_rfl) ?_ _
    refine NoPanic.normal ?_
    have HRES := Lib.hid (show Blk (w7.setRow (w.heap.size + 1) (vb (form (EN + KN) 16))) (w.heap.size + 1) 49 (vb (form (EN + KN) 16)) from setRow_heap _ _ zT _ _ (0, 0) HCX)
    have hDW : D < W.heap.size := by
      rcases Nat.lt_or_ge D W.heap.size with h | h
      · exact h
      · have h2 := DK.out; rw [Array.getElem?_eq_none h] at h2; cases h2
    have HDK := Lib.hid (show (w7.setRow (w.heap.size + 1) (vb (form (EN + KN) 16))).heap[D]? = some (.deferred (some [])) from (setRow_other _ _ _ _ hneD).trans ((HBX.block D hDW).trans DK.out))
    have HBF := Lib.hid (show Below w.heap.size w (w7.setRow (w.heap.size + 1) (vb (form (EN + KN) 16))) from below_row (BW.out.trans (HBX.mono BW.out.size)) (by omega) _)
    have hD8 : w.heap.size + 1 < D := by have := C3.out.lt; have := HDD.out; omega
    generalize w7.setRow (w.heap.size + 1) (vb (form (EN + KN) 16)) = w8 at *
    clear HSX HAX HCX HBX HPL HFI HBY
    gi_wp2
    refine ⟨by simp, .inl ⟨_, _, rfl, run_takeDeferred HDK.out, ?_⟩⟩
    refine ⟨_, results_cell_row rfl _ _ (w.heap.size + 1) 49 (vb (form (EN + KN) 16)) (0, 0) _ rfl ((World.putObj_heap_other (fun e => by omega)).trans HRES.out) Tryd.underlying49 rfl HT1.out, by rw [HPT.out], HBF.out.trans (belowK_b (w := w) (Nat.le_refl _) w8 D _ _ (by omega) HDK.out rfl rfl)⟩
  case stop =>
    rintro D c pre W _ _ h _
    exact h.elim
end Go.Proofs.YtfblpkjablgafaaDoor
