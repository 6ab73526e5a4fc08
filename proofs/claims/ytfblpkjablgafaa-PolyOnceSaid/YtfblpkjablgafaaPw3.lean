/- Contract: the sum of two numbers. -/
import Derived.Test.YtfblpkjablgafaaPw2
namespace Go.Proofs.Ytfblpkjablgafaa
open Go.RowKit
set_option linter.unusedVariables false
set_option linter.unusedSimpArgs false
theorem getD_set (L : List Nat) (k v j : Nat) (hk : k < L.length) : (L.set k v).getD j 0 = if j = k then v else L.getD j 0 := by
  simp only [List.getD_eq_getElem?_getD, List.getElem?_set]
  by_cases h : k = j
  · subst h; simp [hk]
  · rw [if_neg h, if_neg (fun h2 => h h2.symm)]
theorem u64_info : ∃ i, Try.prog.info? 42 = some i ∧ i.size = 1 := ⟨_, rfl, by kernel_rfl⟩
theorem run_index_num (l : List Nat) (m : Nat) (hl : l.length = 5) (hm : m < 5) (w : World) : (Instr.index 46 (.agg (vq l)) (.int .i64 (m : Int))).run Try.prog w = .ok (.int .u64 (l.getD m 0 : Nat)) w := by
  obtain ⟨i, hi, hs⟩ := u64_info
  have hu := Try.underlying46
  have hv := vq_at l m (by omega)
  simp [Instr.index, asIntOf, run_underlying hu, sizeOf, typeInfo, hi, hs, part, Sem.run_bind, hv, hm]
theorem wpList_loadN {ops : Array Oper} {rest : List Oper} {o : Oper} {a : Act} {w : World} {Q : Exit → Act → World → Prop} (hw : Region.wanted o (yielded ops a.tmps) = true) (x : Operand) (ho : o.op = .load 46 x) (g : Nat) (hx : a.eval x = .pointer (some ⟨g, 0, none⟩)) (L : List Nat)
    (hc : Blk w g 46 (vq L)) (h5 : L.length = 5) (h : wpList Try.prog ops Q rest (a.put o.dst (.agg (vq L))) w) : wpList Try.prog ops Q (o :: rest) a w :=
  wpList_loadG hw 46 x ho g 0 hx (q64 L) _ (by have := rangeAt_blk hc; simpa [vq] using this) Try.underlying46 rfl (by rw [q64_len, h5]; exact numInfo) h
structure NumSt (w wr : World) (g b : Nat) (L : List Nat) : Prop where
  len : L.length = 5
  at_ : Blk wr g 46 (vq L)
  out : Blk wr b 46 zN5
  bel : Below w.heap.size w wr
theorem NumSt.set {w wr : World} {g b : Nat} {L : List Nat} (h : NumSt w wr g b L) (k v : Nat) (hg : w.heap.size ≤ g) (hb : b ≠ g) : NumSt w (wr.setCell ⟨g, k, none⟩ (.int .u64 (v : Int))) g b (L.set k v) :=
  ⟨by rw [List.length_set]; exact h.len, by rw [← vq_set]; exact h.at_.set_ _ _, h.out.far hb _, h.bel.setCell hg _⟩
theorem numSz {L : List Nat} (h : L.length = 5) : (Try.prog.info? 46).map (·.size) = some (vq L).size := by rw [vq_size, h]; exact numInfo
set_option maxRecDepth 100000 in
set_option maxHeartbeats 4000000 in
theorem add_c (n m : List Nat) (w : World) (hn : n.length = 5) (hm : m.length = 5) (hs : ∀ j, j < 5 → n.getD j 0 + m.getD j 0 < 18446744073709551616) :
    Calls Try.prog 24 #[.agg (vq n), .agg (vq m)] w fun e w' => e = .returned (.agg (vq (addL n m))) ∧ Below w.heap.size w w' := by
  have zf := zero_num
  have zs1 : zN5.size = 5 := by rfl
  have zs2 : ¬ zN5 = #[] := by intro h; have := congrArg Array.size h; rw [zs1] at this; cases this
  have nsz : (vq n).size = 5 := by rw [vq_size, hn]
  have msz : (vq m).size = 5 := by rw [vq_size, hm]
  have HS := Lib.hid hs
  have HM := Lib.hid hm
  have HIX := fun k hk w => run_index_num m k hm hk w
  obtain ⟨Z, hZ⟩ : ∃ Z, Z = ((w.alloc (Obj.cells (vq n) 46)).alloc (Obj.cells (vq m) 46)).alloc (Obj.cells zN5 46) := ⟨_, rfl⟩
  have h1 : Blk Z (w.heap.size + 1) 46 (vq m) := by
    have h1 := (Blk.new (w.alloc (Obj.cells (vq n) 46)) 46 (vq m)).alloc (Obj.cells zN5 46)
    rw [show (w.alloc (Obj.cells (vq n) 46)).heap.size = w.heap.size + 1 by simp] at h1
    rw [hZ]; exact h1
  have h2 : Blk Z (w.heap.size + 1 + 1) 46 zN5 := by
    have h1 := Blk.new ((w.alloc (Obj.cells (vq n) 46)).alloc (Obj.cells (vq m) 46)) 46 zN5
    rw [show ((w.alloc (Obj.cells (vq n) 46)).alloc (Obj.cells (vq m) 46)).heap.size = w.heap.size + 1 + 1 by simp] at h1
    rw [hZ]; exact h1
  have A0 := Lib.hid (show NumSt w Z w.heap.size (w.heap.size + 1 + 1) n from ⟨hn, by rw [hZ]; exact ((Blk.new w _ _).alloc _).alloc _, h2, by rw [hZ]; exact (((Below.refl _ _).alloc (Nat.le_refl _) _).alloc (by simp) _).alloc (by simp; omega) _⟩)
  have E1 := Lib.hid h1
  clear h1 h2 hs
  go_enter Try.func24, Try.ntmps24
  go_upto_region 1 with fail
  rw [← hZ]
  clear hZ
  go_wp2_with (refine wpList_loadN rfl (.tmp 3) rfl (w.heap.size + 1) rfl m E1.out HM.out ?_)
  go_loopw [8] (fun i wr => ∃ (k : Nat) (L : List Nat), k ≤ 5 ∧ i = .int .i64 (k : Int) ∧ NumSt w wr w.heap.size (w.heap.size + 1 + 1) L ∧ ∀ j, j < 5 → L.getD j 0 = if j < k then n.getD j 0 + m.getD j 0 else n.getD j 0) (fun i _ => 5 - (intOf i).toNat)
  case atStart => exact ⟨0, n, by omega, rfl, A0.out, fun j _ => by simp⟩
  case round =>
    rename World => wr
    obtain ⟨k, L, hk, rfl, hst, hL⟩ := hrel
    have ST := Lib.hid hst
    by_cases hlt : k < 5
    · have q1 : (k : Int) < 5 := by omega
      have q0 := HIX k hlt
      have eo := hst.at_.cell k
      rw [vq_at _ k (by rw [hst.len]; exact hlt), hL k hlt, if_neg (Nat.lt_irrefl k)] at eo
      have ef := hst.at_.free k
      have hsum := HS.out k hlt
      have HLK := Lib.hid hL
      clear hst hL HIX
      generalize hx : n.getD k 0 = x at *
      generalize hy : m.getD k 0 = y at *
      have HX := Lib.hid hx
      have HY := Lib.hid hy
      clear hx hy
      obtain ⟨v, hv⟩ : ∃ v, v = x + y := ⟨_, rfl⟩
      have hvi : (x : Int) + (y : Int) = (v : Int) := by omega
      have HVI := Lib.hid hvi
      have HV := Lib.hid hv
      clear hv hvi
      go_wp2_with fail
      refine ⟨⟨k + 1, L.set k v, by omega, rfl, by rw [HVI.out]; exact ST.out.set k v (Nat.le_refl _) (by omega), fun j hj => ?_⟩, by simp only [intOf]; omega⟩
      rw [getD_set _ _ _ _ (by rw [ST.out.len]; exact hlt), HLK.out j hj, HV.out, ← HX.out, ← HY.out]
      by_cases hjk : j = k
      · subst hjk; rw [if_pos rfl, if_pos (Nat.lt_succ_self _)]
      · rw [if_neg hjk]
        by_cases h3 : j < k
        · rw [if_pos h3, if_pos (by omega)]
        · rw [if_neg h3, if_neg (by omega)]
    · obtain rfl : k = 5 := by omega
      have HE := Lib.hid (show L = addL n m by
        rw [five_eq L hst.len, hL 0 (by decide), hL 1 (by decide), hL 2 (by decide), hL 3 (by decide), hL 4 (by decide)]; rfl)
      clear hL
      have HSZ := Lib.hid (numSz hst.len)
      have HQ := Lib.hid (show (vq L).size = zN5.size by rw [vq_size, hst.len]; rfl)
      clear hst
      go_wp2_with (first
        | (refine wpList_loadN rfl (.tmp 2) rfl w.heap.size rfl L ST.out.at_ ST.out.len ?_)
        | (refine wpList_store_rowTo rfl 46 (.tmp 4) (.tmp 19) rfl rfl (w.heap.size + 1 + 1) (vq L) rfl rfl 46 zN5 ST.out.out HSZ.out HQ.out.symm (vq_one _) ?_))
      first
        | rw [Exit.noGoto_ret]
        | skip
      refine bodyPost_ret (results_cell_row rfl _ _ (w.heap.size + 1 + 1) 46 (vq L) (0, 0) _ rfl (setRow_heap _ _ zN5 _ 46 (0, 0) ST.out.out) Try.underlying46 rfl HSZ.out) rfl ?_
      exact ⟨by rw [HE.out], below_row ST.out.bel (by omega) _⟩
end Go.Proofs.Ytfblpkjablgafaa
