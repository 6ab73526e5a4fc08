/- Contract: the document's 'least'. -/
import Derived.Test.YtfblpkjablgafaaRp3
namespace Go.Proofs.Ytfblpkjablgafaa
open Go.RowKit
set_option linter.unusedVariables false
set_option linter.unusedSimpArgs false
theorem ten_eq (n : List Nat) (h : n.length = 10) : n = [n.getD 0 0, n.getD 1 0, n.getD 2 0, n.getD 3 0, n.getD 4 0, n.getD 5 0, n.getD 6 0, n.getD 7 0, n.getD 8 0, n.getD 9 0] := by
  match n, h with
  | [d0, d1, d2, d3, d4, d5, d6, d7, d8, d9], _ => rfl
/-- are the digits the greatest ones, as far as k? -/
def topB (D : List Nat) (k : Nat) : Bool := decide (8187 ≤ D.getD 0 0) && (List.range k).all fun j => decide (j = 0 ∨ D.getD j 0 = 8191)
theorem topB_succ (D : List Nat) (k : Nat) (hk : 0 < k) : topB D (k + 1) = (topB D k && decide (D.getD k 0 = 8191)) := by
  have e : decide (k = 0 ∨ D.getD k 0 = 8191) = decide (D.getD k 0 = 8191) := by
    have : k ≠ 0 := by omega
    simp [this]
  simp only [topB, List.range_succ, List.all_append, List.all_cons, List.all_nil, Bool.and_true, e, Bool.and_assoc]
theorem topB_one (D : List Nat) : topB D 1 = decide (8187 ≤ D.getD 0 0) := by simp [topB]
theorem topB_ten (D : List Nat) : topB D 10 = true ↔ 8187 ≤ D.getD 0 0 ∧ ∀ j, 0 < j → j < 10 → D.getD j 0 = 8191 := by
  simp only [topB, Bool.and_eq_true, decide_eq_true_eq, List.all_eq_true, List.mem_range]
  constructor
  · rintro ⟨h1, h2⟩
    exact ⟨h1, fun j h3 h4 => (h2 j h4).resolve_left (by omega)⟩
  · rintro ⟨h1, h2⟩
    refine ⟨h1, fun j hj => ?_⟩
    rcases Nat.eq_zero_or_pos j with h3 | h3
    · exact .inl h3
    · exact .inr (h2 j h3 hj)
theorem V13_ten (d0 d1 d2 d3 d4 d5 d6 d7 d8 d9 : Nat) : V13 [d0, d1, d2, d3, d4, d5, d6, d7, d8, d9] = d0 + 8192 * d1 + 67108864 * d2 + 549755813888 * d3 + 4503599627370496 * d4 + 36893488147419103232 * d5 + 302231454903657293676544 * d6 + 2475880078570760549798248448 * d7 + 20282409603651670423947251286016 * d8 + 166153499473114484112975882535043072 * d9 := by
  simp only [V13]; omega
theorem top_val (D : List Nat) (hl : D.length = 10) (hb : ∀ j, D.getD j 0 < 8192) : (topB D 10 = true → V13 D % P130 = D.getD 0 0 - 8187 ∧ 8187 ≤ D.getD 0 0) ∧ (topB D 10 = false → V13 D % P130 = V13 D) := by
  have e := ten_eq D hl
  have e2 : V13 D = _ := (congrArg V13 e).trans (V13_ten _ _ _ _ _ _ _ _ _ _)
  have b0 := hb 0
  have b1 := hb 1
  have b2 := hb 2
  have b3 := hb 3
  have b4 := hb 4
  have b5 := hb 5
  have b6 := hb 6
  have b7 := hb 7
  have b8 := hb 8
  have b9 := hb 9
  constructor
  · intro h
    obtain ⟨h0, h1⟩ := (topB_ten D).1 h
    have c1 := h1 1 (by decide) (by decide)
    have c2 := h1 2 (by decide) (by decide)
    have c3 := h1 3 (by decide) (by decide)
    have c4 := h1 4 (by decide) (by decide)
    have c5 := h1 5 (by decide) (by decide)
    have c6 := h1 6 (by decide) (by decide)
    have c7 := h1 7 (by decide) (by decide)
    have c8 := h1 8 (by decide) (by decide)
    have c9 := h1 9 (by decide) (by decide)
    rw [e2]
    generalize D.getD 0 0 = d0 at *
    rw [c1]
    rw [c2]
    rw [c3]
    rw [c4]
    rw [c5]
    rw [c6]
    rw [c7]
    rw [c8]
    rw [c9]
    refine ⟨?_, h0⟩
    unfold P130
    omega
  · intro h
    apply Nat.mod_eq_of_lt
    apply Classical.byContradiction
    intro hge
    have ht : topB D 10 = true := (topB_ten D).2 (by
      rw [e2] at hge
      unfold P130 at hge
      generalize D.getD 0 0 = d0 at *
      generalize hd1 : D.getD 1 0 = d1 at *
      generalize hd2 : D.getD 2 0 = d2 at *
      generalize hd3 : D.getD 3 0 = d3 at *
      generalize hd4 : D.getD 4 0 = d4 at *
      generalize hd5 : D.getD 5 0 = d5 at *
      generalize hd6 : D.getD 6 0 = d6 at *
      generalize hd7 : D.getD 7 0 = d7 at *
      generalize hd8 : D.getD 8 0 = d8 at *
      generalize hd9 : D.getD 9 0 = d9 at *
      have c9 : d9 = 8191 := by omega
      have c8 : d8 = 8191 := by omega
      have c7 : d7 = 8191 := by omega
      have c6 : d6 = 8191 := by omega
      have c5 : d5 = 8191 := by omega
      have c4 : d4 = 8191 := by omega
      have c3 : d3 = 8191 := by omega
      have c2 : d2 = 8191 := by omega
      have c1 : d1 = 8191 := by omega
      refine ⟨by omega, fun j h1 h2 => ?_⟩
      have : j = 1 ∨ j = 2 ∨ j = 3 ∨ j = 4 ∨ j = 5 ∨ j = 6 ∨ j = 7 ∨ j = 8 ∨ j = 9 := by omega
      rcases this with rfl | rfl | rfl | rfl | rfl | rfl | rfl | rfl | rfl
      · rw [hd1, c1]
      · rw [hd2, c2]
      · rw [hd3, c3]
      · rw [hd4, c4]
      · rw [hd5, c5]
      · rw [hd6, c6]
      · rw [hd7, c7]
      · rw [hd8, c8]
      · rw [hd9, c9])
    rw [h] at ht
    cases ht
def LeastR (D : List Nat) (w : World) (e : Ending) (w' : World) : Prop := ∃ g' L, e = .returned (.slice (some ⟨g', 0, none⟩) 10 10) ∧ Below w.heap.size w w' ∧ L.length = 10 ∧ (∀ j, L.getD j 0 < 8192) ∧ V13 L = V13 D % P130 ∧ Blk w' g' 42 (vq L)
set_option maxRecDepth 100000 in
set_option maxHeartbeats 8000000 in
theorem least_c (g : Nat) (D : List Nat) (w : World) (hb : Blk w g 42 (vq D)) (h10 : D.length = 10) (hD : ∀ j, D.getD j 0 < 8192) :
    Calls Try.prog 20 #[.slice (some ⟨g, 0, none⟩) 10 10] w (LeastR D w) := by
  have HB := Lib.hid hb
  have HD := Lib.hid hD
  have HT := Lib.hid (top_val D h10 hD)
  have HN := Lib.hid h10
  have hmk := fun W => run_make_q 10 (by decide) W
  rw [show ((10 : Nat) : Int) = 10 from rfl] at hmk
  have d0 := (hb.cell 0).trans (vq_at D 0 (by omega))
  have b0 := hD 0
  have HB1 := Lib.hid (topB_one D)
  clear hb hD
  obtain ⟨dz, hdz⟩ : ∃ dz, dz = D.getD 0 0 := ⟨_, rfl⟩
  rw [← hdz] at d0 b0 HT HB1
  have HDZ := Lib.hid hdz
  clear hdz
  go_enter Try.func20, Try.ntmps20
  go_wp2_with fail
  go_loop [3, 4] (fun t i => ∃ (k : Nat) (b : Bool), 1 ≤ k ∧ k ≤ 10 ∧ i = .int .i64 (k : Int) ∧ t = .bool b ∧ b = topB D k) (fun _ i => 10 - (intOf i).toNat)
  case atStart =>
    refine ⟨1, topB D 1, by omega, by omega, rfl, ?_, rfl⟩
    rw [HB1.out]
    congr 1
    rw [decide_eq_decide]
    omega
  case round =>
    obtain ⟨k, b, hk1, hk, rfl, rfl, hb⟩ := hrel
    have HBB := Lib.hid hb
    clear hb
    by_cases hlt : k < 10
    · have p2 : (k : Int) < 10 := by omega
      have hl2 : k < D.length := by rw [HN.out]; exact hlt
      have d1 := (HB.out.cell k).trans (vq_at D k hl2)
      have HLB := Lib.hid (topB_succ D k hk1)
      clear hl2
      cases b with
      | false =>
        clear d1
        go_wp2_with fail
        exact ⟨⟨k + 1, false, by omega, by omega, by go_num, rfl, by rw [HLB.out, ← HBB.out]; rfl⟩, by simp [intOf]; omega⟩
      | true =>
        by_cases h8 : D.getD k 0 = 8191
        · have HDT := Lib.hid (show decide (D.getD k 0 = 8191) = true from decide_eq_true h8)
          rw [h8] at d1
          clear h8
          go_wp2_with fail
          exact ⟨⟨k + 1, true, by omega, by omega, by go_num, rfl, by rw [HLB.out, ← HBB.out, HDT.out]; rfl⟩, by simp [intOf]; omega⟩
        · have HDT := Lib.hid (show decide (D.getD k 0 = 8191) = false from decide_eq_false h8)
          have t1 : (((D.getD k 0 : Nat) : Int) == 8191) = false := by
            have : ((D.getD k 0 : Nat) : Int) ≠ 8191 := by omega
            simpa using this
          clear h8
          generalize D.getD k 0 = dk at *
          go_wp2_with fail
          exact ⟨⟨k + 1, false, by omega, by omega, by go_num, rfl, by rw [HLB.out, ← HBB.out, HDT.out]; rfl⟩, by simp [intOf]; omega⟩
    · obtain rfl : k = 10 := by omega
      cases b with
      | false =>
        go_wp2_with fail
        go_ret
        exact ⟨_, D, rfl, Below.refl _ _, HN.out, HD.out, (HT.out.2 HBB.out.symm).symm, HB.out⟩
      | true =>
        obtain ⟨h1, h2⟩ := HT.out.1 HBB.out.symm
        have f1 : ((dz : Nat) : Int) - 8187 = ((dz - 8187 : Nat) : Int) := by omega
        have f2 := wrap_lt (dz - 8187) (by omega)
        have HV := Lib.hid h1
        obtain ⟨x, hx⟩ : ∃ x, x = dz - 8187 := ⟨_, rfl⟩
        rw [← hx] at f1 f2 HV
        have hx8 : x < 8192 := by omega
        clear h1 h2 hx
        obtain ⟨Y, hY⟩ : ∃ Y, Y = w.alloc (Obj.cells (vq (List.replicate 10 0)) 42) := ⟨_, rfl⟩
        have YB := Lib.hid (show Blk Y w.heap.size 42 (vq (List.replicate 10 0)) by rw [hY]; exact Blk.new _ _ _)
        have BB := Lib.hid (show Below w.heap.size w Y by rw [hY]; exact (Below.refl _ _).alloc (Nat.le_refl _) _)
        have DB := Lib.hid (HB.out.below BB.out HB.out.lt)
        have q0 := (YB.out.cell 0).trans (vq_at _ 0 (by decide))
        have q1 := YB.out.free 0
        have q2 : Y.cell? ⟨g, 0, none⟩ = some (.int .u64 (dz : Int)) := (BB.out.cell (p := ⟨g, 0, none⟩) HB.out.lt).trans d0
        have hmk2 := hmk w
        rw [← hY] at hmk2
        clear hmk hY
        go_wp2_with fail
        go_ret
        refine ⟨w.heap.size, (List.replicate 10 0).set 0 x, rfl, BB.out.setCell (Nat.le_refl _) _, rfl, fun j => ?_, ?_, by rw [← vq_set]; exact YB.out.set_ _ _⟩
        · rw [getD_set _ _ _ _ (by decide)]
          split
          · exact hx8
          · rw [rep_at]; decide
        · rw [HV.out]
          have h3 := V13_set (List.replicate 10 0) 0 x (by decide)
          rw [V13_rep, rep_at] at h3
          simp only [Nat.pow_zero, Nat.one_mul, Nat.mul_zero, Nat.add_zero, Nat.zero_add] at h3
          exact h3
end Go.Proofs.Ytfblpkjablgafaa
