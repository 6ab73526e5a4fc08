/- ShamirCombines: the walk, where nothing is refreshed. -/
import Derived.Test.YtldanlglefgobaaCmb3
namespace Go.Proofs.Ytldanlglefgobaa
open Go.RowKit
set_option linter.unusedVariables false
theorem eq_keys (s : List Nat) (hl : s.length = 32) (hs : ∀ c ∈ s, c < 256) : ∀ W, (Op.equalIn 10000 43 (.agg (vb s)) (.agg (vb s))).run Try.prog W = .ok true W := fun W => by
  have h := run_equalIn_barr (P := Try.prog) Try.underlying43 Try.underlying5 (by kernel_rfl) (by kernel_rfl) s s hl hl hs hs W
  rw [beq_self_eq_true] at h
  exact h
theorem eq_z32 : ∀ W, (Op.equalIn 10000 43 (.agg z32) (.agg z32)).run Try.prog W = .ok true W := eq_keys zs32 (by decide) zs32_lt
/-- what each call of the law comes to -/
structure CmbC (w : World) (n cap : Nat) (A : Option Addr) (RC : List Nat) (EC p : Int) : Prop where
  cb : ∀ W, Below w.heap.size w W → Calls Try.prog 26 #[.slice A n cap] W fun e w' => e = .returned (.tuple #[.agg (vb RC), .int .i64 EC]) ∧ Below W.heap.size W w'
  pl : ∀ W, Below w.heap.size w W → Calls Try.prog 28 #[.slice A n cap] W (Quietly (.int .i64 p) W)
  hl : RC.length = 32
  hs : ∀ c ∈ RC, c < 256
  tl : (n = 0 ∧ RC = zs32 ∧ EC = 6) ∨ (n ≠ 0 ∧ p ≠ 0 ∧ RC = zs32 ∧ EC = p) ∨ (n ≠ 0 ∧ p = 0 ∧ EC = 0 ∧ ∀ W, Below w.heap.size w W → Calls Try.prog 30 #[.slice A n cap] W fun e w' => e = .returned (.agg (vb RC)) ∧ Below W.heap.size W w')
set_option maxRecDepth 100000 in
set_option maxHeartbeats 1000000 in
theorem comb_out (A D : Option Addr) (n cap dl cd : Nat) (t : Int) (w : World) (h : 8 < n ∨ 12 < t ∨ 300 < dl) :
    Calls Try.prog 11 #[.slice A n cap, .int .i64 t, .slice D dl cd] w (Yes w) := by
  have hcase : 8 < n ∨ (¬ 8 < n ∧ decide (12 < t) = true) ∨ (¬ 8 < n ∧ decide (12 < t) = false ∧ 300 < dl) := by
    by_cases h1 : 8 < n
    · exact .inl h1
    · by_cases h2 : 12 < t
      · exact .inr (.inl ⟨h1, decide_eq_true h2⟩)
      · exact .inr (.inr ⟨h1, decide_eq_false h2, by omega⟩)
  clear h
  rcases hcase with h1 | ⟨h1, h2⟩ | ⟨h1, h2, h3⟩
  all_goals
    go_enter Try.func11, Try.ntmps11
    go_wp2_with (go_at_call 23; ((with_reducible refine (awake08_c _).mono ?_); rintro e w2 ⟨rfl, hb⟩))
    go_ret
    exact ⟨rfl, hb⟩
set_option maxRecDepth 100000 in
set_option maxHeartbeats 2000000 in
theorem comb_short (A D : Option Addr) (n cap dl cd : Nat) (t EC p f : Int) (RC : List Nat) (w : World) (h : ¬ (8 < n ∨ 12 < t ∨ 300 < dl)) (hc : CmbC w n cap A RC EC p)
    (krf : ∀ W, Below w.heap.size w W → Calls Try.prog 27 #[.slice A n cap, .int .i64 t, .slice D dl cd] W (GivesS 0 [] f W))
    (hsel : (t < 1 ∧ f = 1) ∨ (¬ t < 1 ∧ p ≠ 0 ∧ f = p)) :
    Calls Try.prog 11 #[.slice A n cap, .int .i64 t, .slice D dl cd] w (Yes w) := by
  have q1 : decide (8 < (n : Int)) = false := decide_eq_false (by omega)
  have q2 : decide (12 < t) = false := decide_eq_false (by omega)
  have q3 : decide (300 < (dl : Int)) = false := decide_eq_false (by omega)
  have q1n : decide (8 < n) = false := decide_eq_false (by omega)
  have q3n : decide (300 < dl) = false := decide_eq_false (by omega)
  have HC := Lib.hid hc
  have HRF := Lib.hid krf
  have HSZ := Lib.hid (key_size RC hc.hl)
  have HKB := Lib.hid (key_bytes RC hc.hl)
  have HZK := Lib.hid (key_z32 RC hc.hl)
  have zs := zero_key
  have hz := z32_size
  have hzn := z32_ne
  have l3 := eq_keys RC hc.hl hc.hs
  have HTL := Lib.hid hc.tl
  clear krf hc h
  have hsel2 : (decide (t < 1) = true ∧ f = 1) ∨ (decide (t < 1) = false ∧ (p != 0) = true ∧ f = p) := by
    rcases hsel with ⟨h1, h2⟩ | ⟨h1, h2, h3⟩
    · exact .inl ⟨decide_eq_true h1, h2⟩
    · exact .inr ⟨decide_eq_false h1, bne_iff_ne.2 h2, h3⟩
  clear hsel
  go_enter Try.func11, Try.ntmps11
  go_upto_region 4 with (first
    | (go_at_call 26; ((with_reducible refine (HC.out.cb _ (by exact Below.refl _ _)).mono ?_); rintro e w1 ⟨rfl, hb1⟩; have HB1 := Lib.hid hb1; clear hb1))
    | (refine wpList_store_rowTo rfl 43 (.tmp 7) (.tmp 32) rfl rfl w1.heap.size (vb RC) rfl rfl 43 z32 (by exact heap_alloc_new _ _) HSZ.out HZK.out (vb_one _) ?_))
  obtain ⟨Z1, hZ1⟩ : ∃ Z, Z = (w1.alloc (.cells z32 43)).setRow w1.heap.size (vb RC) := ⟨_, rfl⟩
  have K1 := Lib.hid (show Blk Z1 w1.heap.size 43 (vb RC) by rw [hZ1]; exact Blk.row (old := z32) (heap_alloc_new w1 _))
  have B1 := Lib.hid (show Below w.heap.size w Z1 by rw [hZ1]; exact Below.setRow (HB1.out.alloc HB1.out.size _) HB1.out.size _)
  rw [← hZ1]
  clear hZ1 HB1
  generalize w1.heap.size = S at *
  go_upto_region 6 with (first
    | (go_at_call 27; ((with_reducible refine (HRF.out _ B1.out).mono ?_); rintro e w2 ⟨v, rfl, ho, hb2⟩; obtain ⟨A2, c2, rfl, _, _, _⟩ := own_rd ho; have B2 := Lib.hid (B1.out.trans (hb2.mono B1.out.size)); have K2 := Lib.hid (K1.out.below hb2 K1.out.lt); clear ho hb2))
    | (go_at_call 28; ((with_reducible refine (HC.out.pl _ B2.out).mono ?_); rintro e w3 ⟨rfl, n3, rfl⟩)))
  obtain ⟨Z3, hZ3⟩ : ∃ Z, Z = w2.drewN n3 := ⟨_, rfl⟩
  have K3 := Lib.hid (show Blk Z3 S 43 (vb RC) by rw [hZ3]; exact K2.out)
  have B3 := Lib.hid (show Below w.heap.size w Z3 by rw [hZ3]; exact belowDrewN n3 B2.out)
  rw [← hZ3]
  clear hZ3 K1 K2 B1 B2 HRF
  rcases HTL.out with ⟨h1, h2, h3⟩ | ⟨h1, h2, h3, h4⟩ | ⟨h1, h2, h3, h4⟩
  · subst h1
    have hv : vb RC = z32 := by rw [h2]; rfl
    rw [hv] at K3 HSZ l3
    subst h3
    rcases hsel2 with ⟨g1, rfl⟩ | ⟨g1, g2, rfl⟩
    all_goals
      go_wp2_with (first
        | (refine wpList_load_row rfl 43 (.tmp 7) rfl S rfl 43 z32 (0, 0) _ K3.out Try.underlying43 rfl HSZ.out ?_)
        | (go_at_call 23; ((with_reducible refine (awake08_c _).mono ?_); rintro e w4 ⟨rfl, hb4⟩)))
      go_ret
      exact ⟨rfl, B3.out.trans (hb4.mono B3.out.size)⟩
  · have hv : vb RC = z32 := by rw [h3]; rfl
    rw [hv] at K3 HSZ l3
    have hn0 : ((n : Int) == 0) = false := by simp; omega
    have hp0 : (p != 0) = true := bne_iff_ne.2 h2
    have hpp : (p == p) = true := beq_self_eq_true _
    subst h4
    clear h3
    rcases hsel2 with ⟨g1, rfl⟩ | ⟨g1, g2, rfl⟩
    all_goals
      go_wp2_with (first
        | (refine wpList_load_row rfl 43 (.tmp 7) rfl S rfl 43 z32 (0, 0) _ K3.out Try.underlying43 rfl HSZ.out ?_)
        | (go_at_call 23; ((with_reducible refine (awake08_c _).mono ?_); rintro e w4 ⟨rfl, hb4⟩)))
      go_ret
      exact ⟨rfl, B3.out.trans (hb4.mono B3.out.size)⟩
  · subst h2
    subst h3
    have hn0 : ((n : Int) == 0) = false := by simp; omega
    rcases hsel2 with ⟨g1, rfl⟩ | ⟨g1, g2, rfl⟩
    · go_wp2
      have R1 := Lib.hid (ext_range (w0 := Z3) (rangeAt_blk K3.out))
      have B3h := B3.out
      refine wp_region_class (Ext.wd (w0 := Z3)) (by kernel_rfl) (by kernel_rfl) (Ext.of (Below.refl _ _).drew) ?_
      repeat (first
        | (refine wpQuiet_load_mid rfl 43 (.tmp 7) rfl S 0 rfl RC _ R1.out Try.underlying43 rfl HKB.out _ (by simp only [Act.put, List.setIfInBounds_toArray, List.set_cons_succ, List.set_cons_zero]; rfl) ?_)
        | (go_big_quiet_step ((first
            | (go_at_call 30; with_reducible exact ext_call (h4 _ (B3h.trans ((Ext.bel _).mono B3h.size))))
            | (go_at_call 23; with_reducible exact ext_call (awake08_c _))))))
      refine wpQuiet_nil ?_
      rintro _ ⟨x, rfl⟩
      go_wp2
      go_ret
      exact ⟨rfl, B3.out.trans (x.bel.mono B3.out.size)⟩
    · exact absurd rfl (bne_iff_ne.1 g2)
end Go.Proofs.Ytldanlglefgobaa
