/- ShamirSplits: the walk. -/
import Derived.Test.YtldanlglefgobaaSham4
namespace Go.Proofs.Ytldanlglefgobaa
open Go.RowKit
set_option linter.unusedVariables false
theorem shf_at (s d : List Nat) (t n : Nat) : ∀ k j, k < n → j < 33 → (shf s d t n)[k * 33 + j]? = (shr s d t (k + 1))[j]? := by
  induction n with
  | zero => intro k j h; omega
  | succ n ih =>
    intro k j h hj
    rw [shf_succ]
    rcases Nat.lt_or_ge k n with h1 | h1
    · rw [List.getElem?_append_left (by rw [shf_len]; omega)]
      exact ih k j h1 hj
    · obtain rfl : k = n := by omega
      rw [List.getElem?_append_right (by rw [shf_len]; omega), shf_len, Nat.add_sub_cancel_left]
theorem OwnS.cells {w : World} {base g cap n : Nat} {l : List Nat} (h : OwnS w base (.slice (some ⟨g, 0, none⟩) n cap) n l) : ∀ j u, (byt l)[j]? = some u → w.cell? ⟨g, j, none⟩ = some u := by
  rcases h.2 with ⟨h0, _⟩ | ⟨g', cap', cur, he, hg, hh, hn, hm, hc, ht⟩
  · cases h0
  · injection he with he1 _ _
    injection he1 with he1
    injection he1 with he1 _ _
    subst he1
    intro j u hu
    refine cellOf hh ?_
    rw [← ht] at hu
    have hj : j < n * 33 := by
      rcases Nat.lt_or_ge j (n * 33) with h1 | h1
      · exact h1
      · rw [List.getElem?_eq_none (by rw [List.length_take]; omega)] at hu; cases hu
    rw [List.getElem?_take_of_lt hj] at hu
    simpa using hu
theorem OwnS.share {w : World} {base g cap n t : Nat} {s d : List Nat} (h : OwnS w base (.slice (some ⟨g, 0, none⟩) n cap) n (shf s d t n)) {k : Nat} (hk : k < n) : w.rangeAt g (k * 33) (byt (shr s d t (k + 1))) := fun j u hu => by
  refine h.cells (k * 33 + j) u ?_
  have hj : j < 33 := by
    rcases Nat.lt_or_ge j 33 with h1 | h1
    · exact h1
    · rw [List.getElem?_eq_none (by rw [byt_len, shr_len]; omega)] at hu; cases hu
  rw [← hu]
  unfold byt
  rw [List.getElem?_map, List.getElem?_map, shf_at s d t n k j hk hj]
theorem OwnS.open_ {w : World} {base n : Nat} {v : Value} {l : List Nat} (h : OwnS w base v n l) (hn : 0 < n) : ∃ g cap, v = .slice (some ⟨g, 0, none⟩) n cap ∧ base ≤ g ∧ n ≤ cap ∧ cap ≤ maxLen := by
  rcases h.2 with ⟨_, h0⟩ | ⟨g, cap, cur, rfl, hg, hh, hn, hm, hc, ht⟩
  · omega
  · exact ⟨g, cap, rfl, hg, hn, hm⟩
theorem shr_lt {s d : List Nat} {t x : Nat} (hx : x < 256) (hs : ∀ c ∈ s, c < 256) (hd : ∀ c ∈ d, c < 256) : ∀ c ∈ shr s d t x, c < 256 := by
  intro c hc
  rcases List.mem_cons.1 hc with rfl | hc
  · exact hx
  · obtain ⟨i, _, rfl⟩ := List.mem_map.1 hc
    exact sy_lt hs hd t x i
theorem key_size (s : List Nat) (hs : s.length = 32) : (Try.prog.info? 43).map (·.size) = some (vb s).size := by rw [vb_size, hs]; kernel_rfl
theorem key_bytes (s : List Nat) (hs : s.length = 32) : (Try.prog.info? 43).map (·.size) = some (byt s).length := by rw [byt_len, hs]; kernel_rfl
theorem share_bytes (s : List Nat) (hs : s.length = 33) : (Try.prog.info? 48).map (·.size) = some (byt s).length := by rw [byt_len, hs]; kernel_rfl
set_option maxRecDepth 100000 in
set_option maxHeartbeats 1000000 in
theorem splits_long (s d : List Nat) (n t : Int) (cap : Nat) (A : Option Addr) (w : World) (h : (12 < n ∧ n < 256) ∨ 300 < d.length) :
    Calls Try.prog 8 #[.agg (vb s), .int .i64 n, .int .i64 t, .slice A d.length cap] w (Yes w) := by
  have hcase : (decide (12 < n) = true ∧ decide (n < 256) = true) ∨ (decide (12 < n) = true ∧ decide (n < 256) = false ∧ 300 < d.length) ∨ (decide (12 < n) = false ∧ 300 < d.length) := by
    by_cases h1 : 12 < n
    · by_cases h2 : n < 256
      · exact .inl ⟨decide_eq_true h1, decide_eq_true h2⟩
      · exact .inr (.inl ⟨decide_eq_true h1, decide_eq_false h2, by omega⟩)
    · exact .inr (.inr ⟨decide_eq_false h1, by omega⟩)
  clear h
  rcases hcase with ⟨h1, h2⟩ | ⟨h1, h2, h3⟩ | ⟨h1, h3⟩
  all_goals
    go_enter Try.func8, Try.ntmps8
    go_wp2_with (go_at_call 23; ((with_reducible refine (awake08_c _).mono ?_); rintro e w2 ⟨rfl, hb⟩))
    go_ret
    exact ⟨rfl, ((Below.refl _ _).alloc (Nat.le_refl _) _).trans (hb.mono (by simp))⟩
set_option maxRecDepth 100000 in
set_option maxHeartbeats 1000000 in
theorem splits_bad (s d : List Nat) (n t : Int) (cap : Nat) (A : Option Addr) (w : World) (hs : s.length = 32) (h : ¬ ((12 < n ∧ n < 256) ∨ 300 < d.length)) (hb : t < 1 ∨ n < t ∨ 255 < n) :
    Calls Try.prog 8 #[.agg (vb s), .int .i64 n, .int .i64 t, .slice A d.length cap] w (Yes w) := by
  have hl : decide (300 < d.length) = false := decide_eq_false (by omega)
  have hl2 : decide (300 < (d.length : Int)) = false := decide_eq_false (by omega)
  have hk : (decide (12 < n) = false) ∨ (decide (12 < n) = true ∧ decide (n < 256) = false) := by
    by_cases h1 : 12 < n
    · exact .inr ⟨decide_eq_true h1, decide_eq_false (by omega)⟩
    · exact .inl (decide_eq_false h1)
  have hcase : decide (t < 1) = true ∨ (decide (t < 1) = false ∧ decide (n < t) = true) ∨ (decide (t < 1) = false ∧ decide (n < t) = false ∧ decide (255 < n) = true) := by
    by_cases h1 : t < 1
    · exact .inl (decide_eq_true h1)
    · by_cases h2 : n < t
      · exact .inr (.inl ⟨decide_eq_false h1, decide_eq_true h2⟩)
      · exact .inr (.inr ⟨decide_eq_false h1, decide_eq_false h2, decide_eq_true (by omega)⟩)
  have HSZ := Lib.hid (key_size s hs)
  have HSP := Lib.hid (fun W => split_bad s d n t cap A W hb)
  clear h hb
  rcases hk with k1 | ⟨k1, k2⟩
  all_goals rcases hcase with h1 | ⟨h1, h2⟩ | ⟨h1, h2, h3⟩
  all_goals
    go_enter Try.func8, Try.ntmps8
    go_wp2_with (first
      | (refine wpList_load_row rfl 43 (.tmp 4) rfl w.heap.size rfl 43 (vb s) (0, 0) _ (heap_alloc_new w _) Try.underlying43 rfl HSZ.out ?_)
      | (go_at_call 24; ((with_reducible refine (HSP.out _).mono ?_); rintro e w2 ⟨v, rfl, ho, hb2⟩; obtain ⟨A2, c2, rfl, _, _, _⟩ := own_rd ho; have HB2 := Lib.hid hb2; clear ho hb2))
      | (go_at_call 23; ((with_reducible refine (awake08_c _).mono ?_); rintro e w3 ⟨rfl, hb3⟩)))
    go_ret
    exact ⟨rfl, (((Below.refl _ _).alloc (Nat.le_refl _) _).trans (HB2.out.mono (by simp))).trans (hb3.mono (Nat.le_trans (by simp) HB2.out.size))⟩
end Go.Proofs.Ytldanlglefgobaa
