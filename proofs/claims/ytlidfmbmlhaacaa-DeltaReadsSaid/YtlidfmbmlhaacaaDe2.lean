/- Pieces: what is laid is read as it was; how long it is: plain. -/
import Derived.Test.YtlidfmbmlhaacaaDe1
namespace Go.Proofs.Ytlidfmbmlhaacaa
open Go.RowKit
set_option linter.unusedVariables false
set_option linter.unusedSimpArgs false
theorem run1_all (s : ByteArray) : ∀ (l : List Pc), ∀ q ∈ l.take (run1 s l), q.s = s
  | [], q, h => by simp at h
  | p :: l, q, h => by
    unfold run1 at h
    split at h
    · rename_i he
      rw [List.take_succ_cons] at h
      rcases List.mem_cons.1 h with rfl | h
      · exact he
      · exact run1_all s l q h
    · simp at h
theorem grps_nil : grps [] = [] := by unfold grps; rw [gls_nil]; rfl
theorem grps_cons (p : Pc) (l : List Pc) : grps (p :: l) = (p :: l.take (run1 p.s l)) :: grps (l.drop (run1 p.s l)) := by
  unfold grps
  rw [gls_cons]
  rfl
theorem drop_lt_len (s : ByteArray) (l : List Pc) (m : Nat) (h : l.length ≤ m) : (l.drop (run1 s l)).length ≤ m := by rw [List.length_drop]; omega
theorem grps_ind {Q : List Pc → Prop} (h0 : Q []) (h1 : ∀ p l, Q (l.drop (run1 p.s l)) → Q (p :: l)) : ∀ l, Q l := by
  suffices H : ∀ m, ∀ l : List Pc, l.length ≤ m → Q l from fun l => H _ l (Nat.le_refl _)
  intro m
  induction m with
  | zero => intro l hl; rw [List.eq_nil_of_length_eq_zero (by omega : l.length = 0)]; exact h0
  | succ m ih =>
    intro l hl
    cases l with
    | nil => exact h0
    | cons p l => exact h1 p l (ih _ (drop_lt_len _ _ _ (by simpa using hl)))
theorem grps_flat : ∀ l, (grps l).flatten = l := grps_ind (by rw [grps_nil]; rfl) fun p l ih => by
  rw [grps_cons, List.flatten_cons, ih, List.cons_append, List.take_append_drop]
theorem len_flat {gs : List (List Pc)} {g : List Pc} (h : g ∈ gs) : g.length ≤ gs.flatten.length := by
  induction gs with
  | nil => cases h
  | cons a gs ih =>
    rw [List.flatten_cons, List.length_append]
    rcases List.mem_cons.1 h with rfl | h
    · omega
    · have := ih h; omega
/-- a series' pieces -/
def OneSer (g : List Pc) : Prop := ∃ p g', g = p :: g' ∧ ∀ q ∈ g, q.s = p.s
theorem grps_one : ∀ l, ∀ g ∈ grps l, OneSer g := grps_ind (fun g h => by rw [grps_nil] at h; cases h) fun p l ih g h => by
  rw [grps_cons] at h
  rcases List.mem_cons.1 h with rfl | h
  · refine ⟨p, _, rfl, fun q hq => ?_⟩
    rcases List.mem_cons.1 hq with rfl | hq
    · rfl
    · exact run1_all _ _ q hq
  · exact ih g h
theorem grps_mem (l : List Pc) (g : List Pc) (h : g ∈ grps l) : ∀ q ∈ g, q ∈ l := fun q hq => by
  rw [← grps_flat l]
  exact List.mem_flatten.2 ⟨g, h, hq⟩
theorem rsL_put (g : List Pc) (rest : List Nat) (h1 : OneSer g) (hk : ∀ p ∈ g, PcOk p ∧ p.s.size < 1000000) (hn : g.length < 1000000) : rsL (putL g ++ rest) false = (g, rest, false) := by
  obtain ⟨p, g', rfl, hs⟩ := h1
  have hp := (hk p (by simp)).2
  unfold putL
  simp only [List.append_assoc]
  have h2 := rdB_app (sby p.s) (sh (p :: g').length ++ (rowsL 0 0 0 (p :: g') ++ rest)) false
  have hl : (sby p.s).length = p.s.size := by unfold sby; rw [List.length_map]; cases p.s with | mk d => rw [ByteArray.toList_mk]; rfl
  rw [hl] at h2
  rw [rsL_eq _ _ (rdS_sh _ _ (by omega)) h2 (rdS_sh _ _ (by omega)), sby_back, rpL_rows p.s (p :: g') 0 0 0 [] rest (fun q hq => ⟨(hk q hq).1, hs q hq⟩) (by decide) (by decide) (by decide) (by decide)]
  rfl
theorem rgL_put (gs : List (List Pc)) : ∀ (acc : List Pc) (rest : List Nat), (∀ g ∈ gs, OneSer g ∧ g.length < 1000000 ∧ ∀ p ∈ g, PcOk p ∧ p.s.size < 1000000) →
    rgL gs.length ((gs.map putL).flatten ++ rest) false acc = (acc ++ gs.flatten, false) := by
  induction gs with
  | nil => intro acc rest _; simp [rgL]
  | cons g gs ih =>
    intro acc rest h
    obtain ⟨h1, h2, h3⟩ := h g (by simp)
    rw [List.length_cons, rgL, List.map_cons, List.flatten_cons, List.append_assoc, rsL_put g _ h1 h3 h2]
    simp only [Bool.false_eq_true, if_false]
    rw [ih _ _ (fun g hg => h g (by simp [hg])), List.flatten_cons, List.append_assoc]
/-- what is laid is read as it was -/
theorem read_form (l : List Pc) (h : ∀ p ∈ l, PcOk p ∧ p.s.size < 1000000) (hl : l.length < 1000000) : rgL (rdS (formP l) false).1 (rdS (formP l) false).2.1 (rdS (formP l) false).2.2 [] = (l, false) := by
  have hgn : ∀ l : List Pc, (grps l).length ≤ l.length := grps_ind (by rw [grps_nil]; exact Nat.le_refl _) fun p l ih => by
    rw [grps_cons, List.length_cons, List.length_cons]
    rw [List.length_drop] at ih
    omega
  have hn := hgn l
  unfold formP
  rw [rdS_sh _ _ (by omega)]
  have := rgL_put (grps l) [] [] (fun g hg => ⟨grps_one l g hg, by
    have hm : g.length ≤ (grps l).flatten.length := by
      exact len_flat hg
    rw [grps_flat] at hm
    omega, fun p hp => h p (grps_mem l g hg p hp)⟩)
  rw [List.append_nil, grps_flat, List.nil_append] at this
  exact this
/-- how long a short form is -/
theorem sh_len (n k : Nat) (h : n < 128 ^ (k + 1)) : (sh n).length ≤ k + 1 := by
  induction k generalizing n with
  | zero =>
    rw [sh, dif_pos (by simpa using h)]
    exact Nat.le_refl _
  | succ k ih =>
    rw [sh]
    split
    · simp
    · rw [List.length_cons]
      have := ih (n / 128) (by rw [Nat.div_lt_iff_lt_mul (by decide), ← Nat.pow_succ]; exact h)
      omega
theorem sh_pos (n : Nat) : 1 ≤ (sh n).length := by
  rw [sh]; split <;> simp
theorem sh64 (n : Nat) (h : n < 18446744073709551616) : (sh n).length ≤ 10 := sh_len n 9 (Nat.lt_of_lt_of_le h (by decide))
theorem rowsL_len (g : List Pc) : ∀ t step v, (∀ p ∈ g, PcOk p) → (rowsL t step v g).length ≤ 32 * g.length := by
  induction g with
  | nil => intro t step v _; simp [rowsL]
  | cons p g ih =>
    intro t step v h
    have hp := h p (by simp)
    have h1 := sh64 _ (zig_lt (w64 (w64 (p.t - t) - step)) (w64_lo _) (w64_hi _))
    have h2 := sh64 _ (zig_lt (w64 (p.v - v)) (w64_lo _) (w64_hi _))
    have h3 := sh64 _ hp.n1
    have h4 := ih p.t (w64 (p.t - t)) p.v (fun q hq => h q (by simp [hq]))
    rw [rowsL]
    simp only [List.length_append, form_len, List.length_cons]
    omega
theorem sby_len (s : ByteArray) : (sby s).length = s.size := by
  unfold sby; rw [List.length_map]; cases s with | mk d => rw [ByteArray.toList_mk]; rfl
theorem putG_len (gs : List (List Pc)) : (∀ g ∈ gs, OneSer g ∧ g.length < 16384 ∧ ∀ p ∈ g, PcOk p ∧ p.s.size < 16384) → ((gs.map putL).flatten).length ≤ roomG gs + 32 * gs.flatten.length := by
  induction gs with
  | nil => intro _; simp [roomG]
  | cons g gs ih =>
    intro h
    obtain ⟨⟨p, g', rfl, hs⟩, h2, h3⟩ := h g (by simp)
    have h4 := ih (fun g hg => h g (by simp [hg]))
    have h5 := sh_len p.s.size 1 (by have := (h3 p (by simp)).2; simpa using this)
    have h6 := sh_len (p :: g').length 1 (by simpa using h2)
    have h7 := rowsL_len (p :: g') 0 0 0 (fun q hq => (h3 q hq).1)
    rw [List.map_cons, List.flatten_cons, List.length_append, List.flatten_cons, List.length_append, roomG, putL]
    simp only [List.length_append, sby_len]
    omega
theorem form_fits (l : List Pc) (h : ∀ p ∈ l, PcOk p ∧ p.s.size < 16384) (hl : l.length < 16384) : (formP l).length + 2 ≤ roomL l := by
  have hgn : ∀ l : List Pc, (grps l).length ≤ l.length := grps_ind (by rw [grps_nil]; exact Nat.le_refl _) fun p l ih => by
    rw [grps_cons, List.length_cons, List.length_cons]
    rw [List.length_drop] at ih
    omega
  have hn := hgn l
  have h1 := sh_len (grps l).length 1 (by have : (128 : Nat) ^ 2 = 16384 := by decide
                                          omega)
  have h2 := putG_len (grps l) (fun g hg => ⟨grps_one l g hg, by
    have hm : g.length ≤ (grps l).flatten.length := by
      exact len_flat hg
    rw [grps_flat] at hm
    omega, fun p hp => h p (grps_mem l g hg p hp)⟩)
  rw [grps_flat] at h2
  unfold formP roomL
  rw [List.length_append]
  omega
end Go.Proofs.Ytlidfmbmlhaacaa
