/- ShamirBack: the plain side. -/
import Derived.Test.YtldanlglefgobaaRef1
namespace Go.Proofs.Ytldanlglefgobaa
open Go.RowKit
set_option linter.unusedVariables false
/-- the places of the first m shares -/
def xsl (L : List Nat) (m : Nat) : List Nat := (List.range m).map (shX L)
theorem xsl_succ (L : List Nat) (m : Nat) : xsl L (m + 1) = xsl L m ++ [shX L m] := by simp [xsl, List.range_succ]
theorem xsl_len (L : List Nat) (m : Nat) : (xsl L m).length = m := by simp [xsl]
theorem xsl_at (L : List Nat) (m j : Nat) (h : j < m) : (xsl L m).getD j 0 = shX L j := by simp [xsl, List.getD_eq_getElem?_getD, h]
theorem wt_snoc (x y : Nat) : ∀ l : List Nat, wt x (l ++ [y]) = gm (wt x l) (qt x y)
  | [] => by
    show gm (qt x y) 1 = gm 1 (qt x y)
    exact gm_comm _ _ (qt_lt x y) (by omega)
  | a :: l => by
    show gm (qt x a) (wt x (l ++ [y])) = gm (gm (qt x a) (wt x l)) (qt x y)
    rw [wt_snoc x y l, gm_assoc _ _ _ (qt_lt x a) (wt_lt x l) (qt_lt x y)]
theorem wtl_wt (L : List Nat) (i : Nat) : ∀ m, wtl L i m = wt (shX L i) ((xsl L m).eraseIdx i)
  | 0 => rfl
  | m + 1 => by
    have ih := wtl_wt L i m
    rw [xsl_succ]
    unfold wtl
    by_cases h : m = i
    · rw [if_pos h, ih]
      subst h
      rw [List.eraseIdx_of_length_le (by rw [xsl_len]; exact Nat.le_refl _), List.eraseIdx_append_of_length_le (by rw [xsl_len]; exact Nat.le_refl _), xsl_len, Nat.sub_self]
      simp
    · rw [if_neg h, ih]
      rcases Nat.lt_or_ge i m with h1 | h1
      · rw [List.eraseIdx_append_of_lt_length (by rw [xsl_len]; exact h1), wt_snoc]
        rfl
      · rw [List.eraseIdx_of_length_le (by rw [xsl_len]; omega), List.eraseIdx_of_length_le (by rw [List.length_append, xsl_len]; simp; omega), wt_snoc]
        rfl
theorem sx_snoc (l : List Nat) (a : Nat) : sx (l ++ [a]) = sx l ^^^ a := by
  induction l with
  | nil => simp [sx]
  | cons b l ih => simp only [List.cons_append, sx, ih, Nat.xor_assoc]
theorem cmb_sx (L : List Nat) (n k : Nat) : ∀ j, cmb L n j k = sx ((List.range j).map fun i => gm (wtl L i n) (shY L i k))
  | 0 => rfl
  | j + 1 => by rw [List.range_succ, List.map_append, List.map_cons, List.map_nil, sx_snoc, ← cmb_sx L n k j]; rfl
theorem cmb_lag (L : List Nat) (n k : Nat) (f : Nat → Nat) (hf : ∀ x, f x < 256) (h : ∀ j, j < n → shY L j k = f (shX L j)) : cmb L n n k = lag f (xsl L n) := by
  rw [cmb_sx]
  unfold lag
  rw [xsl_len]
  refine sx_congr fun i hi => ?_
  have hi := List.mem_range.1 hi
  rw [xsl_at L n i hi, h i hi, wtl_wt, gm_comm _ _ (wt_lt _ _) (hf _)]
theorem lag_xor (f g : Nat → Nat) (l : List Nat) : lag (fun x => f x ^^^ g x) l = lag f l ^^^ lag g l := by
  unfold lag
  rw [← sx_map_xor]
  refine sx_congr fun i _ => ?_
  rw [gm_left]
theorem hv_zero (c : Nat) (l : List Nat) (hl : ∀ a ∈ l, a < 256) : hv 0 (c :: l) = c := by
  show gm (hv 0 l) 0 ^^^ c = c
  rw [gm_zero, Nat.zero_xor]
/-- refreshed so many times -/
def rep (L d : List Nat) (t n : Nat) : Nat → List Nat
  | 0 => L
  | r + 1 => rfL (rep L d t n r) d t n
/-- a value with so many times the shares of 0 added -/
def fx (s d e : List Nat) (t k : Nat) : Nat → Nat → Nat
  | 0, x => sy s d t x k
  | r + 1, x => fx s d e t k r x ^^^ sy zs32 e t x k
theorem fx_lt {s d e : List Nat} (hs : ∀ c ∈ s, c < 256) (hd : ∀ c ∈ d, c < 256) (he : ∀ c ∈ e, c < 256) (t k : Nat) : ∀ r x, fx s d e t k r x < 256
  | 0, x => sy_lt hs hd t x k
  | r + 1, x => xor_lt256 (fx_lt hs hd he t k r x) (sy_lt zs32_lt he t x k)
theorem lag_sy {s d : List Nat} (hs : ∀ c ∈ s, c < 256) (hd : ∀ c ∈ d, c < 256) (t k : Nat) (ht : 1 ≤ t) (l : List Nat) (hp : Places l) (hl : t ≤ l.length) : lag (fun x => sy s d t x k) l = s.getD k 0 := by
  have h := lagrange l hp (pl s d t k) (pl_lt hs hd t k) (by rw [pl_len]; unfold kc; omega)
  refine Eq.trans h ?_
  unfold pl
  exact hv_zero _ _ (cf_lt hd k _)
theorem lag_fx {s d e : List Nat} (hs : ∀ c ∈ s, c < 256) (hd : ∀ c ∈ d, c < 256) (he : ∀ c ∈ e, c < 256) (t k : Nat) (hk : k < 32) (ht : 1 ≤ t) (l : List Nat) (hp : Places l) (hl : t ≤ l.length) : ∀ r, lag (fx s d e t k r) l = s.getD k 0
  | 0 => lag_sy hs hd t k ht l hp hl
  | r + 1 => by
    have h := lag_xor (fx s d e t k r) (fun x => sy zs32 e t x k) l
    refine Eq.trans h ?_
    rw [lag_fx hs hd he t k hk ht l hp hl r, lag_sy zs32_lt he t k ht l hp hl]
    have : zs32.getD k 0 = 0 := by unfold zs32; rw [List.getD_eq_getElem?_getD, List.getElem?_replicate, if_pos hk]; rfl
    rw [this, Nat.xor_zero]
theorem shf_x (s d : List Nat) (t n : Nat) {k : Nat} (hk : k < n) : shX (shf s d t n) k = k + 1 := by
  have h := shf_at s d t n k 0 hk (by omega)
  rw [Nat.add_zero] at h
  unfold shX
  rw [List.getD_eq_getElem?_getD, h]
  rfl
theorem shf_y (s d : List Nat) (t n : Nat) {k j : Nat} (hk : k < n) (hj : j < 32) : shY (shf s d t n) k j = sy s d t (k + 1) j := by
  have h := shf_at s d t n k (1 + j) hk (by omega)
  unfold shY
  rw [List.getD_eq_getElem?_getD, h, shr, Nat.add_comm 1 j, List.getElem?_cons_succ, ← List.getD_eq_getElem?_getD, sys_at s d t (k + 1) j hj]
theorem rep_x (s d e : List Nat) (t n : Nat) {k : Nat} (hk : k < n) : ∀ r, shX (rep (shf s d t n) e t n r) k = k + 1
  | 0 => shf_x s d t n hk
  | r + 1 => by rw [rep, rfL_x _ _ _ _ hk, rep_x s d e t n hk r]
theorem rep_y (s d e : List Nat) (t n : Nat) {k j : Nat} (hk : k < n) (hj : j < 32) : ∀ r, shY (rep (shf s d t n) e t n r) k j = fx s d e t j r (k + 1)
  | 0 => shf_y s d t n hk hj
  | r + 1 => by rw [rep, rfL_y _ _ _ _ hk hj, rep_y s d e t n hk hj r, rep_x s d e t n hk r]; rfl
theorem rep_len (s d e : List Nat) (t n : Nat) : ∀ r, (rep (shf s d t n) e t n r).length = n * 33
  | 0 => shf_len s d t n
  | r + 1 => rfL_len _ _ _ _
/-- the shares picked, from the place K on, round -/
def pkS (L : List Nat) (K n m : Nat) : List Nat := (List.range m).flatMap fun j => shR L ((K + j) % n)
theorem pkS_succ (L : List Nat) (K n m : Nat) : pkS L K n (m + 1) = pkS L K n m ++ shR L ((K + m) % n) := by simp [pkS, List.range_succ]
theorem pkS_len {L : List Nat} {n : Nat} (hL : L.length = n * 33) (hn : 0 < n) (K m : Nat) : (pkS L K n m).length = m * 33 := by
  induction m with
  | zero => rfl
  | succ m ih => rw [pkS_succ, List.length_append, ih, shR_len hL (Nat.mod_lt _ hn)]; omega
theorem pkS_at {L : List Nat} {n : Nat} (hL : L.length = n * 33) (hn : 0 < n) (K m : Nat) : ∀ k j, k < m → j < 33 → (pkS L K n m).getD (k * 33 + j) 0 = L.getD (((K + k) % n) * 33 + j) 0 := by
  induction m with
  | zero => intro k j h; omega
  | succ m ih =>
    intro k j h hj
    rw [pkS_succ]
    rcases Nat.lt_or_ge k m with h1 | h1
    · rw [List.getD_eq_getElem?_getD, List.getElem?_append_left (by rw [pkS_len hL hn]; omega), ← List.getD_eq_getElem?_getD]
      exact ih k j h1 hj
    · obtain rfl : k = m := by omega
      rw [List.getD_eq_getElem?_getD, List.getElem?_append_right (by rw [pkS_len hL hn]; omega), pkS_len hL hn, Nat.add_sub_cancel_left, ← List.getD_eq_getElem?_getD, shR_at _ _ _ hj]
theorem pkS_x {L : List Nat} {n : Nat} (hL : L.length = n * 33) (hn : 0 < n) (K m : Nat) {k : Nat} (hk : k < m) : shX (pkS L K n m) k = shX L ((K + k) % n) := by
  have h := pkS_at hL hn K m k 0 hk (by omega)
  exact h
theorem pkS_y {L : List Nat} {n : Nat} (hL : L.length = n * 33) (hn : 0 < n) (K m : Nat) {k j : Nat} (hk : k < m) (hj : j < 32) : shY (pkS L K n m) k j = shY L ((K + k) % n) j := by
  have h := pkS_at hL hn K m k (1 + j) hk (by omega)
  exact h
theorem mod_ne {K n a b : Nat} (hK : K < n) (ha : a < n) (hb : b < n) (h : a ≠ b) : (K + a) % n ≠ (K + b) % n := by
  have e : ∀ c, c < n → (K + c) % n = if K + c < n then K + c else K + c - n := by
    intro c hc
    split
    · exact Nat.mod_eq_of_lt (by omega)
    · rw [Nat.mod_eq_sub_mod (by omega), Nat.mod_eq_of_lt (by omega)]
  rw [e a ha, e b hb]
  split <;> split <;> omega
/-- **any t or more of a secret's shares, refreshed or not, in whatever order, come to it** -/
theorem back_eq (s d e : List Nat) (t n r K m : Nat) (hs : ∀ c ∈ s, c < 256) (hsl : s.length = 32) (hd : ∀ c ∈ d, c < 256) (he : ∀ c ∈ e, c < 256) (ht : 1 ≤ t) (hn : n ≤ 8) (hm : m ≤ n) (htm : t ≤ m) (hK : K < n) :
    comR (pkS (rep (shf s d t n) e t n r) K n m) m = s ∧ comE (pkS (rep (shf s d t n) e t n r) K n m) m = 0 := by
  have hn0 : 0 < n := by omega
  have hL := rep_len s d e t n r
  have hX : ∀ j, j < m → shX (pkS (rep (shf s d t n) e t n r) K n m) j = (K + j) % n + 1 := fun j hj => by
    rw [pkS_x hL hn0 K m hj, rep_x s d e t n (Nat.mod_lt _ hn0) r]
  have hmod : ∀ j, (K + j) % n < n := fun j => Nat.mod_lt _ hn0
  have hp0 : plc (pkS (rep (shf s d t n) e t n r) K n m) m = 0 := plc_ok (fun j hj => by rw [hX j hj]; omega) (fun i j hi hj => by
    rw [hX i hi, hX j (by omega)]
    have := mod_ne (n := n) hK (a := j) (b := i) (by omega) (by omega) (by omega)
    omega)
  have hpl : Places (xsl (pkS (rep (shf s d t n) e t n r) K n m) m) := by
    refine ⟨fun x hx => ?_, ?_⟩
    · obtain ⟨j, hj, rfl⟩ := List.mem_map.1 hx
      have hj := List.mem_range.1 hj
      have := hmod j
      rw [hX j hj]
      omega
    · unfold xsl
      rw [List.nodup_iff_pairwise_ne, List.pairwise_map]
      refine List.Pairwise.imp_of_mem (R := fun a b => a < b) ?_ List.pairwise_lt_range
      intro a b ha hb hab
      have ha := List.mem_range.1 ha
      have hb := List.mem_range.1 hb
      rw [hX a ha, hX b hb]
      have := mod_ne (n := n) hK (a := a) (b := b) (by omega) (by omega) (by omega)
      omega
  have hm0 : ¬ m = 0 := by omega
  refine ⟨?_, by unfold comE; rw [if_neg hm0, hp0]⟩
  unfold comR
  rw [if_neg hm0, if_pos hp0]
  apply List.ext_getElem
  · rw [cmbTo_len, hsl]
  · intro k h1 h2
    have hk : k < 32 := by omega
    have e1 : (cmbTo (pkS (rep (shf s d t n) e t n r) K n m) m m 0)[k] = (cmbTo (pkS (rep (shf s d t n) e t n r) K n m) m m 0).getD k 0 := by rw [List.getD_eq_getElem?_getD, List.getElem?_eq_getElem h1]; rfl
    have e2 : s[k] = s.getD k 0 := by rw [List.getD_eq_getElem?_getD, List.getElem?_eq_getElem h2]; rfl
    refine e1.trans (Eq.trans ?_ e2.symm)
    rw [cmbTo_at _ _ _ _ _ hk, if_neg (by omega), cmb_lag _ m k (fx s d e t k r) (fx_lt hs hd he t k r) (fun j hj => by
      rw [pkS_y hL hn0 K m hj hk, hX j hj, rep_y s d e t n (hmod j) hk r])]
    exact lag_fx hs hd he t k hk ht _ hpl (by rw [xsl_len]; exact htm) r
end Go.Proofs.Ytldanlglefgobaa
