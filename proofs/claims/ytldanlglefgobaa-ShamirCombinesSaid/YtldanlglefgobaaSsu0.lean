/- ShamirSums: the plain side; building a share. -/
import Derived.Test.YtldanlglefgobaaPla3
namespace Go.Proofs.Ytldanlglefgobaa
open Go.RowKit
set_option linter.unusedVariables false
theorem wtl_congr {L M : List Nat} {n : Nat} (h : ∀ j, j < n → shX L j = shX M j) {i : Nat} (hi : i < n) : ∀ k, k ≤ n → wtl L i k = wtl M i k
  | 0, _ => rfl
  | k + 1, hk => by
    unfold wtl
    rw [wtl_congr h hi k (by omega), h k (by omega), h i hi]
theorem cmb_xor {A B C : List Nat} {n : Nat} (hx : ∀ j, j < n → shX A j = shX C j) (hx2 : ∀ j, j < n → shX B j = shX C j) (hy : ∀ j k, j < n → k < 32 → shY C j k = shY A j k ^^^ shY B j k) (k : Nat) (hk : k < 32) :
    ∀ j, j ≤ n → cmb C n j k = cmb A n j k ^^^ cmb B n j k
  | 0, _ => by simp [cmb]
  | j + 1, hj => by
    have ih := cmb_xor hx hx2 hy k hk j (by omega)
    unfold cmb
    rw [ih, hy j k (by omega) hk, gm_right, wtl_congr hx (by omega : j < n) n (Nat.le_refl _), wtl_congr hx2 (by omega : j < n) n (Nat.le_refl _)]
    exact xor_swap4 _ _ _ _
theorem plc_ok {L : List Nat} {n : Nat} (h0 : ∀ j, j < n → shX L j ≠ 0) (hd : ∀ i j, i < n → j < i → shX L j ≠ shX L i) : plc L n = 0 := by
  have hz : zeroX L n = false := by
    rw [zeroX, List.any_eq_false]
    intro j hj
    simpa using h0 j (List.mem_range.1 hj)
  have hdd : dupX L n = false := by
    rw [dupX, List.any_eq_false]
    intro i hi
    rw [hasX, Bool.not_eq_true, List.any_eq_false]
    intro j hj
    simpa using hd i j (List.mem_range.1 hi) (List.mem_range.1 hj)
  unfold plc
  rw [hz, hdd]
  rfl
/-- the shares of rows of keys: the place 7 i + 1, the bytes f i -/
def mkS (f : Nat → List Nat) (n : Nat) : List Nat := (List.range n).flatMap fun i => (7 * i + 1) :: f i
theorem mkS_succ (f : Nat → List Nat) (n : Nat) : mkS f (n + 1) = mkS f n ++ ((7 * n + 1) :: f n) := by simp [mkS, List.range_succ]
theorem mkS_len {f : Nat → List Nat} (hf : ∀ i, (f i).length = 32) (n : Nat) : (mkS f n).length = n * 33 := by
  induction n with
  | zero => rfl
  | succ n ih => rw [mkS_succ, List.length_append, ih, List.length_cons, hf]; omega
theorem mkS_at {f : Nat → List Nat} (hf : ∀ i, (f i).length = 32) (n : Nat) : ∀ k j, k < n → j < 33 → (mkS f n)[k * 33 + j]? = ((7 * k + 1) :: f k)[j]? := by
  induction n with
  | zero => intro k j h; omega
  | succ n ih =>
    intro k j h hj
    rw [mkS_succ]
    rcases Nat.lt_or_ge k n with h1 | h1
    · rw [List.getElem?_append_left (by rw [mkS_len hf]; omega)]
      exact ih k j h1 hj
    · obtain rfl : k = n := by omega
      rw [List.getElem?_append_right (by rw [mkS_len hf]; omega), mkS_len hf, Nat.add_sub_cancel_left]
theorem mkS_x {f : Nat → List Nat} (hf : ∀ i, (f i).length = 32) (n : Nat) {k : Nat} (hk : k < n) : shX (mkS f n) k = 7 * k + 1 := by
  have h := mkS_at hf n k 0 hk (by omega)
  rw [Nat.add_zero] at h
  unfold shX
  rw [List.getD_eq_getElem?_getD, h]
  rfl
theorem mkS_y {f : Nat → List Nat} (hf : ∀ i, (f i).length = 32) (n : Nat) {k j : Nat} (hk : k < n) (hj : j < 32) : shY (mkS f n) k j = (f k).getD j 0 := by
  have h := mkS_at hf n k (1 + j) hk (by omega)
  unfold shY
  rw [List.getD_eq_getElem?_getD, h, Nat.add_comm 1 j, List.getElem?_cons_succ, ← List.getD_eq_getElem?_getD]
theorem mkS_lt {f : Nat → List Nat} (hs : ∀ i, ∀ c ∈ f i, c < 256) {n : Nat} (hn : n ≤ 8) : ∀ c ∈ mkS f n, c < 256 := by
  intro c hc
  obtain ⟨i, hi, h⟩ := List.mem_flatMap.1 hc
  have hi := List.mem_range.1 hi
  rcases List.mem_cons.1 h with rfl | h
  · omega
  · exact hs i c h
theorem mkS_plc {f : Nat → List Nat} (hf : ∀ i, (f i).length = 32) (n : Nat) : plc (mkS f n) n = 0 :=
  plc_ok (fun j hj => by rw [mkS_x hf n hj]; omega) (fun i j hi hj => by rw [mkS_x hf n hi, mkS_x hf n (by omega)]; omega)
/-- row i of a row of keys -/
def krow (L : List Nat) (i : Nat) : List Nat := (List.range 32).map fun k => L.getD (i * 32 + k) 0
theorem krow_len (L : List Nat) (i : Nat) : (krow L i).length = 32 := by simp [krow]
theorem krow_at (L : List Nat) (i k : Nat) (hk : k < 32) : (krow L i).getD k 0 = L.getD (i * 32 + k) 0 := by simp [krow, List.getD_eq_getElem?_getD, hk]
theorem krow_lt {L : List Nat} (h : ∀ c ∈ L, c < 256) (i : Nat) : ∀ c ∈ krow L i, c < 256 := by
  intro c hc
  obtain ⟨k, _, rfl⟩ := List.mem_map.1 hc
  exact getD_lt h _
/-- sums of rows -/
def xrow (L M : List Nat) (i : Nat) : List Nat := fTo (fun k => L.getD (i * 32 + k) 0 ^^^ M.getD (i * 32 + k) 0) 32
theorem xrow_at (L M : List Nat) (i k : Nat) (hk : k < 32) : (xrow L M i).getD k 0 = (krow L i).getD k 0 ^^^ (krow M i).getD k 0 := by
  unfold xrow
  rw [fTo_at _ _ _ hk, if_pos hk, krow_at _ _ _ hk, krow_at _ _ _ hk]
theorem comR_xor (L M : List Nat) (n : Nat) (hn : 0 < n) (k : Nat) (hk : k < 32) :
    (comR (mkS (xrow L M) n) n).getD k 0 = (comR (mkS (krow L) n) n).getD k 0 ^^^ (comR (mkS (krow M) n) n).getD k 0 := by
  have hf1 := krow_len L
  have hf2 := krow_len M
  have hf3 : ∀ i, (xrow L M i).length = 32 := fun i => fTo_len _ _
  have hn0 : ¬ n = 0 := by omega
  unfold comR
  rw [if_neg hn0, if_neg hn0, if_neg hn0, if_pos (mkS_plc hf1 n), if_pos (mkS_plc hf2 n), if_pos (mkS_plc hf3 n), cmbTo_at _ _ _ _ _ hk, cmbTo_at _ _ _ _ _ hk, cmbTo_at _ _ _ _ _ hk, if_neg (by omega), if_neg (by omega), if_neg (by omega)]
  refine cmb_xor (fun j hj => by rw [mkS_x hf1 n hj, mkS_x hf3 n hj]) (fun j hj => by rw [mkS_x hf2 n hj, mkS_x hf3 n hj]) (fun j k hj hk => by rw [mkS_y hf3 n hj hk, mkS_y hf1 n hj hk, mkS_y hf2 n hj hk, xrow_at _ _ _ _ hk]) k hk n (Nat.le_refl _)
theorem comE_mkS {f : Nat → List Nat} (hf : ∀ i, (f i).length = 32) (n : Nat) (hn : 0 < n) : comE (mkS f n) n = 0 := by
  unfold comE
  rw [if_neg (by omega), mkS_plc hf n]
theorem built_fill (parts : List (Nat × Value)) : Try.prog.built 48 parts = Instr.fill (fun i => (#[(0, 1), (1, 32)] : Array (Nat × Nat))[i]?) z33 parts := by kernel_rfl
theorem fold_row (x : Nat) (y : List Nat) (hy : y.length = 32) : (vb y).zipIdx.foldl (fun cs (c, j) => cs.setIfInBounds (1 + j) c) (vb (x :: List.replicate 32 0)) = vb (x :: y) := by
  rw [← Array.foldl_toList, Array.toList_zipIdx]
  have h := Great.foldl_set 1 (byt y) 0 (vb (x :: List.replicate 32 0))
  have e : (vb y).toList = byt y := rfl
  rw [e]
  apply Array.ext_getElem?
  intro k
  refine (h.2 k).trans ?_
  have hs : (vb (x :: List.replicate 32 0)).size = 33 := by rw [vb_size]; rfl
  rw [byt_len, hy, hs]
  have e2 : (vb (x :: y))[k]? = (byt (x :: y))[k]? := by rw [vb, List.getElem?_toArray]
  have e3 : (vb (x :: List.replicate 32 0))[k]? = (byt (x :: List.replicate 32 0))[k]? := by rw [vb, List.getElem?_toArray]
  rw [e2, e3]
  cases k with
  | zero => simp [byt]
  | succ k =>
    by_cases hk : k < 32
    · rw [if_pos ⟨by omega, by omega, by omega⟩]
      simp [byt]
    · rw [if_neg (by omega)]
      simp only [byt, List.map_cons, List.getElem?_cons_succ]
      rw [List.getElem?_eq_none (by simp; omega), List.getElem?_eq_none (by simp; omega)]
/-- a share built of its place and its bytes -/
theorem built_share2 (x : Nat) (y : List Nat) (hy : y.length = 32) : Try.prog.built 48 [(0, .int .u8 (x : Int)), (1, .agg (vb y))] = some (vb (x :: y)) := by
  rw [built_fill]
  have hz : z33.size = 33 := z33_size
  have hv : (vb y).size = 32 := by rw [vb_size, hy]
  have h1 := z33_set x
  have h2 := fold_row x y hy
  have hC : (vb (x :: List.replicate 32 0)).size = 33 := by rw [vb_size]; rfl
  generalize vb (x :: List.replicate 32 0) = C0 at *
  simp only [Instr.fill, Value.cells]
  simp [hv] at h2
  simp [hz, hv, h1, h2, hC]
end Go.Proofs.Ytldanlglefgobaa
