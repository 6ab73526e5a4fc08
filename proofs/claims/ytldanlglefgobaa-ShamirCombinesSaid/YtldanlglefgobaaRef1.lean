/- Contract: Refresh, where shares may be refreshed. -/
import Derived.Test.YtldanlglefgobaaSsu1
namespace Go.Proofs.Ytldanlglefgobaa
open Go.RowKit
set_option linter.unusedVariables false
def zs32 : List Nat := List.replicate 32 0
/-- a share's values with another secret's shares (the secret 0) added, the first m places done -/
def gTo (L d : List Nat) (t j m : Nat) : List Nat := (List.range 32).map fun k => if k < m then shY L j k ^^^ sy zs32 d t (shX L j) k else shY L j k
theorem gTo_len (L d : List Nat) (t j m : Nat) : (gTo L d t j m).length = 32 := by simp [gTo]
theorem gTo_at (L d : List Nat) (t j m k : Nat) (h : k < 32) : (gTo L d t j m).getD k 0 = if k < m then shY L j k ^^^ sy zs32 d t (shX L j) k else shY L j k := by
  simp [gTo, List.getD_eq_getElem?_getD, h]
theorem gTo_set (L d : List Nat) (t j m : Nat) : (gTo L d t j m).set m (shY L j m ^^^ sy zs32 d t (shX L j) m) = gTo L d t j (m + 1) := by
  apply List.ext_getElem
  · simp [gTo]
  · intro i h1 h2
    simp only [gTo, List.getElem_set, List.getElem_map, List.getElem_range]
    by_cases h : m = i
    · subst h; simp
    · rw [if_neg h]
      by_cases h3 : i < m
      · rw [if_pos h3, if_pos (by omega)]
      · rw [if_neg h3, if_neg (by omega)]
theorem gTo_zero {L : List Nat} {n : Nat} (hL : L.length = n * 33) (d : List Nat) (t j : Nat) (hj : j < n) : shX L j :: gTo L d t j 0 = shR L j := by
  have hl := shR_len hL hj
  apply List.ext_getElem
  · rw [List.length_cons, gTo_len, hl]
  · intro i h1 h2
    have e : (shR L j)[i] = (shR L j).getD i 0 := by rw [List.getD_eq_getElem?_getD, List.getElem?_eq_getElem h2]; rfl
    rw [e, shR_at L j i (by omega)]
    cases i with
    | zero => rfl
    | succ i =>
      have h3 : i < 32 := by omega
      simp only [List.getElem_cons_succ]
      have e2 : (gTo L d t j 0)[i]'(by rw [gTo_len]; exact h3) = (gTo L d t j 0).getD i 0 := by rw [List.getD_eq_getElem?_getD, List.getElem?_eq_getElem (by rw [gTo_len]; exact h3)]; rfl
      rw [e2, gTo_at _ _ _ _ _ _ h3, if_neg (by omega)]
      unfold shY
      rw [Nat.add_comm 1 i]
/-- a share refreshed; shares in a row, refreshed -/
def rfS (L d : List Nat) (t j : Nat) : List Nat := shX L j :: gTo L d t j 32
def rfL (L d : List Nat) (t n : Nat) : List Nat := (List.range n).flatMap (rfS L d t)
theorem rfS_len (L d : List Nat) (t j : Nat) : (rfS L d t j).length = 33 := by rw [rfS, List.length_cons, gTo_len]
theorem rfL_succ (L d : List Nat) (t n : Nat) : rfL L d t (n + 1) = rfL L d t n ++ rfS L d t n := by simp [rfL, List.range_succ]
theorem rfL_len (L d : List Nat) (t n : Nat) : (rfL L d t n).length = n * 33 := by
  induction n with
  | zero => rfl
  | succ n ih => rw [rfL_succ, List.length_append, ih, rfS_len]; omega
theorem rfL_at (L d : List Nat) (t n : Nat) : ∀ k j, k < n → j < 33 → (rfL L d t n)[k * 33 + j]? = (rfS L d t k)[j]? := by
  induction n with
  | zero => intro k j h; omega
  | succ n ih =>
    intro k j h hj
    rw [rfL_succ]
    rcases Nat.lt_or_ge k n with h1 | h1
    · rw [List.getElem?_append_left (by rw [rfL_len]; omega)]
      exact ih k j h1 hj
    · obtain rfl : k = n := by omega
      rw [List.getElem?_append_right (by rw [rfL_len]; omega), rfL_len, Nat.add_sub_cancel_left]
theorem rfL_x (L d : List Nat) (t n : Nat) {k : Nat} (hk : k < n) : shX (rfL L d t n) k = shX L k := by
  have h := rfL_at L d t n k 0 hk (by omega)
  rw [Nat.add_zero] at h
  unfold shX
  rw [List.getD_eq_getElem?_getD, h]
  rfl
theorem rfL_y (L d : List Nat) (t n : Nat) {k j : Nat} (hk : k < n) (hj : j < 32) : shY (rfL L d t n) k j = shY L k j ^^^ sy zs32 d t (shX L k) j := by
  have h := rfL_at L d t n k (1 + j) hk (by omega)
  have h2 := gTo_at L d t k 32 j hj
  rw [if_pos hj] at h2
  unfold shY
  rw [List.getD_eq_getElem?_getD, h, rfS, Nat.add_comm 1 j, List.getElem?_cons_succ, ← List.getD_eq_getElem?_getD, h2]
  unfold shY
  rw [Nat.add_comm 1 j]
theorem zs32_lt : ∀ c ∈ zs32, c < 256 := by decide
theorem rfL_lt {L d : List Nat} (hl : ∀ c ∈ L, c < 256) (hd : ∀ c ∈ d, c < 256) (t n : Nat) : ∀ c ∈ rfL L d t n, c < 256 := by
  intro c hc
  obtain ⟨i, _, h⟩ := List.mem_flatMap.1 hc
  rcases List.mem_cons.1 h with rfl | h
  · exact shX_lt hl i
  · obtain ⟨k, _, rfl⟩ := List.mem_map.1 h
    split
    · exact xor_lt256 (shY_lt hl i k) (sy_lt zs32_lt hd t _ k)
    · exact shY_lt hl i k
/-- what Refresh keeps in memory -/
structure RfW (w : World) (T g1 : Nat) (o : Value) (n : Nat) (lo l : List Nat) (wr : World) : Prop where
  bt : TabAt wr T ftab
  b1 : Blk wr g1 48 (vb l)
  oo : OwnS wr w.heap.size o n lo
  ap : ∀ g, o.ownBlock = some g → g ≠ g1
  bel : Below w.heap.size w wr
  hT : T < g1
  hg : w.heap.size ≤ g1
theorem RfW.next {w wr w' : World} {T g1 n : Nat} {o : Value} {lo l : List Nat} (h : RfW w T g1 o n lo l wr) (hb : Below wr.heap.size wr w') : RfW w T g1 o n lo l w' :=
  ⟨h.bt.below hb (block_lt_tab h.bt), h.b1.below hb h.b1.lt, own_keep (S := fun _ => False) h.oo (Only.of_below hb) (fun _ _ h => h), h.ap, h.bel.trans (hb.mono h.bel.size), h.hT, h.hg⟩
theorem RfW.set_ {w wr : World} {T g1 n : Nat} {o : Value} {lo l : List Nat} (h : RfW w T g1 o n lo l wr) (i v : Nat) : RfW w T g1 o n lo (l.set i v) (wr.setCell ⟨g1, i, none⟩ (.int .u8 (v : Int))) :=
  ⟨(Below.heap_setCell wr _ _ T (by show T ≠ g1; have := h.hT; omega)).trans h.bt, by have := h.b1.set_ i (.int .u8 (v : Int)); rw [vb_set] at this; exact this,
    own_keep (S := fun k => k = g1) h.oo ((Only.refl (fun k => k = g1) _).setCell (fun _ => rfl) _) (fun g hg h2 => h.ap g hg h2), h.ap, h.bel.setCell h.hg _, h.hT, h.hg⟩
end Go.Proofs.Ytldanlglefgobaa
