/- The document's form of pieces, step by step: plain. -/
import Derived.Test.YtlidfmbmlhaacaaDe3
namespace Go.Proofs.Ytlidfmbmlhaacaa
open Go.RowKit
set_option linter.unusedVariables false
set_option linter.unusedSimpArgs false
def tailF (l : List Pc) : List Nat := ((grps l).map putL).flatten
def runAt (l : List Pc) (i : Nat) : Nat := run1 (l.getD i pc0).s (l.drop i)
theorem drop_getD {l : List Pc} {i : Nat} (h : i < l.length) : l.drop i = l.getD i pc0 :: l.drop (i + 1) := by
  rw [List.drop_eq_getElem_cons h]
  simp [List.getD_eq_getElem?_getD, h]
theorem run1_atD {l : List Pc} {k : Nat} (s : ByteArray) (h : k < l.length) : run1 s (l.drop k) = if (l.getD k pc0).s = s then run1 s (l.drop (k + 1)) + 1 else 0 := by
  rw [drop_getD h]
  rfl
theorem run1_end {l : List Pc} {k : Nat} (s : ByteArray) (h : l.length ≤ k) : run1 s (l.drop k) = 0 := by rw [List.drop_of_length_le h]; rfl
theorem runAt_pos {l : List Pc} {i : Nat} (h : i < l.length) : 1 ≤ runAt l i ∧ i + runAt l i ≤ l.length := by
  unfold runAt
  have h1 := run1_atD (l.getD i pc0).s h
  rw [if_pos rfl] at h1
  have h2 := run1_le (l.getD i pc0).s (l.drop i)
  rw [List.length_drop] at h2
  omega
theorem grps_atD {l : List Pc} {i : Nat} (h : i < l.length) : grps (l.drop i) = (l.drop i).take (runAt l i) :: grps (l.drop (i + runAt l i)) := by
  unfold runAt
  have h1 := run1_atD (l.getD i pc0).s h
  rw [if_pos rfl] at h1
  rw [h1]
  rw [drop_getD h, grps_cons, List.take_succ_cons, List.drop_drop, show i + 1 + run1 (l.getD i pc0).s (l.drop (i + 1)) = i + (run1 (l.getD i pc0).s (l.drop (i + 1)) + 1) by omega]
def pT (l : List Pc) (i j : Nat) : Int := if j = i then 0 else (l.getD (j - 1) pc0).t
def pS1 (l : List Pc) (i j : Nat) : Int := if j = i then 0 else (l.getD (j - 1) pc0).t
def pS (l : List Pc) (i j : Nat) : Int := if j = i then 0 else if j = i + 1 then (l.getD i pc0).t else w64 ((l.getD (j - 1) pc0).t - (l.getD (j - 2) pc0).t)
def pV (l : List Pc) (i j : Nat) : Int := if j = i then 0 else (l.getD (j - 1) pc0).v
def rowsAt (l : List Pc) (i j : Nat) : List Nat := rowsL (pT l i j) (pS l i j) (pV l i j) (((l.drop i).take (runAt l i)).drop (j - i))
theorem tail_at {l : List Pc} {i : Nat} (h : i < l.length) : tailF (l.drop i) = ((sh (l.getD i pc0).s.size ++ sby (l.getD i pc0).s) ++ sh (runAt l i)) ++ (rowsAt l i i ++ tailF (l.drop (i + runAt l i))) := by
  have hr := runAt_pos h
  unfold tailF
  rw [grps_atD h, List.map_cons, List.flatten_cons]
  have hl : ((l.drop i).take (runAt l i)).length = runAt l i := by rw [List.length_take, List.length_drop]; omega
  have hg : (l.drop i).take (runAt l i) = l.getD i pc0 :: (l.drop (i + 1)).take (runAt l i - 1) := by
    rw [drop_getD h]
    obtain ⟨m, hm⟩ : ∃ m, runAt l i = m + 1 := ⟨runAt l i - 1, by omega⟩
    rw [hm, List.take_succ_cons]
    rfl
  unfold rowsAt pT pS pV
  rw [Nat.sub_self, List.drop_zero, if_pos rfl, if_pos rfl, if_pos rfl]
  have hp : putL ((l.drop i).take (runAt l i)) = sh (l.getD i pc0).s.size ++ sby (l.getD i pc0).s ++ sh (runAt l i) ++ rowsL 0 0 0 ((l.drop i).take (runAt l i)) := by
    conv => lhs; rw [hg]
    unfold putL
    simp only
    rw [← hg, hl]
  rw [hp]
  simp only [List.append_assoc]
theorem rows_end (l : List Pc) (i : Nat) (h : i < l.length) : rowsAt l i (i + runAt l i) = [] := by
  unfold rowsAt
  have hr := runAt_pos h
  rw [List.drop_of_length_le (by rw [List.length_take, List.length_drop]; omega)]
  rfl
theorem rows_at {l : List Pc} {i j : Nat} (hl : ∀ p ∈ l, PcOk p) (h0 : i ≤ j) (h1 : j < i + runAt l i) (h2 : i + runAt l i ≤ l.length) :
    rowsAt l i j = (((sh (zig (w64 (w64 ((l.getD j pc0).t - pT l i j) - pS l i j))) ++ sh (zig (w64 ((l.getD j pc0).v - pV l i j)))) ++ sh (l.getD j pc0).n) ++ form (l.getD j pc0).d 2) ++ rowsAt l i (j + 1) := by
  unfold rowsAt
  have hd : ((l.drop i).take (runAt l i)).drop (j - i) = l.getD j pc0 :: ((l.drop i).take (runAt l i)).drop (j + 1 - i) := by
    have hlt : j - i < ((l.drop i).take (runAt l i)).length := by rw [List.length_take, List.length_drop]; omega
    rw [List.drop_eq_getElem_cons hlt, show j - i + 1 = j + 1 - i by omega]
    congr 1
    rw [List.getElem_take, List.getElem_drop]
    simp only [show i + (j - i) = j by omega]
    simp [List.getD_eq_getElem?_getD, show j < l.length by omega]
  rw [hd, rowsL]
  have e1 : pT l i (j + 1) = (l.getD j pc0).t := by unfold pT; rw [if_neg (by omega)]; rfl
  have e2 : pV l i (j + 1) = (l.getD j pc0).v := by unfold pV; rw [if_neg (by omega)]; rfl
  have e3 : pS l i (j + 1) = w64 ((l.getD j pc0).t - pT l i j) := by
    unfold pS pT
    rw [if_neg (by omega)]
    by_cases hji : j = i
    · subst hji
      rw [if_pos rfl, if_pos rfl]
      have hm : l.getD j pc0 ∈ l := by simp [List.getD_eq_getElem?_getD, show j < l.length by omega]
      have := hl _ hm
      rw [Int.sub_zero, w64_in _ this.t0 this.t1]
    · rw [if_neg (by omega), if_neg hji, show j + 1 - 1 = j from rfl, show j + 1 - 2 = j - 1 from rfl]
  rw [e1, e2, e3]
theorem pT_bd {l : List Pc} {i j : Nat} (h : ∀ k, k < l.length → PcOk (l.getD k pc0)) (hj : j < l.length) : -9223372036854775808 ≤ pT l i j ∧ pT l i j ≤ 9223372036854775807 := by
  unfold pT
  split
  · decide
  · exact ⟨(h _ (by omega)).t0, (h _ (by omega)).t1⟩
theorem pV_bd {l : List Pc} {i j : Nat} (h : ∀ k, k < l.length → PcOk (l.getD k pc0)) (hj : j < l.length) : -9223372036854775808 ≤ pV l i j ∧ pV l i j ≤ 9223372036854775807 := by
  unfold pV
  split
  · decide
  · exact ⟨(h _ (by omega)).v0, (h _ (by omega)).v1⟩
theorem pS_bd {l : List Pc} {i j : Nat} (h : ∀ k, k < l.length → PcOk (l.getD k pc0)) (hj : j < l.length) : -9223372036854775808 ≤ pS l i j ∧ pS l i j ≤ 9223372036854775807 := by
  unfold pS
  split
  · decide
  · split
    · exact ⟨(h _ (by omega)).t0, (h _ (by omega)).t1⟩
    · exact ⟨w64_lo _, w64_hi _⟩
theorem grps_len_le (l : List Pc) : (grps l).length ≤ l.length := by
  have hgn : ∀ l : List Pc, (grps l).length ≤ l.length := grps_ind (by rw [grps_nil]; exact Nat.le_refl _) fun p l ih => by
    rw [grps_cons, List.length_cons, List.length_cons]
    rw [List.length_drop] at ih
    omega
  exact hgn l
end Go.Proofs.Ytlidfmbmlhaacaa
