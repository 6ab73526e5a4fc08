/- Two cells in a row; small words for walks. -/
import Derived.Test.YtcmahmlcoodfoaaOnly
import Derived.Test.YtcmahmlcoodfoaaByt1
namespace Go.Proofs.Ytcmahmlcoodfoaa
open Go.RowKit
set_option linter.unusedVariables false
theorem u64Inf : (Try.prog.info? 22).map (fun i => (i.zero, i.size, i.bytes)) = some (some (.int .u64 0), 1, 8) := by kernel_rfl
theorem cellLt {w : World} {a : Addr} {v : Value} (h : w.cell? a = some v) : a.block < w.heap.size := by
  rcases Nat.lt_or_ge a.block w.heap.size with h1 | h1
  · exact h1
  · simp [World.cell?, Array.getElem?_eq_none h1] at h
def Two (g : Nat) (hi : Int) (lo : Nat) (w : World) : Prop := w.cell? ⟨g, 0, none⟩ = some (.int .i64 hi) ∧ w.cell? ⟨g, 1, none⟩ = some (.int .u64 lo)
theorem Two.next {g : Nat} {hi : Int} {lo : Nat} {w w' : World} (h : Two g hi lo w) (hb : Below w.heap.size w w') : Two g hi lo w' := ⟨(hb.cell (cellLt h.1)).trans h.1, (hb.cell (cellLt h.2)).trans h.2⟩
theorem Two.alloc {g : Nat} {hi : Int} {lo : Nat} {w : World} (h : Two g hi lo w) (o : Obj) : Two g hi lo (w.alloc o) := h.next ((Below.refl _ _).alloc (Nat.le_refl _) o)
theorem Two.new (hi : Int) (lo : Nat) (w : World) (T : TypeId) : Two w.heap.size hi lo (w.alloc (.cells #[.int .i64 hi, .int .u64 lo] T)) := ⟨by simp, by simp⟩
theorem Below.ofDrew {B : Nat} {w w' : World} (h : Below B w.drew w') : Below B w w' := ⟨h.os, h.tape, h.output, h.size, h.block⟩
theorem warr_at (k : IntKind) (l : List Nat) (rest : List Value) (i : Nat) (h : i < l.length) : (wrd k l ++ rest).toArray[i]? = some (.int k (l.getD i 0 : Nat)) := by
  rw [List.getElem?_toArray, List.getElem?_append_left (by rw [wrd_len]; exact h)]
  exact wrd_at h
theorem warr_at0 (k : IntKind) (l : List Nat) (i : Nat) (h : i < l.length) : (wrd k l).toArray[i]? = some (.int k (l.getD i 0 : Nat)) := by
  rw [List.getElem?_toArray]
  exact wrd_at h
theorem warr_set (k : IntKind) (l : List Nat) (rest : List Value) (i n : Nat) (h : i < l.length) : (wrd k l ++ rest).toArray.setIfInBounds i (.int k (n : Int)) = (wrd k (l.set i n) ++ rest).toArray := by
  rw [List.setIfInBounds_toArray]
  congr 1
  rw [List.set_append, if_pos (by rw [wrd_len]; exact h)]
  simp [wrd, List.map_set]
theorem OwnK.open_ {w : World} {base : Nat} {T : TypeId} {k : IntKind} {v : Value} {l : List Nat} (h : OwnK w base T k v l) (hne : l ≠ []) : ∃ g cap rest, v = .slice (some ⟨g, 0, none⟩) l.length cap ∧ base ≤ g ∧ Blk w g T (wrd k l ++ rest).toArray ∧ l.length ≤ cap ∧ cap ≤ maxLen ∧ rest.length + l.length = cap := by
  rcases h.2 with ⟨_, h0⟩ | ⟨g, cap, cur, rfl, hb, hh, hn, hm, hc, ht⟩
  · exact absurd (List.eq_nil_of_length_eq_zero h0) hne
  · refine ⟨g, cap, cur.toList.drop l.length, rfl, hb, ?_, hn, hm, ?_⟩
    · rw [Nat.mul_one] at ht
      unfold Blk
      rw [hh, ← ht, List.take_append_drop]
    · rw [List.length_drop, Array.length_toList, hc]; omega
end Go.Proofs.Ytcmahmlcoodfoaa
