/- A text's bytes, and one byte more. -/
import Derived.Test.YthlmlmkabjppeaaDoorExp2
import Derived.Lib.ConvBytes
import Derived.Laws.IdiomCopy
import Derived.OrdersHeld
namespace Go.Proofs.YthlmlmkabjppeaaDoor
open Go.RowKit
set_option linter.unusedVariables false
set_option linter.unusedSimpArgs false
/-- a row that a text was turned into: its last place but one is marked -/
def MarkAt (w : World) (g cap : Nat) (s : List Nat) : Prop := ∃ cur : Array Value, w.heap[g]? = some (.cells cur 5 (cur.size, cur.size + 1)) ∧ cur.size = cap ∧ s.length ≤ cap ∧ cap ≤ maxLen ∧ ∀ j, j < s.length → cur[j]? = some (.int .u8 (s.getD j 0 : Nat))
theorem MarkAt.next {w w' : World} {g cap : Nat} {s : List Nat} (h : MarkAt w g cap s) (hb : Below w.heap.size w w') : MarkAt w' g cap s := by
  obtain ⟨cur, hg, r⟩ := h
  refine ⟨cur, ?_, r⟩
  have hlt : g < w.heap.size := (Array.getElem?_eq_some_iff.1 hg).1
  rw [hb.block g hlt]; exact hg
theorem conv_str (w : World) (s : List Nat) (hs : ∀ c ∈ s, c < 256) (hl : s.length ≤ 10000) : ∃ cap W', (convert 9 22 (.string (bstr s))).run Tryd.prog w = .ok (.slice (some ⟨w.heap.size, 0, none⟩) s.length cap) W' ∧ MarkAt W' w.heap.size cap s ∧ Below w.heap.size w W' := by
  have h1 := Lib.run_convert_string_bytes (P := Tryd.prog) w 9 22 5 (bstr s) Tryd.underlying9 Tryd.underlying22 Tryd.underlying5
  rw [bstr_size] at h1
  have hsz : (bstr s).size = s.length := bstr_size s
  have hcap : s.length ≤ grownCap w s.length 0 5 := grownCap_ge w s.length 0 5
  have hmax : grownCap w s.length 0 5 ≤ maxLen := grownCap_le_maxLen w s.length 0 5 (by simp [maxLen]; omega)
  have hcs : (Lib.bytesCells w 5 (bstr s)).size = grownCap w s.length 0 5 := by
    unfold Lib.bytesCells
    rw [Array.size_append, Array.size_map, Array.size_replicate, hsz]
    have : (bstr s).data.size = s.length := hsz
    omega
  refine ⟨_, _, h1, ⟨Lib.bytesCells w 5 (bstr s), Lib.bytesWorld_at_new w 5 (bstr s), hcs, hcap, hmax, fun j hj => ?_⟩, ?_⟩
  · have hb := hs _ (List.getElem_mem hj)
    unfold Lib.bytesCells
    rw [Array.getElem?_append_left (by rw [Array.size_map]; show j < (bstr s).size; rw [hsz]; exact hj)]
    simp [bstr, hj, List.getD_eq_getElem?_getD]
    omega
  · refine ⟨?_, ?_, ?_, ?_, ?_⟩
    · rfl
    · rfl
    · rfl
    · rw [Lib.bytesWorld_size]; omega
    · intro i hi
      exact Lib.bytesWorld_at_old w 5 (bstr s) i hi
/-- one byte more -/
theorem app_mark (w : World) (g cap B : Nat) (s : List Nat) (c : Nat) (ty : TypeId) (A : Option Addr) (ca : Nat) (Bs : Nat) (hm : MarkAt w g cap s) (hB : B ≤ g) (hs : s.length ≤ 10000) (hr : Rd w Bs A (byt [c])) :
    ∃ v' w', (Builtin.append_ #[22, 22] ty #[.slice (some ⟨g, 0, none⟩) s.length cap, .slice A 1 ca]).run Tryd.prog w = .ok v' w' ∧ (∃ A' c', v' = .slice A' (s.length + 1) c' ∧ Rd w' w'.heap.size A' (byt (s ++ [c]))) ∧ Below B w w' := by
  obtain ⟨i0, hi, hz0, hz1, hz2⟩ := info_parts byteInfo
  obtain ⟨ad, rfl, _, hc⟩ := hr (by simp [byt])
  obtain ⟨cur, hg, hcs, hle, hmx, hcur⟩ := hm
  have hlt : g < w.heap.size := (Array.getElem?_eq_some_iff.1 hg).1
  have hcell : ∀ j, j < s.length → w.cell? ⟨g, j, none⟩ = some (.int .u8 (s.getD j 0 : Nat)) := fun j hj => by
    simp only [World.cell?, hg]
    exact hcur j hj
  by_cases hroom : s.length + 1 ≤ cap
  · have hcn : (w.cell? ⟨g, s.length, none⟩).isSome = true := by
      simp only [World.cell?, hg]
      simp; omega
    have hfz : w.frozen? ⟨g, s.length, none⟩ = false := by
      simp [World.frozen?, hg]; omega
    have hf := run_firstCells_some (P := Tryd.prog) w i0.size 1 ad 1 ca (byt [c]) (by rw [hz1]; rfl) hc
    have hst := run_storeCells_cells (P := Tryd.prog) g s.length (byt [c]) 0 w (fun j hj => by
      have : j = 0 := by simp [byt] at hj; exact hj
      subst this; exact hcn) (fun j hj => by
      have : j = 0 := by simp [byt] at hj; exact hj
      subst this; exact hfz) (byt_one [c])
    rw [Nat.add_zero] at hst
    rw [hz1] at hf
    refine ⟨.slice (some ⟨g, 0, none⟩) (s.length + 1) cap, w.setCell ⟨g, s.length, none⟩ (.int .u8 (c : Nat)), ?_, ⟨_, _, rfl, ?_⟩, ?_⟩
    · have hst' : (storeCells ⟨g, s.length, none⟩ (byt [c])).run Tryd.prog w = .ok () (w.setCell ⟨g, s.length, none⟩ (.int .u8 (c : Nat))) := hst
      simp [Builtin.append_, run_underlying Tryd.underlying22, sizeOf, typeInfo, hi, Builtin.lenOf, hroom, hf, Addr.add_lit, hst', hz1]
    · intro _
      refine ⟨_, rfl, by simpa using hlt, fun j u hu => ?_⟩
      have hj : j < s.length + 1 := by
        rcases Nat.lt_or_ge j (s.length + 1) with h1 | h1
        · exact h1
        · rw [List.getElem?_eq_none (by rw [byt_len, List.length_append]; exact h1)] at hu; cases hu
      rw [Addr.add_mid, Nat.zero_add]
      rcases Nat.lt_or_ge j s.length with h1 | h1
      · rw [World.cell?_setCell_other _ _ _ _ (by simp <;> omega), hcell j h1, ← hu, byt_at (by rw [List.length_append]; omega)]
        congr 3
        rw [List.getD_eq_getElem?_getD, List.getD_eq_getElem?_getD, List.getElem?_append_left h1]
      · obtain rfl : j = s.length := by omega
        obtain ⟨u0, hu0⟩ := Option.isSome_iff_exists.1 hcn
        rw [World.cell?_setCell_same _ _ _ hu0, ← hu, byt_at (by rw [List.length_append]; omega)]
        congr 3
        rw [List.getD_eq_getElem?_getD, List.getElem?_append_right (Nat.le_refl _), Nat.sub_self]
        rfl
    · exact (Below.refl _ _).setCell hB _
  · have h1 := run_append_grow (P := Tryd.prog) w 22 ty 5 i0 _ Tryd.underlying22 hi hz0 ⟨g, 0, none⟩ s.length cap (byt s) (by rw [hz1, byt_len, Nat.mul_one]) (fun j v hv => by
        have hj : j < s.length := by
          rcases Nat.lt_or_ge j s.length with h1 | h1
          · exact h1
          · rw [List.getElem?_eq_none (by rw [byt_len]; exact h1)] at hv; cases hv
        rw [Addr.add_mid, Nat.zero_add, hcell j hj, ← hv, byt_at hj]) ad 1 ca (byt [c]) (by rw [hz1]; rfl) hc (by omega) (by omega) (growslice_fits (by omega) (by rw [hz2]; omega))
    refine ⟨_, _, h1, ⟨_, _, rfl, ?_⟩, ?_⟩
    · have hb := Blk.new w.drew 5 ((byt s).toArray ++ (byt [c]).toArray ++ Builtin.zeroCells (Value.int .u8 0).cells (grownCap w (s.length + 1) cap 5 - (s.length + 1)))
      exact (rd_blk hb (byt (s ++ [c])) (s.length + 1) (by
        rw [Array.toList_append, Array.toList_append, List.toList_toArray, List.toList_toArray, List.take_append_of_le_length (by simp [byt]), byt_app, List.take_of_length_le (by simp [byt])])).more hb.lt
    · exact (Below.refl _ _).drew.alloc (Nat.le_trans hB (Nat.le_of_lt hlt)) _
end Go.Proofs.YthlmlmkabjppeaaDoor
