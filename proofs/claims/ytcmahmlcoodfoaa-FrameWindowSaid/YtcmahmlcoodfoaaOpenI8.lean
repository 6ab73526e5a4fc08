/- A []int8 that came in, opened. -/
import Derived.Test.YtcmahmlcoodfoaaLift
namespace Go.Proofs.Ytcmahmlcoodfoaa
open Go.ChangeShapes Go.WideShapes Go.ChangeAt Go.RowKit
theorem open_i8s {H : Type} {enc : TypeId × Value → H} {W : World} {base : Nat} {v : Value} {d : DataW H} {p : List MemPlace} (hv : Value.okWide Try.prog W .any base 23 v)
    (h : DataW.Trod enc Try.prog W 0 (fun _ => true) true 23 v d p) :
    ∃ (A : Option Addr) (l : List Int) (cap : Nat), v = .slice A l.length cap ∧ (∀ z ∈ l, -128 ≤ z ∧ z ≤ 127) ∧ Rd W W.heap.size A (l.map (Value.int .i8)) ∧ l.length ≤ maxLen := by
  obtain ⟨A, len, cap, rfl⟩ := okWide_slice Try.underlying23 hv
  obtain ⟨fuel, hf⟩ := h
  rcases open_ints Try.underlying23 Try.underlying31 (by kernel_rfl) hf with ⟨hcs, _⟩ | ⟨x, l, c, zs, hcs, _, hl, hm, hz, _, hcell, hwz⟩
  · simp [Value.cells] at hcs
    obtain ⟨rfl, rfl, rfl⟩ := hcs
    exact ⟨none, [], 0, rfl, by simp, Rd.nil_ _ _ _, by simp⟩
  · simp [Value.cells] at hcs
    obtain ⟨rfl, rfl, rfl⟩ := hcs
    have hz' : zs.length = cap := by simpa using hz
    have hlen : (zs.take len).length = len := by simp; omega
    refine ⟨some x, zs.take len, cap, by rw [hlen], fun z hz1 => ?_, ?_, by rw [hlen]; omega⟩
    · have := bounds_i8 (hwz z (List.mem_of_mem_take hz1))
      omega
    · intro hne
      have h0 : 0 < len := by
        rcases Nat.eq_zero_or_pos len with h0 | h0
        · subst h0; simp at hne
        · exact h0
      have hc0 := hcell 0 (by omega)
      refine ⟨x, rfl, by have := block_lt hc0; rwa [add_block] at this, fun j u hu => ?_⟩
      have hj : j < len := by
        rcases Nat.lt_or_ge j len with h1 | h1
        · exact h1
        · rw [List.getElem?_eq_none (by rw [List.length_map, hlen]; exact h1)] at hu; cases hu
      have hjz : j < zs.length := by omega
      rw [hcell j hjz, ← hu, List.getElem?_map, List.getElem?_take_of_lt hj, List.getD_eq_getElem?_getD, List.getElem?_eq_getElem hjz]
      rfl
end Go.Proofs.Ytcmahmlcoodfoaa
