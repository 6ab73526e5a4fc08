/- An array of sixteen bytes that came in by value, opened. -/
import Derived.Test.YtfblpkjablgafaaOpenK
namespace Go.Proofs.Ytfblpkjablgafaa
open Go.ChangeShapes Go.WideShapes Go.ChangeAt Go.RowKit
theorem open_b16 {H : Type} {enc : TypeId × Value → H} {W : World} {base : Nat} {v : Value} {d : DataW H} {p : List MemPlace} (hv : Value.okWide Try.prog W .any base 28 v)
    (h : DataW.Trod enc Try.prog W 0 (fun _ => true) true 28 v d p) : ∃ l : List Nat, v = .agg (vb l) ∧ l.length = 16 ∧ ∀ c ∈ l, c < 256 := by
  obtain ⟨cs, rfl, hsz⟩ := okWide_array Try.underlying28 hv
  have hC : Try.prog.cellsOf 28 = 16 := by kernel_rfl
  obtain ⟨fuel, hf⟩ := h
  simp only [Value.cells] at hf
  obtain ⟨l, e, hl, hs⟩ := barr_of Try.underlying28 hC hf
  exact ⟨l, by unfold vb; rw [← e, Array.toArray_toList], hl, hs⟩
end Go.Proofs.Ytfblpkjablgafaa
