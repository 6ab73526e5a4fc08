/- A key that came in by value, opened. -/
import Derived.Test.YtfblpkjablgafaaOpen
import Derived.Test.YtfblpkjablgafaaEq
namespace Go.Proofs.Ytfblpkjablgafaa
open Go.ChangeShapes Go.WideShapes Go.ChangeAt Go.RowKit
theorem okWide_array {P : Program} {w : World} {r : Reach} {base n : Nat} {t e : TypeId} {v : Value} (ht : P.underlying t = some (.array n e)) (h : Value.okWide P w r base t v) : ∃ cs, v = .agg cs ∧ cs.size = P.cellsOf t := by
  simp only [Value.okWide, ht] at h
  obtain ⟨cs, h1, h2, _⟩ := h
  exact ⟨cs, h1, h2⟩
theorem open_key {H : Type} {enc : TypeId × Value → H} {W : World} {base : Nat} {v : Value} {d : DataW H} {p : List MemPlace} (hv : Value.okWide Try.prog W .any base 23 v)
    (h : DataW.Trod enc Try.prog W 0 (fun _ => true) true 23 v d p) : ∃ l : List Nat, v = .agg (vb l) ∧ l.length = 32 ∧ ∀ c ∈ l, c < 256 := by
  obtain ⟨cs, rfl, hsz⟩ := okWide_array Try.underlying23 hv
  have hC : Try.prog.cellsOf 23 = 32 := by kernel_rfl
  obtain ⟨fuel, hf⟩ := h
  simp only [Value.cells] at hf
  obtain ⟨l, e, hl, hs⟩ := barr_of Try.underlying23 hC hf
  exact ⟨l, by congr 1; apply Array.toList_inj.1; rw [e]; simp [vb], hl, hs⟩
end Go.Proofs.Ytfblpkjablgafaa
