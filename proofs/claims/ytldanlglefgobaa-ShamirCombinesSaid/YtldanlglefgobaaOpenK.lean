/- A key that came in by value, opened. -/
import Derived.Test.YtldanlglefgobaaOpen
import Derived.Test.YtldanlglefgobaaEq
namespace Go.Proofs.Ytldanlglefgobaa
open Go.ChangeShapes Go.WideShapes Go.ChangeAt Go.RowKit
theorem okWide_array {P : Program} {w : World} {r : Reach} {base n : Nat} {t e : TypeId} {v : Value} (ht : P.underlying t = some (.array n e)) (h : Value.okWide P w r base t v) : ∃ cs, v = .agg cs ∧ cs.size = P.cellsOf t := by
  simp only [Value.okWide, ht] at h
  obtain ⟨cs, h1, h2, _⟩ := h
  exact ⟨cs, h1, h2⟩
theorem open_key {H : Type} {enc : TypeId × Value → H} {W : World} {base : Nat} {v : Value} {d : DataW H} {p : List MemPlace} (hv : Value.okWide Try.prog W .any base 43 v)
    (h : DataW.Trod enc Try.prog W 0 (fun _ => true) true 43 v d p) : ∃ l : List Nat, v = .agg (vb l) ∧ l.length = 32 ∧ ∀ c ∈ l, c < 256 := by
  obtain ⟨cs, rfl, hsz⟩ := okWide_array Try.underlying43 hv
  have hC : Try.prog.cellsOf 43 = 32 := by kernel_rfl
  obtain ⟨fuel, hf⟩ := h
  simp only [Value.cells] at hf
  obtain ⟨l, e, hl, hs⟩ := barr_of Try.underlying43 hC hf
  exact ⟨l, by congr 1; apply Array.toList_inj.1; rw [e]; simp [vb], hl, hs⟩
end Go.Proofs.Ytldanlglefgobaa
