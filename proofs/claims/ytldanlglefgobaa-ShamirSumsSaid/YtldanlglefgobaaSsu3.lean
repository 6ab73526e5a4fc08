/- ShamirSums: all cases. -/
import Derived.Test.YtldanlglefgobaaSsu2
namespace Go.Proofs.Ytldanlglefgobaa
open Go.RowKit
set_option linter.unusedVariables false
theorem shamirSums_w (A B : Option Addr) (n m ca cb : Nat) (L M : List Nat) (w : World) (hca : n ≤ ca) (hcb : m ≤ cb) (hca2 : ca ≤ maxLen) (hcb2 : cb ≤ maxLen) (hL : L.length = n * 32) (hM : M.length = m * 32) (hl : ∀ c ∈ L, c < 256) (hml : ∀ c ∈ M, c < 256)
    (hrA : Rd w w.heap.size A (byt L)) (hrB : Rd w w.heap.size B (byt M)) :
    Calls Try.prog 10 #[.slice A n ca, .slice B m cb] w (Yes w) := by
  unfold maxLen at hca2 hcb2
  by_cases h : n = 0 ∨ 8 < n ∨ m < n
  · exact sums_out A B n m ca cb w h
  · have hne : ∀ K : List Nat, 0 < K.length → byt K ≠ [] := fun K hK h0 => by
      have := congrArg List.length h0
      rw [byt_len] at this
      simp only [List.length_nil] at this
      omega
    obtain ⟨al, rfl, hba, hA⟩ := hrA (hne L (by omega))
    obtain ⟨bl, rfl, hbb, hB⟩ := hrB (hne M (by omega))
    exact sums_ok al bl n m ca cb L M w (by omega) (by omega) (by omega) hca hcb (by omega) (by omega) hL hM hl hml hba hbb hA hB
end Go.Proofs.Ytldanlglefgobaa
