/- Handed bytes: the length is within the room, the room within what an int holds. -/
import Derived.Test.YtlidfmbmlhaacaaLift
namespace Go.Proofs.Ytlidfmbmlhaacaa
open Go.ChangeShapes Go.WideShapes Go.ChangeAt Go.RowKit
theorem cap_both {H : Type} {enc : TypeId × Value → H} {W : World} {A : Option Addr} {n cap : Nat} {d : DataW H} {p : List MemPlace}
    (h : DataW.Trod enc Try.prog W 0 (fun _ => true) true 32 (.slice A n cap) d p) : n ≤ cap ∧ cap ≤ maxLen := by
  obtain ⟨fuel, hf⟩ := h
  rcases open_ints Try.underlying32 Try.underlying5 (by kernel_rfl) hf with ⟨hcs, _⟩ | ⟨x, l, c, zs, hcs, _, hl, hm, hz, _, hcell, hwz⟩
  · simp [Value.cells] at hcs
    exact ⟨by omega, by unfold maxLen; omega⟩
  · simp [Value.cells] at hcs
    obtain ⟨rfl, rfl, rfl⟩ := hcs
    exact ⟨hl, by omega⟩
end Go.Proofs.Ytlidfmbmlhaacaa
