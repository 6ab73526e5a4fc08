/- Handed bytes: the length is within the room. -/
import Derived.Test.YtcmahmlcoodfoaaLift
namespace Go.Proofs.Ytcmahmlcoodfoaa
open Go.ChangeShapes Go.WideShapes Go.ChangeAt Go.RowKit
theorem cap_bytes {H : Type} {enc : TypeId × Value → H} {W : World} {A : Option Addr} {n cap : Nat} {d : DataW H} {p : List MemPlace}
    (h : DataW.Trod enc Try.prog W 0 (fun _ => true) true 35 (.slice A n cap) d p) : n ≤ cap := by
  obtain ⟨fuel, hf⟩ := h
  rcases open_ints Try.underlying35 Try.underlying5 (by kernel_rfl) hf with ⟨hcs, _⟩ | ⟨x, l, c, zs, hcs, _, hl, hm, hz, _, hcell, hwz⟩
  · simp [Value.cells] at hcs
    omega
  · simp [Value.cells] at hcs
    obtain ⟨rfl, rfl, rfl⟩ := hcs
    exact hl
end Go.Proofs.Ytcmahmlcoodfoaa
