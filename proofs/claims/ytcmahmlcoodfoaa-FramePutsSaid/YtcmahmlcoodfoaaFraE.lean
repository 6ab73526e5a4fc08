/- Contract: Same of frames. -/
import Derived.Test.YtcmahmlcoodfoaaFraE1
import Derived.Test.YtcmahmlcoodfoaaFraE2
import Derived.Test.YtcmahmlcoodfoaaFraE3
namespace Go.Proofs.Ytcmahmlcoodfoaa
open Go.RowKit
theorem same21_c (x y : Fr) (vx vy : Value) (w : World) (hx : Fin w x vx) (hy : Fin w y vy) :
    Calls Try.prog 28 #[.agg (frV x vx), .agg (frV y vy)] w fun e w' => e = .returned (.bool (sameF x y)) ∧ Below w.heap.size w w' := by
  cases h1 : ((x.k == y.k) && (x.f == y.f) && (x.t == y.t) && (x.i == y.i))
  · exact same21_1 x y vx vy w hx hy ⟨rfl, h1⟩
  · cases h2 : ((x.b == y.b) && (x.o == y.o))
    · exact same21_2 x y vx vy w hx hy ⟨h1, h2⟩
    · exact same21_3 x y vx vy w hx hy (by simp only [Bool.and_eq_true] at h1 h2 ⊢; exact ⟨⟨h1, h2.1⟩, h2.2⟩)
end Go.Proofs.Ytcmahmlcoodfoaa
