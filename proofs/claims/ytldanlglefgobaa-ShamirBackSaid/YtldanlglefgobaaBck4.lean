/- ShamirBack: all cases. -/
import Derived.Test.YtldanlglefgobaaBck3
namespace Go.Proofs.Ytldanlglefgobaa
open Go.RowKit
theorem shamirBack_w (s d e : List Nat) (n t first : Int) (u : Nat) (cd ce : Nat) (D E : Option Addr) (w : World) (hsl : s.length = 32) (hs : ∀ c ∈ s, c < 256) (hd : ∀ c ∈ d, c < 256) (he : ∀ c ∈ e, c < 256)
    (hrd : Rd w w.heap.size D (byt d)) (hre : Rd w w.heap.size E (byt e)) (hf0 : -9223372036854775808 ≤ first) (hf1 : first ≤ 9223372036854775807) (hu : u < 256) :
    Calls Try.prog 12 #[.agg (vb s), .int .i64 n, .int .i64 t, .slice D d.length cd, .slice E e.length ce, .int .i64 first, .int .u8 u] w (Yes w) := by
  by_cases h : n < 1 ∨ 8 < n ∨ t < 1 ∨ n < t ∨ 300 < d.length ∨ 300 < e.length
  · exact back_out s d e n t first u cd ce D E w h
  · obtain ⟨N, rfl⟩ := Int.eq_ofNat_of_zero_le (by omega : 0 ≤ n)
    obtain ⟨T, rfl⟩ := Int.eq_ofNat_of_zero_le (by omega : 0 ≤ t)
    exact back_ok s d e N T first u cd ce D E w hsl hs hd he hrd hre (by omega) (by omega) (by omega) (by omega) (by omega) (by omega) hf0 hf1 hu
end Go.Proofs.Ytldanlglefgobaa
