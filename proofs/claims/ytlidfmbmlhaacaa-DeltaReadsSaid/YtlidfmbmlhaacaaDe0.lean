/- Pieces, as bytes: plain. -/
import Derived.Test.YtlidfmbmlhaacaaBas
namespace Go.Proofs.Ytlidfmbmlhaacaa
open Go.RowKit
set_option linter.unusedVariables false
set_option linter.unusedSimpArgs false
/-- int64's wrap -/
def w64 (x : Int) : Int := (x + 9223372036854775808) % 18446744073709551616 - 9223372036854775808
theorem w64_lo (x : Int) : -9223372036854775808 ≤ w64 x := by unfold w64; omega
theorem w64_hi (x : Int) : w64 x ≤ 9223372036854775807 := by unfold w64; omega
theorem w64_in (x : Int) (h0 : -9223372036854775808 ≤ x) (h1 : x ≤ 9223372036854775807) : w64 x = x := by unfold w64; omega
theorem w64_add (a b : Int) : w64 (w64 a + b) = w64 (a + b) := by unfold w64; omega
theorem w64_add' (a b : Int) : w64 (a + w64 b) = w64 (a + b) := by unfold w64; omega
theorem w64_sub (a b : Int) : w64 (w64 a - b) = w64 (a - b) := by unfold w64; omega
theorem w64_sub' (a b : Int) : w64 (a - w64 b) = w64 (a - b) := by unfold w64; omega
structure Pc where
  s : ByteArray
  t : Int
  v : Int
  n : Nat
  d : Nat
structure PcOk (p : Pc) : Prop where
  t0 : -9223372036854775808 ≤ p.t
  t1 : p.t ≤ 9223372036854775807
  v0 : -9223372036854775808 ≤ p.v
  v1 : p.v ≤ 9223372036854775807
  n1 : p.n < 18446744073709551616
  d1 : p.d < 65536
/-- a text's bytes -/
def sby (s : ByteArray) : List Nat := s.toList.map (·.toNat)
theorem sby_lt (s : ByteArray) : ∀ c ∈ sby s, c < 256 := fun c h => by
  obtain ⟨u, _, rfl⟩ := List.mem_map.1 h
  exact u.toNat_lt
/-- the short form -/
def sh (n : Nat) : List Nat := if h : n < 128 then [n] else (n % 128 + 128) :: sh (n / 128)
termination_by n
decreasing_by omega
theorem sh_lt (n : Nat) : ∀ c ∈ sh n, c < 256 := by
  induction n using Nat.strongRecOn with
  | ind n ih =>
    intro c hc
    rw [sh] at hc
    split at hc
    · simp at hc; omega
    · rcases List.mem_cons.1 hc with rfl | h
      · omega
      · exact ih (n / 128) (by omega) c h
def zig (n : Int) : Nat := if 0 ≤ n then (2 * n).toNat else (-2 * n - 1).toNat
def zag (n : Nat) : Int := if n % 2 = 0 then ((n / 2 : Nat) : Int) else -((n / 2 : Nat) : Int) - 1
theorem zag_zig (n : Int) : zag (zig n) = n := by unfold zig zag; split <;> split <;> omega
theorem zig_lt (n : Int) (h0 : -9223372036854775808 ≤ n) (h1 : n ≤ 9223372036854775807) : zig n < 18446744073709551616 := by unfold zig; split <;> omega
/-- the rows of a series -/
def rowsL (t step v : Int) : List Pc → List Nat
  | [] => []
  | p :: l => sh (zig (w64 (w64 (p.t - t) - step))) ++ sh (zig (w64 (p.v - v))) ++ sh p.n ++ form p.d 2 ++ rowsL p.t (w64 (p.t - t)) p.v l
/-- how many pieces are of the first one's series -/
def run1 (s : ByteArray) : List Pc → Nat
  | [] => 0
  | p :: l => if p.s = s then run1 s l + 1 else 0
theorem run1_le (s : ByteArray) : ∀ l : List Pc, run1 s l ≤ l.length
  | [] => Nat.le_refl _
  | p :: l => by
    unfold run1
    split
    · have := run1_le s l; simp; omega
    · omega
/-- a series' pieces, laid -/
def putL (g : List Pc) : List Nat :=
  match g with
  | [] => []
  | p :: _ => sh p.s.size ++ sby p.s ++ sh g.length ++ rowsL 0 0 0 g
/-- the lengths of the groups -/
def gls : List Pc → List Nat
  | [] => []
  | p :: l => (run1 p.s l + 1) :: gls (l.drop (run1 p.s l))
termination_by l => l.length
decreasing_by simp; omega
theorem gls_cons (p : Pc) (l : List Pc) : gls (p :: l) = (run1 p.s l + 1) :: gls (l.drop (run1 p.s l)) := by rw [gls]
theorem gls_nil : gls [] = [] := by rw [gls]
/-- the groups themselves -/
def cutsL : List Nat → List Pc → List (List Pc)
  | [], _ => []
  | n :: ns, l => l.take n :: cutsL ns (l.drop n)
def grps (l : List Pc) : List (List Pc) := cutsL (gls l) l
def formP (l : List Pc) : List Nat := sh (grps l).length ++ ((grps l).map putL).flatten
def roomG : List (List Pc) → Nat
  | [] => 0
  | g :: gs => (match g with | [] => 0 | p :: _ => 6 + p.s.size) + roomG gs
def roomL (l : List Pc) : Nat := 4 + 32 * l.length + roomG (grps l)
end Go.Proofs.Ytlidfmbmlhaacaa
