/- Keys expanded: plain; how a row lives on. -/
import Derived.Test.YthlmlmkabjppeaaDoorAw03
namespace Go.Proofs.YthlmlmkabjppeaaDoor
open Go.RowKit
set_option linter.unusedVariables false
set_option linter.unusedSimpArgs false
/-- a key expanded -/
def expd (k info : List Nat) (n : Nat) : List Nat := (exN k info ((n + 31) / 32)).take n
theorem expd_len (k info : List Nat) (n : Nat) : (expd k info n).length = n := by unfold expd; rw [List.length_take, exN_len]; omega
theorem exT_lt (k info : List Nat) (i : Nat) : ∀ c ∈ exT k info i, c < 256 := by
  cases i with
  | zero => intro c hc; cases hc
  | succ i => exact mac_lt _ _
theorem exT_len2 (k info : List Nat) (i : Nat) : (exT k info i).length ≤ 32 := by
  cases i with
  | zero => exact Nat.zero_le _
  | succ i => rw [exT_len]; exact Nat.le_refl _
theorem exN_lt (k info : List Nat) (i : Nat) : ∀ c ∈ exN k info i, c < 256 := by
  induction i with
  | zero => intro c hc; cases hc
  | succ i ih =>
    intro c hc
    rcases List.mem_append.1 hc with h | h
    · exact ih c h
    · exact exT_lt k info (i + 1) c h
theorem expd_lt (k info : List Nat) (n : Nat) : ∀ c ∈ expd k info n, c < 256 := fun c hc => exN_lt k info _ c (List.mem_of_mem_take hc)
theorem exN_take (k info : List Nat) (a j : Nat) : (exN k info (a + j)).take (32 * a) = exN k info a := by
  induction j with
  | zero => rw [Nat.add_zero]; exact List.take_of_length_le (by rw [exN_len]; exact Nat.le_refl _)
  | succ j ih =>
    rw [show a + (j + 1) = (a + j) + 1 by omega, exN, List.take_append_of_le_length (by rw [exN_len]; omega), ih]
theorem expd_take (k info : List Nat) (m n : Nat) (h : m ≤ n) : (expd k info n).take m = expd k info m := by
  unfold expd
  rw [List.take_take, Nat.min_eq_left h]
  obtain ⟨j, hj⟩ : ∃ j, (n + 31) / 32 = (m + 31) / 32 + j := ⟨(n + 31) / 32 - (m + 31) / 32, by omega⟩
  rw [hj]
  have h1 := exN_take k info ((m + 31) / 32) j
  rw [← h1, List.take_take, Nat.min_eq_left (by omega)]
theorem exT_succ (k info : List Nat) (i : Nat) : exT k info (i + 1) = mac k (exT k info i ++ info ++ [(i + 1) % 256]) := rfl
theorem exN_succ (k info : List Nat) (i : Nat) : exN k info (i + 1) = exN k info i ++ exT k info (i + 1) := rfl
/-- a block that an append didn't touch -/
theorem blk_apped {w w' : World} {base : Nat} {e : TypeId} {size n n0 : Nat} {v v' : Value} {xs xs0 : List Value} {g : Nat} {t : TypeId} {cs : Array Value} (hb : Blk w g t cs) (hap : Apped w base e size v w' v' n xs) (hne : ∀ k, v.ownBlock = some k → k ≠ g) : Blk w' g t cs := by
  have ho : Only (fun k => v.ownBlock = some k) w w' := hap.only (fun g h => h)
  exact (ho.block g hb.lt (fun h => hne g h rfl)).trans hb
end Go.Proofs.YthlmlmkabjppeaaDoor
