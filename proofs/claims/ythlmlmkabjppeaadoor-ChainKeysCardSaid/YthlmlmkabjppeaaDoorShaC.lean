/- Codes and keys: what they are, in plain words. -/
import Derived.Test.YthlmlmkabjppeaaDoorShaF
namespace Go.Proofs.YthlmlmkabjppeaaDoor
set_option linter.unusedVariables false
def keyB (k : List Nat) : List Nat := if 64 < k.length then sha k else k
def fill64 (k : List Nat) : List Nat := k ++ List.replicate (64 - k.length) 0
def xr (b : Nat) (l : List Nat) : List Nat := l.map fun c => c ^^^ b
/-- a message's code by a key -/
def mac (k m : List Nat) : List Nat := sha (xr 92 (fill64 (keyB k)) ++ sha (xr 54 (fill64 (keyB k)) ++ m))
def exT (k info : List Nat) : Nat → List Nat
  | 0 => []
  | i + 1 => mac k (exT k info i ++ info ++ [(i + 1) % 256])
def exN (k info : List Nat) : Nat → List Nat
  | 0 => []
  | i + 1 => exN k info i ++ exT k info (i + 1)
theorem sha_len (m : List Nat) : (sha m).length = 32 := by
  unfold sha
  have h := fld_len (pad m) ((pad m).length / 64)
  generalize fld (pad m) ((pad m).length / 64) = l at *
  match l, h with
  | [a, b, c, d, e, f, g, i], _ => simp [high_len]
theorem sha_lt (m : List Nat) : ∀ c ∈ sha m, c < 256 := by
  intro c hc
  obtain ⟨w, _, h⟩ := List.mem_flatMap.1 hc
  exact high_lt _ _ c h
theorem keyB_len (k : List Nat) : (keyB k).length ≤ 64 := by
  unfold keyB
  split
  · rw [sha_len]; decide
  · omega
theorem fill64_len (k : List Nat) (h : k.length ≤ 64) : (fill64 k).length = 64 := by simp [fill64]; omega
theorem mac_len (k m : List Nat) : (mac k m).length = 32 := sha_len _
theorem mac_lt (k m : List Nat) : ∀ c ∈ mac k m, c < 256 := sha_lt _
theorem exT_len (k info : List Nat) (i : Nat) : (exT k info (i + 1)).length = 32 := mac_len _ _
theorem exN_len (k info : List Nat) (i : Nat) : (exN k info i).length = 32 * i := by
  induction i with
  | zero => rfl
  | succ i ih => rw [exN, List.length_append, ih, exT_len]; omega
/-- the document's example -/
theorem mac_fox : mac [107, 101, 121] [84, 104, 101, 32, 113, 117, 105, 99, 107, 32, 98, 114, 111, 119, 110, 32, 102, 111, 120, 32, 106, 117, 109, 112, 115, 32, 111, 118, 101, 114, 32, 116, 104, 101, 32, 108, 97, 122, 121, 32, 100, 111, 103] = [247, 188, 131, 244, 48, 83, 132, 36, 177, 50, 152, 230, 170, 111, 177, 67, 239, 77, 89, 161, 73, 70, 23, 89, 151, 71, 157, 188, 45, 26, 60, 216] := by
  unfold mac
  rw [show xr 54 (fill64 (keyB [107, 101, 121])) ++ [84, 104, 101, 32, 113, 117, 105, 99, 107, 32, 98, 114, 111, 119, 110, 32, 102, 111, 120, 32, 106, 117, 109, 112, 115, 32, 111, 118, 101, 114, 32, 116, 104, 101, 32, 108, 97, 122, 121, 32, 100, 111, 103] = foxIM by decide +kernel, foxI_sha]
  rw [show xr 92 (fill64 (keyB [107, 101, 121])) ++ [122, 208, 78, 90, 161, 158, 238, 114, 24, 44, 154, 117, 172, 113, 186, 19, 131, 60, 83, 252, 77, 200, 200, 21, 206, 183, 148, 109, 86, 46, 54, 49] = foxOM by decide +kernel, foxO_sha]
end Go.Proofs.YthlmlmkabjppeaaDoor
