/- Sums of polynomials. -/
import Derived.Test.YtldanlglefgobaaPlain1
namespace Go.Proofs.Ytldanlglefgobaa
def finv (a : Nat) : Nat := tinv ftab a
theorem finv_lt (a : Nat) : finv a < 256 := tinv_lt ftab_small a
/-- the sum of two polynomials -/
def zx : List Nat → List Nat → List Nat
  | [], m => m
  | c :: l, [] => c :: l
  | c :: l, d :: m => (c ^^^ d) :: zx l m
theorem zx_nil (l : List Nat) : zx l [] = l := by cases l <;> rfl
theorem zx_len : ∀ l m : List Nat, (zx l m).length = max l.length m.length
  | [], m => by simp [zx]
  | c :: l, [] => by simp [zx]
  | c :: l, d :: m => by simp [zx, zx_len l m]
theorem zx_at : ∀ (l m : List Nat) (k : Nat), (zx l m).getD k 0 = l.getD k 0 ^^^ m.getD k 0
  | [], m, k => by simp [zx]
  | c :: l, [], k => by simp [zx]
  | c :: l, d :: m, 0 => by simp [zx]
  | c :: l, d :: m, k + 1 => by simpa [zx] using zx_at l m k
theorem zx_lt : ∀ l m : List Nat, (∀ c ∈ l, c < 256) → (∀ c ∈ m, c < 256) → ∀ c ∈ zx l m, c < 256
  | [], m, _, hm => by simpa [zx] using hm
  | c :: l, [], hl, _ => by simpa [zx] using hl
  | c :: l, d :: m, hl, hm => by
    intro e he
    rcases List.mem_cons.1 he with rfl | he
    · exact Nat.xor_lt_two_pow (n := 8) (hl c (by simp)) (hm d (by simp))
    · exact zx_lt l m (fun c hc => hl c (by simp [hc])) (fun c hc => hm c (by simp [hc])) e he
theorem hv_zx (x : Nat) : ∀ l m : List Nat, hv x (zx l m) = hv x l ^^^ hv x m
  | [], m => by simp [zx, hv]
  | c :: l, [] => by simp [zx, hv]
  | c :: l, d :: m => by rw [zx, hv, hv, hv, hv_zx x l m, gm_left, xor_swap4]
theorem hv_cons0 (x : Nat) (hx : x < 256) (l : List Nat) (hl : ∀ c ∈ l, c < 256) : hv x (0 :: l) = gm x (hv x l) := by
  rw [hv, Nat.xor_zero, gm_comm _ _ (hv_lt x l hl) hx]
theorem take_snoc (l : List Nat) (k : Nat) (h : k < l.length) : l.take (k + 1) = l.take k ++ [l.getD k 0] := by
  rw [List.take_succ_eq_append_getElem h, List.getD_eq_getElem?_getD, List.getElem?_eq_getElem h]; rfl
end Go.Proofs.Ytldanlglefgobaa
