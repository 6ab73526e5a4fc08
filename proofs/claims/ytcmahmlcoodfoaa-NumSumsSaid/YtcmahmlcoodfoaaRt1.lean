/- The reference's Text: parts of 16 bits (plain). -/
import Derived.Test.YtcmahmlcoodfoaaRs3
import Derived.Test.YtcmahmlcoodfoaaAwk1
namespace Go.Proofs.Ytcmahmlcoodfoaa
open Go.RowKit
set_option linter.unusedVariables false
def shl (H : Nat) : Nat → Nat
  | 0 => H
  | i + 1 => shl H i * 65536 % 18446744073709551616
def pt (H i : Nat) : Nat := shl H i / 281474976710656 % 65536
def pts (H k : Nat) : List Nat := (List.range k).map (pt H)
theorem pts_succ (H k : Nat) : pts H (k + 1) = pts H k ++ [pt H k] := by simp [pts, List.range_succ]
theorem pts_len (H k : Nat) : (pts H k).length = k := by simp [pts]
theorem pts_lt (H k : Nat) : ∀ c ∈ pts H k, c < 65536 := by
  intro c hc
  obtain ⟨i, _, rfl⟩ := List.mem_map.1 hc
  exact Nat.mod_lt _ (by decide)
theorem shl_lt (H k : Nat) (h : H < 18446744073709551616) : shl H k < 18446744073709551616 := by
  cases k with
  | zero => exact h
  | succ k => exact Nat.mod_lt _ (by decide)
def v16 (l : List Nat) : Nat := l.foldl (fun a x => a * 65536 + x) 0
theorem v16_snoc (l : List Nat) (x : Nat) : v16 (l ++ [x]) = v16 l * 65536 + x := by simp [v16]
theorem up4 (A b0 b1 b2 b3 : Nat) : (((A * 65536 + b0) * 65536 + b1) * 65536 + b2) * 65536 + b3 = A * 18446744073709551616 + (((b0 * 65536 + b1) * 65536 + b2) * 65536 + b3) := by omega
theorem four_eq (U h1 h2 h3 : Nat) (hU : U < 18446744073709551616) (e1 : h1 = U * 65536 % 18446744073709551616) (e2 : h2 = h1 * 65536 % 18446744073709551616) (e3 : h3 = h2 * 65536 % 18446744073709551616) :
    ((U / 281474976710656 % 65536 * 65536 + h1 / 281474976710656 % 65536) * 65536 + h2 / 281474976710656 % 65536) * 65536 + h3 / 281474976710656 % 65536 = U := by omega
theorem v16_pts (H L : Nat) (hH : H < 18446744073709551616) (hL : L < 18446744073709551616) : v16 (pts H 4 ++ pts L 4) = dbl H L := by
  have e : v16 (pts H 4 ++ pts L 4) = ((((((((0 * 65536 + pt H 0) * 65536 + pt H 1) * 65536 + pt H 2) * 65536 + pt H 3) * 65536 + pt L 0) * 65536 + pt L 1) * 65536 + pt L 2) * 65536 + pt L 3) := rfl
  have four : ∀ U, U < 18446744073709551616 → ((pt U 0 * 65536 + pt U 1) * 65536 + pt U 2) * 65536 + pt U 3 = U := by
    intro U hU
    exact four_eq U _ _ _ hU rfl rfl rfl
  have a := four H hH
  have b := four L hL
  exact e.trans ((congrArg (fun A => (((A * 65536 + pt L 0) * 65536 + pt L 1) * 65536 + pt L 2) * 65536 + pt L 3) ((by rw [Nat.zero_mul, Nat.zero_add]) : (((0 * 65536 + pt H 0) * 65536 + pt H 1) * 65536 + pt H 2) * 65536 + pt H 3 = ((pt H 0 * 65536 + pt H 1) * 65536 + pt H 2) * 65536 + pt H 3)).trans ((congrArg (fun A => (((A * 65536 + pt L 0) * 65536 + pt L 1) * 65536 + pt L 2) * 65536 + pt L 3) a).trans ((up4 H _ _ _ _).trans (congrArg (fun B => H * 18446744073709551616 + B) b))))
def strLen : Value → Nat
  | .string s => s.size
  | _ => 0
theorem bstr_app (a b : List Nat) : bstr a ++ bstr b = bstr (a ++ b) := by
  unfold bstr
  rw [List.map_append]
  exact ByteArray.mk_append_mk _ _
theorem bstr_size (a : List Nat) : (bstr a).size = a.length := by simp [bstr, ByteArray.size]
theorem digit_str (r : Nat) (h : r < 10) : (ByteArray.mk #[48, 49, 50, 51, 52, 53, 54, 55, 56, 57]).extract r (r + 1) = bstr [r + 48] := by
  have : ∀ r, r < 10 → (ByteArray.mk #[48, 49, 50, 51, 52, 53, 54, 55, 56, 57]).extract r (r + 1) = bstr [r + 48] := by decide
  exact this r h
theorem sz_hi (hi : Int) (lo : Nat) (h0 : -9223372036854775808 ≤ hi) (h1 : hi ≤ 9223372036854775807) (h : hi < 0) :
    (lo = 0 → IntKind.u64.wrap (0 - IntKind.u64.wrap hi) = (szHi hi lo : Nat)) ∧ (0 < lo → IntKind.u64.wrap (IntKind.u64.wrap (0 - IntKind.u64.wrap hi) - 1) = (szHi hi lo : Nat)) := by
  simp only [IntKind.wrap_u64]
  unfold szHi
  rw [if_pos h]
  constructor
  · intro hl; rw [if_pos hl]; omega
  · intro hl; rw [if_neg (by omega)]; omega
theorem sz_lo (hi : Int) (lo : Nat) (h2 : lo < 18446744073709551616) (h : hi < 0) : IntKind.u64.wrap (0 - (lo : Int)) = (szLo hi lo : Nat) := by
  simp only [IntKind.wrap_u64]
  unfold szLo
  rw [if_pos h]
  omega
theorem set_mid (q l : List Nat) (j y : Nat) (hq : q.length = j) (hj : j < l.length) : (q ++ l.drop j).set j y = (q ++ [y]) ++ l.drop (j + 1) := by
  subst hq
  rw [List.drop_eq_getElem_cons hj, List.set_append_right _ _ (Nat.le_refl _), Nat.sub_self, List.set_cons_zero, List.append_assoc]
  rfl
theorem get_mid (q l : List Nat) (j : Nat) (hq : q.length = j) : (q ++ l.drop j).getD j 0 = l.getD j 0 := by
  subst hq
  rw [List.getD_eq_getElem?_getD, List.getD_eq_getElem?_getD, List.getElem?_append_right (Nat.le_refl _), Nat.sub_self, List.getElem?_drop, Nat.add_zero]
theorem v16_take (l : List Nat) (j : Nat) (hj : j < l.length) : v16 (l.take (j + 1)) = v16 (l.take j) * 65536 + l.getD j 0 := by
  rw [List.take_succ_eq_append_getElem hj, v16_snoc, List.getD_eq_getElem?_getD, List.getElem?_eq_getElem hj]; rfl
theorem ten_part (Q r V x : Nat) (h : Q * 10 + r = V) : (Q * 65536 + (r * 65536 + x) / 10) * 10 + (r * 65536 + x) % 10 = V * 65536 + x := by omega
theorem any_part (Q y : Nat) : (decide (0 < Q) || decide (0 < y)) = decide (0 < Q * 65536 + y) := by
  by_cases h1 : 0 < Q
  · have : 0 < Q * 65536 + y := by omega
    simp [h1, this]
  · by_cases h2 : 0 < y
    · have : 0 < Q * 65536 + y := by omega
      simp [h2, this]
    · have : ¬ 0 < Q * 65536 + y := by omega
      simp [h1, h2, this]
end Go.Proofs.Ytcmahmlcoodfoaa
