/- A wide number that came in by value, opened. -/
import Derived.Test.YtcmahmlcoodfoaaLift
namespace Go.Proofs.Ytcmahmlcoodfoaa
open Go.ChangeShapes Go.WideShapes Go.ChangeAt Go.RowKit
theorem take1_eq {l : List Value} {v : Value} (h : l.take 1 = [v]) : l[0]? = some v := by
  cases l with
  | nil => simp at h
  | cons a b => simpa using h
theorem open_wide {H : Type} {enc : TypeId × Value → H} {W : World} {base : Nat} {v : Value} {d : DataW H} {p : List MemPlace} (hv : Value.okWide Try.prog W .any base 67 v)
    (h : DataW.Trod enc Try.prog W 0 (fun _ => true) true 67 v d p) : ∃ (hi : Int) (lo : Nat), v = .agg #[.int .i64 hi, .int .u64 lo] ∧ -9223372036854775808 ≤ hi ∧ hi ≤ 9223372036854775807 ∧ lo < 18446744073709551616 := by
  have hs : ∃ f0 f1 : Field, Try.prog.underlying 67 = some (.struct #[f0, f1]) ∧ f0.offset = 0 ∧ f1.offset = 1 ∧ f0.type = 2 ∧ f1.type = 22 := ⟨_, _, Try.underlying67, rfl, rfl, rfl, rfl⟩
  obtain ⟨f0, f1, hs, o0, o1, k0, k1⟩ := hs
  obtain ⟨cs, rfl, hsz⟩ := okWide_struct hs hv
  have hC : Try.prog.cellsOf 67 = 2 := by kernel_rfl
  have hc0 : Try.prog.cellsOf 2 = 1 := by kernel_rfl
  have hc1 : Try.prog.cellsOf 22 = 1 := by kernel_rfl
  obtain ⟨fuel, hf⟩ := h
  obtain ⟨xs, n, _, hx, hlc, hlen, hg⟩ := DataW.trod_struct hs hf
  simp only [Value.cells] at hf hlc hg
  have hlen' : xs.length = 2 := hlen
  have g0 := hg 0 f0 rfl
  have g1 := hg 1 f1 rfl
  rw [k0, o0, hc0, List.getElem?_eq_getElem (by omega)] at g0
  rw [k1, o1, hc1, List.getElem?_eq_getElem (by omega)] at g1
  obtain ⟨z0, hz0, _, w0⟩ := DataW.trod_int Try.underlying2 g0
  obtain ⟨z1, hz1, _, w1⟩ := DataW.trod_int Try.underlying22 g1
  have hb0 := bounds_i64 w0
  have hb1 := bounds_u64 w1
  obtain ⟨n1, rfl⟩ := Int.eq_ofNat_of_zero_le hb1.1
  refine ⟨z0, n1, ?_, hb0.1, by omega, by omega⟩
  have hl : cs.toList.length = 2 := by rw [hlc, hC]
  have e0 := take1_eq hz0
  have e1 := take1_eq hz1
  simp only [List.getElem?_drop] at e0 e1
  congr 1
  apply Array.toList_inj.1
  match hcs : cs.toList, hl with
  | [x, y], _ =>
    rw [hcs] at e0 e1
    simp at e0 e1
    rw [e0, e1]
end Go.Proofs.Ytcmahmlcoodfoaa
