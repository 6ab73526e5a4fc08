/- Tables that came in by value, opened. -/
import Derived.Test.YtldanlglefgobaaOpen
import Derived.Test.YtldanlglefgobaaFld1
namespace Go.Proofs.Ytldanlglefgobaa
open Go.ChangeShapes Go.WideShapes Go.ChangeAt Go.RowKit
theorem open_tabs {H : Type} {enc : TypeId × Value → H} {W : World} {base : Nat} {v : Value} {d : DataW H} {p : List MemPlace} (hv : Value.okWide Try.prog W .any base 26 v)
    (h : DataW.Trod enc Try.prog W 0 (fun _ => true) true 26 v d p) : ∃ t : Array Nat, v = .agg (vtab t) ∧ Small t := by
  have hs : ∃ f0 f1 : Field, Try.prog.underlying 26 = some (.struct #[f0, f1]) ∧ f0.offset = 0 ∧ f1.offset = 256 ∧ f0.type = 24 ∧ f1.type = 24 := ⟨_, _, Try.underlying26, rfl, rfl, rfl, rfl⟩
  obtain ⟨f0, f1, hs, o0, o1, k0, k1⟩ := hs
  obtain ⟨cs, rfl, hsz⟩ := okWide_struct hs hv
  have hC : Try.prog.cellsOf 26 = 512 := by kernel_rfl
  have hc : Try.prog.cellsOf 24 = 256 := by kernel_rfl
  obtain ⟨fuel, hf⟩ := h
  obtain ⟨xs, n, _, hx, hlc, hlen, hg⟩ := DataW.trod_struct hs hf
  simp only [Value.cells] at hf hlc hg
  have hlen' : xs.length = 2 := hlen
  have g0 := hg 0 f0 rfl
  have g1 := hg 1 f1 rfl
  rw [k0, o0, hc, List.getElem?_eq_getElem (by omega)] at g0
  rw [k1, o1, hc, List.getElem?_eq_getElem (by omega)] at g1
  obtain ⟨l0, e0, n0, s0⟩ := barr_of Try.underlying24 hc g0
  obtain ⟨l1, e1, n1, s1⟩ := barr_of Try.underlying24 hc g1
  have hcs : cs.toList = byt (l0 ++ l1) := by
    have hl : cs.toList.length = 512 := by rw [hlc, hC]
    have : cs.toList = (cs.toList.drop 0).take 256 ++ (cs.toList.drop 256).take 256 := by
      rw [List.drop_zero, List.take_of_length_le (l := cs.toList.drop 256) (by rw [List.length_drop, hl]; omega), List.take_append_drop]
    rw [this, e0, e1]; simp [byt]
  refine ⟨(l0 ++ l1).toArray, ?_, by simp; omega, ?_⟩
  · congr 1
    apply Array.toList_inj.1
    rw [hcs]; simp [vtab, byt]
  · intro i
    have : tg (l0 ++ l1).toArray i = (l0 ++ l1).getD i 0 := by simp [tg]
    rw [this]
    exact getD_lt (fun c hc => (List.mem_append.1 hc).elim (s0 c) (s1 c)) i
end Go.Proofs.Ytldanlglefgobaa
