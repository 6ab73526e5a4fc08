/- Merged: Open OpenK OpC. -/
import Derived.Test.YthlmlmkabjppeaaDoorLift
import Derived.Test.YthlmlmkabjppeaaDoorEq
import Derived.Test.YthlmlmkabjppeaaDoorChM
namespace Go.Proofs.YthlmlmkabjppeaaDoor
open Go.ChangeShapes Go.WideShapes Go.ChangeAt Go.RowKit
theorem byt_of : ∀ cs : List Value, (∀ i, i < cs.length → ∃ n : Nat, n < 256 ∧ (cs.drop i).take 1 = [.int .u8 (n : Int)]) → ∃ l : List Nat, cs = byt l ∧ ∀ c ∈ l, c < 256
  | [], _ => ⟨[], rfl, by simp⟩
  | u :: cs, h => by
    obtain ⟨n, hn, hu⟩ := h 0 (by simp)
    obtain ⟨l, hl, hs⟩ := byt_of cs (fun i hi => by simpa using h (i + 1) (by simp; omega))
    refine ⟨n :: l, ?_, ?_⟩
    · simp at hu; rw [hu, hl]; rfl
    · intro c hc
      rcases List.mem_cons.1 hc with rfl | hc
      · exact hn
      · exact hs c hc
/-- an array of bytes reads as a list of bytes -/
theorem barr_of {H : Type} {enc : TypeId × Value → H} {W : World} {b fuel T n : Nat} {sp : Nat → Bool} {hd : Bool} {cs : List Value} {x : DataW H × List MemPlace}
    (ht : Tryd.prog.underlying T = some (.array n 5)) (hc : Tryd.prog.cellsOf T = n) (h : DataW.trod enc Tryd.prog W b sp hd fuel T cs = some x) : ∃ l : List Nat, cs = byt l ∧ l.length = n ∧ ∀ c ∈ l, c < 256 := by
  obtain ⟨xs, m, _, _, hlen, hx, hg⟩ := DataW.trod_array ht h
  have h1 : Tryd.prog.cellsOf 5 = 1 := by kernel_rfl
  rw [hc] at hlen
  obtain ⟨l, hl, hs⟩ := byt_of cs (fun i hi => by
    have hgi := hg i (by omega)
    rw [h1, Nat.mul_one] at hgi
    have hxi : xs[i]? = some (xs[i]'(by omega)) := List.getElem?_eq_getElem (by omega)
    rw [hxi] at hgi
    obtain ⟨z, hz, _, wz⟩ := DataW.trod_int Tryd.underlying5 hgi
    have hb := bounds_u8 wz
    exact ⟨z.toNat, by omega, by rw [hz, Int.toNat_of_nonneg hb.1]⟩)
  exact ⟨l, hl, by rw [← byt_len, ← hl]; exact hlen, hs⟩
end Go.Proofs.YthlmlmkabjppeaaDoor
namespace Go.Proofs.YthlmlmkabjppeaaDoor
open Go.ChangeShapes Go.WideShapes Go.ChangeAt Go.RowKit
theorem okWide_array {P : Program} {w : World} {r : Reach} {base n : Nat} {t e : TypeId} {v : Value} (ht : P.underlying t = some (.array n e)) (h : Value.okWide P w r base t v) : ∃ cs, v = .agg cs ∧ cs.size = P.cellsOf t := by
  simp only [Value.okWide, ht] at h
  obtain ⟨cs, h1, h2, _⟩ := h
  exact ⟨cs, h1, h2⟩
theorem open_key {H : Type} {enc : TypeId × Value → H} {W : World} {base : Nat} {v : Value} {d : DataW H} {p : List MemPlace} (hv : Value.okWide Tryd.prog W .any base 47 v)
    (h : DataW.Trod enc Tryd.prog W 0 (fun _ => true) true 47 v d p) : ∃ l : List Nat, v = .agg (vb l) ∧ l.length = 32 ∧ ∀ c ∈ l, c < 256 := by
  obtain ⟨cs, rfl, hsz⟩ := okWide_array Tryd.underlying47 hv
  have hC : Tryd.prog.cellsOf 47 = 32 := by kernel_rfl
  obtain ⟨fuel, hf⟩ := h
  simp only [Value.cells] at hf
  obtain ⟨l, e, hl, hs⟩ := barr_of Tryd.underlying47 hC hf
  exact ⟨l, by congr 1; apply Array.toList_inj.1; rw [e]; simp [vb], hl, hs⟩
end Go.Proofs.YthlmlmkabjppeaaDoor
namespace Go.Proofs.YthlmlmkabjppeaaDoor
open Go.ChangeShapes Go.WideShapes Go.ChangeAt Go.RowKit
theorem open_chain {H : Type} {enc : TypeId × Value → H} {W : World} {base : Nat} {v : Value} {d : DataW H} {p : List MemPlace} (hv : Value.okWide Tryd.prog W .any base 52 v)
    (h : DataW.Trod enc Tryd.prog W 0 (fun _ => true) true 52 v d p) : ∃ (n : Nat) (k : List Nat), v = .agg (chV n k) ∧ n < 18446744073709551616 ∧ k.length = 32 ∧ ∀ c ∈ k, c < 256 := by
  have hs : ∃ f0 f1 : Field, Tryd.prog.underlying 52 = some (.struct #[f0, f1]) ∧ f0.offset = 0 ∧ f1.offset = 1 ∧ f0.type = 33 ∧ f1.type = 47 := ⟨_, _, Tryd.underlying52, rfl, rfl, rfl, rfl⟩
  obtain ⟨f0, f1, hs, o0, o1, k0, k1⟩ := hs
  obtain ⟨cs, rfl, hsz⟩ := okWide_struct hs hv
  have hC : Tryd.prog.cellsOf 52 = 33 := by kernel_rfl
  have hc0 : Tryd.prog.cellsOf 33 = 1 := by kernel_rfl
  have hc1 : Tryd.prog.cellsOf 47 = 32 := by kernel_rfl
  obtain ⟨fuel, hf⟩ := h
  obtain ⟨xs, n, _, hx, hlc, hlen, hg⟩ := DataW.trod_struct hs hf
  simp only [Value.cells] at hf hlc hg
  have hlen' : xs.length = 2 := hlen
  have g0 := hg 0 f0 rfl
  have g1 := hg 1 f1 rfl
  rw [k0, o0, hc0, List.getElem?_eq_getElem (by omega)] at g0
  rw [k1, o1, hc1, List.getElem?_eq_getElem (by omega)] at g1
  obtain ⟨z0, e0, _, w0⟩ := DataW.trod_int Tryd.underlying33 g0
  have b0 := bounds_u64 w0
  obtain ⟨n0, rfl⟩ := Int.eq_ofNat_of_zero_le b0.1
  obtain ⟨l, e1, hl, hls⟩ := barr_of Tryd.underlying47 hc1 g1
  refine ⟨n0, l, ?_, by omega, hl, hls⟩
  have hll : cs.toList.length = 33 := by rw [hlc, hC]
  congr 1
  apply Array.toList_inj.1
  have e2 : cs.toList.drop 1 = byt l := by rw [← e1, List.take_of_length_le (by rw [List.length_drop]; omega)]
  rw [List.drop_zero] at e0
  rw [← List.take_append_drop 1 cs.toList, e0, e2]
  rfl
end Go.Proofs.YthlmlmkabjppeaaDoor
