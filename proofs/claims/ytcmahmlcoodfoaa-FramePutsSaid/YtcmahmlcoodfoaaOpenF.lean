/- A frame that came in by value, opened. -/
import Derived.Test.YtcmahmlcoodfoaaOpenB
import Derived.Test.YtcmahmlcoodfoaaOpenW
import Derived.Test.YtcmahmlcoodfoaaFra5
namespace Go.Proofs.Ytcmahmlcoodfoaa
open Go.ChangeShapes Go.WideShapes Go.ChangeAt Go.RowKit
set_option linter.unusedVariables false
theorem byt_of : ∀ cs : List Value, (∀ i, i < cs.length → ∃ n : Nat, n < 256 ∧ (cs.drop i).take 1 = [.int .u8 (n : Int)]) → ∃ l : List Nat, cs = byt l ∧ ∀ c ∈ l, c < 256
  | [], _ => ⟨[], rfl, by simp⟩
  | u :: cs, h => by
    obtain ⟨n, hn, hu⟩ := h 0 (by simp)
    obtain ⟨l, hl, hs⟩ := byt_of cs (fun i hi => by simpa using h (i + 1) (by simp; omega))
    refine ⟨n :: l, ?_, ?_⟩
    · simp at hu; rw [hu, hl]; rfl
    · intro c hc
      rcases List.mem_cons.1 hc with rfl | hc
      · exact hn
      · exact hs c hc
/-- an array of bytes reads as a list of bytes -/
theorem barr_of {H : Type} {enc : TypeId × Value → H} {W : World} {b fuel T n : Nat} {sp : Nat → Bool} {hd : Bool} {cs : List Value} {x : DataW H × List MemPlace}
    (ht : Try.prog.underlying T = some (.array n 5)) (hc : Try.prog.cellsOf T = n) (h : DataW.trod enc Try.prog W b sp hd fuel T cs = some x) : ∃ l : List Nat, cs = byt l ∧ l.length = n ∧ ∀ c ∈ l, c < 256 := by
  obtain ⟨xs, m, _, _, hlen, hx, hg⟩ := DataW.trod_array ht h
  have h1 : Try.prog.cellsOf 5 = 1 := by kernel_rfl
  rw [hc] at hlen
  obtain ⟨l, hl, hs⟩ := byt_of cs (fun i hi => by
    have hgi := hg i (by omega)
    rw [h1, Nat.mul_one] at hgi
    have hxi : xs[i]? = some (xs[i]'(by omega)) := List.getElem?_eq_getElem (by omega)
    rw [hxi] at hgi
    obtain ⟨z, hz, _, wz⟩ := DataW.trod_int Try.underlying5 hgi
    have hb := bounds_u8 wz
    exact ⟨z.toNat, by omega, by rw [hz, Int.toNat_of_nonneg hb.1]⟩)
  exact ⟨l, hl, by rw [← byt_len, ← hl]; exact hlen, hs⟩
theorem bytes_of {H : Type} {enc : TypeId × Value → H} {W : World} {fuel : Nat} {cs : List Value} {y : DataW H × List MemPlace} (hf : DataW.trod enc Try.prog W 0 (fun _ => true) true fuel 35 cs = some y) :
    ∃ (A : Option Addr) (l : List Nat) (cap : Nat), cs = [.slice A l.length cap] ∧ (∀ c ∈ l, c < 256) ∧ Rd W W.heap.size A (byt l) ∧ l.length ≤ cap := by
  rcases open_ints Try.underlying35 Try.underlying5 (by kernel_rfl) hf with ⟨hcs, _⟩ | ⟨x, len, cap, zs, hcs, _, hl, hm, hz, _, hcell, hwz⟩
  · exact ⟨none, [], 0, hcs, by simp, Rd.nil_ _ _ _, by simp⟩
  · have hz' : zs.length = cap := by simpa using hz
    have hlen : ((zs.take len).map Int.toNat).length = len := by simp; omega
    refine ⟨some x, (zs.take len).map Int.toNat, cap, by rw [hlen]; exact hcs, ?_, ?_, by rw [hlen]; omega⟩
    · intro c hc
      obtain ⟨z, hz1, rfl⟩ := List.mem_map.1 hc
      have := bounds_u8 (hwz z (List.mem_of_mem_take hz1))
      omega
    · intro hne
      have h0 : 0 < len := by
        rcases Nat.eq_zero_or_pos len with h0 | h0
        · subst h0; simp [byt] at hne
        · exact h0
      have hc0 := hcell 0 (by omega)
      refine ⟨x, rfl, by have := block_lt hc0; rwa [add_block] at this, fun j u hu => ?_⟩
      have hj : j < len := by
        rcases Nat.lt_or_ge j len with h1 | h1
        · exact h1
        · rw [List.getElem?_eq_none (by rw [byt_len, hlen]; exact h1)] at hu; cases hu
      have hjz : j < zs.length := by omega
      rw [hcell j hjz]
      rw [byt_at (by rw [hlen]; exact hj)] at hu
      rw [← hu, List.getD_eq_getElem?_getD, List.getD_eq_getElem?_getD, List.getElem?_map, List.getElem?_take_of_lt hj, List.getElem?_eq_getElem hjz]
      have := bounds_u8 (hwz zs[j] (List.getElem_mem _))
      simp
      omega

theorem cut_eq {cs : List Value} {n : Nat} (a : Nat) (xs : List Value) (hx : xs.length = n) (h : (cs.drop a).take n = xs) : cs.drop a = xs ++ cs.drop (a + n) := by
  rw [← h, ← List.drop_drop, List.take_append_drop]
theorem open_frame {H : Type} {enc : TypeId × Value → H} {W : World} {base : Nat} {v : Value} {d : DataW H} {p : List MemPlace} (hv : Value.okWide Try.prog W .any base 43 v)
    (h : DataW.Trod enc Try.prog W 0 (fun _ => true) true 43 v d p) : ∃ (x : Fr) (A : Option Addr) (c : Nat), v = .agg (frV x (.slice A x.d.length c)) ∧ FrOk x ∧ x.d.length ≤ c ∧ Rd W W.heap.size A (byt x.d) := by
  have hs : ∃ f0 f1 f2 f3 f4 f5 f6 f7 f8 : Field, Try.prog.underlying 43 = some (.struct #[f0, f1, f2, f3, f4, f5, f6, f7, f8]) ∧ (f0.offset = 0 ∧ f1.offset = 1 ∧ f2.offset = 2 ∧ f3.offset = 3 ∧ f4.offset = 4 ∧ f5.offset = 5 ∧ f6.offset = 6 ∧ f7.offset = 38 ∧ f8.offset = 50) ∧ (f0.type = 5 ∧ f1.type = 37 ∧ f2.type = 37 ∧ f3.type = 22 ∧ f4.type = 22 ∧ f5.type = 22 ∧ f6.type = 39 ∧ f7.type = 41 ∧ f8.type = 35) := ⟨_, _, _, _, _, _, _, _, _, Try.underlying43, ⟨rfl, rfl, rfl, rfl, rfl, rfl, rfl, rfl, rfl⟩, rfl, rfl, rfl, rfl, rfl, rfl, rfl, rfl, rfl⟩
  obtain ⟨f0, f1, f2, f3, f4, f5, f6, f7, f8, hs, ⟨o0, o1, o2, o3, o4, o5, o6, o7, o8⟩, k0, k1, k2, k3, k4, k5, k6, k7, k8⟩ := hs
  obtain ⟨cs, rfl, hsz⟩ := okWide_struct hs hv
  have hC : Try.prog.cellsOf 43 = 51 := by kernel_rfl
  have hc8 : Try.prog.cellsOf 5 = 1 := by kernel_rfl
  have hc16 : Try.prog.cellsOf 37 = 1 := by kernel_rfl
  have hc64 : Try.prog.cellsOf 22 = 1 := by kernel_rfl
  have hcS : Try.prog.cellsOf 39 = 32 := by kernel_rfl
  have hcN : Try.prog.cellsOf 41 = 12 := by kernel_rfl
  have hcB : Try.prog.cellsOf 35 = 1 := by kernel_rfl
  obtain ⟨fuel, hf⟩ := h
  obtain ⟨xs, n, _, hx, hlc, hlen, hg⟩ := DataW.trod_struct hs hf
  simp only [Value.cells] at hf hlc hg
  have hlen' : xs.length = 9 := hlen
  have g0 := hg 0 f0 rfl
  rw [k0, o0, hc8, List.getElem?_eq_getElem (by omega)] at g0
  have g1 := hg 1 f1 rfl
  rw [k1, o1, hc16, List.getElem?_eq_getElem (by omega)] at g1
  have g2 := hg 2 f2 rfl
  rw [k2, o2, hc16, List.getElem?_eq_getElem (by omega)] at g2
  have g3 := hg 3 f3 rfl
  rw [k3, o3, hc64, List.getElem?_eq_getElem (by omega)] at g3
  have g4 := hg 4 f4 rfl
  rw [k4, o4, hc64, List.getElem?_eq_getElem (by omega)] at g4
  have g5 := hg 5 f5 rfl
  rw [k5, o5, hc64, List.getElem?_eq_getElem (by omega)] at g5
  have g6 := hg 6 f6 rfl
  rw [k6, o6, hcS, List.getElem?_eq_getElem (by omega)] at g6
  have g7 := hg 7 f7 rfl
  rw [k7, o7, hcN, List.getElem?_eq_getElem (by omega)] at g7
  have g8 := hg 8 f8 rfl
  rw [k8, o8, hcB, List.getElem?_eq_getElem (by omega)] at g8
  obtain ⟨z0, e0, _, w0⟩ := DataW.trod_int Try.underlying5 g0
  have b0 := bounds_u8 w0
  obtain ⟨n0, rfl⟩ := Int.eq_ofNat_of_zero_le b0.1
  obtain ⟨z1, e1, _, w1⟩ := DataW.trod_int Try.underlying37 g1
  have b1 := bounds_u16 w1
  obtain ⟨n1, rfl⟩ := Int.eq_ofNat_of_zero_le b1.1
  obtain ⟨z2, e2, _, w2⟩ := DataW.trod_int Try.underlying37 g2
  have b2 := bounds_u16 w2
  obtain ⟨n2, rfl⟩ := Int.eq_ofNat_of_zero_le b2.1
  obtain ⟨z3, e3, _, w3⟩ := DataW.trod_int Try.underlying22 g3
  have b3 := bounds_u64 w3
  obtain ⟨n3, rfl⟩ := Int.eq_ofNat_of_zero_le b3.1
  obtain ⟨z4, e4, _, w4⟩ := DataW.trod_int Try.underlying22 g4
  have b4 := bounds_u64 w4
  obtain ⟨n4, rfl⟩ := Int.eq_ofNat_of_zero_le b4.1
  obtain ⟨z5, e5, _, w5⟩ := DataW.trod_int Try.underlying22 g5
  have b5 := bounds_u64 w5
  obtain ⟨n5, rfl⟩ := Int.eq_ofNat_of_zero_le b5.1
  obtain ⟨p, ep, hpl, hps⟩ := barr_of Try.underlying39 hcS g6
  obtain ⟨nn, en, hnl, hns⟩ := barr_of Try.underlying41 hcN g7
  obtain ⟨A, l, cap, ed, hl, hr, hlc2⟩ := bytes_of g8
  refine ⟨⟨n0, n1, n2, n3, n4, n5, p, nn, l⟩, A, cap, ?_, ⟨by show n0 < _; omega, by show n1 < _; omega, by show n2 < _; omega, by show n3 < _; omega, by show n4 < _; omega, by show n5 < _; omega, hpl, hnl, hps, hns, hl⟩, hlc2, hr⟩
  congr 1
  apply Array.toList_inj.1
  have c0 := cut_eq (n := 1) 0 [_] rfl e0
  have c1 := cut_eq (n := 1) 1 [_] rfl e1
  have c2 := cut_eq (n := 1) 2 [_] rfl e2
  have c3 := cut_eq (n := 1) 3 [_] rfl e3
  have c4 := cut_eq (n := 1) 4 [_] rfl e4
  have c5 := cut_eq (n := 1) 5 [_] rfl e5
  have c6 := cut_eq (n := 32) 6 (byt p) (by rw [byt_len, hpl]) ep
  have c7 := cut_eq (n := 12) 38 (byt nn) (by rw [byt_len, hnl]) en
  have c8 := cut_eq (n := 1) 50 [_] rfl ed
  have hend : cs.toList.drop (50 + 1) = [] := List.drop_of_length_le (by rw [hlc, hC]; decide)
  rw [List.drop_zero] at c0
  rw [c0, c1, c2, c3, c4, c5, c6, c7, c8, hend]
  simp [frV, frL]
end Go.Proofs.Ytcmahmlcoodfoaa
