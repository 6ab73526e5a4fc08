/- Pieces, int64s that came in, opened. -/
import Derived.Test.YtlidfmbmlhaacaaLift
import Derived.Test.YtlidfmbmlhaacaaDf3
import Derived.DataElems
namespace Go.Proofs.Ytlidfmbmlhaacaa
set_option maxRecDepth 100000
open Go.ChangeShapes Go.WideShapes Go.ChangeAt Go.RowKit
set_option linter.unusedVariables false
theorem cut_eqP {cs : List Value} {n : Nat} (a : Nat) (xs : List Value) (hx : xs.length = n) (h : (cs.drop a).take n = xs) : cs.drop a = xs ++ cs.drop (a + n) := by
  rw [← h, ← List.drop_drop, List.take_append_drop]
theorem mark_of {H : Type} {enc : TypeId × Value → H} {W : World} {fuel : Nat} {cs : List Value} {y : DataW H × List MemPlace} (hf : DataW.trod enc Try.prog W 0 (fun _ => true) true fuel 29 cs = some y) :
    ∃ n d : Nat, n < 18446744073709551616 ∧ d < 65536 ∧ cs = [.int .u64 (n : Int), .int .u16 (d : Int)] := by
  obtain ⟨f0, f1, hs, ⟨o0, o1⟩, k0, k1⟩ : ∃ f0 f1 : Field, Try.prog.underlying 29 = some (.struct #[f0, f1]) ∧ (f0.offset = 0 ∧ f1.offset = 1) ∧ f0.type = 26 ∧ f1.type = 27 := ⟨_, _, Try.underlying29, ⟨rfl, rfl⟩, rfl, rfl⟩
  obtain ⟨xs, n, _, hx, hlc, hlen, hg⟩ := DataW.trod_struct hs hf
  have hlen' : xs.length = 2 := hlen
  have hC : Try.prog.cellsOf 29 = 2 := by kernel_rfl
  rw [hC] at hlc
  have h64 : Try.prog.cellsOf 26 = 1 := by kernel_rfl
  have h16 : Try.prog.cellsOf 27 = 1 := by kernel_rfl
  have g0 := hg 0 f0 rfl
  rw [k0, o0, h64, List.getElem?_eq_getElem (by omega)] at g0
  have g1 := hg 1 f1 rfl
  rw [k1, o1, h16, List.getElem?_eq_getElem (by omega)] at g1
  obtain ⟨z0, e0, _, w0⟩ := DataW.trod_int Try.underlying26 g0
  have b0 := bounds_u64 w0
  obtain ⟨n0, rfl⟩ := Int.eq_ofNat_of_zero_le b0.1
  obtain ⟨z1, e1, _, w1⟩ := DataW.trod_int Try.underlying27 g1
  have b1 := bounds_u16 w1
  obtain ⟨n1, rfl⟩ := Int.eq_ofNat_of_zero_le b1.1
  refine ⟨n0, n1, by omega, by omega, ?_⟩
  have c0 := cut_eqP (n := 1) 0 [_] rfl e0
  have c1 := cut_eqP (n := 1) 1 [_] rfl e1
  rw [List.drop_zero] at c0
  rw [c0, show 0 + 1 = 1 from rfl, c1, List.drop_eq_nil_of_le (by omega)]
  rfl
theorem piece_of {H : Type} {enc : TypeId × Value → H} {W : World} {fuel : Nat} {cs : List Value} {y : DataW H × List MemPlace} (hf : DataW.trod enc Try.prog W 0 (fun _ => true) true fuel 31 cs = some y) :
    ∃ p : Pc, cs = pcL p ∧ PcOk p ∧ p.s.size ≤ 9223372036854775807 := by
  obtain ⟨f0, f1, f2, f3, hs, ⟨o0, o1, o2, o3⟩, k0, k1, k2, k3⟩ : ∃ f0 f1 f2 f3 : Field, Try.prog.underlying 31 = some (.struct #[f0, f1, f2, f3]) ∧ (f0.offset = 0 ∧ f1.offset = 1 ∧ f2.offset = 2 ∧ f3.offset = 3) ∧ f0.type = 9 ∧ f1.type = 2 ∧ f2.type = 2 ∧ f3.type = 29 := ⟨_, _, _, _, Try.underlying31, ⟨rfl, rfl, rfl, rfl⟩, rfl, rfl, rfl, rfl⟩
  obtain ⟨xs, n, _, hx, hlc, hlen, hg⟩ := DataW.trod_struct hs hf
  have hlen' : xs.length = 4 := hlen
  have hC : Try.prog.cellsOf 31 = 5 := by kernel_rfl
  rw [hC] at hlc
  have hst : Try.prog.cellsOf 9 = 1 := by kernel_rfl
  have h64 : Try.prog.cellsOf 2 = 1 := by kernel_rfl
  have hid : Try.prog.cellsOf 29 = 2 := by kernel_rfl
  have g0 := hg 0 f0 rfl
  rw [k0, o0, hst, List.getElem?_eq_getElem (by omega)] at g0
  have g1 := hg 1 f1 rfl
  rw [k1, o1, h64, List.getElem?_eq_getElem (by omega)] at g1
  have g2 := hg 2 f2 rfl
  rw [k2, o2, h64, List.getElem?_eq_getElem (by omega)] at g2
  have g3 := hg 3 f3 rfl
  rw [k3, o3, hid, List.getElem?_eq_getElem (by omega)] at g3
  obtain ⟨s, e0, _, hsz⟩ := DataW.trod_string Try.underlying9 g0
  obtain ⟨z1, e1, _, w1⟩ := DataW.trod_int Try.underlying2 g1
  have b1 := bounds_i64 w1
  obtain ⟨z2, e2, _, w2⟩ := DataW.trod_int Try.underlying2 g2
  have b2 := bounds_i64 w2
  obtain ⟨n3, d3, hn, hd, e3⟩ := mark_of g3
  refine ⟨⟨s, z1, z2, n3, d3⟩, ?_, ⟨b1.1, by show z1 ≤ _; omega, b2.1, by show z2 ≤ _; omega, hn, hd⟩, by simpa [maxLen] using hsz⟩
  have c0 := cut_eqP (n := 1) 0 [_] rfl e0
  have c1 := cut_eqP (n := 1) 1 [_] rfl e1
  have c2 := cut_eqP (n := 1) 2 [_] rfl e2
  have c3 := cut_eqP (n := 2) 3 [_, _] rfl e3
  rw [List.drop_zero] at c0
  rw [c0, show 0 + 1 = 1 from rfl, c1, show 1 + 1 = 2 from rfl, c2, show 2 + 1 = 3 from rfl, c3, List.drop_eq_nil_of_le (by omega)]
  rfl
theorem open_pieces {H : Type} {enc : TypeId × Value → H} {W : World} {base : Nat} {v : Value} {d : DataW H} {p : List MemPlace} (hv : Value.okWide Try.prog W .any base 22 v)
    (h : DataW.Trod enc Try.prog W 0 (fun _ => true) true 22 v d p) :
    ∃ (A : Option Addr) (l : List Pc) (cap : Nat), v = .slice A l.length cap ∧ l.length ≤ cap ∧ l.length ≤ 9223372036854775807 ∧ (∀ p ∈ l, PcOk p ∧ p.s.size ≤ 9223372036854775807) ∧ RdP W W.heap.size A l := by
  have hC : Try.prog.cellsOf 31 = 5 := by kernel_rfl
  obtain ⟨A, len, cap, rfl⟩ := okWide_slice Try.underlying22 hv
  obtain ⟨fuel, hf⟩ := h
  rcases DataW.trod_slice Try.underlying22 hf with ⟨hcs, _⟩ | ⟨a, len', cap', elems, rest, n, _, hcs, _, hb, hl, hm, hlen, helem, _, _⟩
  · simp [Value.cells] at hcs
    obtain ⟨rfl, rfl, rfl⟩ := hcs
    exact ⟨none, [], 0, rfl, Nat.le_refl _, by simp, by simp, Rd.nil_ _ _ _⟩
  · simp [Value.cells] at hcs
    obtain ⟨rfl, rfl, rfl⟩ := hcs
    have key : ∀ m, m ≤ len → ∃ L : List Pc, L.length = m ∧ (∀ p ∈ L, PcOk p ∧ p.s.size ≤ 9223372036854775807) ∧ AtA W a (pcs L) := by
      intro m
      induction m with
      | zero => intro _; exact ⟨[], rfl, by simp, by intro j u hu; simp [pcs_nil] at hu⟩
      | succ m ih =>
        intro hm1
        obtain ⟨L, hL, hLs, hLc⟩ := ih (by omega)
        have he := helem m (by omega)
        have hem : elems[m]? = some (elems[m]'(by omega)) := List.getElem?_eq_getElem (by omega)
        rw [hem, hC, Option.bind_eq_some_iff] at he
        obtain ⟨cs', hcs', hy⟩ := he
        obtain ⟨q, rfl, hq⟩ := piece_of hy
        obtain ⟨_, _, hcell⟩ := World.cells?_some hcs'
        refine ⟨L ++ [q], by rw [List.length_append, hL]; rfl, fun c hc => (List.mem_append.1 hc).elim (hLs c) (fun h => by rw [List.mem_singleton.1 h]; exact hq), fun j u hu => ?_⟩
        rw [pcs_app] at hu
        rcases Nat.lt_or_ge j (m * 5) with hj | hj
        · rw [List.getElem?_append_left (by rw [pcs_len, hL]; exact hj)] at hu
          exact hLc j u hu
        · rw [List.getElem?_append_right (by rw [pcs_len, hL]; exact hj), pcs_len, hL, pcs_cons, pcs_nil, List.append_nil] at hu
          have hj2 : j - m * 5 < 5 := by
            rcases Nat.lt_or_ge (j - m * 5) 5 with h1 | h1
            · exact h1
            · rw [List.getElem?_eq_none (by simp [pcL]; omega)] at hu; cases hu
          have h2 := hcell (j - m * 5) hj2
          rw [Addr.add_add, show m * 5 + (j - m * 5) = j by omega] at h2
          rw [h2, hu]
    obtain ⟨L, hL, hLs, hLc⟩ := key len (Nat.le_refl _)
    refine ⟨some a, L, cap, by rw [hL], by rw [hL]; exact hl, by rw [hL]; simp only [maxLen] at hm; omega, hLs, fun hne => ?_⟩
    have h0 : 0 < (pcs L).length := by
      rcases Nat.eq_zero_or_pos (pcs L).length with h0 | h0
      · exact absurd (List.eq_nil_of_length_eq_zero h0) hne
      · exact h0
    have hc0 := hLc 0 _ (List.getElem?_eq_getElem h0)
    refine ⟨a, rfl, by have := cell_lt hc0; rwa [add_block] at this, hLc⟩
theorem open_i64s {H : Type} {enc : TypeId × Value → H} {W : World} {base : Nat} {v : Value} {d : DataW H} {p : List MemPlace} (hv : Value.okWide Try.prog W .any base 23 v)
    (h : DataW.Trod enc Try.prog W 0 (fun _ => true) true 23 v d p) :
    ∃ (A : Option Addr) (l : List Int) (cap : Nat), v = .slice A l.length cap ∧ (∀ z ∈ l, -9223372036854775808 ≤ z ∧ z ≤ 9223372036854775807) ∧ Rd W W.heap.size A (l.map fun z => .int .i64 z) ∧ l.length ≤ maxLen := by
  obtain ⟨A, len, cap, rfl⟩ := okWide_slice Try.underlying23 hv
  obtain ⟨fuel, hf⟩ := h
  rcases open_ints Try.underlying23 Try.underlying2 (by kernel_rfl) hf with ⟨hcs, _⟩ | ⟨x, l, c, zs, hcs, _, hl, hm, hz, _, hcell, hwz⟩
  · simp [Value.cells] at hcs
    obtain ⟨rfl, rfl, rfl⟩ := hcs
    exact ⟨none, [], 0, rfl, by simp, Rd.nil_ _ _ _, by simp⟩
  · simp [Value.cells] at hcs
    obtain ⟨rfl, rfl, rfl⟩ := hcs
    have hz' : zs.length = cap := by simpa using hz
    have hlen : (zs.take len).length = len := by simp; omega
    refine ⟨some x, zs.take len, cap, by rw [hlen], fun z hz1 => ?_, ?_, by rw [hlen]; omega⟩
    · have := bounds_i64 (hwz z (List.mem_of_mem_take hz1))
      omega
    · intro hne
      have h0 : 0 < len := by
        rcases Nat.eq_zero_or_pos len with h0 | h0
        · subst h0; simp at hne
        · exact h0
      have hc0 := hcell 0 (by omega)
      refine ⟨x, rfl, by have := block_lt hc0; rwa [add_block] at this, fun j u hu => ?_⟩
      have hj : j < len := by
        rcases Nat.lt_or_ge j len with h1 | h1
        · exact h1
        · rw [List.getElem?_eq_none (by rw [List.length_map, hlen]; exact h1)] at hu; cases hu
      have hjz : j < zs.length := by omega
      rw [hcell j hjz, ← hu, List.getElem?_map, List.getElem?_take_of_lt hj, List.getD_eq_getElem?_getD, List.getElem?_eq_getElem hjz]
      rfl
end Go.Proofs.Ytlidfmbmlhaacaa
