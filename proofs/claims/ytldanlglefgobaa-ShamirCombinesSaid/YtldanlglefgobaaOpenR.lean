/- Rows of keys, of shares, that came in, opened. -/
import Derived.Test.YtldanlglefgobaaOpenK
import Derived.Test.YtldanlglefgobaaApp
import Derived.DataElems
namespace Go.Proofs.Ytldanlglefgobaa
open Go.ChangeShapes Go.WideShapes Go.ChangeAt Go.RowKit
set_option linter.unusedVariables false
theorem open_rows {H : Type} {enc : TypeId × Value → H} {W : World} {base s : Nat} {t e : TypeId} {v : Value} {d : DataW H} {p : List MemPlace} (ht : Try.prog.underlying t = some (.slice e)) (hs : Try.prog.cellsOf e = s)
    (hel : ∀ (fuel : Nat) (cs : List Value) (y : DataW H × List MemPlace), DataW.trod enc Try.prog W 0 (fun _ => true) true fuel e cs = some y → ∃ l : List Nat, cs = byt l ∧ l.length = s ∧ ∀ c ∈ l, c < 256)
    (hpos : 0 < s) (hv : Value.okWide Try.prog W .any base t v) (h : DataW.Trod enc Try.prog W 0 (fun _ => true) true t v d p) :
    ∃ (A : Option Addr) (L : List Nat) (n cap : Nat), v = .slice A n cap ∧ n ≤ cap ∧ cap ≤ maxLen ∧ L.length = n * s ∧ (∀ c ∈ L, c < 256) ∧ Rd W W.heap.size A (byt L) := by
  obtain ⟨A, len, cap, rfl⟩ := okWide_slice ht hv
  obtain ⟨fuel, hf⟩ := h
  rcases DataW.trod_slice ht hf with ⟨hcs, _⟩ | ⟨a, len', cap', elems, rest, n, _, hcs, _, hb, hl, hm, hlen, helem, _, _⟩
  · simp [Value.cells] at hcs
    obtain ⟨rfl, rfl, rfl⟩ := hcs
    exact ⟨none, [], 0, 0, rfl, Nat.le_refl _, by simp, by simp, by simp, Rd.nil_ _ _ _⟩
  · simp [Value.cells] at hcs
    obtain ⟨rfl, rfl, rfl⟩ := hcs
    have key : ∀ m, m ≤ len → ∃ L : List Nat, L.length = m * s ∧ (∀ c ∈ L, c < 256) ∧ ∀ j u, (byt L)[j]? = some u → W.cell? (a.add j) = some u := by
      intro m
      induction m with
      | zero => intro _; exact ⟨[], by simp, by simp, by intro j u hu; simp [byt] at hu⟩
      | succ m ih =>
        intro hm1
        obtain ⟨L, hL, hLs, hLc⟩ := ih (by omega)
        have he := helem m (by omega)
        have hem : elems[m]? = some (elems[m]'(by omega)) := List.getElem?_eq_getElem (by omega)
        rw [hem, hs, Option.bind_eq_some_iff] at he
        obtain ⟨cs', hcs', hy⟩ := he
        obtain ⟨l, rfl, hll, hls⟩ := hel n cs' _ hy
        obtain ⟨_, _, hcell⟩ := World.cells?_some hcs'
        refine ⟨L ++ l, by rw [List.length_append, hL, hll, Nat.add_mul, Nat.one_mul], fun c hc => (List.mem_append.1 hc).elim (hLs c) (hls c), fun j u hu => ?_⟩
        rw [← byt_app] at hu
        rcases Nat.lt_or_ge j (m * s) with hj | hj
        · rw [List.getElem?_append_left (by rw [byt_len, hL]; exact hj)] at hu
          exact hLc j u hu
        · rw [List.getElem?_append_right (by rw [byt_len, hL]; exact hj), byt_len, hL] at hu
          have hj2 : j - m * s < s := by
            rcases Nat.lt_or_ge (j - m * s) s with h1 | h1
            · exact h1
            · rw [List.getElem?_eq_none (by rw [byt_len, hll]; exact h1)] at hu; cases hu
          have h2 := hcell (j - m * s) hj2
          rw [Addr.add_add, show m * s + (j - m * s) = j by omega] at h2
          rw [h2, hu]
    obtain ⟨L, hL, hLs, hLc⟩ := key len (Nat.le_refl _)
    refine ⟨some a, L, len, cap, rfl, hl, hm, hL, hLs, fun hne => ?_⟩
    have h0 : 0 < L.length := by
      rcases Nat.eq_zero_or_pos L.length with h0 | h0
      · have : L = [] := List.eq_nil_of_length_eq_zero h0
        subst this; simp [byt] at hne
      · exact h0
    have hc0 := hLc 0 _ (byt_at h0)
    refine ⟨a, rfl, by have := block_lt hc0; rwa [add_block] at this, hLc⟩
theorem open_keys {H : Type} {enc : TypeId × Value → H} {W : World} {base : Nat} {v : Value} {d : DataW H} {p : List MemPlace} (hv : Value.okWide Try.prog W .any base 52 v)
    (h : DataW.Trod enc Try.prog W 0 (fun _ => true) true 52 v d p) :
    ∃ (A : Option Addr) (L : List Nat) (n cap : Nat), v = .slice A n cap ∧ n ≤ cap ∧ cap ≤ maxLen ∧ L.length = n * 32 ∧ (∀ c ∈ L, c < 256) ∧ Rd W W.heap.size A (byt L) := by
  have hC : Try.prog.cellsOf 43 = 32 := by kernel_rfl
  refine open_rows Try.underlying52 hC (fun fuel cs y hy => ?_) (by decide) hv h
  obtain ⟨l, e, hl, hs⟩ := barr_of Try.underlying43 hC hy
  exact ⟨l, e, hl, hs⟩
theorem open_shares {H : Type} {enc : TypeId × Value → H} {W : World} {base : Nat} {v : Value} {d : DataW H} {p : List MemPlace} (hv : Value.okWide Try.prog W .any base 44 v)
    (h : DataW.Trod enc Try.prog W 0 (fun _ => true) true 44 v d p) :
    ∃ (A : Option Addr) (L : List Nat) (n cap : Nat), v = .slice A n cap ∧ n ≤ cap ∧ cap ≤ maxLen ∧ L.length = n * 33 ∧ (∀ c ∈ L, c < 256) ∧ Rd W W.heap.size A (byt L) := by
  have hC : Try.prog.cellsOf 48 = 33 := by kernel_rfl
  have hK : Try.prog.cellsOf 43 = 32 := by kernel_rfl
  have hU : Try.prog.cellsOf 5 = 1 := by kernel_rfl
  refine open_rows Try.underlying44 hC (fun fuel cs y hy => ?_) (by decide) hv h
  have hf : ∃ f0 f1 : Field, Try.prog.underlying 48 = some (.struct #[f0, f1]) ∧ f0.offset = 0 ∧ f1.offset = 1 ∧ f0.type = 5 ∧ f1.type = 43 := ⟨_, _, Try.underlying48, rfl, rfl, rfl, rfl⟩
  obtain ⟨f0, f1, hu, o0, o1, k0, k1⟩ := hf
  obtain ⟨xs, n, _, hx, hlc, hlen, hg⟩ := DataW.trod_struct hu hy
  have hlen' : xs.length = 2 := hlen
  have g0 := hg 0 f0 rfl
  have g1 := hg 1 f1 rfl
  rw [k0, o0, hU, List.getElem?_eq_getElem (by omega)] at g0
  rw [k1, o1, hK, List.getElem?_eq_getElem (by omega)] at g1
  obtain ⟨z0, hz0, _, w0⟩ := DataW.trod_int Try.underlying5 g0
  have hb0 := bounds_u8 w0
  obtain ⟨l, e, hl, hs⟩ := barr_of Try.underlying43 hK g1
  obtain ⟨x, rfl⟩ := Int.eq_ofNat_of_zero_le hb0.1
  refine ⟨x :: l, ?_, by rw [List.length_cons, hl], fun c hc => ?_⟩
  · rw [hC] at hlc
    cases cs with
    | nil => simp at hlc
    | cons u cs =>
      simp only [List.drop_zero, List.take_succ_cons, List.take_zero, List.cons.injEq, and_true] at hz0
      rw [hz0]
      have h2 : cs.take 32 = byt l := by simpa using e
      rw [List.take_of_length_le (by simp at hlc; omega)] at h2
      rw [h2]; rfl
  · rcases List.mem_cons.1 hc with rfl | hc
    · omega
    · exact hs c hc
end Go.Proofs.Ytldanlglefgobaa
