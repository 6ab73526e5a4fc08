/- Rows whose last place but one is marked; more bytes. -/
import Derived.Test.YtfblpkjablgafaaDoorBas2
import Derived.Test.YtfblpkjablgafaaDoorByt1
import Derived.Lib.ConvBytes
import Derived.Laws.IdiomCopy
import Derived.OrdersHeld
namespace Go.Proofs.YtfblpkjablgafaaDoor
open Go.RowKit
set_option linter.unusedVariables false
set_option linter.unusedSimpArgs false
/-- a row that a text was turned into: its last place but one is marked -/
def MarkAt (w : World) (g cap : Nat) (s : List Nat) : Prop := ∃ cur : Array Value, w.heap[g]? = some (.cells cur 5 (cur.size, cur.size + 1)) ∧ cur.size = cap ∧ s.length ≤ cap ∧ cap ≤ maxLen ∧ ∀ j, j < s.length → cur[j]? = some (.int .u8 (s.getD j 0 : Nat))
theorem MarkAt.next {w w' : World} {g cap : Nat} {s : List Nat} (h : MarkAt w g cap s) (hb : Below w.heap.size w w') : MarkAt w' g cap s := by
  obtain ⟨cur, hg, r⟩ := h
  refine ⟨cur, ?_, r⟩
  have hlt : g < w.heap.size := (Array.getElem?_eq_some_iff.1 hg).1
  rw [hb.block g hlt]; exact hg
theorem setCells_row (g : Nat) (t : TypeId) (fr : Nat × Nat) : ∀ (vs : List Value) (o : Nat) (w : World) (cur : Array Value), w.heap[g]? = some (.cells cur t fr) → o + vs.length ≤ cur.size →
    ∃ cur', (w.setCells g o vs).heap[g]? = some (.cells cur' t fr) ∧ cur'.size = cur.size ∧ (∀ j, j < o → cur'[j]? = cur[j]?) ∧ ∀ j, j < vs.length → cur'[o + j]? = vs[j]?
  | [], o, w, cur, hg, _ => ⟨cur, hg, rfl, fun _ _ => rfl, fun j hj => by cases hj⟩
  | v :: r, o, w, cur, hg, hl => by
    simp only [List.length_cons] at hl
    have h1 : (w.setCell ⟨g, o, none⟩ v).heap[g]? = some (.cells (cur.setIfInBounds o v) t fr) := by
      rw [setCell_eq_setRow w g o cur t fr v hg]
      exact setRow_heap w g _ _ t _ hg
    obtain ⟨cur', a, b, c, d⟩ := setCells_row g t fr r (o + 1) (w.setCell ⟨g, o, none⟩ v) (cur.setIfInBounds o v) h1 (by rw [Array.size_setIfInBounds]; omega)
    refine ⟨cur', a, by rw [b, Array.size_setIfInBounds], fun j hj => ?_, fun j hj => ?_⟩
    · rw [c j (by omega), Array.getElem?_setIfInBounds_ne (by omega)]
    · cases j with
      | zero =>
        rw [Nat.add_zero, c o (by omega), Array.getElem?_setIfInBounds_self_of_lt (by omega)]
        rfl
      | succ j =>
        have := d j (by simp only [List.length_cons] at hj; omega)
        rw [show o + (j + 1) = o + 1 + j by omega, this]
        rfl
theorem below_setCells (B g : Nat) (hB : B ≤ g) : ∀ (vs : List Value) (o : Nat) (a w : World), Below B a w → Below B a (w.setCells g o vs)
  | [], _, _, _, h => h
  | v :: r, o, a, w, h => below_setCells B g hB r (o + 1) a _ (h.setCell hB v)
theorem only_below {S : Nat → Prop} {w w' : World} (h : Below w.heap.size w w') : Only S w w' := ⟨h.os, h.tape, h.output, h.size, fun k hk _ => h.block k hk⟩
theorem only_setCells (g : Nat) : ∀ (vs : List Value) (o : Nat) (a w : World), Only (fun k => g = k) a w → Only (fun k => g = k) a (w.setCells g o vs)
  | [], _, _, _, h => h
  | v :: r, o, a, w, h => by
    refine only_setCells g r (o + 1) a _ ⟨h.os, h.tape, h.output, by simpa [World.setCell] using h.size, fun k hk hne => ?_⟩
    rw [← h.block k hk hne]
    exact Below.heap_setCell _ _ _ _ (fun e => hne e.symm)
/-- bytes of a text's row, or of the call's own -/
def MarkOwn (w : World) (B : Nat) (v : Value) (l : List Nat) : Prop := (∃ g cap, v = .slice (some ⟨g, 0, none⟩) l.length cap ∧ B ≤ g ∧ MarkAt w g cap l) ∨ OwnB w B v l
theorem MarkOwn.next {w w' : World} {B : Nat} {v : Value} {l : List Nat} (h : MarkOwn w B v l) (hb : Below w.heap.size w w') : MarkOwn w' B v l := by
  rcases h with ⟨g, cap, e, hB, h⟩ | h
  · exact .inl ⟨g, cap, e, hB, h.next hb⟩
  · exact .inr (h.next hb)
theorem MarkOwn.rd {w : World} {B : Nat} {v : Value} {l : List Nat} (h : MarkOwn w B v l) : ∃ A cap, v = .slice A l.length cap ∧ Rd w w.heap.size A (byt l) := by
  rcases h with ⟨g, cap, rfl, hB, cur, hg, hcs, hle, hmx, hcur⟩ | h
  · have hlt : g < w.heap.size := (Array.getElem?_eq_some_iff.1 hg).1
    refine ⟨_, _, rfl, fun _ => ⟨_, rfl, hlt, fun j u hu => ?_⟩⟩
    have hj : j < l.length := by
      rcases Nat.lt_or_ge j l.length with h1 | h1
      · exact h1
      · rw [List.getElem?_eq_none (by rw [byt_len]; exact h1)] at hu; cases hu
    rw [Addr.add_mid, Nat.zero_add]
    simp only [World.cell?, hg]
    rw [hcur j hj, ← hu, byt_at hj]
    rfl
  · obtain ⟨A, cap, e, _, _, hr⟩ := h.rd
    exact ⟨A, cap, e, hr⟩
theorem MarkOwn.lt {w : World} {B : Nat} {v : Value} {l : List Nat} (h : MarkOwn w B v l) : ∀ g, v.ownBlock = some g → g < w.heap.size := by
  rcases h with ⟨g, cap, rfl, hB, cur, hg, _⟩ | h
  · intro g' hg'
    injection hg' with hg'
    subst hg'
    exact (Array.getElem?_eq_some_iff.1 hg).1
  · exact own_lt h
theorem app_marks (w : World) (B : Nat) (v : Value) (s m : List Nat) (ty : TypeId) (A : Option Addr) (ca : Nat) (Bs : Nat) (hm : MarkOwn w B v s) (hBw : B ≤ w.heap.size) (hs : s.length ≤ 10000) (hmn : m.length ≤ 10000) (hne : m ≠ []) (hr : Rd w Bs A (byt m)) :
    ∃ v' w', (Builtin.append_ #[26, 26] ty #[v, .slice A m.length ca]).run Tryd.prog w = .ok v' w' ∧ MarkOwn w' B v' (s ++ m) ∧ Below B w w' ∧ Only (fun k => v.ownBlock = some k) w w' := by
  obtain ⟨i0, hi, hz0, hz1, hz2⟩ := info_parts byteInfo
  rcases hm with ⟨g, cap, rfl, hB, hm⟩ | ho
  · obtain ⟨ad, rfl, _, hc⟩ := hr (by intro h0; have := congrArg List.length h0; rw [byt_len] at this; exact hne (List.eq_nil_of_length_eq_zero this))
    obtain ⟨cur, hg, hcs, hle, hmx, hcur⟩ := hm
    have hlt : g < w.heap.size := (Array.getElem?_eq_some_iff.1 hg).1
    have hcell : ∀ j, j < s.length → w.cell? ⟨g, j, none⟩ = some (.int .u8 (s.getD j 0 : Nat)) := fun j hj => by
      simp only [World.cell?, hg]
      exact hcur j hj
    by_cases hroom : s.length + m.length ≤ cap
    · have hf := run_firstCells_some (P := Tryd.prog) w i0.size m.length ad m.length ca (byt m) (by rw [hz1, byt_len, Nat.mul_one]) hc
      have hst := run_storeCells_cells (P := Tryd.prog) g s.length (byt m) 0 w (fun j hj => by
        rw [byt_len] at hj
        simp only [World.cell?, hg, Nat.add_zero]
        rw [Array.getElem?_eq_getElem (by omega)]
        rfl) (fun j hj => by
        rw [byt_len] at hj
        simp [World.frozen?, hg]
        omega) (byt_one m)
      rw [Nat.add_zero] at hst
      rw [hz1] at hf
      obtain ⟨cur', ha, hb, hcc, hd⟩ := setCells_row g 5 _ (byt m) s.length w cur hg (by rw [byt_len]; omega)
      refine ⟨.slice (some ⟨g, 0, none⟩) (s.length + m.length) cap, w.setCells g s.length (byt m), ?_, .inl ⟨g, cap, by rw [List.length_append], hB, cur', by rw [ha, hb], by rw [hb, hcs], by rw [List.length_append]; exact hroom, hmx, fun j hj => ?_⟩, below_setCells B g hB _ _ _ _ (Below.refl _ _), ?_⟩
      · simp [Builtin.append_, run_underlying Tryd.underlying26, sizeOf, typeInfo, hi, Builtin.lenOf, hroom, hf, Addr.add_lit, hst, hz1]
      · rw [List.length_append] at hj
        rcases Nat.lt_or_ge j s.length with h1 | h1
        · rw [hcc j h1, hcur j h1]
          congr 3
          rw [List.getD_eq_getElem?_getD, List.getD_eq_getElem?_getD, List.getElem?_append_left h1]
        · obtain ⟨i, rfl⟩ : ∃ i, j = s.length + i := ⟨j - s.length, by omega⟩
          rw [hd i (by rw [byt_len]; omega), byt_at (by omega)]
          congr 3
          rw [List.getD_eq_getElem?_getD, List.getD_eq_getElem?_getD, List.getElem?_append_right (by omega), Nat.add_sub_cancel_left]
      · have h1 := only_setCells g (byt m) s.length w w ⟨rfl, rfl, rfl, Nat.le_refl _, fun _ _ _ => rfl⟩
        exact ⟨h1.os, h1.tape, h1.output, h1.size, fun k hk hne => h1.block k hk (fun e => hne (by rw [← e]; rfl))⟩
    · have h1 := run_append_grow (P := Tryd.prog) w 26 ty 5 i0 _ Tryd.underlying26 hi hz0 ⟨g, 0, none⟩ s.length cap (byt s) (by rw [hz1, byt_len, Nat.mul_one]) (fun j v hv => by
          have hj : j < s.length := by
            rcases Nat.lt_or_ge j s.length with h1 | h1
            · exact h1
            · rw [List.getElem?_eq_none (by rw [byt_len]; exact h1)] at hv; cases hv
          rw [Addr.add_mid, Nat.zero_add, hcell j hj, ← hv, byt_at hj]) ad m.length ca (byt m) (by rw [hz1, byt_len, Nat.mul_one]) hc (by omega) (by omega) (growslice_fits (by omega) (by rw [hz2]; omega))
      have hge := grownCap_ge w (s.length + m.length) cap 5
      have hgm := grownCap_le_maxLen w (s.length + m.length) cap 5 (by simp [maxLen]; omega)
      refine ⟨_, _, h1, .inr ⟨by rw [byt_len, Nat.mul_one], .inr ⟨w.heap.size, grownCap w (s.length + m.length) cap 5, _, by rw [List.length_append], hBw, (Blk.new w.drew 5 _), by rw [List.length_append]; exact hge, hgm, ?_, ?_⟩⟩, (Below.refl _ _).drew.alloc (Nat.le_trans hB (Nat.le_of_lt hlt)) _, ?_⟩
      · rw [Array.size_append, Array.size_append, List.size_toArray, List.size_toArray, byt_len, byt_len]
        simp [Builtin.zeroCells, Value.cells]
        omega
      · rw [Nat.mul_one, Array.toList_append, Array.toList_append, List.toList_toArray, List.toList_toArray, List.length_append, List.take_append_of_le_length (by simp [byt]), byt_app, List.take_of_length_le (by simp [byt])]
      · exact only_below ((Below.refl _ _).drew.alloc (Nat.le_refl _) _)
  · obtain ⟨v', w', hrun, hap⟩ := run_app (P := Tryd.prog) w B 26 ty 5 i0 (.int .u8 0) 1 1 Tryd.underlying26 hi hz0 hz1 hz2 rfl (by decide) v s.length (byt s) ho Bs A m.length ca (byt m) (by rw [byt_len, Nat.mul_one]) hr (byt_one m) (by omega) (by omega) hBw
    exact ⟨v', w', hrun, .inr (OwnB.app hap), hap.below ho hBw, hap.only (fun g h => h)⟩
theorem op_appendM {o : Oper} {a : Act} {w w' : World} {t : TypeId} {s x : Operand} {v u r : Value} (ho : o.op = .call { callee := .builtin .append, args := #[s, x], argTypes := #[t, t] }) (hs : a.eval s = v) (hx : a.eval x = u) (hrun : (Builtin.append_ #[t, t] o.type #[v, u]).run Tryd.prog w = .ok r w') : (execOp a.eval o).run Tryd.prog w = .ok (.value r) w' := by
  unfold execOp
  simp only [ho, resolve, invoke, builtin, Sem.run_bind, Sem.run_pure, Result.andThen_ok, List.map_toArray, List.map_cons, List.map_nil, hs, hx, hrun]
end Go.Proofs.YtfblpkjablgafaaDoor
