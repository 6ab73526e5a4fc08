/- Many cells from any address on: loads. -/
import Derived.Test.YtldanlglefgobaaSham7
import Derived.DataElems
namespace Go.Proofs.Ytldanlglefgobaa
open Go.RowKit
set_option linter.unusedVariables false
/-- cells from an address on -/
def AtA (w : World) (a : Addr) (cs : List Value) : Prop := ∀ j v, cs[j]? = some v → w.cell? (a.add j) = some v
theorem AtA.drop {w : World} {a : Addr} {cs : List Value} (h : AtA w a cs) (k n : Nat) : AtA w (a.add k) ((cs.drop k).take n) := fun j v hv => by
  rw [Addr.add_add]
  have hj : j < n := by
    rcases Nat.lt_or_ge j n with h1 | h1
    · exact h1
    · rw [List.getElem?_eq_none (by rw [List.length_take]; omega)] at hv; cases hv
  rw [List.getElem?_take_of_lt hj, List.getElem?_drop] at hv
  exact h (k + j) v hv
theorem AtA.below {w w' : World} {a : Addr} {cs : List Value} {B : Nat} (h : AtA w a cs) (hb : Below B w w') (ha : a.block < B) : AtA w' a cs := fun j v hv =>
  (hb.cell (by rw [add_block]; exact ha)).trans (h j v hv)
section
variable {P : Program}
theorem run_loadVar_at (w : World) (a : Addr) (ty : TypeId) (cs : List Value) (d : TypeDesc) (hc : AtA w a cs)
    (hu : P.underlying ty = some d) (hd : d.isRow = true) (hi : (P.info? ty).map (·.size) = some cs.length) :
    (loadVar ty a).run P w = .ok (.agg cs.toArray) w := by
  have hl : (loadCells a cs.length).run P w = .ok cs.toArray w := run_loadCells_list (P := P) w a cs hc
  cases hq : P.info? ty with
  | none => simp [hq] at hi
  | some i =>
    have hs : i.size = cs.length := by simpa [hq] using hi
    have hagg : (isAgg ty).run P w = .ok true w := by
      unfold isAgg
      rw [Sem.run_bind, run_underlying hu w]
      cases d <;> simp_all
    simp [loadVar, Sem.run_bind, hagg, sizeOf, typeInfo, hq, hs, hl]
theorem wpList_load_at {ops : Array Oper} {rest : List Oper} {op : Oper} {a : Act} {w : World} {Q : Exit → Act → World → Prop} (hgd : op.guard = none) (ty : TypeId) (x : Operand) (ho : op.op = .load ty x)
    (b : Addr) (hx : a.eval x = .pointer (some b)) (l : List Nat) (d : TypeDesc) (hc : AtA w b (byt l))
    (hu : P.underlying ty = some d) (hd : d.isRow = true) (hi : (P.info? ty).map (·.size) = some (byt l).length)
    (h : wpList P ops Q rest (a.put op.dst (.agg (vb l))) w) : wpList P ops Q (op :: rest) a w :=
  wpList_plain hgd fun _ hK => by
    unfold Oper.wp execOp
    simp only [ho, hx, Instr.loadAt, Instr.sureAddr, Sem.run_bind, Sem.run_pure, Result.andThen_ok, run_loadVar_at w b ty (byt l) d hc hu hd hi]
    exact hK _ _ h
theorem wpQuiet_load_at {ops : Array Oper} {C : World → Prop} {Q : Act → Prop} {a : Act} {o : Oper} {rest : List Oper} (hw : Region.wanted o (yielded ops a.tmps) = true) (ty : TypeId) (x : Operand) (ho : o.op = .load ty x) (b : Addr) (hx : a.eval x = .pointer (some b))
    (l : List Nat) (d : TypeDesc) (hC : ∀ w, C w → AtA w b (byt l)) (hu : P.underlying ty = some d) (hd : d.isRow = true) (hi : (P.info? ty).map (·.size) = some (byt l).length)
    (a' : Act) (ha : a.put o.dst (.agg (vb l)) = a') (h : wpQuiet P ops C Q rest a') : wpQuiet P ops C Q (o :: rest) a := by
  refine BigFrame.wpQuiet_want hw fun K hK => ⟨.agg (vb l), fun w hw' => ?_, ?_⟩
  · unfold Oper.quietAt execOp
    simp only [ho, hx, Instr.loadAt, Instr.sureAddr, Sem.run_bind, Sem.run_pure, Result.andThen_ok, run_loadVar_at w b ty (byt l) d (hC w hw') hu hd hi]
    exact ⟨rfl, rfl⟩
  · rw [ha]; exact hK _ h
end
/-- shares in a row that came from anywhere -/
def shX (L : List Nat) (i : Nat) : Nat := L.getD (i * 33) 0
def shY (L : List Nat) (i k : Nat) : Nat := L.getD (i * 33 + (1 + k)) 0
def shR (L : List Nat) (i : Nat) : List Nat := (L.drop (i * 33)).take 33
theorem shR_len {L : List Nat} {n i : Nat} (hL : L.length = n * 33) (hi : i < n) : (shR L i).length = 33 := by
  unfold shR; rw [List.length_take, List.length_drop, hL]; omega
theorem shR_at (L : List Nat) (i j : Nat) (hj : j < 33) : (shR L i).getD j 0 = L.getD (i * 33 + j) 0 := by
  unfold shR
  rw [List.getD_eq_getElem?_getD, List.getElem?_take_of_lt hj, List.getElem?_drop, List.getD_eq_getElem?_getD]
theorem shR_lt {L : List Nat} (h : ∀ c ∈ L, c < 256) (i : Nat) : ∀ c ∈ shR L i, c < 256 := fun c hc => h c (List.mem_of_mem_drop (List.mem_of_mem_take hc))
theorem byt_shR (L : List Nat) (i : Nat) : byt (shR L i) = ((byt L).drop (i * 33)).take 33 := by simp [byt, shR, List.map_take, List.map_drop]
/-- the shares' memory -/
def RdS (w : World) (B : Nat) (A : Option Addr) (n : Nat) (L : List Nat) : Prop := L.length = n * 33 ∧ Rd w B A (byt L)
theorem RdS.open_ {w : World} {B n : Nat} {A : Option Addr} {L : List Nat} (h : RdS w B A n L) (hn : 0 < n) : ∃ ad, A = some ad ∧ ad.block < B ∧ AtA w ad (byt L) := by
  have hne : byt L ≠ [] := fun h0 => by
    have := congrArg List.length h0
    rw [byt_len, h.1] at this
    simp at this; omega
  obtain ⟨ad, rfl, hb, hc⟩ := h.2 hne
  exact ⟨ad, rfl, hb, hc⟩
theorem AtA.share {w : World} {ad : Addr} {L : List Nat} (h : AtA w ad (byt L)) (i : Nat) : AtA w (ad.add (i * 33)) (byt (shR L i)) := by
  rw [byt_shR]; exact h.drop (i * 33) 33
theorem AtA.x {w : World} {ad : Addr} {L : List Nat} {n i : Nat} (h : AtA w ad (byt L)) (hL : L.length = n * 33) (hi : i < n) : w.cell? (ad.add (i * 33)) = some (.int .u8 (shX L i : Nat)) :=
  h (i * 33) _ (byt_at (by rw [hL]; omega))
end Go.Proofs.Ytldanlglefgobaa
