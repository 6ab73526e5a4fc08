/- A load of many cells in a region that draws its order. -/
import Derived.Test.YtldanlglefgobaaEqS
import Derived.Deep.MidRow
import Derived.BigQuiet
namespace Go.Proofs.Ytldanlglefgobaa
open Go.RowKit
set_option linter.unusedVariables false
section
variable {P : Program} {ops : Array Oper} {C : World → Prop} {Q : Act → Prop} {a : Act} {o : Oper} {rest : List Oper}
theorem wpQuiet_load_mid (hw : Region.wanted o (yielded ops a.tmps) = true) (ty : TypeId) (x : Operand) (ho : o.op = .load ty x) (b off : Nat) (hx : a.eval x = .pointer (some ⟨b, off, none⟩))
    (l : List Nat) (d : TypeDesc) (hC : ∀ w, C w → w.rangeAt b off (byt l)) (hu : P.underlying ty = some d) (hd : d.isRow = true) (hi : (P.info? ty).map (·.size) = some (byt l).length)
    (a' : Act) (ha : a.put o.dst (.agg (vb l)) = a') (h : wpQuiet P ops C Q rest a') : wpQuiet P ops C Q (o :: rest) a := by
  refine BigFrame.wpQuiet_want hw fun K hK => ⟨.agg (vb l), fun w hw' => ?_, ?_⟩
  · unfold Oper.quietAt execOp
    simp only [ho, hx, Instr.loadAt, Instr.sureAddr, Sem.run_bind, Sem.run_pure, Result.andThen_ok, run_loadVar_mid w b off ty (byt l) d (hC w hw') hu hd hi]
    exact ⟨rfl, rfl⟩
  · rw [ha]; exact hK _ h
/-- '==', '!=' whose answer is known -/
theorem wpQuiet_bin (hw : Region.wanted o (yielded ops a.tmps) = true) (op : BinOp) (tx : TypeId) (x y : Operand) (ty : TypeId) (ho : o.op = .binOp op tx x y ty) (u v r : Value) (hx : a.eval x = u) (hy : a.eval y = v)
    (hr : ∀ w, C w → (execOp a.eval o).run P w = .ok (.value r) w)
    (a' : Act) (ha : a.put o.dst r = a') (h : wpQuiet P ops C Q rest a') : wpQuiet P ops C Q (o :: rest) a := by
  refine BigFrame.wpQuiet_want hw fun K hK => ⟨r, fun w hw' => ?_, ?_⟩
  · unfold Oper.quietAt
    rw [hr w hw']
    exact ⟨rfl, rfl⟩
  · rw [ha]; exact hK _ h
end
theorem ext_range {w0 : World} {b off : Nat} {cs : List Value} (h : w0.rangeAt b off cs) : ∀ w, (∃ x : Ext w0, w = x.wd) → w.rangeAt b off cs := by
  rintro _ ⟨x, rfl⟩ j u hu
  exact x.cell (h j u hu)
theorem rangeAt_blk {w : World} {g : Nat} {t : TypeId} {l : List Nat} (h : Blk w g t (vb l)) : w.rangeAt g 0 (byt l) := fun j u hu => by
  rw [Nat.zero_add]
  exact (h.cell j).trans (by rw [← hu, vb, List.getElem?_toArray])
end Go.Proofs.Ytldanlglefgobaa
