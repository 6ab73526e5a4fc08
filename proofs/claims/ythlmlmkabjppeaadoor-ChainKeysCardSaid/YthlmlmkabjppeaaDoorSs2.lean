/- ShaSums: the walk. -/
import Derived.Test.YthlmlmkabjppeaaDoorSs1
namespace Go.Proofs.YthlmlmkabjppeaaDoor
open Go.RowKit
set_option linter.unusedVariables false
set_option linter.unusedSimpArgs false
theorem rd_mid {w : World} {g : Nat} {l : List Nat} (h : LentAt w g l) (off n : Nat) (hn : off + n ≤ l.length) : Rd w (g + 1) (some ⟨g, off, none⟩) (byt ((l.drop off).take n)) := fun _ => ⟨_, rfl, Nat.lt_succ_self _, fun j u hu => by
  have hj : j < n := by
    rcases Nat.lt_or_ge j n with h1 | h1
    · exact h1
    · rw [List.getElem?_eq_none (by rw [byt_len, List.length_take]; omega)] at hu; cases hu
  rw [Addr.add_mid, h.cell]
  have e1 := vb_at (lent l) (off + j) (by rw [lent_len]; omega)
  rw [e1, lent_at (by omega), ← hu, byt_at (by rw [List.length_take, List.length_drop]; omega)]
  congr 3
  rw [List.getD_eq_getElem?_getD, List.getD_eq_getElem?_getD, List.getElem?_take_of_lt hj, List.getElem?_drop]⟩
/-- the pieces that the bytes are cut in -/
def cuts (gi : Nat) (l : List Nat) (k j : Nat) : List Part := [(some ⟨gi, 0, none⟩, l.length + 8, l.take k), (some ⟨gi, k, none⟩, l.length + 8 - k, (l.drop k).take (j - k)), (none, 0, []), (some ⟨gi, j, none⟩, l.length + 8 - j, l.drop j)]
theorem cuts_cat (gi : Nat) (l : List Nat) (k j : Nat) (h1 : k ≤ j) (h2 : j ≤ l.length) : cat (cuts gi l k j) 4 = l := by
  show l.take k ++ ((l.drop k).take (j - k) ++ ([] ++ (l.drop j ++ []))) = l
  rw [List.append_nil, List.nil_append]
  have : l.drop j = (l.drop k).drop (j - k) := by rw [List.drop_drop]; congr 1; omega
  rw [this, List.take_append_drop, List.take_append_drop]
def ArrAt (w : World) (u : Value) (base : Nat) (ps : List Part) : Prop := ∃ g, u = .slice (some ⟨g, 0, none⟩) ps.length ps.length ∧ base ≤ g ∧ Blk w g 22 (ps.map pv).toArray
theorem ArrAt.next {w w' : World} {u : Value} {base : Nat} {ps : List Part} (h : ArrAt w u base ps) (hb : Below w.heap.size w w') : ArrAt w' u base ps := by
  obtain ⟨g, e, hg, hh⟩ := h
  exact ⟨g, e, hg, hh.below hb hh.lt⟩
theorem ArrAt.of {w : World} {u : Value} {base : Nat} {ps : List Part} (h : ArrAt w u base ps) (m : List Nat) (hm : cat ps ps.length = m) (hml : ∀ c ∈ m, c < 256) (hr : ∀ p ∈ ps, Rd w w.heap.size p.1 (byt p.2.2)) (hlen : m.length ≤ 10000) (hn2 : ps.length ≤ 1000) (hR : RoundsAt w) :
    Calls Tryd.prog 21 #[u] w fun e w' => e = .returned (.agg (vb (sha m))) ∧ Below w.heap.size w w' := by
  obtain ⟨g, rfl, hg, hh⟩ := h
  refine of_c g ps.length ps.length ps m w hm hml rfl (fun k hk => ?_) hh.lt hr hlen hn2 (Nat.le_refl _) hR.1 hR.2
  rw [hh.cell k, List.getElem?_toArray, List.getElem?_map, List.getElem?_eq_getElem hk]
  rfl
theorem sliceInfo : (Tryd.prog.info? 22).map (fun i => (i.zero, i.size, i.bytes)) = some (some (.slice none 0 0), 1, 24) := by kernel_rfl
theorem run_build_parts (w : World) (ps : List Part) {o : Oper} {a : Act} (xs : Array (Nat × Operand)) (ho : o.op = .buildSlice 73 ps.length xs)
    (hx : (xs.map fun (p : Nat × Operand) => (p.1, a.eval p.2)).toList = (((ps.map pv).zipIdx 0).map fun x => (x.2, x.1))) (hlen : ps.length ≤ 1000) (hpos : 0 < ps.length) :
    (execOp a.eval o).run Tryd.prog w = .ok (.value (.slice (some ⟨w.heap.size, 0, none⟩) ps.length ps.length)) (w.alloc (.cells (ps.map pv).toArray 22)) := by
  obtain ⟨i0, hi, hz0, hz1, hz2⟩ := info_parts sliceInfo
  have h1 := run_buildSlice (P := Tryd.prog) w 73 22 ps.length (xs.map fun (p : Nat × Operand) => (p.1, a.eval p.2)) (ps.map pv).toArray i0 _ Tryd.underlying73 hi hz0 (by rw [hz1]; omega) (by rw [hz1]; omega) (by
    rw [hz1]
    refine (congrArg _ hx).trans ?_
    exact (Great.fill_flat (ps.map pv) _ (fun v hv => by
      obtain ⟨p, _, rfl⟩ := List.mem_map.1 hv
      rfl) (by simp)))
  unfold execOp
  simp only [ho, Sem.run_bind, h1, Result.andThen_ok]
  rfl
theorem run_build1 (w : World) (p : Part) {o : Oper} {a : Act} (x : Operand) (ho : o.op = .buildSlice 73 1 #[(0, x)]) (hx : a.eval x = pv p) :
    (execOp a.eval o).run Tryd.prog w = .ok (.value (.slice (some ⟨w.heap.size, 0, none⟩) 1 1)) (w.alloc (.cells ([p].map pv).toArray 22)) :=
  run_build_parts w [p] #[(0, x)] ho (by simp [hx]) (by simp) (by simp)
theorem run_build4 (w : World) (p0 p1 p2 p3 : Part) {o : Oper} {a : Act} (x0 x1 x2 x3 : Operand) (ho : o.op = .buildSlice 73 4 #[(0, x0), (1, x1), (2, x2), (3, x3)]) (h0 : a.eval x0 = pv p0) (h1 : a.eval x1 = pv p1) (h2 : a.eval x2 = pv p2) (h3 : a.eval x3 = pv p3) :
    (execOp a.eval o).run Tryd.prog w = .ok (.value (.slice (some ⟨w.heap.size, 0, none⟩) 4 4)) (w.alloc (.cells ([p0, p1, p2, p3].map pv).toArray 22)) :=
  run_build_parts w [p0, p1, p2, p3] #[(0, x0), (1, x1), (2, x2), (3, x3)] ho (by simp [h0, h1, h2, h3]) (by simp) (by simp)
end Go.Proofs.YthlmlmkabjppeaaDoor
