/- Parts, one behind the other: Pa2 Dl2. -/
import Derived.Test.YtalfmcajghmkpaaZ03
import Derived.Laws.StructEq
/- A slice of slices of pieces; contract: the document's example of layer 13. -/
namespace Go.Proofs.Ytalfmcajghmkpaa
set_option maxRecDepth 100000
open Go.RowKit
set_option linter.unusedVariables false
set_option linter.unusedSimpArgs false
theorem sliceInfo : (Try.prog.info? 34).map (fun i => (i.zero, i.size, i.bytes)) = some (some (.slice none 0 0), 1, 24) := by kernel_rfl
theorem run_lists (w : World) (vs : List Value) (hv : ∀ v ∈ vs, ∃ A n c, v = .slice A n c) {o : Oper} {ρ : Operand → Value} (xs : Array (Nat × Operand)) (ho : o.op = .buildSlice 42 vs.length xs)
    (hx : (xs.map fun (p : Nat × Operand) => (p.1, ρ p.2)).toList = ((vs.zipIdx 0).map fun x => (x.2, x.1))) (hlen : vs.length ≤ 1000) (hpos : 0 < vs.length) :
    (execOp ρ o).run Try.prog w = .ok (.value (.slice (some ⟨w.heap.size, 0, none⟩) vs.length vs.length)) (w.alloc (.cells vs.toArray 34)) := by
  obtain ⟨i0, hi, hz0, hz1, hz2⟩ := info_parts sliceInfo
  have h1 := run_buildSlice (P := Try.prog) w 42 34 vs.length (xs.map fun (p : Nat × Operand) => (p.1, ρ p.2)) vs.toArray i0 _ Try.underlying42 hi hz0 (by rw [hz1]; omega) (by rw [hz1]; omega) (by
    rw [hz1]
    refine (congrArg _ hx).trans ?_
    exact (Great.fill_flat vs _ (fun v hm => by
      obtain ⟨A, n, c, rfl⟩ := hv v hm
      rfl) (by simp)))
  unfold execOp
  simp only [ho, Sem.run_bind, h1, Result.andThen_ok]
  rfl
theorem lsAt_blk {W : World} {g : Nat} {vs : List Value} {Ls : List (List Pc)} (h : Blk W g 34 vs.toArray) (hv : ∀ i, i < Ls.length → ∃ Ai ci, vs[i]? = some (.slice Ai (Ls.getD i []).length ci) ∧ (Ls.getD i []).length ≤ ci ∧ RdP W W.heap.size Ai (Ls.getD i [])) : LsAt W (some ⟨g, 0, none⟩) Ls := fun i hi => by
  obtain ⟨Ai, ci, h1, h2, h3⟩ := hv i hi
  refine ⟨_, Ai, ci, rfl, h.lt, ?_, h2, h3⟩
  rw [Addr.add_mid, Nat.zero_add, h.cell]
  simpa using h1
theorem rdP_blk {W : World} {g : Nat} {l : List Pc} (h : Blk W g 27 (pcs l).toArray) : RdP W W.heap.size (some ⟨g, 0, none⟩) l := fun _ => ⟨_, rfl, h.lt, atA_blk h⟩
def aw1 : Pc := ⟨⟨#[97]⟩, 1, 5, 1, 0⟩
def aw2 : Pc := ⟨⟨#[97]⟩, 1, 6, 2, 0⟩
theorem aw_merge : mergeL [[aw1], [aw2]].flatten = [aw2] := by
  have hs : samePl aw1 aw2 = true := (samePl_iff _ _).2 ⟨rfl, rfl⟩
  have hb : better aw2 aw1 = true := by rw [better_iff]; left; decide
  have h1 : ckP aw1 = true := rfl
  have h2 : ckP aw2 = true := rfl
  show mgTo [] [aw1, aw2] = _
  rw [mgTo, mgTo, mgTo, if_pos h1, if_pos h2, insP, insP, if_pos hs, if_pos hb]
theorem aw_ok (p : Pc) (h : p = aw1 ∨ p = aw2) : PcOk p ∧ p.s.size ≤ 9223372036854775807 := by
  rcases h with rfl | rfl <;> exact ⟨⟨by decide, by decide, by decide, by decide, by decide, by decide⟩, by decide⟩
set_option maxRecDepth 100000 in
set_option maxHeartbeats 4000000 in
theorem awake13_c (w : World) : Calls Try.prog 5 #[] w (Yes w) := by
  go_enter Try.func5, Try.ntmps5
  go_upto_region 2 with (first
    | (refine wpList_valM rfl _ _ (run_onePc w aw1 (.tmp 3) rfl (by kernel_rfl)) ?_
       obtain ⟨W1, e1⟩ : ∃ W1, W1 = w.alloc (.cells (pcV aw1) 27) := ⟨_, rfl⟩
       rw [← e1]
       have A1 := Lib.hid (show Blk W1 w.heap.size 27 (pcV aw1) by rw [e1]; exact Blk.new _ _ _)
       have B1 := Lib.hid (show Below w.heap.size w W1 by rw [e1]; exact (Below.refl _ _).alloc (Nat.le_refl _) _)
       clear e1)
    | (refine wpList_valM rfl _ _ (run_onePc W1 aw2 (.tmp 6) rfl (by kernel_rfl)) ?_
       obtain ⟨W2, e2⟩ : ∃ W2, W2 = W1.alloc (.cells (pcV aw2) 27) := ⟨_, rfl⟩
       rw [← e2]
       have A2 := Lib.hid (show Blk W2 w.heap.size 27 (pcV aw1) by rw [e2]; exact A1.out.alloc _)
       have A3 := Lib.hid (show Blk W2 W1.heap.size 27 (pcV aw2) by rw [e2]; exact Blk.new _ _ _)
       have B2 := Lib.hid (show Below w.heap.size w W2 by rw [e2]; exact B1.out.alloc B1.out.size _)
       clear e2)
    | (refine wpList_valM rfl _ _ (run_lists W2 [.slice (some ⟨w.heap.size, 0, none⟩) 1 1, .slice (some ⟨W1.heap.size, 0, none⟩) 1 1] (by intro v hv; simp at hv; rcases hv with rfl | rfl <;> exact ⟨_, _, _, rfl⟩) #[(0, .tmp 4), (1, .tmp 7)] rfl (by kernel_rfl) (by simp) (by simp)) ?_
       obtain ⟨W3, e3⟩ : ∃ W3, W3 = W2.alloc (.cells [.slice (some ⟨w.heap.size, 0, none⟩) 1 1, .slice (some ⟨W1.heap.size, 0, none⟩) 1 1].toArray 34) := ⟨_, rfl⟩
       rw [← e3]
       have A4 := Lib.hid (show LsAt W3 (some ⟨W2.heap.size, 0, none⟩) [[aw1], [aw2]] by
         refine lsAt_blk (vs := [.slice (some ⟨w.heap.size, 0, none⟩) 1 1, .slice (some ⟨W1.heap.size, 0, none⟩) 1 1]) (by rw [e3]; exact Blk.new _ _ _) (fun i hi => ?_)
         match i, hi with
         | 0, _ => exact ⟨_, _, rfl, Nat.le_refl _, rdP_blk (by rw [e3]; exact A2.out.alloc _)⟩
         | 1, _ => exact ⟨_, _, rfl, Nat.le_refl _, rdP_blk (by rw [e3]; exact A3.out.alloc _)⟩)
       have B3 := Lib.hid (show Below w.heap.size w W3 by rw [e3]; exact B2.out.alloc B2.out.size _)
       clear e3)
    | (go_at_call 13
       (refine (merge_c (some ⟨W2.heap.size, 0, none⟩) 2 [[aw1], [aw2]] W3 A4.out (by simp) (by simp) (by
         intro L hL
         simp at hL
         rcases hL with rfl | rfl
         · exact ⟨by simp, fun p hp => aw_ok p (.inl (by simpa using hp))⟩
         · exact ⟨by simp, fun p hp => aw_ok p (.inr (by simpa using hp))⟩)).mono ?_)
       rintro e W4 ⟨v, rfl, ho, hb⟩
       rw [aw_merge] at ho
       have HO := Lib.hid ho
       have HB4 := Lib.hid (B3.out.trans (hb.mono B3.out.size))
       clear ho hb))
  obtain ⟨A, cap, rfl, _⟩ := HO.out.rd
  obtain ⟨g, rest, rfl, hbg, hblk, _⟩ := HO.out.open_ (by simp)
  have c0 : W4.cell? ⟨g, 2, none⟩ = some (.int .i64 6) := (hblk.cell 2).trans (by simp [pcs, pcL, aw2])
  clear hblk hbg A1 A2 A3 A4 B1 B2 B3
  go_wp2_with fail
  go_ret
  exact ⟨rfl, HB4.out⟩
end Go.Proofs.Ytalfmcajghmkpaa
/- Contract: whether two rows of pieces are the same. -/
namespace Go.Proofs.Ytalfmcajghmkpaa
set_option maxRecDepth 100000
open Go.RowKit
set_option linter.unusedVariables false
set_option linter.unusedSimpArgs false
def eqP (p q : Pc) : Bool := (p.s.toList == q.s.toList) && ((p.t == q.t) && ((p.v == q.v) && ((p.n == q.n) && (p.d == q.d))))
theorem eqP_iff (p q : Pc) : eqP p q = true ↔ p = q := by
  unfold eqP
  simp only [Bool.and_eq_true, beq_iff_eq]
  constructor
  · rintro ⟨h1, h2, h3, h4, h5⟩
    cases p; cases q
    simp only at h1 h2 h3 h4 h5
    rw [toList_inj h1, h2, h3, h4, h5]
  · rintro rfl; simp
theorem int_beq (a b : Nat) : ((a : Int) == (b : Int)) = (a == b) := by
  rw [Bool.eq_iff_iff, beq_iff_eq, beq_iff_eq]; omega
set_option maxRecDepth 100000 in
theorem run_eq_id (n d n2 d2 : Nat) (w : World) (D : Nat) :
    (Op.equalIn (D + 2) 25 (.agg (idV n d)) (.agg (idV n2 d2))).run Try.prog w = .ok ((n == n2) && (d == d2)) w := by
  have hf : ∃ f0 f1 : Field, Try.prog.underlying 25 = some (.struct #[f0, f1]) ∧ f0.offset = 0 ∧ f1.offset = 1 ∧ f0.type = 22 ∧ f1.type = 23 ∧ f0.name ≠ "_" ∧ f1.name ≠ "_" := ⟨_, _, Try.underlying25, rfl, rfl, rfl, rfl, by decide, by decide⟩
  obtain ⟨f0, f1, hu, o0, o1, k0, k1, n0, n1⟩ := hf
  have hF : Try.prog.fieldsOf 25 = #[f0, f1] := by unfold Program.fieldsOf; rw [hu]
  rw [run_equalIn_struct w (D + 1) _ _ _ (by rw [hF]; exact hu) (by kernel_rfl), hF]
  have p0 : ∀ (a b : Value), (part 22 #[a, b] 0).run Try.prog w = .ok a w := by intro a b; kernel_rfl
  have p1 : ∀ (a b : Value), (part 23 #[a, b] 1).run Try.prog w = .ok b w := by intro a b; kernel_rfl
  have q0 := run_equalIn_int (P := Try.prog) w D 22 .u64 .u64 (n : Int) (n2 : Int) Try.underlying22
  have q1 := run_equalIn_int (P := Try.prog) w D 23 .u16 .u16 (d : Int) (d2 : Int) Try.underlying23
  simp only [Op.eqFields, n0, n1, k0, k1, o0, o1, idV, p0, p1, q0, q1, Sem.run_bind, Sem.run_ite, Sem.run_pure, Result.andThen_ok, ne_eq, not_false_eq_true, if_true, int_beq]
  cases (n == n2) <;> cases (d == d2) <;> simp
set_option maxRecDepth 100000 in
theorem run_eq_piece (p q : Pc) (w : World) : (Op.equalIn 10000 27 (.agg (pcV p)) (.agg (pcV q))).run Try.prog w = .ok (eqP p q) w := by
  have hf : ∃ f0 f1 f2 f3 : Field, Try.prog.underlying 27 = some (.struct #[f0, f1, f2, f3]) ∧ f0.offset = 0 ∧ f1.offset = 1 ∧ f2.offset = 2 ∧ f3.offset = 3 ∧ f0.type = 9 ∧ f1.type = 2 ∧ f2.type = 2 ∧ f3.type = 25 ∧ f0.name ≠ "_" ∧ f1.name ≠ "_" ∧ f2.name ≠ "_" ∧ f3.name ≠ "_" := ⟨_, _, _, _, Try.underlying27, rfl, rfl, rfl, rfl, rfl, rfl, rfl, rfl, by decide, by decide, by decide, by decide⟩
  obtain ⟨f0, f1, f2, f3, hu, o0, o1, o2, o3, k0, k1, k2, k3, n0, n1, n2, n3⟩ := hf
  have hF : Try.prog.fieldsOf 27 = #[f0, f1, f2, f3] := by unfold Program.fieldsOf; rw [hu]
  rw [show 10000 = 9999 + 1 from rfl, run_equalIn_struct w 9999 _ _ _ (by rw [hF]; exact hu) (by kernel_rfl), hF]
  have p0 : ∀ (a b c d e : Value), (part 9 #[a, b, c, d, e] 0).run Try.prog w = .ok a w := by intro a b c d e; kernel_rfl
  have p1 : ∀ (a b c d e : Value), (part 2 #[a, b, c, d, e] 1).run Try.prog w = .ok b w := by intro a b c d e; kernel_rfl
  have p2 : ∀ (a b c d e : Value), (part 2 #[a, b, c, d, e] 2).run Try.prog w = .ok c w := by intro a b c d e; kernel_rfl
  have p3 : ∀ (a b c d e : Value), (part 25 #[a, b, c, d, e] 3).run Try.prog w = .ok (.agg #[d, e]) w := by intro a b c d e; kernel_rfl
  have q0 := run_equalIn_string (P := Try.prog) w 9998 9 p.s q.s Try.underlying9
  have q1 := run_equalIn_int (P := Try.prog) w 9998 2 .i64 .i64 p.t q.t Try.underlying2
  have q2 := run_equalIn_int (P := Try.prog) w 9998 2 .i64 .i64 p.v q.v Try.underlying2
  have q3 := run_eq_id p.n p.d q.n q.d w 9997
  simp only [idV] at q3
  simp only [Op.eqFields, n0, n1, n2, n3, k0, k1, k2, k3, o0, o1, o2, o3, pcV, pcL, p0, p1, p2, p3, q0, q1, q2, q3, Sem.run_bind, Sem.run_ite, Sem.run_pure, Result.andThen_ok, ne_eq, not_false_eq_true, if_true]
  unfold eqP
  cases (p.s.toList == q.s.toList) <;> cases (p.t == q.t) <;> cases (p.v == q.v) <;> cases (p.n == q.n) <;> cases (p.d == q.d) <;> simp
set_option maxRecDepth 100000 in
set_option maxHeartbeats 2000000 in
theorem rsameP_c (B1 B2 : Nat) (A1 A2 : Option Addr) (c1 c2 : Nat) (l : List Pc) (w : World) (hr1 : RdP w B1 A1 l) (hr2 : RdP w B2 A2 l) (hn : l.length ≤ 9223372036854775807) :
    Calls Try.prog 14 #[.slice A1 l.length c1, .slice A2 l.length c2] w (Quietly (.bool true) w) := by
  have HR1 := Lib.hid hr1
  have HR2 := Lib.hid hr2
  clear hr1 hr2
  go_enter Try.func14, Try.ntmps14
  go_wp2_with fail
  go_loopw [5] (fun i wr => ∃ k z : Nat, k ≤ l.length ∧ i = .int .i64 k ∧ wr = w.drewN z) (fun i _ => l.length - (intOf i).toNat)
  case atStart => exact ⟨0, 0, by omega, rfl, rfl⟩
  case round =>
    obtain ⟨k, z, hk, rfl, rfl⟩ := hrel
    by_cases hlt : k < l.length
    · have hr1 := HR1.out
      have hr2 := HR2.out
      obtain ⟨al, rfl, _, h1⟩ := hr1.open_ (by omega)
      obtain ⟨bl, rfl, _, h2⟩ := hr2.open_ (by omega)
      have R1 := Lib.hid (fun (W : World) (h : ∃ z, W = w.drewN z) => (show AtA W (al.add (k * 5)) (pcL (l.getD k pc0)) by obtain ⟨z, rfl⟩ := h; exact h1.piece k hlt))
      have R2 := Lib.hid (fun (W : World) (h : ∃ z, W = w.drewN z) => (show AtA W (bl.add (k * 5)) (pcL (l.getD k pc0)) by obtain ⟨z, rfl⟩ := h; exact h2.piece k hlt))
      have HSB := Lib.hid (pcLn (l.getD k pc0))
      have hkn : (k : Int) < (l.length : Int) := by omega
      have l3 : ∀ W, (Op.equalIn 10000 27 (.agg (pcV (l.getD k pc0))) (.agg (pcV (l.getD k pc0)))).run Try.prog W = .ok true W := fun W => by
        rw [run_eq_piece, (eqP_iff _ _).2 rfl]
      clear h1 h2 hr1 hr2
      generalize l.getD k pc0 = p at *
      unfold pcV at l3
      go_wp2_with fail
      refine wp_region_class (fun z => w.drewN z) (by kernel_rfl) (by kernel_rfl) ⟨z + 1, rfl⟩ ?_
      repeat (first
        | (refine wpQuiet_loadA 27 (.tmp 19) rfl rfl (al.add (k * 5)) rfl (pcL p) _ R1.out Try.underlying27 rfl HSB.out _ (by simp only [Act.put, List.setIfInBounds_toArray, List.set_cons_succ, List.set_cons_zero]; rfl) ?_)
        | (refine wpQuiet_loadA 27 (.tmp 23) rfl rfl (bl.add (k * 5)) rfl (pcL p) _ R2.out Try.underlying27 rfl HSB.out _ (by simp only [Act.put, List.setIfInBounds_toArray, List.set_cons_succ, List.set_cons_zero]; rfl) ?_)
        | go_big_quiet_step (fail))
      refine wpQuiet_nil ?_
      rintro _ ⟨z3, rfl⟩
      go_wp2_with fail
      go_roundw
      case rel =>
        go_light
        exact ⟨k + 1, z3, by omega, by go_num, rfl⟩
      case measure => simp [intOf]; omega
    · have hkn : k = l.length := by omega
      have h0 : decide (k < l.length) = false := decide_eq_false hlt
      clear hkn
      go_wp2_with fail
      go_ret
      exact ⟨rfl, z, rfl⟩
end Go.Proofs.Ytalfmcajghmkpaa
