/- PieceAsks returns true for any two pieces. Conditions: none. -/
import Derived.Test.YtalfmcajghmkpaaZ04
/- PieceAsks, walked. -/
namespace Go.Proofs.Ytalfmcajghmkpaa
set_option maxRecDepth 100000
open Go.RowKit
set_option linter.unusedVariables false
set_option linter.unusedSimpArgs false
theorem wpQuiet_loadV {P : Program} {ops : Array Oper} {C : World → Prop} {Q : Act → Prop} {a : Act} {o : Oper} {rest : List Oper} (hw : Region.wanted o (yielded ops a.tmps) = true) (ty : TypeId) (x : Operand) (ho : o.op = .load ty x) (b off : Nat) (hx : a.eval x = .pointer (some ⟨b, off, none⟩))
    (cs : Array Value) (d : TypeDesc) (hC : ∀ w, C w → w.rangeAt b off cs.toList) (hu : P.underlying ty = some d) (hd : d.isRow = true) (hi : (P.info? ty).map (·.size) = some cs.toList.length)
    (a' : Act) (ha : a.put o.dst (.agg cs) = a') (h : wpQuiet P ops C Q rest a') : wpQuiet P ops C Q (o :: rest) a := by
  refine BigFrame.wpQuiet_want hw fun K hK => ⟨.agg cs, fun w hw' => ?_, ?_⟩
  · unfold Oper.quietAt execOp
    simp only [ho, hx, Instr.loadAt, Instr.sureAddr, Sem.run_bind, Sem.run_pure, Result.andThen_ok, run_loadVar_mid w b off ty cs.toList d (hC w hw') hu hd hi, Array.toArray_toList]
    exact ⟨rfl, rfl⟩
  · rw [ha]; exact hK _ h
theorem ext_rangeV {w0 : World} {b off : Nat} {cs : List Value} (h : w0.rangeAt b off cs) : ∀ w, (∃ x : Ext w0, w = x.wd) → w.rangeAt b off cs := by
  rintro _ ⟨x, rfl⟩ j u hu
  exact x.cell (h j u hu)
theorem range_pc {w : World} {g : Nat} {p : Pc} (h : Blk w g 27 (pcV p)) : w.rangeAt g 0 (pcV p).toList := rangeAt_blk h
set_option maxRecDepth 100000 in
set_option maxHeartbeats 8000000 in
theorem asks_c (p q : Pc) (w : World) (hp : p.s.size ≤ 9223372036854775807) (hq : q.s.size ≤ 9223372036854775807) :
    Calls Try.prog 3 #[.agg (pcV p), .agg (pcV q)] w fun e w' => e = .returned (.bool true) ∧ Below w.heap.size w w' := by
  have HCK := Lib.hid (fun W => pcheck_c p W hp)
  have HRC := Lib.hid (fun W => rpcheck_c p W hp)
  have HAB := Lib.hid (fun W => above_c p.n p.d q.n q.d W)
  have HRA := Lib.hid (fun W => rabove_c p.n p.d q.n q.d W)
  have HLE := Lib.hid (fun W => less_c p q W)
  have HRL := Lib.hid (fun W => rless_c p q W)
  have HLS := Lib.hid (fun W => less_c p p W)
  rw [less_self] at HLS
  generalize abvB p.n p.d q.n q.d = x at *
  generalize lessP p q = y at *
  have HII := Lib.hid idInfo
  go_enter Try.func3, Try.ntmps3
  go_upto_region 1 with (first
    | (refine Go.Great.wpList_boxTo rfl 27 (.tmp 0) rfl (some 2) rfl w.heap.size rfl (pcV p) rfl ?_)
    | (refine Go.Great.wpList_boxTo rfl 27 (.tmp 1) rfl (some 3) rfl (w.heap.size + 1) (by simp) (pcV q) rfl ?_))
  obtain ⟨Z, hZ⟩ : ∃ Z, Z = (w.alloc (Obj.cells (pcV p) 27)).alloc (Obj.cells (pcV q) 27) := ⟨_, rfl⟩
  have h1 := show Blk Z w.heap.size 27 (pcV p) by rw [hZ]; exact (Blk.new w _ _).alloc _
  have h2 := show Blk Z (w.heap.size + 1) 27 (pcV q) by rw [hZ]; exact heap2P w _ _
  have HB := Lib.hid (show Below w.heap.size w Z by rw [hZ]; exact ((Below.refl _ _).alloc (Nat.le_refl _) _).alloc (by simp) _)
  rw [← hZ]
  clear hZ
  have c0 : Z.cell? ⟨w.heap.size, 0, none⟩ = some (.string p.s) := (h1.cell 0).trans rfl
  have c2 : Z.cell? ⟨w.heap.size + 1, 0, none⟩ = some (.string q.s) := (h2.cell 0).trans rfl
  have H1 := Lib.hid h1
  have H2 := Lib.hid h2
  clear h1 h2
  by_cases hg : 400 < p.s.size ∨ 400 < q.s.size
  · have AWK : ∀ (_ : 400 < p.s.size ∨ ¬ 400 < p.s.size), True := fun _ => trivial
    by_cases hg1 : 400 < p.s.size
    · have q1 : (400 : Int) < (p.s.size : Int) := by omega
      clear hg hp hq
      go_wp2_with (go_at_call 5; (refine (awake13_c Z).mono ?_); rintro e W9 ⟨rfl, hb9⟩; have HB9 := Lib.hid (HB.out.trans (hb9.mono HB.out.size)); clear hb9)
      go_ret
      exact ⟨rfl, HB9.out⟩
    · have q1 : ¬ (400 : Int) < (p.s.size : Int) := by omega
      have q2 : (400 : Int) < (q.s.size : Int) := by omega
      clear hg hp hq
      go_wp2_with (go_at_call 5; (refine (awake13_c Z).mono ?_); rintro e W9 ⟨rfl, hb9⟩; have HB9 := Lib.hid (HB.out.trans (hb9.mono HB.out.size)); clear hb9)
      go_ret
      exact ⟨rfl, HB9.out⟩
  · have q1 : ¬ (400 : Int) < (p.s.size : Int) := by omega
    have q2 : ¬ (400 : Int) < (q.s.size : Int) := by omega
    clear hg hp hq
    have main : ∀ (b : Bool), ckP p = b → pcE p = (if b then 0 else 1) := fun b h => by unfold pcE; rw [h]
    obtain ⟨b, hb⟩ : ∃ b, ckP p = b := ⟨_, rfl⟩
    rw [main b hb] at HCK
    rw [hb] at HRC
    clear main hb
    cases b <;>
    (simp only [if_true, if_false, Bool.false_eq_true] at HCK
     go_upto_region 4 with (first
       | (refine wpList_load_row rfl 27 (.tmp 2) rfl w.heap.size rfl 27 (pcV p) (0, 0) _ H1.out Try.underlying27 rfl (pcInfo p) ?_)
       | (go_at_call 6; (refine (HCK.out Z).mono ?_); rintro e W1 ⟨rfl, hb1⟩; have HBZ := Lib.hid hb1; clear hb1))
     have r1 := ext_rangeV (range_pc (H1.out.below HBZ.out H1.out.lt))
     have r2 := ext_rangeV (range_pc (H2.out.below HBZ.out H2.out.lt))
     have r3 := ext_rangeV (rangeAt_id (H1.out.below HBZ.out H1.out.lt))
     have r4 := ext_rangeV (rangeAt_id (H2.out.below HBZ.out H2.out.lt))
     have R1 := Lib.hid r1
     have R2 := Lib.hid r2
     have R3 := Lib.hid r3
     have R4 := Lib.hid r4
     have HW1 := Lib.hid (HB.out.trans (HBZ.out.mono HB.out.size))
     clear r1 r2 r3 r4 c0 c2
     refine wp_region_class (Ext.wd (w0 := W1)) (by kernel_rfl) (by kernel_rfl) (Ext.of (Below.refl _ _).drew) ?_
     repeat (first
       | (refine wpQuiet_loadV rfl 27 (.tmp 2) rfl w.heap.size 0 rfl (pcV p) _ R1.out Try.underlying27 rfl (pcLn p) _ (by simp only [Act.put, List.setIfInBounds_toArray, List.set_cons_succ, List.set_cons_zero]; rfl) ?_)
       | (refine wpQuiet_loadV rfl 27 (.tmp 3) rfl (w.heap.size + 1) 0 rfl (pcV q) _ R2.out Try.underlying27 rfl (pcLn q) _ (by simp only [Act.put, List.setIfInBounds_toArray, List.set_cons_succ, List.set_cons_zero]; rfl) ?_)
       | (refine wpQuiet_loadV rfl 25 (.tmp 34) rfl w.heap.size 3 rfl (idV p.n p.d) _ R3.out Try.underlying25 rfl HII.out _ (by simp only [Act.put, List.setIfInBounds_toArray, List.set_cons_succ, List.set_cons_zero]; rfl) ?_)
       | (refine wpQuiet_loadV rfl 25 (.tmp 33) rfl w.heap.size 3 rfl (idV p.n p.d) _ R3.out Try.underlying25 rfl HII.out _ (by simp only [Act.put, List.setIfInBounds_toArray, List.set_cons_succ, List.set_cons_zero]; rfl) ?_)
       | (refine wpQuiet_loadV rfl 25 (.tmp 35) rfl (w.heap.size + 1) 3 rfl (idV q.n q.d) _ R4.out Try.underlying25 rfl HII.out _ (by simp only [Act.put, List.setIfInBounds_toArray, List.set_cons_succ, List.set_cons_zero]; rfl) ?_)
       | (refine wpQuiet_loadV rfl 25 (.tmp 38) rfl w.heap.size 3 rfl (idV p.n p.d) _ R3.out Try.underlying25 rfl HII.out _ (by simp only [Act.put, List.setIfInBounds_toArray, List.set_cons_succ, List.set_cons_zero]; rfl) ?_)
       | (refine wpQuiet_loadV rfl 25 (.tmp 40) rfl (w.heap.size + 1) 3 rfl (idV q.n q.d) _ R4.out Try.underlying25 rfl HII.out _ (by simp only [Act.put, List.setIfInBounds_toArray, List.set_cons_succ, List.set_cons_zero]; rfl) ?_)
       | (go_big_quiet_step ((first
           | (go_at_call 7; with_reducible exact ext_call (HRC.out _))
           | (go_at_call 8; with_reducible exact ext_call (HAB.out _))
           | (go_at_call 9; with_reducible exact ext_call (HRA.out _))
           | (go_at_call 10; with_reducible exact ext_call (HLE.out _))
           | (go_at_call 10; with_reducible exact ext_call (HLS.out _))
           | (go_at_call 11; with_reducible exact ext_call (HRL.out _))
           | (go_at_call 5; exact ext_call (awake13_c _))))))
     refine wpQuiet_nil ?_
     rintro _ ⟨z, rfl⟩
     go_wp2
     go_ret
     exact ⟨rfl, HW1.out.trans (z.bel.mono HW1.out.size)⟩)
end Go.Proofs.Ytalfmcajghmkpaa
namespace Go.Proofs.Ytalfmcajghmkpaa
open Go.ChangeShapes Go.WideShapes Go.ChangeAt Go.RowKit
set_option maxRecDepth 100000 in
theorem pieceAsks_lifted (os : Os) (started : os.Started) (H : Type) (enc : TypeId × Value → H) :
    ReturnsInHanded {} Try.checked os 3 .any (Rows.pieceAsksSpec.pre6 enc Try.prog Try.f3 Rows.pieceAsksRow.domain false) (Rows.pieceAsksSpec.post enc Try.prog Try.f3 false true false false) := by
  refine lift started _ rfl (by kernel_rfl) Try.func3 ⟨rfl, fun H ds h => ?_⟩ rfl (of_decide_eq_true (by kernel_rfl))
    (ChangeSpec.witness6 (enc := enc) (C := Try.checked) false ⟨#[], #[.agg #[.string ByteArray.empty, .int .i64 0, .int .i64 0, .int .u64 0, .int .u16 0], .agg #[.string ByteArray.empty, .int .i64 0, .int .i64 0, .int .u64 0, .int .u16 0]], []⟩ 8 (by kernel_rfl) (by kernel_rfl) (by kernel_rfl) (by kernel_rfl)) ?_
  · match ds, h with
    | [_, _], _ => rfl
  · intro W base args ds ps hval hA hlt
    rw [Try.params3] at hA hval
    obtain ⟨v0, vs0, d0, ds0, p0, q0, hargs, rfl, rfl, h0, r0⟩ := trodAll_cons hA
    obtain ⟨v1, vs1, d1, ds1, p1, q1, rfl, rfl, rfl, h1, r1⟩ := trodAll_cons r0
    obtain ⟨rfl, rfl, rfl⟩ := trodAll_nil r1
    obtain rfl : args = #[v0, v1] := by cases args; simp_all
    obtain ⟨p0c, rfl, ok0, sz0⟩ := open_piece (hval 0 27 v0 rfl rfl) h0
    obtain ⟨p1c, rfl, ok1, sz1⟩ := open_piece (hval 1 27 v1 rfl rfl) h1
    exact asks_c p0c p1c W sz0 sz1
theorem pieceAsks_holds : Rows.PieceAsksSaid :=
  OpenClaim.holds_of_wide 3 Try.f3 rfl rfl rfl rfl rfl rfl rfl ⟨rfl, rfl, rfl, rfl, rfl⟩ rfl rfl rfl rfl rfl (by kernel_rfl) Try.func3 (by kernel_rfl)
    (of_decide_eq_true (by kernel_rfl)) (by unfold Func.isWrapper; rw [if_neg (by decide +kernel)]; exact ⟨rfl, rfl⟩)
    (fun os started H enc _ => pieceAsks_lifted os started H enc)
#print axioms pieceAsks_holds
end Go.Proofs.Ytalfmcajghmkpaa
