/- PieceOrder returns true for any three lists of pieces. Conditions: none. -/
import Derived.Test.YtalfmcajghmkpaaZ04
/- PieceAsks, walked. -/
namespace Go.Proofs.Ytalfmcajghmkpaa
set_option maxRecDepth 100000
open Go.RowKit
set_option linter.unusedVariables false
set_option linter.unusedSimpArgs false
theorem wpQuiet_loadV {P : Program} {ops : Array Oper} {C : World → Prop} {Q : Act → Prop} {a : Act} {o : Oper} {rest : List Oper} (hw : Region.wanted o (yielded ops a.tmps) = true) (ty : TypeId) (x : Operand) (ho : o.op = .load ty x) (b off : Nat) (hx : a.eval x = .pointer (some ⟨b, off, none⟩))
    (cs : Array Value) (d : TypeDesc) (hC : ∀ w, C w → w.rangeAt b off cs.toList) (hu : P.underlying ty = some d) (hd : d.isRow = true) (hi : (P.info? ty).map (·.size) = some cs.toList.length)
    (a' : Act) (ha : a.put o.dst (.agg cs) = a') (h : wpQuiet P ops C Q rest a') : wpQuiet P ops C Q (o :: rest) a := by
  refine BigFrame.wpQuiet_want hw fun K hK => ⟨.agg cs, fun w hw' => ?_, ?_⟩
  · unfold Oper.quietAt execOp
    simp only [ho, hx, Instr.loadAt, Instr.sureAddr, Sem.run_bind, Sem.run_pure, Result.andThen_ok, run_loadVar_mid w b off ty cs.toList d (hC w hw') hu hd hi, Array.toArray_toList]
    exact ⟨rfl, rfl⟩
  · rw [ha]; exact hK _ h
theorem ext_rangeV {w0 : World} {b off : Nat} {cs : List Value} (h : w0.rangeAt b off cs) : ∀ w, (∃ x : Ext w0, w = x.wd) → w.rangeAt b off cs := by
  rintro _ ⟨x, rfl⟩ j u hu
  exact x.cell (h j u hu)
theorem range_pc {w : World} {g : Nat} {p : Pc} (h : Blk w g 27 (pcV p)) : w.rangeAt g 0 (pcV p).toList := rangeAt_blk h
set_option maxRecDepth 100000 in
set_option maxHeartbeats 8000000 in
theorem asks_c (p q : Pc) (w : World) (hp : p.s.size ≤ 9223372036854775807) (hq : q.s.size ≤ 9223372036854775807) :
    Calls Try.prog 3 #[.agg (pcV p), .agg (pcV q)] w fun e w' => e = .returned (.bool true) ∧ Below w.heap.size w w' := by
  have HCK := Lib.hid (fun W => pcheck_c p W hp)
  have HRC := Lib.hid (fun W => rpcheck_c p W hp)
  have HAB := Lib.hid (fun W => above_c p.n p.d q.n q.d W)
  have HRA := Lib.hid (fun W => rabove_c p.n p.d q.n q.d W)
  have HLE := Lib.hid (fun W => less_c p q W)
  have HRL := Lib.hid (fun W => rless_c p q W)
  have HLS := Lib.hid (fun W => less_c p p W)
  rw [less_self] at HLS
  generalize abvB p.n p.d q.n q.d = x at *
  generalize lessP p q = y at *
  have HII := Lib.hid idInfo
  go_enter Try.func3, Try.ntmps3
  go_upto_region 1 with (first
    | (refine Go.Great.wpList_boxTo rfl 27 (.tmp 0) rfl (some 2) rfl w.heap.size rfl (pcV p) rfl ?_)
    | (refine Go.Great.wpList_boxTo rfl 27 (.tmp 1) rfl (some 3) rfl (w.heap.size + 1) (by simp) (pcV q) rfl ?_))
  obtain ⟨Z, hZ⟩ : ∃ Z, Z = (w.alloc (Obj.cells (pcV p) 27)).alloc (Obj.cells (pcV q) 27) := ⟨_, rfl⟩
  have h1 := show Blk Z w.heap.size 27 (pcV p) by rw [hZ]; exact (Blk.new w _ _).alloc _
  have h2 := show Blk Z (w.heap.size + 1) 27 (pcV q) by rw [hZ]; exact heap2P w _ _
  have HB := Lib.hid (show Below w.heap.size w Z by rw [hZ]; exact ((Below.refl _ _).alloc (Nat.le_refl _) _).alloc (by simp) _)
  rw [← hZ]
  clear hZ
  have c0 : Z.cell? ⟨w.heap.size, 0, none⟩ = some (.string p.s) := (h1.cell 0).trans rfl
  have c2 : Z.cell? ⟨w.heap.size + 1, 0, none⟩ = some (.string q.s) := (h2.cell 0).trans rfl
  have H1 := Lib.hid h1
  have H2 := Lib.hid h2
  clear h1 h2
  by_cases hg : 400 < p.s.size ∨ 400 < q.s.size
  · have AWK : ∀ (_ : 400 < p.s.size ∨ ¬ 400 < p.s.size), True := fun _ => trivial
    by_cases hg1 : 400 < p.s.size
    · have q1 : (400 : Int) < (p.s.size : Int) := by omega
      clear hg hp hq
      go_wp2_with (go_at_call 5; (refine (awake13_c Z).mono ?_); rintro e W9 ⟨rfl, hb9⟩; have HB9 := Lib.hid (HB.out.trans (hb9.mono HB.out.size)); clear hb9)
      go_ret
      exact ⟨rfl, HB9.out⟩
    · have q1 : ¬ (400 : Int) < (p.s.size : Int) := by omega
      have q2 : (400 : Int) < (q.s.size : Int) := by omega
      clear hg hp hq
      go_wp2_with (go_at_call 5; (refine (awake13_c Z).mono ?_); rintro e W9 ⟨rfl, hb9⟩; have HB9 := Lib.hid (HB.out.trans (hb9.mono HB.out.size)); clear hb9)
      go_ret
      exact ⟨rfl, HB9.out⟩
  · have q1 : ¬ (400 : Int) < (p.s.size : Int) := by omega
    have q2 : ¬ (400 : Int) < (q.s.size : Int) := by omega
    clear hg hp hq
    have main : ∀ (b : Bool), ckP p = b → pcE p = (if b then 0 else 1) := fun b h => by unfold pcE; rw [h]
    obtain ⟨b, hb⟩ : ∃ b, ckP p = b := ⟨_, rfl⟩
    rw [main b hb] at HCK
    rw [hb] at HRC
    clear main hb
    cases b <;>
    (simp only [if_true, if_false, Bool.false_eq_true] at HCK
     go_upto_region 4 with (first
       | (refine wpList_load_row rfl 27 (.tmp 2) rfl w.heap.size rfl 27 (pcV p) (0, 0) _ H1.out Try.underlying27 rfl (pcInfo p) ?_)
       | (go_at_call 6; (refine (HCK.out Z).mono ?_); rintro e W1 ⟨rfl, hb1⟩; have HBZ := Lib.hid hb1; clear hb1))
     have r1 := ext_rangeV (range_pc (H1.out.below HBZ.out H1.out.lt))
     have r2 := ext_rangeV (range_pc (H2.out.below HBZ.out H2.out.lt))
     have r3 := ext_rangeV (rangeAt_id (H1.out.below HBZ.out H1.out.lt))
     have r4 := ext_rangeV (rangeAt_id (H2.out.below HBZ.out H2.out.lt))
     have R1 := Lib.hid r1
     have R2 := Lib.hid r2
     have R3 := Lib.hid r3
     have R4 := Lib.hid r4
     have HW1 := Lib.hid (HB.out.trans (HBZ.out.mono HB.out.size))
     clear r1 r2 r3 r4 c0 c2
     refine wp_region_class (Ext.wd (w0 := W1)) (by kernel_rfl) (by kernel_rfl) (Ext.of (Below.refl _ _).drew) ?_
     repeat (first
       | (refine wpQuiet_loadV rfl 27 (.tmp 2) rfl w.heap.size 0 rfl (pcV p) _ R1.out Try.underlying27 rfl (pcLn p) _ (by simp only [Act.put, List.setIfInBounds_toArray, List.set_cons_succ, List.set_cons_zero]; rfl) ?_)
       | (refine wpQuiet_loadV rfl 27 (.tmp 3) rfl (w.heap.size + 1) 0 rfl (pcV q) _ R2.out Try.underlying27 rfl (pcLn q) _ (by simp only [Act.put, List.setIfInBounds_toArray, List.set_cons_succ, List.set_cons_zero]; rfl) ?_)
       | (refine wpQuiet_loadV rfl 25 (.tmp 34) rfl w.heap.size 3 rfl (idV p.n p.d) _ R3.out Try.underlying25 rfl HII.out _ (by simp only [Act.put, List.setIfInBounds_toArray, List.set_cons_succ, List.set_cons_zero]; rfl) ?_)
       | (refine wpQuiet_loadV rfl 25 (.tmp 33) rfl w.heap.size 3 rfl (idV p.n p.d) _ R3.out Try.underlying25 rfl HII.out _ (by simp only [Act.put, List.setIfInBounds_toArray, List.set_cons_succ, List.set_cons_zero]; rfl) ?_)
       | (refine wpQuiet_loadV rfl 25 (.tmp 35) rfl (w.heap.size + 1) 3 rfl (idV q.n q.d) _ R4.out Try.underlying25 rfl HII.out _ (by simp only [Act.put, List.setIfInBounds_toArray, List.set_cons_succ, List.set_cons_zero]; rfl) ?_)
       | (refine wpQuiet_loadV rfl 25 (.tmp 38) rfl w.heap.size 3 rfl (idV p.n p.d) _ R3.out Try.underlying25 rfl HII.out _ (by simp only [Act.put, List.setIfInBounds_toArray, List.set_cons_succ, List.set_cons_zero]; rfl) ?_)
       | (refine wpQuiet_loadV rfl 25 (.tmp 40) rfl (w.heap.size + 1) 3 rfl (idV q.n q.d) _ R4.out Try.underlying25 rfl HII.out _ (by simp only [Act.put, List.setIfInBounds_toArray, List.set_cons_succ, List.set_cons_zero]; rfl) ?_)
       | (go_big_quiet_step ((first
           | (go_at_call 7; with_reducible exact ext_call (HRC.out _))
           | (go_at_call 8; with_reducible exact ext_call (HAB.out _))
           | (go_at_call 9; with_reducible exact ext_call (HRA.out _))
           | (go_at_call 10; with_reducible exact ext_call (HLE.out _))
           | (go_at_call 10; with_reducible exact ext_call (HLS.out _))
           | (go_at_call 11; with_reducible exact ext_call (HRL.out _))
           | (go_at_call 5; exact ext_call (awake13_c _))))))
     refine wpQuiet_nil ?_
     rintro _ ⟨z, rfl⟩
     go_wp2
     go_ret
     exact ⟨rfl, HW1.out.trans (z.bel.mono HW1.out.size)⟩)
end Go.Proofs.Ytalfmcajghmkpaa
/- Contract: piece.Between, of a span that holds all. -/
namespace Go.Proofs.Ytalfmcajghmkpaa
set_option maxRecDepth 100000
open Go.RowKit
set_option linter.unusedVariables false
set_option linter.unusedSimpArgs false
theorem OwnP.allocM {w : World} {base : Nat} {v : Value} {l : List Pc} (h : OwnP w base v l) (o : Obj) : OwnP (w.alloc o) base v l := World.ownsRow.alloc h o
theorem OwnP.nilM (w : World) (base : Nat) : OwnP w base (.slice none 0 0) [] := ⟨rfl, .inl ⟨rfl, rfl⟩⟩
theorem OwnP.appM {w w' : World} {base : Nat} {v v' : Value} {l m : List Pc} (h : Apped w base 27 5 v w' v' (l.length + m.length) (pcs l ++ pcs m)) : OwnP w' base v' (l ++ m) := by
  have h1 := h.own
  unfold OwnP
  rw [List.length_append, pcs_app]
  exact h1
set_option maxRecDepth 100000 in
set_option maxHeartbeats 8000000 in
theorem between_c (A : Option Addr) (c : Nat) (l : List Pc) (w : World) (hr : RdP w w.heap.size A l) (h1 : l.length ≤ 100000) (hk : ∀ p ∈ l, PcOk p) :
    Calls Try.prog 15 #[.slice A l.length c, .int .i64 (-9223372036854775808), .int .i64 9223372036854775807] w fun e w' => ∃ v, e = .returned v ∧ OwnP w' w.heap.size v l ∧ Below w.heap.size w w' := by
  obtain ⟨i0, hi, hz0, hz1, hz2⟩ := piece_parts
  have zf := zero_pc
  have zs1 : zPc.size = 5 := by rfl
  have zs2 : ¬ zPc = #[] := by intro h; have := congrArg Array.size h; rw [zs1] at this; cases this
  have HR := Lib.hid hr
  have HK := Lib.hid hk
  clear hr hk
  go_enter Try.func15, Try.ntmps15
  go_wp2_with fail
  go_loopw [7, 12] (fun o i wr => ∃ k : Nat, k ≤ l.length ∧ i = .int .i64 (k : Nat) ∧ OwnP wr w.heap.size o (l.take k) ∧ Below w.heap.size w wr) (fun _ i _ => l.length - (intOf i).toNat)
  case atStart => exact ⟨0, Nat.zero_le _, rfl, OwnP.nilM _ _, Below.refl _ _⟩
  case round =>
    rename World => wr
    rename_i o _
    obtain ⟨k, hk, rfl, ho, hb⟩ := hrel
    by_cases hlt : k < l.length
    · have q1 : (k : Int) < (l.length : Int) := by omega
      obtain ⟨ad, rfl, hab, hat⟩ := (show RdP wr w.heap.size A l from Rd.below HR.out hb).open_ (by omega)
      obtain ⟨p, hpe⟩ : ∃ p, p = l.getD k pc0 := ⟨_, rfl⟩
      have hpa := hat.piece k hlt
      rw [← hpe] at hpa
      have hpL : p ∈ l := by rw [hpe, List.getD_eq_getElem?_getD, List.getElem?_eq_getElem hlt]; exact List.getElem_mem hlt
      have hpk := HK.out p hpL
      have HTK := Lib.hid (show l.take (k + 1) = l.take k ++ [p] by rw [take_snocP l k hlt, hpe])
      have hkl : (l.take k).length = k := by rw [List.length_take]; omega
      generalize l.take k = L at *
      have HPA := Lib.hid hpa
      have HO := Lib.hid ho
      have HB := Lib.hid hb
      have HLT := Lib.hid hlt
      have q2 : (-9223372036854775808 : Int) ≤ p.t := hpk.t0
      have q3 : p.t ≤ (9223372036854775807 : Int) := hpk.t1
      clear hat hpe hpa hpL hpk ho hb hab hlt
      go_upto_region 5 with (first
        | (refine wpList_loadA rfl 27 (.tmp 14) rfl (ad.add (k * 5)) rfl (pcL p) _ HPA.out Try.underlying27 rfl (pcLn p) ?_)
        | (refine wpList_store_rowTo rfl 27 (.tmp 9) (.tmp 15) rfl rfl wr.heap.size (pcV p) rfl rfl 27 zPc (by exact heap_alloc_new _ _) (pcInfo p) rfl (pcV_one p) ?_))
      obtain ⟨Y, hY⟩ : ∃ Y, Y = (wr.alloc (Obj.cells zPc 27)).setRow wr.heap.size (pcV p) := ⟨_, rfl⟩
      have hnr := new_rowP wr 27 zPc (pcV p)
      rw [← hY] at hnr ⊢
      have HB1 := Lib.hid hnr.1
      have HBY := Lib.hid (HB.out.trans (hnr.2.mono HB.out.size))
      have HOY := Lib.hid (HO.out.next hnr.2)
      clear hnr hY HPA HO
      generalize wr.heap.size = g1 at *
      have c1 : Y.cell? ⟨g1, 1, none⟩ = some (.int .i64 p.t) := (HB1.out.cell 1).trans rfl
      have hsz := HBY.out.size
      go_wp2_with (first
        | (refine wpList_loadA rfl 27 (.tmp 9) rfl ⟨g1, 0, none⟩ rfl (pcL p) _ (atA_blk HB1.out) Try.underlying27 rfl (pcLn p) ?_)
        | (refine wpList_valM rfl _ _ (run_onePc Y p (.tmp 27) rfl (by kernel_rfl)) ?_)
        | (at_builtin; refine wpList_app _ rfl (.tmp 26) (.tmp 28) _ rfl w.heap.size 27 i0 (.agg zPc) 5 48 Try.underlying34 hi hz0 hz1 hz2 rfl (by decide) _ L.length (pcs L) rfl (HOY.out.allocM _) _ (some ⟨Y.heap.size, 0, none⟩) 1 1 (pcs [p]) rfl rfl (by exact rd_new Y (pcs [p]) 27 (0, 0)) (pcs_oneCell _) (by omega) (by omega) (by simp; omega) ?_
           intro v' w' hap
           have HAP := Lib.hid hap
           clear hap))
      go_roundw
      case rel =>
        refine ⟨k + 1, by have := HLT.out; omega, by go_num, ?_, ?_⟩
        · rw [HTK.out]; exact OwnP.appM (l := L) (m := [p]) HAP.out
        · exact (HBY.out.alloc HBY.out.size _).trans (HAP.out.below (HOY.out.allocM _) (by simp; omega))
      case measure => have := HLT.out; simp [intOf]; omega
    · obtain rfl : k = l.length := by omega
      have q1 : ¬ (l.length : Int) < (l.length : Int) := by omega
      rw [List.take_length] at ho
      have HO := Lib.hid ho
      have HB := Lib.hid hb
      clear ho hb
      go_wp2_with fail
      go_ret
      exact ⟨_, rfl, HO.out, HB.out⟩
end Go.Proofs.Ytalfmcajghmkpaa
/- PieceOrder, walked. -/
namespace Go.Proofs.Ytalfmcajghmkpaa
set_option maxRecDepth 100000
open Go.RowKit
set_option linter.unusedVariables false
set_option linter.unusedSimpArgs false
structure Sl (W : World) (A : Option Addr) (c : Nat) (l : List Pc) : Prop where
  le : l.length ≤ c
  rd : RdP W W.heap.size A l
theorem Sl.next {W W' : World} {A : Option Addr} {c : Nat} {l : List Pc} (h : Sl W A c l) (hb : Below W.heap.size W W') : Sl W' A c l := ⟨h.le, (Rd.below (show Rd W W.heap.size A (pcs l) from h.rd) hb).more hb.size⟩
structure OkL (n : Nat) (l : List Pc) : Prop where
  len : l.length ≤ n
  ok : ∀ p ∈ l, PcOk p ∧ p.s.size ≤ 9223372036854775807
theorem OkL.merge {n m : Nat} {l k : List Pc} (h1 : OkL n l) (h2 : OkL m k) : OkL (n + m) (mergeL (l ++ k)) := ⟨by
  have h3 := merge_len (l ++ k)
  have h4 := h1.len
  have h5 := h2.len
  rw [List.length_append] at h3
  omega, fun p hp => by
  rcases List.mem_append.1 (merge_sub _ p hp) with h | h
  · exact h1.ok p h
  · exact h2.ok p h⟩
theorem run_l2 (w : World) (A : Option Addr) (n c : Nat) (B : Option Addr) (m d : Nat) {o : Oper} {ρ : Operand → Value} (x y : Operand) (ho : o.op = .buildSlice 42 2 #[(0, x), (1, y)]) (hx : ρ x = .slice A n c) (hy : ρ y = .slice B m d) :
    (execOp ρ o).run Try.prog w = .ok (.value (.slice (some ⟨w.heap.size, 0, none⟩) 2 2)) (w.alloc (.cells #[.slice A n c, .slice B m d] 34)) :=
  run_lists w [.slice A n c, .slice B m d] (by intro v hv; simp at hv; rcases hv with rfl | rfl <;> exact ⟨_, _, _, rfl⟩) #[(0, x), (1, y)] ho (by simp [hx, hy]) (by simp) (by simp)
theorem run_l3 (w : World) (A : Option Addr) (n c : Nat) (B : Option Addr) (m d : Nat) (C : Option Addr) (k e : Nat) {o : Oper} {ρ : Operand → Value} (x y z : Operand) (ho : o.op = .buildSlice 42 3 #[(0, x), (1, y), (2, z)]) (hx : ρ x = .slice A n c) (hy : ρ y = .slice B m d) (hz : ρ z = .slice C k e) :
    (execOp ρ o).run Try.prog w = .ok (.value (.slice (some ⟨w.heap.size, 0, none⟩) 3 3)) (w.alloc (.cells #[.slice A n c, .slice B m d, .slice C k e] 34)) :=
  run_lists w [.slice A n c, .slice B m d, .slice C k e] (by intro v hv; simp at hv; rcases hv with rfl | rfl | rfl <;> exact ⟨_, _, _, rfl⟩) #[(0, x), (1, y), (2, z)] ho (by simp [hx, hy, hz]) (by simp) (by simp)
theorem lists2_s {W : World} {A B : Option Addr} {ca cb : Nat} {la lb : List Pc} (h1 : Sl W A ca la) (h2 : Sl W B cb lb) :
    LsAt (W.alloc (.cells #[.slice A la.length ca, .slice B lb.length cb] 34)) (some ⟨W.heap.size, 0, none⟩) [la, lb] ∧ Below W.heap.size W (W.alloc (.cells #[.slice A la.length ca, .slice B lb.length cb] 34)) := by
  have hb : Below W.heap.size W (W.alloc (.cells #[.slice A la.length ca, .slice B lb.length cb] 34)) := (Below.refl _ _).alloc (Nat.le_refl _) _
  refine ⟨lsAt_blk (vs := [.slice A la.length ca, .slice B lb.length cb]) (Blk.new _ _ _) (fun i hi => ?_), hb⟩
  match i, hi with
  | 0, _ => exact ⟨_, _, rfl, h1.le, (h1.next hb).rd⟩
  | 1, _ => exact ⟨_, _, rfl, h2.le, (h2.next hb).rd⟩
theorem lists3_s {W : World} {A B C : Option Addr} {ca cb cc : Nat} {la lb lc : List Pc} (h1 : Sl W A ca la) (h2 : Sl W B cb lb) (h3 : Sl W C cc lc) :
    LsAt (W.alloc (.cells #[.slice A la.length ca, .slice B lb.length cb, .slice C lc.length cc] 34)) (some ⟨W.heap.size, 0, none⟩) [la, lb, lc] ∧ Below W.heap.size W (W.alloc (.cells #[.slice A la.length ca, .slice B lb.length cb, .slice C lc.length cc] 34)) := by
  have hb : Below W.heap.size W (W.alloc (.cells #[.slice A la.length ca, .slice B lb.length cb, .slice C lc.length cc] 34)) := (Below.refl _ _).alloc (Nat.le_refl _) _
  refine ⟨lsAt_blk (vs := [.slice A la.length ca, .slice B lb.length cb, .slice C lc.length cc]) (Blk.new _ _ _) (fun i hi => ?_), hb⟩
  match i, hi with
  | 0, _ => exact ⟨_, _, rfl, h1.le, (h1.next hb).rd⟩
  | 1, _ => exact ⟨_, _, rfl, h2.le, (h2.next hb).rd⟩
  | 2, _ => exact ⟨_, _, rfl, h3.le, (h3.next hb).rd⟩
section
variable {P : Program} {ops : Array Oper} {Q : Exit → Act → World → Prop} {rest : List Oper} {o : Oper} {a : Act}
theorem wpList_l2 {w : World} (x y : Operand) (ho : o.op = .buildSlice 42 2 #[(0, x), (1, y)]) (A : Option Addr) (n c : Nat) (B : Option Addr) (m d : Nat) (hx : a.eval x = .slice A n c) (hy : a.eval y = .slice B m d) (hw : Region.wanted o (yielded ops a.tmps) = true)
    (h : wpList Try.prog ops Q rest (a.put o.dst (.slice (some ⟨w.heap.size, 0, none⟩) 2 2)) (w.alloc (.cells #[.slice A n c, .slice B m d] 34))) : wpList Try.prog ops Q (o :: rest) a w :=
  wpList_valM hw _ _ (run_l2 w A n c B m d x y ho hx hy) h
theorem wpList_l3 {w : World} (x y z : Operand) (ho : o.op = .buildSlice 42 3 #[(0, x), (1, y), (2, z)]) (A : Option Addr) (n c : Nat) (B : Option Addr) (m d : Nat) (C : Option Addr) (k e : Nat) (hx : a.eval x = .slice A n c) (hy : a.eval y = .slice B m d) (hz : a.eval z = .slice C k e) (hw : Region.wanted o (yielded ops a.tmps) = true)
    (h : wpList Try.prog ops Q rest (a.put o.dst (.slice (some ⟨w.heap.size, 0, none⟩) 3 3)) (w.alloc (.cells #[.slice A n c, .slice B m d, .slice C k e] 34))) : wpList Try.prog ops Q (o :: rest) a w :=
  wpList_valM hw _ _ (run_l3 w A n c B m d C k e x y z ho hx hy hz) h
end
def MgPost (r : List Pc) (W : World) (e : Ending) (w' : World) : Prop := ∃ A c, e = .returned (.slice A r.length c) ∧ Sl w' A c r ∧ Below W.heap.size W w'
theorem merge_s {W : World} {g : Nat} {Ls : List (List Pc)} (n : Nat) (r : List Pc) (hl : LsAt W (some ⟨g, 0, none⟩) Ls) (hln : Ls.length = n) (hn : Ls.length ≤ 1000) (hok : ∀ L ∈ Ls, OkL 1000 L) (hr : mergeL Ls.flatten = r) :
    Calls Try.prog 13 #[.slice (some ⟨g, 0, none⟩) n n] W (MgPost r W) := by
  subst hln
  refine (merge_c _ _ Ls W hl (Nat.le_refl _) hn (fun L hL => ⟨(hok L hL).len, (hok L hL).ok⟩)).mono ?_
  rintro e w' ⟨v, rfl, ho, hb⟩
  rw [hr] at ho
  obtain ⟨A, c, rfl, h1, h2, h3⟩ := ho.rd
  exact ⟨A, c, rfl, ⟨h1, h3⟩, hb⟩
structure St (w : World) (A0 A1 A2 : Option Addr) (c0 c1 c2 : Nat) (a b c : List Pc) (W : World) : Prop where
  bel : Below w.heap.size w W
  s0 : Sl W A0 c0 a
  s1 : Sl W A1 c1 b
  s2 : Sl W A2 c2 c
theorem St.next {w W W' : World} {A0 A1 A2 : Option Addr} {c0 c1 c2 : Nat} {a b c : List Pc} (h : St w A0 A1 A2 c0 c1 c2 a b c W) (hb : Below W.heap.size W W') : St w A0 A1 A2 c0 c1 c2 a b c W' :=
  ⟨h.bel.trans (hb.mono h.bel.size), h.s0.next hb, h.s1.next hb, h.s2.next hb⟩
theorem less_sorted {M : List Pc} (h : SortP M) (k : Nat) (hk : k + 1 < M.length) : lessP (M.getD k pc0) (M.getD (k + 1) pc0) = true := by
  have h1 := List.pairwise_iff_getElem.1 h k (k + 1) (by omega) hk (by omega)
  rw [List.getD_eq_getElem?_getD, List.getD_eq_getElem?_getD, List.getElem?_eq_getElem hk, List.getElem?_eq_getElem (show k < M.length by omega)]
  exact decide_eq_true (okPair_cmp h1)
set_option maxRecDepth 100000 in
set_option maxHeartbeats 16000000 in
theorem order_c (A0 A1 A2 : Option Addr) (c0 c1 c2 : Nat) (a b c : List Pc) (w : World) (hs : St w A0 A1 A2 c0 c1 c2 a b c w) (h0 : a.length ≤ 9223372036854775807 ∧ ∀ p ∈ a, p.s.size ≤ 9223372036854775807) (h1 : b.length ≤ 9223372036854775807 ∧ ∀ p ∈ b, p.s.size ≤ 9223372036854775807) (h2 : c.length ≤ 9223372036854775807 ∧ ∀ p ∈ c, p.s.size ≤ 9223372036854775807)
    (k0 : ∀ p ∈ a, PcOk p) (k1 : ∀ p ∈ b, PcOk p) (k2 : ∀ p ∈ c, PcOk p) :
    Calls Try.prog 4 #[.slice A0 a.length c0, .slice A1 b.length c1, .slice A2 c.length c2] w fun e w' => e = .returned (.bool true) ∧ Below w.heap.size w w' := by
  have Sw := Lib.hid hs
  have H0 := Lib.hid h0
  have H1 := Lib.hid h1
  have H2 := Lib.hid h2
  obtain ⟨g1, hg1⟩ : ∃ g, greatB a 40 = g := ⟨_, rfl⟩
  obtain ⟨g2, hg2⟩ : ∃ g, greatB b 40 = g := ⟨_, rfl⟩
  obtain ⟨g3, hg3⟩ : ∃ g, greatB c 40 = g := ⟨_, rfl⟩
  have G1 := Lib.hid hg1
  have G2 := Lib.hid hg2
  have G3 := Lib.hid hg3
  have gc1 : Calls Try.prog 12 #[.slice A0 a.length c0, .int .i64 40] w (fun e w' => e = .returned (.bool (greatB a 40)) ∧ w = w') := great_c w.heap.size A0 c0 a 40 w hs.s0.rd h0.1 (by decide) h0.2
  have gc2 : Calls Try.prog 12 #[.slice A1 b.length c1, .int .i64 40] w (fun e w' => e = .returned (.bool (greatB b 40)) ∧ w = w') := great_c w.heap.size A1 c1 b 40 w hs.s1.rd h1.1 (by decide) h1.2
  have gc3 : Calls Try.prog 12 #[.slice A2 c.length c2, .int .i64 40] w (fun e w' => e = .returned (.bool (greatB c 40)) ∧ w = w') := great_c w.heap.size A2 c2 c 40 w hs.s2.rd h2.1 (by decide) h2.2
  rw [hg1] at gc1
  rw [hg2] at gc2
  rw [hg3] at gc3
  have GC1 := Lib.hid gc1
  have GC2 := Lib.hid gc2
  have GC3 := Lib.hid gc3
  clear hs h0 h1 h2 hg1 hg2 hg3 gc1 gc2 gc3
  go_enter Try.func4, Try.ntmps4
  cases g1 with
  | true =>
    go_wp2_with (first
      | (go_at_call 12; (with_reducible refine GC1.out.mono ?_); rintro e w' ⟨rfl, rfl⟩)
      | (go_at_call 12; (with_reducible refine GC2.out.mono ?_); rintro e w' ⟨rfl, rfl⟩)
      | (go_at_call 12; (with_reducible refine GC3.out.mono ?_); rintro e w' ⟨rfl, rfl⟩)
      | (go_at_call 5; (refine (awake13_c w).mono ?_); rintro e W9 ⟨rfl, hb9⟩; have HB9 := Lib.hid hb9; clear hb9))
    go_ret
    exact ⟨rfl, HB9.out⟩
  | false =>
  cases g2 with
  | true =>
    go_wp2_with (first
      | (go_at_call 12; (with_reducible refine GC1.out.mono ?_); rintro e w' ⟨rfl, rfl⟩)
      | (go_at_call 12; (with_reducible refine GC2.out.mono ?_); rintro e w' ⟨rfl, rfl⟩)
      | (go_at_call 12; (with_reducible refine GC3.out.mono ?_); rintro e w' ⟨rfl, rfl⟩)
      | (go_at_call 5; (refine (awake13_c w).mono ?_); rintro e W9 ⟨rfl, hb9⟩; have HB9 := Lib.hid hb9; clear hb9))
    go_ret
    exact ⟨rfl, HB9.out⟩
  | false =>
  cases g3 with
  | true =>
    go_wp2_with (first
      | (go_at_call 12; (with_reducible refine GC1.out.mono ?_); rintro e w' ⟨rfl, rfl⟩)
      | (go_at_call 12; (with_reducible refine GC2.out.mono ?_); rintro e w' ⟨rfl, rfl⟩)
      | (go_at_call 12; (with_reducible refine GC3.out.mono ?_); rintro e w' ⟨rfl, rfl⟩)
      | (go_at_call 5; (refine (awake13_c w).mono ?_); rintro e W9 ⟨rfl, hb9⟩; have HB9 := Lib.hid hb9; clear hb9))
    go_ret
    exact ⟨rfl, HB9.out⟩
  | false =>
  have n0 := greatB_no G1.out
  have n1 := greatB_no G2.out
  have n2 := greatB_no G3.out
  have o0 : OkL 40 a := ⟨n0.1, fun p hp => ⟨k0 p hp, H0.out.2 p hp⟩⟩
  have o1 : OkL 40 b := ⟨n1.1, fun p hp => ⟨k1 p hp, H1.out.2 p hp⟩⟩
  have o2 : OkL 40 c := ⟨n2.1, fun p hp => ⟨k2 p hp, H2.out.2 p hp⟩⟩
  have up : ∀ {n : Nat} {l : List Pc}, OkL n l → n ≤ 1000 → OkL 1000 l := fun h hn => ⟨Nat.le_trans h.len hn, h.ok⟩
  obtain ⟨y, hy⟩ : ∃ y, y = mergeL (a ++ b) := ⟨_, rfl⟩
  obtain ⟨z, hz⟩ : ∃ z, z = mergeL (c ++ b) := ⟨_, rfl⟩
  obtain ⟨x, hx⟩ : ∃ x, x = mergeL ((a ++ b) ++ c) := ⟨_, rfl⟩
  have oy : OkL 80 y := by rw [hy]; exact o0.merge o1
  have oz : OkL 80 z := by rw [hz]; exact o2.merge o1
  have ox : OkL 120 x := by rw [hx, ← merge_ahead, ← hy]; exact oy.merge o2
  have HE1 := Lib.hid (show mergeL [a, b, c].flatten = x by rw [hx]; simp)
  have HE2 := Lib.hid (show mergeL [c, a, b].flatten = x by rw [hx]; exact merge_of_mem (fun q => by simp; constructor <;> (intro h; rcases h with h | h | h <;> simp [h])))
  have HE3 := Lib.hid (show mergeL [a, b].flatten = y by rw [hy]; simp)
  have HE4 := Lib.hid (show mergeL [y, c].flatten = x by rw [hx, hy]; simp only [List.flatten_cons, List.flatten_nil, List.append_nil]; exact merge_ahead _ _)
  have HE5 := Lib.hid (show mergeL [c, b].flatten = z by rw [hz]; simp)
  have HE6 := Lib.hid (show mergeL [a, z].flatten = x by
    rw [hx, hz]
    simp only [List.flatten_cons, List.flatten_nil, List.append_nil]
    rw [merge_behind]
    exact merge_of_mem (fun q => by simp; constructor <;> (intro h; rcases h with h | h | h <;> simp [h])))
  have HE7 := Lib.hid (show mergeL [x, x].flatten = x by
    simp only [List.flatten_cons, List.flatten_nil, List.append_nil]
    rw [hx, merge_self])
  have HSX := Lib.hid (show SortP x by rw [hx]; exact merge_sorted _)
  have q0 := up o0 (by omega)
  have q1 := up o1 (by omega)
  have q2 := up o2 (by omega)
  have qy := up oy (by omega)
  have qz := up oz (by omega)
  have qx := up ox (by omega)
  have HK3 := Lib.hid (show ∀ L ∈ [a, b, c], OkL 1000 L from by intro L hL; simp at hL; rcases hL with rfl | rfl | rfl <;> assumption)
  have HK4 := Lib.hid (show ∀ L ∈ [c, a, b], OkL 1000 L from by intro L hL; simp at hL; rcases hL with rfl | rfl | rfl <;> assumption)
  have HK5 := Lib.hid (show ∀ L ∈ [a, b], OkL 1000 L from by intro L hL; simp at hL; rcases hL with rfl | rfl <;> assumption)
  have HK6 := Lib.hid (show ∀ L ∈ [y, c], OkL 1000 L from by intro L hL; simp at hL; rcases hL with rfl | rfl <;> assumption)
  have HK7 := Lib.hid (show ∀ L ∈ [c, b], OkL 1000 L from by intro L hL; simp at hL; rcases hL with rfl | rfl <;> assumption)
  have HK8 := Lib.hid (show ∀ L ∈ [a, z], OkL 1000 L from by intro L hL; simp at hL; rcases hL with rfl | rfl <;> assumption)
  have HK9 := Lib.hid (show ∀ L ∈ [x, x], OkL 1000 L from by intro L hL; simp at hL; subst hL; assumption)
  have HOX := Lib.hid ox
  have HXL := Lib.hid (show x.length ≤ 9223372036854775807 by have := ox.len; omega)
  clear n0 n1 n2 o0 o1 o2 oy oz ox q0 q1 q2 qy qz qx hx hy hz k0 k1 k2 up
  go_upto_region 6 with (first
    | (go_at_call 12; (with_reducible refine GC1.out.mono ?_); rintro e w' ⟨rfl, rfl⟩)
    | (go_at_call 12; (with_reducible refine GC2.out.mono ?_); rintro e w' ⟨rfl, rfl⟩)
    | (go_at_call 12; (with_reducible refine GC3.out.mono ?_); rintro e w' ⟨rfl, rfl⟩)
    | (refine wpList_l3 (.tmp 20) (.tmp 21) (.tmp 22) rfl A0 a.length c0 A1 b.length c1 A2 c.length c2 rfl rfl rfl rfl ?_
       obtain ⟨W1, e1⟩ : ∃ W1, W1 = w.alloc (.cells #[.slice A0 a.length c0, .slice A1 b.length c1, .slice A2 c.length c2] 34) := ⟨_, rfl⟩
       have hl := lists3_s Sw.out.s0 Sw.out.s1 Sw.out.s2
       rw [← e1] at hl ⊢
       have MCW1 := Lib.hid (merge_s 3 x hl.1 rfl (by simp) HK3.out HE1.out)
       have SW1 := Lib.hid (Sw.out.next hl.2)
       clear e1 hl)
    | (go_at_call 13; (with_reducible refine MCW1.out.mono ?_); rintro e W2 ⟨X, cX, rfl, hs, hb⟩; have SW2 := Lib.hid (SW1.out.next hb); have XW2 := Lib.hid hs; clear hs hb MCW1)
    | (refine wpList_l3 (.tmp 25) (.tmp 26) (.tmp 27) rfl A2 c.length c2 A0 a.length c0 A1 b.length c1 rfl rfl rfl rfl ?_
       obtain ⟨W3, e1⟩ : ∃ W3, W3 = W2.alloc (.cells #[.slice A2 c.length c2, .slice A0 a.length c0, .slice A1 b.length c1] 34) := ⟨_, rfl⟩
       have hl := lists3_s SW2.out.s2 SW2.out.s0 SW2.out.s1
       rw [← e1] at hl ⊢
       have MCW3 := Lib.hid (merge_s 3 x hl.1 rfl (by simp) HK4.out HE2.out)
       have SW3 := Lib.hid (SW2.out.next hl.2)
       have XW3 := Lib.hid (XW2.out.next hl.2)
       clear e1 hl)
    | (go_at_call 13; (with_reducible refine MCW3.out.mono ?_); rintro e W4 ⟨V1, cV1, rfl, hs, hb⟩; have SW4 := Lib.hid (SW3.out.next hb); have XW4 := Lib.hid (XW3.out.next hb); have VW4 := Lib.hid hs; have SCW4 := Lib.hid (rsameP_c W4.heap.size W4.heap.size V1 X cV1 cX x W4 VW4.out.rd XW4.out.rd HXL.out); clear hs hb MCW3)
    | (go_at_call 14; (with_reducible refine SCW4.out.mono ?_); rintro e W5 ⟨rfl, nn, hd⟩; have hb : Below W4.heap.size W4 W5 := (by rw [hd]; exact belowDrewN nn (Below.refl _ _)); have SW5 := Lib.hid (SW4.out.next hb); have XW5 := Lib.hid (XW4.out.next hb); clear hd hb SCW4)
    | (refine wpList_l2 (.tmp 34) (.tmp 35) rfl A0 a.length c0 A1 b.length c1 rfl rfl rfl ?_
       obtain ⟨W6, e1⟩ : ∃ W6, W6 = W5.alloc (.cells #[.slice A0 a.length c0, .slice A1 b.length c1] 34) := ⟨_, rfl⟩
       have hl := lists2_s SW5.out.s0 SW5.out.s1
       rw [← e1] at hl ⊢
       have MCW6 := Lib.hid (merge_s 2 y hl.1 rfl (by simp) HK5.out HE3.out)
       have SW6 := Lib.hid (SW5.out.next hl.2)
       have XW6 := Lib.hid (XW5.out.next hl.2)
       clear e1 hl)
    | (go_at_call 13; (with_reducible refine MCW6.out.mono ?_); rintro e W7 ⟨V2, cV2, rfl, hs, hb⟩; have SW7 := Lib.hid (SW6.out.next hb); have XW7 := Lib.hid (XW6.out.next hb); have VW7 := Lib.hid hs; clear hs hb MCW6)
    | (refine wpList_l2 (.tmp 37) (.tmp 38) rfl V2 y.length cV2 A2 c.length c2 rfl rfl rfl ?_
       obtain ⟨W8, e1⟩ : ∃ W8, W8 = W7.alloc (.cells #[.slice V2 y.length cV2, .slice A2 c.length c2] 34) := ⟨_, rfl⟩
       have hl := lists2_s VW7.out SW7.out.s2
       rw [← e1] at hl ⊢
       have MCW8 := Lib.hid (merge_s 2 x hl.1 rfl (by simp) HK6.out HE4.out)
       have SW8 := Lib.hid (SW7.out.next hl.2)
       have XW8 := Lib.hid (XW7.out.next hl.2)
       clear e1 hl)
    | (go_at_call 13; (with_reducible refine MCW8.out.mono ?_); rintro e W9 ⟨V3, cV3, rfl, hs, hb⟩; have SW9 := Lib.hid (SW8.out.next hb); have XW9 := Lib.hid (XW8.out.next hb); have VW9 := Lib.hid hs; have SCW9 := Lib.hid (rsameP_c W9.heap.size W9.heap.size V3 X cV3 cX x W9 VW9.out.rd XW9.out.rd HXL.out); clear hs hb MCW8)
    | (go_at_call 14; (with_reducible refine SCW9.out.mono ?_); rintro e W10 ⟨rfl, nn, hd⟩; have hb : Below W9.heap.size W9 W10 := (by rw [hd]; exact belowDrewN nn (Below.refl _ _)); have SW10 := Lib.hid (SW9.out.next hb); have XW10 := Lib.hid (XW9.out.next hb); clear hd hb SCW9)
    | (refine wpList_l2 (.tmp 47) (.tmp 48) rfl A2 c.length c2 A1 b.length c1 rfl rfl rfl ?_
       obtain ⟨W11, e1⟩ : ∃ W11, W11 = W10.alloc (.cells #[.slice A2 c.length c2, .slice A1 b.length c1] 34) := ⟨_, rfl⟩
       have hl := lists2_s SW10.out.s2 SW10.out.s1
       rw [← e1] at hl ⊢
       have MCW11 := Lib.hid (merge_s 2 z hl.1 rfl (by simp) HK7.out HE5.out)
       have SW11 := Lib.hid (SW10.out.next hl.2)
       have XW11 := Lib.hid (XW10.out.next hl.2)
       clear e1 hl)
    | (go_at_call 13; (with_reducible refine MCW11.out.mono ?_); rintro e W12 ⟨V4, cV4, rfl, hs, hb⟩; have SW12 := Lib.hid (SW11.out.next hb); have XW12 := Lib.hid (XW11.out.next hb); have VW12 := Lib.hid hs; clear hs hb MCW11)
    | (refine wpList_l2 (.tmp 46) (.tmp 50) rfl A0 a.length c0 V4 z.length cV4 rfl rfl rfl ?_
       obtain ⟨W13, e1⟩ : ∃ W13, W13 = W12.alloc (.cells #[.slice A0 a.length c0, .slice V4 z.length cV4] 34) := ⟨_, rfl⟩
       have hl := lists2_s SW12.out.s0 VW12.out
       rw [← e1] at hl ⊢
       have MCW13 := Lib.hid (merge_s 2 x hl.1 rfl (by simp) HK8.out HE6.out)
       have SW13 := Lib.hid (SW12.out.next hl.2)
       have XW13 := Lib.hid (XW12.out.next hl.2)
       clear e1 hl)
    | (go_at_call 13; (with_reducible refine MCW13.out.mono ?_); rintro e W14 ⟨V5, cV5, rfl, hs, hb⟩; have SW14 := Lib.hid (SW13.out.next hb); have XW14 := Lib.hid (XW13.out.next hb); have VW14 := Lib.hid hs; have SCW14 := Lib.hid (rsameP_c W14.heap.size W14.heap.size V5 X cV5 cX x W14 VW14.out.rd XW14.out.rd HXL.out); clear hs hb MCW13)
    | (go_at_call 14; (with_reducible refine SCW14.out.mono ?_); rintro e W15 ⟨rfl, nn, hd⟩; have hb : Below W14.heap.size W14 W15 := (by rw [hd]; exact belowDrewN nn (Below.refl _ _)); have SW15 := Lib.hid (SW14.out.next hb); have XW15 := Lib.hid (XW14.out.next hb); clear hd hb SCW14)
    | (refine wpList_l2 (.tmp 58) (.tmp 59) rfl X x.length cX X x.length cX rfl rfl rfl ?_
       obtain ⟨W16, e1⟩ : ∃ W16, W16 = W15.alloc (.cells #[.slice X x.length cX, .slice X x.length cX] 34) := ⟨_, rfl⟩
       have hl := lists2_s XW15.out XW15.out
       rw [← e1] at hl ⊢
       have MCW16 := Lib.hid (merge_s 2 x hl.1 rfl (by simp) HK9.out HE7.out)
       have SW16 := Lib.hid (SW15.out.next hl.2)
       have XW16 := Lib.hid (XW15.out.next hl.2)
       clear e1 hl)
    | (go_at_call 13; (with_reducible refine MCW16.out.mono ?_); rintro e W17 ⟨V6, cV6, rfl, hs, hb⟩; have SW17 := Lib.hid (SW16.out.next hb); have XW17 := Lib.hid (XW16.out.next hb); have VW17 := Lib.hid hs; have SCW17 := Lib.hid (rsameP_c W17.heap.size W17.heap.size V6 X cV6 cX x W17 VW17.out.rd XW17.out.rd HXL.out); clear hs hb MCW16)
    | (go_at_call 14; (with_reducible refine SCW17.out.mono ?_); rintro e W18 ⟨rfl, nn, hd⟩; have hb : Below W17.heap.size W17 W18 := (by rw [hd]; exact belowDrewN nn (Below.refl _ _)); have SW18 := Lib.hid (SW17.out.next hb); have XW18 := Lib.hid (XW17.out.next hb); clear hd hb SCW17))
  clear HK3 HK4 HK5 HK6 HK7 HK8 HK9 HE1 HE2 HE3 HE4 HE5 HE6 HE7 XW2 XW3 XW4 XW5 XW6 XW7 XW8 XW9 XW10 XW11 XW12 XW13 XW14 XW15 XW16 XW17 SW1 SW2 SW3 SW4 SW5 SW6 SW7 SW8 SW9 SW10 SW11 SW12 SW13 SW14 SW15 SW16 SW17 VW4 VW7 VW9 VW12 VW14 VW17 GC1 GC2 GC3 H0 H1 H2 G1 G2 G3
  have hx18 := XW18.out.rd
  have hxc := XW18.out.le
  have HX := Lib.hid hx18
  have HXC := Lib.hid hxc
  have HBW := Lib.hid SW18.out.bel
  clear hx18 hxc XW18 SW18
  have hxl : (x.length : Int) ≤ 120 := by have := HOX.out.len; omega
  go_wp2_with fail
  go_loopw [8] (fun i wr => ∃ k : Nat, 1 ≤ k ∧ k ≤ x.length + 1 ∧ i = .int .i64 (k : Nat) ∧ Below W18.heap.size W18 wr) (fun i _ => x.length + 1 - (intOf i).toNat)
  case atStart => exact ⟨1, Nat.le_refl _, by omega, rfl, Below.refl _ _⟩
  case round =>
    rename World => wr
    obtain ⟨k, hk1, hk2, rfl, hb⟩ := hrel
    by_cases hlt : k < x.length
    · have r1 : (k : Int) < (x.length : Int) := by omega
      obtain ⟨j, hj⟩ : ∃ j, k = j + 1 := ⟨k - 1, by omega⟩
      have r2 : (j : Int) < (x.length : Int) := by omega
      have r3 : IntKind.i64.wrap ((k : Int) - 1) = (j : Int) := by rw [IntKind.wrap_i64]; omega
      have r4 : (k : Int) - 1 = (j : Int) := by omega
      obtain ⟨ad, rfl, hab, hat⟩ := (show RdP wr W18.heap.size X x from Rd.below HX.out hb).open_ (by omega)
      have hpa := hat.piece j (by omega)
      have hqa := hat.piece k hlt
      have hle := less_sorted HSX.out j (by omega)
      rw [← hj] at hle
      obtain ⟨p, hpe⟩ : ∃ p, p = x.getD j pc0 := ⟨_, rfl⟩
      obtain ⟨q, hqe⟩ : ∃ q, q = x.getD k pc0 := ⟨_, rfl⟩
      rw [← hpe] at hpa
      rw [← hqe] at hqa
      rw [← hpe, ← hqe] at hle
      have HLS := Lib.hid (fun W => less_c p q W)
      rw [hle] at HLS
      have HPA := Lib.hid (fun W (h : ∃ z : Ext wr, W = z.wd) => show AtA W (ad.add (j * 5)) (pcL p) by
        obtain ⟨z, rfl⟩ := h
        exact fun i u hu => z.cell (hpa i u hu))
      have HQA := Lib.hid (fun W (h : ∃ z : Ext wr, W = z.wd) => show AtA W (ad.add (k * 5)) (pcL q) by
        obtain ⟨z, rfl⟩ := h
        exact fun i u hu => z.cell (hqa i u hu))
      have HB := Lib.hid hb
      have HLT := Lib.hid hlt
      clear hat hpa hqa hpe hqe hle hj hb hab hlt
      go_upto_region 9 with fail
      refine wp_region_class (Ext.wd (w0 := wr)) (by kernel_rfl) (by kernel_rfl) (Ext.of (Below.refl _ _).drew) ?_
      repeat (first
        | (refine wpQuiet_loadA 27 (.tmp 75) rfl rfl (ad.add (j * 5)) rfl (pcL p) _ HPA.out Try.underlying27 rfl (pcLn p) _ (by simp only [Act.put, List.setIfInBounds_toArray, List.set_cons_succ, List.set_cons_zero]; rfl) ?_)
        | (refine wpQuiet_loadA 27 (.tmp 79) rfl rfl (ad.add (k * 5)) rfl (pcL q) _ HQA.out Try.underlying27 rfl (pcLn q) _ (by simp only [Act.put, List.setIfInBounds_toArray, List.set_cons_succ, List.set_cons_zero]; rfl) ?_)
        | (go_big_quiet_step ((go_at_call 10; exact ext_call (HLS.out _)))))
      refine wpQuiet_nil ?_
      rintro _ ⟨z, rfl⟩
      have HZ := Lib.hid (HB.out.trans (z.bel.mono HB.out.size))
      generalize z.wd = Y at *
      go_wp2_with fail
      go_roundw
      case rel => exact ⟨k + 1, by omega, by have := HLT.out; omega, by go_num, HZ.out⟩
      case measure => have := HLT.out; simp [intOf]; omega
    · have r1 : ¬ (k : Int) < (x.length : Int) := by omega
      have HB := Lib.hid hb
      have HXR := Lib.hid (show RdP wr wr.heap.size X x from (Rd.below (show Rd W18 W18.heap.size X (pcs x) from HX.out) hb).more hb.size)
      have HBC := Lib.hid (between_c X cX x wr HXR.out (by have := HOX.out.len; omega) (fun p hp => (HOX.out.ok p hp).1))
      clear hb
      go_wp2_with (first
        | (go_at_call 15; (with_reducible refine HBC.out.mono ?_); rintro e Y1 ⟨v, rfl, ho, hb1⟩; obtain ⟨V, cV, rfl, _, _, hvr⟩ := ho.rd; have HB1 := Lib.hid hb1; have HSM := Lib.hid (rsameP_c Y1.heap.size Y1.heap.size V X cV cX x Y1 hvr ((Rd.below (show Rd wr wr.heap.size X (pcs x) from HXR.out) hb1).more hb1.size) HXL.out); clear ho hb1 hvr)
        | (go_at_call 14; (with_reducible refine HSM.out.mono ?_); rintro e Y2 ⟨rfl, nn, hd⟩; have HB2 := Lib.hid (show Below Y1.heap.size Y1 Y2 by rw [hd]; exact belowDrewN nn (Below.refl _ _)); clear hd)
        | (go_at_call 5; (refine (awake13_c Y2).mono ?_); rintro e Y3 ⟨rfl, hb3⟩; have HB3 := Lib.hid hb3; clear hb3))
      go_ret
      have b1 := HBW.out.trans (HB.out.mono HBW.out.size)
      have b2 := b1.trans (HB1.out.mono b1.size)
      have b3 := b2.trans (HB2.out.mono b2.size)
      exact ⟨rfl, b3.trans (HB3.out.mono b3.size)⟩
end Go.Proofs.Ytalfmcajghmkpaa
namespace Go.Proofs.Ytalfmcajghmkpaa
open Go.ChangeShapes Go.WideShapes Go.ChangeAt Go.RowKit
set_option maxRecDepth 100000 in
theorem pieceOrder_lifted (os : Os) (started : os.Started) (H : Type) (enc : TypeId × Value → H) :
    ReturnsInHanded {} Try.checked os 4 .any (Rows.pieceOrderSpec.pre6 enc Try.prog Try.f4 Rows.pieceOrderRow.domain false) (Rows.pieceOrderSpec.post enc Try.prog Try.f4 false true false false) := by
  refine lift started _ rfl (by kernel_rfl) Try.func4 ⟨rfl, fun H ds h => ?_⟩ rfl (of_decide_eq_true (by kernel_rfl))
    (ChangeSpec.witness6 (enc := enc) (C := Try.checked) false ⟨#[], #[.slice none 0 0, .slice none 0 0, .slice none 0 0], []⟩ 8 (by kernel_rfl) (by kernel_rfl) (by kernel_rfl) (by kernel_rfl)) ?_
  · match ds, h with
    | [_, _, _], _ => rfl
  · intro W base args ds ps hval hA hlt
    rw [Try.params4] at hA hval
    obtain ⟨v0, vs0, d0, ds0, p0, q0, hargs, rfl, rfl, h0, r0⟩ := trodAll_cons hA
    obtain ⟨v1, vs1, d1, ds1, p1, q1, rfl, rfl, rfl, h1, r1⟩ := trodAll_cons r0
    obtain ⟨v2, vs2, d2, ds2, p2, q2, rfl, rfl, rfl, h2, r2⟩ := trodAll_cons r1
    obtain ⟨rfl, rfl, rfl⟩ := trodAll_nil r2
    obtain rfl : args = #[v0, v1, v2] := by cases args; simp_all
    obtain ⟨A0, l0, cap0, rfl, hc0, hm0, hl0, hr0⟩ := open_pieces (hval 0 34 v0 rfl rfl) h0
    obtain ⟨A1, l1, cap1, rfl, hc1, hm1, hl1, hr1⟩ := open_pieces (hval 1 34 v1 rfl rfl) h1
    obtain ⟨A2, l2, cap2, rfl, hc2, hm2, hl2, hr2⟩ := open_pieces (hval 2 34 v2 rfl rfl) h2
    exact order_c A0 A1 A2 cap0 cap1 cap2 l0 l1 l2 W ⟨Below.refl _ _, ⟨hc0, hr0⟩, ⟨hc1, hr1⟩, ⟨hc2, hr2⟩⟩ ⟨hm0, fun p hp => (hl0 p hp).2⟩ ⟨hm1, fun p hp => (hl1 p hp).2⟩ ⟨hm2, fun p hp => (hl2 p hp).2⟩ (fun p hp => (hl0 p hp).1) (fun p hp => (hl1 p hp).1) (fun p hp => (hl2 p hp).1)
theorem pieceOrder_holds : Rows.PieceOrderSaid :=
  OpenClaim.holds_of_wide 4 Try.f4 rfl rfl rfl rfl rfl rfl rfl ⟨rfl, rfl, rfl, rfl, rfl⟩ rfl rfl rfl rfl rfl (by kernel_rfl) Try.func4 (by kernel_rfl)
    (of_decide_eq_true (by kernel_rfl)) (by unfold Func.isWrapper; rw [if_neg (by decide +kernel)]; exact ⟨rfl, rfl⟩)
    (fun os started H enc _ => pieceOrder_lifted os started H enc)
#print axioms pieceOrder_holds
end Go.Proofs.Ytalfmcajghmkpaa
