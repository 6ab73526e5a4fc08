/- Parts, one behind the other: Df8 Mg1 Mg2 De4 Cb0 Dg1 Dg2 Dg3 Dg4 Dh1 Dh2 Di1 Di2 OwP Mv0 Mv1 Rfa Mv2 SrK Gro. -/
import Derived.Test.YtihbjnjpomljjaaZ02
import Derived.Shelf.SlSortCmp.Insertion
import Derived.Maps.OwnSet
import Derived.WideKeyArgs
import Derived.DeepKeys4
import Derived.Maps.Range
import Derived.Laws.ShiftsVarLaws
import Derived.IntWalk
import Derived.Laws.BitsAllLaws
import Derived.Lib.AppendStr
import Derived.Lib.AppendZerosOnto
import Derived.Shelf.SlIter.Collect
import Derived.RangeFuncKeeps
import Derived.RangeFuncBox
import Derived.RangeFuncGives
import Derived.Shelf.SlIter.Keys
import Derived.RangeFuncFrom
import Derived.Shelf.SlSortCmp.InsertionK
import Derived.Sort.Grow
/- Contract: whether pieces may be laid. -/
namespace Go.Proofs.Ytihbjnjpomljjaa
set_option maxRecDepth 100000
open Go.RowKit
set_option linter.unusedVariables false
set_option linter.unusedSimpArgs false
theorem below_setRowP (w : World) (g : Nat) (cs : Array Value) {n : Nat} (h : n ≤ g) : Below n w (w.setRow g cs) := ⟨rfl, rfl, rfl, by simp [World.setRow], fun i hi => setRow_other _ _ i _ (by omega)⟩
theorem new_rowP (W : World) (T : TypeId) (old cs : Array Value) : Blk ((W.alloc (Obj.cells old T)).setRow W.heap.size cs) W.heap.size T cs ∧ Below W.heap.size W ((W.alloc (Obj.cells old T)).setRow W.heap.size cs) :=
  ⟨setRow_heap _ _ _ _ _ (0, 0) (Blk.new W _ _), ((Below.refl _ _).alloc (Nat.le_refl _) _).trans (below_setRowP _ _ _ (Nat.le_refl _))⟩
def zPc : Array Value := pcV pc0
theorem zero_pc (w : World) : (zeroValue 33).run Try.prog w = .ok (.agg zPc) w := by kernel_rfl
theorem pcV_one (p : Pc) : (pcV p).all (·.oneCell') = true := by simp [pcV, pcL, Value.oneCell']
theorem cmpI_neg (x y : Int) : cmpI x y < 0 ↔ x < y := by unfold cmpI; split <;> (try split) <;> omega
theorem cmpI_zero (x y : Int) : cmpI x y = 0 ↔ x = y := by unfold cmpI; split <;> (try split) <;> omega
theorem cmpS_neg (a b : ByteArray) : cmpS a b < 0 ↔ ltS a b = true := by
  unfold cmpS
  split
  · rename_i h; simp [h]
  · rename_i h
    split <;> simp [h]
theorem cmpS_zero (a b : ByteArray) : cmpS a b = 0 ↔ a = b := by
  unfold cmpS
  split
  · rename_i h
    constructor
    · intro h1; omega
    · rintro rfl; unfold ltS at h; rw [bless_irr] at h; cases h
  · rename_i h
    split
    · rename_i h2
      constructor
      · intro h1; omega
      · rintro rfl; unfold ltS at h2; rw [bless_irr] at h2; cases h2
    · rename_i h2
      constructor
      · intro _
        by_cases he : a = b
        · exact he
        · unfold ltS at h h2
          have h3 := bless_tri a.toList b.toList (fun h => he (toList_inj h)) (by simpa using h)
          exact absurd h3 h2
      · intro _; rfl
/-- what the program asks of two that follow one another -/
theorem okPair_less (q p : Pc) : okPair q p = (lessP q p && !((q.s.toList == p.s.toList) && (q.t == p.t))) := by
  have hl : lessP q p = true ↔ (ltS q.s p.s = true ∨ (q.s = p.s ∧ (q.t < p.t ∨ (q.t = p.t ∧ cmpD q.n q.d p.n p.d < 0)))) := by
    unfold lessP cmpP
    rw [decide_eq_true_iff, orL]
    by_cases h0 : cmpS q.s p.s = 0
    · rw [if_pos h0]
      have h1 := (cmpS_zero _ _).1 h0
      have h2 : ¬ ltS q.s p.s = true := fun h => by have := (cmpS_neg _ _).2 h; omega
      rw [orL]
      by_cases h3 : cmpI q.t p.t = 0
      · rw [if_pos h3]
        have h4 := (cmpI_zero _ _).1 h3
        have h5 : orL [cmpD q.n q.d p.n p.d] = cmpD q.n q.d p.n p.d := by
          rw [orL]
          split
          · rename_i h6; rw [h6]; rfl
          · rfl
        rw [h5]
        constructor
        · intro h; exact .inr ⟨h1, .inr ⟨h4, h⟩⟩
        · rintro (h | ⟨_, h | ⟨_, h⟩⟩)
          · exact absurd h h2
          · omega
          · exact h
      · rw [if_neg h3]
        have h4 : q.t ≠ p.t := fun h => h3 ((cmpI_zero _ _).2 h)
        rw [cmpI_neg]
        constructor
        · intro h; exact .inr ⟨h1, .inl h⟩
        · rintro (h | ⟨_, h | ⟨h, _⟩⟩)
          · exact absurd h h2
          · exact h
          · exact absurd h h4
    · rw [if_neg h0, cmpS_neg]
      constructor
      · intro h; exact .inl h
      · rintro (h | ⟨h, _⟩)
        · exact h
        · exact absurd ((cmpS_zero _ _).2 h) h0
  rw [Bool.eq_iff_iff]
  unfold okPair
  rw [Bool.or_eq_true, Bool.and_eq_true, Bool.and_eq_true, hl, Bool.not_eq_true', Bool.and_eq_false_iff, beq_iff_eq, decide_eq_true_iff, beq_eq_false_iff_ne, beq_eq_false_iff_ne]
  constructor
  · rintro (h | ⟨h, h2⟩)
    · refine ⟨.inl h, .inl (fun e => ?_)⟩
      unfold ltS at h
      rw [e, bless_irr] at h
      cases h
    · exact ⟨.inr ⟨toList_inj h, .inl h2⟩, .inr (by omega)⟩
  · rintro ⟨h | ⟨h, h2⟩, h3⟩
    · exact .inl h
    · rcases h3 with h3 | h3
      · exact absurd (by rw [h]) h3
      · rcases h2 with h2 | ⟨h2, _⟩
        · exact .inr ⟨by rw [h], h2⟩
        · exact absurd h2 h3
theorem AtA.tim {w : World} {a : Addr} {p : Pc} (h : AtA w a (pcL p)) : w.cell? ⟨a.block, a.off + 1, none⟩ = some (.int .i64 p.t) := h 1 _ rfl
theorem run_loadA {P : Program} (w : World) (a : Addr) (ty : TypeId) (l : List Value) (d : TypeDesc) (hc : AtA w a l) (hu : P.underlying ty = some d) (hd : d.isRow = true) (hi : (P.info? ty).map (·.size) = some l.length) {o : Oper} {ρ : Operand → Value} (x : Operand) (ho : o.op = .load ty x) (hx : ρ x = .pointer (some a)) :
    (execOp ρ o).run P w = .ok (.value (.agg l.toArray)) w := by
  unfold execOp
  simp only [ho, hx, Instr.loadAt, Instr.sureAddr, Sem.run_bind, Sem.run_pure, Result.andThen_ok, run_loadVar_at w a ty l d hc hu hd hi]
theorem AtA.blk {w : World} {g : Nat} {T : TypeId} {p : Pc} (h : Blk w g T (pcV p)) : AtA w ⟨g, 0, none⟩ (pcL p) := fun j v hv => by
  rw [Addr.add_mid, Nat.zero_add]
  refine (h.cell j).trans ?_
  rw [← hv]
  exact List.getElem?_toArray
theorem wpQuiet_loadA {P : Program} {ops : Array Oper} {C : World → Prop} {Q : Act → Prop} {a : Act} {o : Oper} {rest : List Oper} (ty : TypeId) (x : Operand) (ho : o.op = .load ty x) (hw : Region.wanted o (yielded ops a.tmps) = true) (b : Addr) (hx : a.eval x = .pointer (some b))
    (l : List Value) (d : TypeDesc) (hC : ∀ w, C w → AtA w b l) (hu : P.underlying ty = some d) (hd : d.isRow = true) (hi : (P.info? ty).map (·.size) = some l.length)
    (a' : Act) (ha : a.put o.dst (.agg l.toArray) = a') (h : wpQuiet P ops C Q rest a') : wpQuiet P ops C Q (o :: rest) a := by
  refine BigFrame.wpQuiet_want hw fun K hK => ⟨.agg l.toArray, fun w hw' => ?_, ?_⟩
  · unfold Oper.quietAt execOp
    simp only [ho, hx, Instr.loadAt, Instr.sureAddr, Sem.run_bind, Sem.run_pure, Result.andThen_ok, run_loadVar_at w b ty l d (hC w hw') hu hd hi]
    exact ⟨rfl, rfl⟩
  · rw [ha]; exact hK _ h
theorem okAt_zero (l : List Pc) : okAt l 0 = ckP (l.getD 0 pc0) := by unfold okAt; simp
theorem okAt_succ (l : List Pc) (j : Nat) : okAt l (j + 1) = (ckP (l.getD (j + 1) pc0) && okPair (l.getD j pc0) (l.getD (j + 1) pc0)) := by unfold okAt; simp
theorem pcE_ok {p : Pc} (h : ckP p = true) : pcE p = 0 := by unfold pcE; rw [if_pos h]
theorem pcE_bad {p : Pc} (h : ckP p = false) : pcE p = 1 := by unfold pcE; rw [h]; rfl
set_option maxRecDepth 100000 in
set_option maxHeartbeats 4000000 in
theorem check_c (A : Option Addr) (c : Nat) (l : List Pc) (w : World) (hr : RdP w w.heap.size A l) (hc : l.length ≤ c) (h1 : l.length ≤ 100000) (hs : ∀ p ∈ l, p.s.size ≤ 1000000) :
    Calls Try.prog 11 #[.slice A l.length c] w fun e w' => e = .returned (.int .i64 (chkL l : Nat)) ∧ Below w.heap.size w w' := by
  have zf := zero_pc
  have zs1 : zPc.size = 5 := by rfl
  have zs2 : ¬ zPc = #[] := by intro h; have := congrArg Array.size h; rw [zs1] at this; cases this
  have HR := Lib.hid hr
  have HRC := Lib.hid (room_c A c l w hr hc h1 hs)
  have HSZ := Lib.hid (show ∀ k, (l.getD k pc0).s.size ≤ 1000000 from fun k => by
    rcases Nat.lt_or_ge k l.length with h | h
    · exact hs _ (by simp [List.getD_eq_getElem?_getD, h])
    · rw [List.getD_eq_getElem?_getD, List.getElem?_eq_none h]; decide)
  have HCH := Lib.hid (show chkL l = if 256 < l.length ∨ 4096 < roomL l then 3 else if okTo l l.length then 0 else 1 from rfl)
  obtain ⟨r, hr'⟩ : ∃ r, r = chkL l := ⟨_, rfl⟩
  rw [← hr'] at HCH ⊢
  clear hr hs hr'
  by_cases hg : 256 < l.length
  · have HRV := Lib.hid (show r = 3 by rw [HCH.out, if_pos (.inl hg)])
    have p1 : decide ((256 : Int) < (l.length : Int)) = true := decide_eq_true (by omega)
    go_enter Try.func11, Try.ntmps11
    go_wp2_with fail
    go_ret
    exact ⟨by rw [HRV.out]; rfl, Below.refl _ _⟩
  · have p1 : decide ((256 : Int) < (l.length : Int)) = false := decide_eq_false (by omega)
    by_cases hg2 : 4096 < roomL l
    · have HRV := Lib.hid (show r = 3 by rw [HCH.out, if_pos (.inr hg2)])
      have p2 : decide ((4096 : Int) < ((roomL l : Nat) : Int)) = true := decide_eq_true (by omega)
      generalize roomL l = rm at *
      clear hg
      go_enter Try.func11, Try.ntmps11
      go_wp2_with (go_at_call 22; (refine HRC.out.mono ?_); rintro e W1 ⟨rfl, hb⟩; have HB1 := Lib.hid hb; clear hb)
      go_ret
      exact ⟨by rw [HRV.out]; rfl, HB1.out⟩
    · have HRV := Lib.hid (show r = if okTo l l.length then 0 else 1 by rw [HCH.out, if_neg (by omega)])
      have p2 : decide ((4096 : Int) < ((roomL l : Nat) : Int)) = false := decide_eq_false (by omega)
      have hlen : l.length ≤ 256 := by omega
      generalize roomL l = rm at *
      clear hg hg2
      go_enter Try.func11, Try.ntmps11
      go_wp2_with (go_at_call 22; (refine HRC.out.mono ?_); rintro e W1 ⟨rfl, hb⟩; have HB1 := Lib.hid hb; clear hb)
      go_loopw [15] (fun i wr => ∃ k : Nat, k ≤ l.length ∧ i = .int .i64 k ∧ okTo l k = true ∧ Below w.heap.size w wr) (fun i _ => l.length - (intOf i).toNat)
      case atStart => exact ⟨0, Nat.zero_le _, rfl, rfl, HB1.out⟩
      case round =>
        rename World => wr
        obtain ⟨k, hk, rfl, hok, hb⟩ := hrel
        have HOK := Lib.hid hok
        have HB := Lib.hid hb
        clear hok hb HB1 p1 p2
        by_cases hlt : k < l.length
        · have q1 : (k : Int) < (l.length : Int) := by omega
          have hrr := HR.out
          obtain ⟨ad, rfl, hab, hat⟩ := hrr.open_ (by omega)
          have HAT := Lib.hid (hat.below HB.out hab)
          have HAB := Lib.hid (show ad.block < wr.heap.size from Nat.lt_of_lt_of_le hab HB.out.size)
          have HPA := Lib.hid (HAT.out.piece k hlt)
          have HPI := Lib.hid (pcLn (l.getD k pc0))
          have HPS := Lib.hid (pcInfo (l.getD k pc0))
          have HPC := Lib.hid (fun W => pcheck_c (l.getD k pc0) W (by have := HSZ.out k; omega))
          have HNO := Lib.hid (okTo_not l k l.length hlt)
          have HNX := Lib.hid (okTo_succ l k)
          have HO0 := Lib.hid (show k = 0 → okAt l k = ckP (l.getD k pc0) from fun h => by rw [h]; exact okAt_zero l)
          have HOJ := Lib.hid (show ∀ j, k = j + 1 → okAt l k = (ckP (l.getD k pc0) && okPair (l.getD j pc0) (l.getD k pc0)) from fun j h => by rw [h]; exact okAt_succ l j)
          clear hat hab hrr
          generalize l.getD k pc0 = p at *
          go_upto_region 6 with (first
            | (refine wpList_loadA rfl 33 (.tmp 18) rfl (ad.add (k * 5)) rfl (pcL p) _ HPA.out Try.underlying33 rfl HPI.out ?_)
            | (refine wpList_store_rowTo rfl 33 (.tmp 4) (.tmp 19) rfl rfl wr.heap.size (pcV p) rfl rfl 33 zPc (by exact Blk.new wr _ _) HPS.out rfl (pcV_one _) ?_))
          have hnr := new_rowP wr 33 zPc (pcV p)
          have HX := Lib.hid hnr.1
          have HXW := Lib.hid hnr.2
          generalize (wr.alloc (Obj.cells zPc 33)).setRow wr.heap.size (pcV p) = X at *
          clear hnr
          have HXT := Lib.hid (show Below w.heap.size w X from HB.out.trans (HXW.out.mono HB.out.size))
          by_cases hck : ckP p = true
          · have HPC1 := Lib.hid (show Calls Try.prog 15 #[.agg (pcV p)] X fun e w' => e = .returned (.int .i64 0) ∧ Below X.heap.size X w' from by have h := HPC.out X; rw [pcE_ok hck] at h; exact h)
            go_upto_region 8 with (first
              | (refine wpList_load_row rfl 33 (.tmp 4) rfl wr.heap.size rfl 33 (pcV p) (0, 0) _ HX.out Try.underlying33 rfl HPS.out ?_)
              | (go_at_call 15; (refine HPC1.out.mono ?_); rintro e W2 ⟨rfl, hb2⟩; have HX2 := Lib.hid (HX.out.below hb2 HX.out.lt); have HW2 := Lib.hid (HXW.out.trans (hb2.mono HXW.out.size)); clear hb2))
            have HT2 := Lib.hid (HB.out.trans (HW2.out.mono HB.out.size))
            have HAB2 := Lib.hid (show ad.block < W2.heap.size from Nat.lt_of_lt_of_le HAB.out HW2.out.size)
            rcases Nat.eq_zero_or_pos k with h0 | h0
            · have d0 : decide (0 < k) = false := decide_eq_false (by omega)
              have HOKN := Lib.hid (show okTo l (k + 1) = true by rw [HNX.out, HOK.out, HO0.out h0, hck]; rfl)
              clear h0 hck
              go_quiet (fail)
              have HBZ := Lib.hid (belowDrewN nq HT2.out)
              generalize W2.drewN nq = Y2 at *
              go_wp2_with fail
              go_roundw
              case rel => exact ⟨k + 1, by omega, by go_num, HOKN.out, HBZ.out⟩
              case measure => simp only [intOf]; omega
            · obtain ⟨j, hj⟩ : ∃ j, k = j + 1 := ⟨k - 1, by omega⟩
              have d0 : decide (0 < k) = true := decide_eq_true (by omega)
              have fj : IntKind.i64.wrap ((k : Int) - 1) = (j : Int) := by rw [IntWalk.i64_in _ (by omega)]; omega
              have hjl : (j : Int) < (l.length : Int) := by omega
              have hj0 : (0 : Int) ≤ (j : Int) := by omega
              have HQA := Lib.hid (((HAT.out.below HW2.out HAB.out)).piece j (by omega))
              have HQI := Lib.hid (pcLn (l.getD j pc0))
              have HLL := Lib.hid (fun W => less_c (l.getD j pc0) p W)
              have HOK2 := Lib.hid (show okAt l k = (lessP (l.getD j pc0) p && !(((l.getD j pc0).s.toList == p.s.toList) && ((l.getD j pc0).t == p.t))) by rw [HOJ.out j hj, hck, okPair_less]; rfl)
              clear hj h0 hck HOJ HO0
              generalize l.getD j pc0 = q at *
              have e0 := cell_ext (HQA.out.ser)
              have e1 := cell_ext (HQA.out.tim)
              have e2 := cell_ext (show W2.cell? ⟨wr.heap.size, 0, none⟩ = some (.string p.s) from (HX2.out.cell 0).trans rfl)
              have e3 := cell_ext (show W2.cell? ⟨wr.heap.size, 1, none⟩ = some (.int .i64 p.t) from (HX2.out.cell 1).trans rfl)
              rcases (show lessP q p = true ∨ lessP q p = false by cases lessP q p <;> simp) with hL | hL
              · rw [hL] at HLL HOK2
                have HLS := Lib.hid HLL.out
                clear hL HLL
                rcases (show (q.s.toList == p.s.toList) = true ∨ (q.s.toList == p.s.toList) = false by cases (q.s.toList == p.s.toList) <;> simp) with hS | hS
                · rcases (show (q.t == p.t) = true ∨ (q.t == p.t) = false by cases (q.t == p.t) <;> simp) with hT | hT
                  · have HBADN := Lib.hid (show r = 1 by rw [HRV.out, HNO.out (by rw [HOK2.out, hS, hT]; rfl)]; rfl)
                    refine wp_region_class (Ext.wd (w0 := W2)) (by kernel_rfl) (by kernel_rfl) (Ext.of (Below.refl _ _).drew) ?_
                    repeat (first
                      | go_big_quiet_skip
                      | (refine wpQuiet_loadA 33 (.tmp 29) rfl rfl (ad.add (j * 5)) rfl (pcL q) _ (fun w hw => by obtain ⟨x, rfl⟩ := hw; exact HQA.out.below x.bel (by rw [add_block]; exact HAB2.out)) Try.underlying33 rfl HQI.out _ (by simp only [Act.put, List.setIfInBounds_toArray, List.set_cons_succ, List.set_cons_zero]; rfl) ?_)
                      | (refine wpQuiet_loadA 33 (.tmp 4) rfl rfl ⟨wr.heap.size, 0, none⟩ rfl (pcL p) _ (fun w hw => by obtain ⟨x, rfl⟩ := hw; exact AtA.blk (HX2.out.below x.bel HX2.out.lt)) Try.underlying33 rfl HPI.out _ (by simp only [Act.put, List.setIfInBounds_toArray, List.set_cons_succ, List.set_cons_zero]; rfl) ?_)
                      | (go_big_quiet_step ((go_at_call 23; exact ext_call (HLS.out _)))))
                    refine wpQuiet_nil ?_
                    rintro _ ⟨z, rfl⟩
                    have HBZ := Lib.hid (HT2.out.trans (z.bel.mono HT2.out.size))
                    generalize z.wd = Y2 at *
                    go_wp2_with fail
                    go_ret
                    exact ⟨by rw [HBADN.out]; rfl, HBZ.out⟩
                  · have HOKN := Lib.hid (show okTo l (k + 1) = true by rw [HNX.out, HOK.out, HOK2.out, hS, hT]; rfl)
                    refine wp_region_class (Ext.wd (w0 := W2)) (by kernel_rfl) (by kernel_rfl) (Ext.of (Below.refl _ _).drew) ?_
                    repeat (first
                      | go_big_quiet_skip
                      | (refine wpQuiet_loadA 33 (.tmp 29) rfl rfl (ad.add (j * 5)) rfl (pcL q) _ (fun w hw => by obtain ⟨x, rfl⟩ := hw; exact HQA.out.below x.bel (by rw [add_block]; exact HAB2.out)) Try.underlying33 rfl HQI.out _ (by simp only [Act.put, List.setIfInBounds_toArray, List.set_cons_succ, List.set_cons_zero]; rfl) ?_)
                      | (refine wpQuiet_loadA 33 (.tmp 4) rfl rfl ⟨wr.heap.size, 0, none⟩ rfl (pcL p) _ (fun w hw => by obtain ⟨x, rfl⟩ := hw; exact AtA.blk (HX2.out.below x.bel HX2.out.lt)) Try.underlying33 rfl HPI.out _ (by simp only [Act.put, List.setIfInBounds_toArray, List.set_cons_succ, List.set_cons_zero]; rfl) ?_)
                      | (go_big_quiet_step ((go_at_call 23; exact ext_call (HLS.out _)))))
                    refine wpQuiet_nil ?_
                    rintro _ ⟨z, rfl⟩
                    have HBZ := Lib.hid (HT2.out.trans (z.bel.mono HT2.out.size))
                    generalize z.wd = Y2 at *
                    go_wp2_with fail
                    go_roundw
                    case rel => exact ⟨k + 1, by omega, by go_num, HOKN.out, HBZ.out⟩
                    case measure => simp only [intOf]; omega
                · have HOKN := Lib.hid (show okTo l (k + 1) = true by rw [HNX.out, HOK.out, HOK2.out, hS]; rfl)
                  refine wp_region_class (Ext.wd (w0 := W2)) (by kernel_rfl) (by kernel_rfl) (Ext.of (Below.refl _ _).drew) ?_
                  repeat (first
                    | go_big_quiet_skip
                    | (refine wpQuiet_loadA 33 (.tmp 29) rfl rfl (ad.add (j * 5)) rfl (pcL q) _ (fun w hw => by obtain ⟨x, rfl⟩ := hw; exact HQA.out.below x.bel (by rw [add_block]; exact HAB2.out)) Try.underlying33 rfl HQI.out _ (by simp only [Act.put, List.setIfInBounds_toArray, List.set_cons_succ, List.set_cons_zero]; rfl) ?_)
                    | (refine wpQuiet_loadA 33 (.tmp 4) rfl rfl ⟨wr.heap.size, 0, none⟩ rfl (pcL p) _ (fun w hw => by obtain ⟨x, rfl⟩ := hw; exact AtA.blk (HX2.out.below x.bel HX2.out.lt)) Try.underlying33 rfl HPI.out _ (by simp only [Act.put, List.setIfInBounds_toArray, List.set_cons_succ, List.set_cons_zero]; rfl) ?_)
                    | (go_big_quiet_step ((go_at_call 23; exact ext_call (HLS.out _)))))
                  refine wpQuiet_nil ?_
                  rintro _ ⟨z, rfl⟩
                  have HBZ := Lib.hid (HT2.out.trans (z.bel.mono HT2.out.size))
                  generalize z.wd = Y2 at *
                  go_wp2_with fail
                  go_roundw
                  case rel => exact ⟨k + 1, by omega, by go_num, HOKN.out, HBZ.out⟩
                  case measure => simp only [intOf]; omega
              · rw [hL] at HLL HOK2
                have HLS := Lib.hid HLL.out
                have HBADN := Lib.hid (show r = 1 by rw [HRV.out, HNO.out (by rw [HOK2.out]; rfl)]; rfl)
                clear hL HLL
                refine wp_region_class (Ext.wd (w0 := W2)) (by kernel_rfl) (by kernel_rfl) (Ext.of (Below.refl _ _).drew) ?_
                repeat (first
                  | go_big_quiet_skip
                  | (refine wpQuiet_loadA 33 (.tmp 29) rfl rfl (ad.add (j * 5)) rfl (pcL q) _ (fun w hw => by obtain ⟨x, rfl⟩ := hw; exact HQA.out.below x.bel (by rw [add_block]; exact HAB2.out)) Try.underlying33 rfl HQI.out _ (by simp only [Act.put, List.setIfInBounds_toArray, List.set_cons_succ, List.set_cons_zero]; rfl) ?_)
                  | (refine wpQuiet_loadA 33 (.tmp 4) rfl rfl ⟨wr.heap.size, 0, none⟩ rfl (pcL p) _ (fun w hw => by obtain ⟨x, rfl⟩ := hw; exact AtA.blk (HX2.out.below x.bel HX2.out.lt)) Try.underlying33 rfl HPI.out _ (by simp only [Act.put, List.setIfInBounds_toArray, List.set_cons_succ, List.set_cons_zero]; rfl) ?_)
                  | (go_big_quiet_step ((go_at_call 23; exact ext_call (HLS.out _)))))
                refine wpQuiet_nil ?_
                rintro _ ⟨z, rfl⟩
                have HBZ := Lib.hid (HT2.out.trans (z.bel.mono HT2.out.size))
                generalize z.wd = Y2 at *
                go_wp2_with fail
                go_ret
                exact ⟨by rw [HBADN.out]; rfl, HBZ.out⟩
          · have hck' : ckP p = false := by simpa using hck
            have HPC1 := Lib.hid (show Calls Try.prog 15 #[.agg (pcV p)] X fun e w' => e = .returned (.int .i64 1) ∧ Below X.heap.size X w' from by have h := HPC.out X; rw [pcE_bad hck'] at h; exact h)
            have HRV1 := Lib.hid (show r = 1 by
              rw [HRV.out, HNO.out (by
                rcases Nat.eq_zero_or_pos k with h | h
                · rw [HO0.out h, hck']
                · rw [HOJ.out (k - 1) (by omega), hck', Bool.false_and])]
              rfl)
            clear hck hck'
            go_wp2_with (first
              | (refine wpList_load_row rfl 33 (.tmp 4) rfl wr.heap.size rfl 33 (pcV p) (0, 0) _ HX.out Try.underlying33 rfl HPS.out ?_)
              | (go_at_call 15; (refine HPC1.out.mono ?_); rintro e W2 ⟨rfl, hb2⟩; have HW2 := Lib.hid (HXT.out.trans (hb2.mono HXT.out.size)); clear hb2))
            go_ret
            exact ⟨by rw [HRV1.out]; rfl, HW2.out⟩
        · obtain rfl : k = l.length := by omega
          have HRV1 := Lib.hid (show r = 0 by rw [HRV.out, HOK.out]; rfl)
          go_wp2_with fail
          go_ret
          exact ⟨by rw [HRV1.out]; rfl, HB.out⟩
end Go.Proofs.Ytihbjnjpomljjaa
/- What pieces are sorted to, and the words of Merge's map: plain. -/
namespace Go.Proofs.Ytihbjnjpomljjaa
set_option maxRecDepth 100000
open Go.RowKit
open Go.Sort (SWO PermIn SortedIn)
set_option linter.unusedVariables false
set_option linter.unusedSimpArgs false
theorem orL2_neg (a b : Int) : orL [a, b] < 0 ↔ a < 0 ∨ (a = 0 ∧ b < 0) := by
  simp only [orL]
  split <;> (try split) <;> omega
theorem orL3_neg (a b c : Int) : orL [a, b, c] < 0 ↔ a < 0 ∨ (a = 0 ∧ (b < 0 ∨ (b = 0 ∧ c < 0))) := by
  simp only [orL]
  split <;> (try split) <;> (try split) <;> omega
def rankLt (a b : Pc) : Prop := a.t < b.t ∨ (a.t = b.t ∧ (a.n < b.n ∨ (a.n = b.n ∧ a.d < b.d)))
theorem cmpP_neg (a b : Pc) : cmpP a b < 0 ↔ ltS a.s b.s = true ∨ (a.s = b.s ∧ rankLt a b) := by
  unfold cmpP cmpD rankLt
  rw [orL3_neg, orL2_neg, cmpS_neg, cmpS_zero, cmpI_neg, cmpI_zero, cmpI_neg, cmpI_zero, cmpI_neg]
  simp only [Int.ofNat_lt, Int.ofNat_inj]
theorem ltS_tri {a b : ByteArray} (h : a ≠ b) (h2 : ltS a b = false) : ltS b a = true := bless_tri _ _ (fun e => h (toList_inj e)) h2
theorem cmpP_swo : SWO (ltOf cmpP) where
  irrefl x := by
    unfold ltOf
    rw [decide_eq_false_iff_not, cmpP_neg, ltS_irr]
    rintro (h | ⟨_, h⟩)
    · cases h
    · unfold rankLt at h; omega
  trans x y z h1 h2 := by
    unfold ltOf at *
    rw [decide_eq_true_iff, cmpP_neg] at *
    rcases h1 with h1 | ⟨e1, h1⟩ <;> rcases h2 with h2 | ⟨e2, h2⟩
    · exact .inl (ltS_trans h1 h2)
    · left; rw [← e2]; exact h1
    · left; rw [e1]; exact h2
    · refine .inr ⟨e1.trans e2, ?_⟩
      unfold rankLt at *
      omega
  ntrans x y z h1 h2 := by
    unfold ltOf at *
    rw [decide_eq_false_iff_not, cmpP_neg] at *
    intro h3
    have n1 : ltS x.s y.s = false := by
      cases h : ltS x.s y.s with
      | false => rfl
      | true => exact absurd (.inl h) h1
    have n2 : ltS y.s z.s = false := by
      cases h : ltS y.s z.s with
      | false => rfl
      | true => exact absurd (.inl h) h2
    by_cases e1 : x.s = y.s
    · by_cases e2 : y.s = z.s
      · have h4 : ¬ rankLt x y := fun h => h1 (.inr ⟨e1, h⟩)
        have h5 : ¬ rankLt y z := fun h => h2 (.inr ⟨e2, h⟩)
        rcases h3 with h3 | ⟨_, h3⟩
        · rw [e1, e2, ltS_irr] at h3; cases h3
        · unfold rankLt at *; omega
      · rcases h3 with h3 | ⟨h3, _⟩
        · rw [e1, n2] at h3; cases h3
        · exact e2 (e1.symm.trans h3)
    · have h4 := ltS_tri e1 n1
      rcases h3 with h3 | ⟨h3, _⟩
      · rw [ltS_trans h4 h3] at n2; cases n2
      · rw [← h3, h4] at n2; cases n2
theorem pair_total {M : List Pc} (h : SortP M) : ∀ {a b : Pc}, a ∈ M → b ∈ M → a ≠ b → okPair a b = true ∨ okPair b a = true := by
  induction M with
  | nil => intro a b ha; cases ha
  | cons q M ih =>
    obtain ⟨h1, h2⟩ := List.pairwise_cons.1 h
    intro a b ha hb hne
    rcases List.mem_cons.1 ha with e1 | ha2
    · rcases List.mem_cons.1 hb with e2 | hb2
      · exact absurd (e1.trans e2.symm) hne
      · rw [e1]; exact .inl (h1 b hb2)
    · rcases List.mem_cons.1 hb with e2 | hb2
      · rw [e2]; exact .inr (h1 a ha2)
      · exact ih h2 ha2 hb2 hne
theorem sort_place {M : List Pc} (h : SortP M) {a b : Pc} (ha : a ∈ M) (hb : b ∈ M) (hs : samePl a b = true) : a = b := by
  by_cases he : a = b
  · exact he
  · rcases pair_total h ha hb he with h1 | h1
    · rw [okPair_irr a b hs] at h1; cases h1
    · rw [okPair_irr b a (by rw [samePl_comm]; exact hs)] at h1; cases h1
theorem okPair_cmp {a b : Pc} (h : okPair a b = true) : cmpP a b < 0 := by
  rw [cmpP_neg]
  rw [okPair_iff] at h
  rcases h with h | ⟨e, h⟩
  · exact .inl h
  · exact .inr ⟨e, .inl h⟩
instance : Inhabited Pc := ⟨pc0⟩
/-- members of a sorted list, each once, sorted: that list -/
theorem sorted_eq {M ss : List Pc} {d' : Array Pc} (hM : SortP M) (hmem : ∀ p, p ∈ ss ↔ p ∈ M) (hnd : ss.Nodup)
    (hp : PermIn 0 ss.toArray.size ss.toArray d') (hs : SortedIn (ltOf cmpP) 0 ss.toArray.size d') : d'.toList = M := by
  obtain ⟨h1, _, h3⟩ := hp
  have e1 : d'.extract 0 ss.toArray.size = d' := by rw [← h1]; simp
  have e2 : ss.toArray.extract 0 ss.toArray.size = ss.toArray := by simp
  rw [e1, e2] at h3
  have hperm : d'.toList.Perm ss := h3
  have hnd' : d'.toList.Nodup := (hperm.nodup_iff).2 hnd
  refine sort_uniq ?_ hM fun x => by rw [hperm.mem_iff, hmem]
  unfold SortP
  rw [List.pairwise_iff_getElem]
  intro i j hi hj hij
  have hi' : i < d'.size := by simpa using hi
  have hj' : j < d'.size := by simpa using hj
  have hlt := hs i j (Nat.zero_le _) hij (by rw [← h1]; exact hj')
  rw [getElem!_pos d' i hi', getElem!_pos d' j hj'] at hlt
  have m1 : d'.toList[i] ∈ M := (hmem _).1 (hperm.mem_iff.1 (List.getElem_mem hi))
  have m2 : d'.toList[j] ∈ M := (hmem _).1 (hperm.mem_iff.1 (List.getElem_mem hj))
  have hne : d'.toList[i] ≠ d'.toList[j] := fun e => by
    exact List.pairwise_iff_getElem.1 hnd' i j hi hj hij e
  rcases pair_total hM m1 m2 hne with h | h
  · exact h
  · have := okPair_cmp h
    unfold ltOf at hlt
    rw [decide_eq_false_iff_not] at hlt
    exact absurd this (by simpa using hlt)
/-! the map -/
def plL (p : Pc) : Lit := .string (keyBytes [.string p.s.data.toList, .int .i64 p.t])
theorem plL_same {p q : Pc} (h : samePl p q = true) : plL p = plL q := by
  rw [samePl_iff] at h
  unfold plL
  rw [h.1, h.2]
theorem plL_key (p : Pc) : WideAt.IsKeyLit (plL p) := trivial
def Pin (V : Pc → Prop) : Prop := ∀ p q, V p → V q → plL p = plL q → samePl p q = true
structure PM (D : DataW Value) (M : List Pc) : Prop where
  im : Maps.IsMap D
  at_ : ∀ p ∈ M, ∀ z, D.atKey (plL p) z = .held (.agg (pcV p))
  has : ∀ kl, Maps.has D kl = true → ∃ p ∈ M, kl = plL p
theorem PM.start : PM (.map []) [] := ⟨Maps.isMap_empty, fun p h => (by cases h), fun kl h => (by simp [Maps.has_eq] at h)⟩
theorem PM.has_mem {D : DataW Value} {M : List Pc} (h : PM D M) {p : Pc} (hp : p ∈ M) : Maps.has D (plL p) = true := Maps.has_true_of_atKey (h.at_ p hp)
theorem PM.hit {D : DataW Value} {M : List Pc} (h : PM D M) {p q : Pc} (hq : q ∈ M) (hs : samePl q p = true) : Maps.has D (plL p) = true ∧ ∀ z, D.atKey (plL p) z = .held (.agg (pcV q)) := by
  rw [← plL_same hs]
  exact ⟨h.has_mem hq, h.at_ q hq⟩
theorem PM.miss {V : Pc → Prop} (hV : Pin V) {D : DataW Value} {M : List Pc} (h : PM D M) (hM : ∀ q ∈ M, V q) {p : Pc} (hp : V p) (hs : ∀ q ∈ M, samePl q p = false) : Maps.has D (plL p) = false := by
  cases hh : Maps.has D (plL p) with
  | false => rfl
  | true =>
    obtain ⟨q, hq, e⟩ := h.has _ hh
    have := hV q p (hM q hq) hp e.symm
    rw [hs q hq] at this
    cases this
theorem PM.put {V : Pc → Prop} (hV : Pin V) {D : DataW Value} {M : List Pc} (h : PM D M) (hM : ∀ q ∈ M, V q) (hS : SortP M) {p : Pc} (hp : V p) (hb : ∀ q ∈ M, samePl q p = true → better p q = true) :
    PM (D.put (plL p) (.held (.agg (pcV p)))) (insP p M) := by
  refine ⟨h.im.put _ _, fun x hx z => ?_, fun kl hkl => ?_⟩
  · rcases (mem_ins p hS x).1 hx with ⟨h1, h2⟩ | ⟨rfl, _⟩
    · have hne : plL x ≠ plL p := fun e => by
        have h3 := hV x p (hM x h1) hp e
        have h4 := hb x h1 h3
        rw [h2 h3] at h4
        cases h4
      rw [Maps.atKey_put_other hne]
      exact h.at_ x h1 z
    · exact Maps.atKey_put_same h.im (plL_key _) _ _
  · by_cases e : kl = plL p
    · exact ⟨p, (mem_ins p hS p).2 (.inr ⟨rfl, hb⟩), e⟩
    · rw [Maps.has_put_other e] at hkl
      obtain ⟨q, hq, rfl⟩ := h.has kl hkl
      exact ⟨q, (mem_ins p hS q).2 (.inl ⟨hq, fun hs => absurd (plL_same hs) e⟩), rfl⟩
theorem ins_stay {M : List Pc} (hS : SortP M) {p q : Pc} (hq : q ∈ M) (hs : samePl q p = true) (hb : better p q = false) : insP p M = M :=
  sort_uniq (ins_sorted p hS) hS fun x => by
    rw [mem_ins p hS x]
    constructor
    · rintro (⟨h, _⟩ | ⟨rfl, h⟩)
      · exact h
      · rw [h q hq hs] at hb; cases hb
    · intro hx
      refine .inl ⟨hx, fun hxs => ?_⟩
      have := sort_place hS hx hq (samePl_trans hxs (by rw [samePl_comm]; exact hs))
      rw [this]; exact hb
/-- what has come of the map so far -/
def Coll (M : List Pc) (left : Lit → Bool) (ss : List Pc) : Prop := ss.Nodup ∧ ∀ p, p ∈ ss ↔ (p ∈ M ∧ left (plL p) = false)
theorem Coll.start {D : DataW Value} {M : List Pc} (h : PM D M) : Coll M (Maps.has D) [] := ⟨List.nodup_nil, fun p => by
  constructor
  · intro h; cases h
  · rintro ⟨h1, h2⟩; rw [h.has_mem h1] at h2; cases h2⟩
theorem Coll.step {V : Pc → Prop} (hV : Pin V) {D : DataW Value} {M : List Pc} {left : Lit → Bool} {ss : List Pc} (hC : Coll M left ss) (h : PM D M) (hM : ∀ q ∈ M, V q) (hS : SortP M) {kl : Lit} {y : DataW Value} {v : Value}
    (hlk : left kl = true) (hv : y = .held v) (hat : ∀ z, D.atKey kl z = y) : ∃ p, p ∈ M ∧ v = .agg (pcV p) ∧ Coll M (fun z => left z && !z.sameKey kl) (ss ++ [p]) := by
  obtain ⟨p, hp, rfl⟩ := h.has kl (Maps.has_true_of_atKey hat)
  have h1 := h.at_ p hp .nil
  rw [hat, hv] at h1
  injection h1 with h1
  refine ⟨p, hp, h1, ?_, fun q => ?_⟩
  · rw [List.nodup_append]
    refine ⟨hC.1, by simp, fun a ha b hb e => ?_⟩
    rw [List.mem_singleton] at hb
    subst hb e
    have := ((hC.2 a).1 ha).2
    rw [hlk] at this
    cases this
  · rw [List.mem_append, List.mem_singleton, hC.2 q]
    constructor
    · rintro (⟨h2, h3⟩ | rfl)
      · exact ⟨h2, by simp [h3]⟩
      · exact ⟨hp, by simp [WideAt.sameKey_self (plL_key q)]⟩
    · rintro ⟨h2, h3⟩
      simp only [Bool.and_eq_false_iff, Bool.not_eq_false'] at h3
      rcases h3 with h3 | h3
      · exact .inl ⟨h2, h3⟩
      · right
        exact sort_place hS h2 hp (hV q p (hM q h2) (hM p hp) (WideAt.sameKey_eq h3))
theorem Coll.done {M : List Pc} {left : Lit → Bool} {ss : List Pc} (hC : Coll M left ss) (h : ∀ kl, left kl = false) : ss.Nodup ∧ ∀ p, p ∈ ss ↔ p ∈ M := ⟨hC.1, fun p => by rw [hC.2 p, h]; simp⟩
end Go.Proofs.Ytihbjnjpomljjaa
/- Merge's map: its keys; pieces of any world are its elements. -/
namespace Go.Proofs.Ytihbjnjpomljjaa
set_option maxRecDepth 100000
open Go.RowKit
set_option linter.unusedVariables false
set_option linter.unusedSimpArgs false
theorem laidOutP : laidOutB Try.prog = true := by kernel_rfl
theorem placeRow : (45 : TypeId) < Try.prog.types.size := of_decide_eq_true (by kernel_rfl)
theorem placeWide : (match Try.prog.underlying 45 with | some (.array _ _) | some (.struct _) => true | _ => false) = true := by rw [Try.underlying45]
theorem placeLaw : WideMaps.KeyLaw Try.prog 45 := deep_law_laid laidOutP (m := 2) (by omega) placeRow (by kernel_rfl) placeWide
theorem placeKeyed : Maps.Keyed Try.prog 45 := Maps.Keyed.of_law placeLaw
def plV (p : Pc) : Value := .agg #[.string p.s, .int .i64 p.t]
def PcIn (p : Pc) : Prop := p.s.size ≤ maxLen ∧ -9223372036854775808 ≤ p.t ∧ p.t ≤ 9223372036854775807
theorem place_key (p : Pc) (h : PcIn p) : keyOf Try.prog 45 (plV p) = some (plL p) := by
  obtain ⟨h1, h2, h3⟩ := h
  have hw : (Lit.int .i64 p.t).wf = true := WalkArith.wf_i64 ⟨h2, h3⟩
  have hkt : Try.prog.keyType 45 = true := by kernel_rfl
  obtain ⟨n, hn⟩ : ∃ n, Try.prog.types.size + 1 = n + 1 + 1 := ⟨Try.prog.types.size - 1, by have h : (45 : Nat) < Try.prog.types.size := placeRow; omega⟩
  have hc : Try.prog.cellsOf 45 = 2 := by kernel_rfl
  have hcs : Try.prog.cellsOf 9 = 1 := by kernel_rfl
  have hci : Try.prog.cellsOf 2 = 1 := by kernel_rfl
  unfold keyOf plV
  rw [Try.underlying45]
  simp only [hkt, Value.formed, Try.underlying45, hc, Value.cells, hn]
  simp [Program.keyLits, Try.underlying45, Try.underlying9, Try.underlying2, hc, hcs, hci, h1, hw, plL]
theorem place_pin : Pin PcIn := fun p q hp hq h => by
  have h1 := place_key p hp
  rw [h] at h1
  have h2 := placeLaw.inj h1 (place_key q hq)
  unfold plV at h2
  simp only [Value.agg.injEq] at h2
  rw [samePl_iff]
  have h3 : (#[Value.string p.s, .int .i64 p.t] : Array Value).toList = [.string q.s, .int .i64 q.t] := by rw [h2]
  simp at h3
  exact h3
/-- how an element reads: as itself -/
def asIs (v : Value) : Option (DataW Value × List MemPlace) := some (.held v, [])
/-- Merge's map in memory -/
def MapAt (w : World) (b n : Nat) (M : List Pc) : Prop := ∃ D : DataW Value, w.ownsMap Try.prog 45 asIs b n D ∧ PM D M ∧ SortP M ∧ ∀ q ∈ M, PcIn q
theorem MapAt.lt {w : World} {b n : Nat} {M : List Pc} (h : MapAt w b n M) : b < w.heap.size := by
  obtain ⟨D, h1, _⟩ := h
  exact h1.lt
theorem MapAt.made (w : World) : MapAt (w.alloc (.map #[] 0)) w.heap.size 0 [] := ⟨_, World.ownsMap_made w _ _ _, PM.start, List.Pairwise.nil, by simp⟩
theorem ownsMap_only {H : Type} {P : Program} {k : TypeId} {R : Value → Option (DataW H × List MemPlace)} {w w' : World} {b n : Nat} {D : DataW H} {S : Nat → Prop} (h : w.ownsMap P k R b n D) (ho : Only S w w') (hb : ¬ S b) : w'.ownsMap P k R b n D := by
  have hl := h.lt
  obtain ⟨es, clock, hb', r⟩ := h
  exact ⟨es, clock, (ho.block b hl hb).trans hb', r⟩
theorem MapAt.only {w w' : World} {b n : Nat} {M : List Pc} {S : Nat → Prop} (h : MapAt w b n M) (ho : Only S w w') (hb : ¬ S b) : MapAt w' b n M := by
  obtain ⟨D, h1, r⟩ := h
  exact ⟨D, ownsMap_only h1 ho hb, r⟩
theorem MapAt.next {w w' : World} {b n : Nat} {M : List Pc} (h : MapAt w b n M) (hb : Below w.heap.size w w') : MapAt w' b n M := h.only (S := fun _ => False) (Only.of_below hb) (fun h => h)
theorem MapAt.mono {w : World} {b n n' : Nat} {M : List Pc} (h : MapAt w b n M) (hn : n ≤ n') : MapAt w b n' M := by
  obtain ⟨D, h1, r⟩ := h
  exact ⟨D, h1.mono hn, r⟩
/-- a look-up: the piece that stands there, or none -/
theorem MapAt.look {w : World} {b n : Nat} {M : List Pc} (h : MapAt w b n M) {t : TypeId} (ht : Try.prog.underlying t = some (.map 45 33)) {p : Pc} (hp : PcIn p) :
    (∃ q, q ∈ M ∧ samePl q p = true ∧ (Instr.lookup t (.map (some b)) (plV p) true).run Try.prog w = .ok (.tuple #[.agg (pcV q), .bool true]) w) ∨
    ((∀ q ∈ M, samePl q p = false) ∧ (Instr.lookup t (.map (some b)) (plV p) true).run Try.prog w = .ok (.tuple #[.agg zPc, .bool false]) w) := by
  obtain ⟨D, h1, h2, h3, h4⟩ := h
  obtain ⟨v, ps, hrun, hv⟩ := h1.look_ok placeKeyed ht (zero_pc w) (zd := .held (.agg zPc)) (zp := []) rfl (place_key p hp)
  simp only [asIs, Option.some.injEq, Prod.mk.injEq] at hv
  by_cases hm : ∃ q ∈ M, samePl q p = true
  · obtain ⟨q, hq, hs⟩ := hm
    obtain ⟨h5, h6⟩ := h2.hit hq hs
    rw [h6] at hv
    have h7 := hv.1
    injection h7 with h7
    rw [h5, h7] at hrun
    exact .inl ⟨q, hq, hs, hrun⟩
  · have hm' : ∀ q ∈ M, samePl q p = false := fun q hq => by
      cases hs : samePl q p with
      | false => rfl
      | true => exact absurd ⟨q, hq, hs⟩ hm
    have h5 := h2.miss place_pin h4 hp hm'
    rw [Maps.atKey_of_not_has h5] at hv
    have h7 := hv.1
    injection h7 with h7
    rw [h5, h7] at hrun
    exact .inr ⟨hm', hrun⟩
/-- a store of a piece that counts -/
theorem MapAt.store {w : World} {b n : Nat} {M : List Pc} (h : MapAt w b n M) {t : TypeId} (ht : Try.prog.underlying t = some (.map 45 33)) (hn : n < maxLen) {p : Pc} (hp : PcIn p) (hb : ∀ q ∈ M, samePl q p = true → better p q = true) :
    ∃ w', (Instr.mapUpdate t (.map (some b)) (plV p) (.agg (pcV p))).run Try.prog w = .ok () w' ∧ MapAt w' b (n + 1) (insP p M) ∧ w.grownBy w' (some b) := by
  obtain ⟨D, h1, h2, h3, h4⟩ := h
  obtain ⟨w', hrun, h5, h6⟩ := h1.store placeKeyed ht hn (place_key p hp) (d := .held (.agg (pcV p))) (ps := []) rfl
  refine ⟨w', hrun, ⟨_, h5, h2.put place_pin h4 h3 hp hb, ins_sorted p h3, fun q hq => ?_⟩, h6.grown⟩
  rcases ins_mem p M q hq with rfl | hq
  · exact hp
  · exact h4 q hq
end Go.Proofs.Ytihbjnjpomljjaa
/- Plain: what is laid is as long whatever the values. -/
namespace Go.Proofs.Ytihbjnjpomljjaa
set_option maxRecDepth 100000
def noV (p : Pc) : Pc := ⟨p.s, p.t, 0, p.n, p.d⟩
theorem run1_noV (s : ByteArray) : ∀ l : List Pc, run1 s (l.map noV) = run1 s l
  | [] => rfl
  | p :: l => by
    rw [List.map_cons, run1, run1, run1_noV s l]
    rfl
theorem gls_noV : ∀ l : List Pc, gls (l.map noV) = gls l := grps_ind (by rfl) fun p l ih => by
  rw [List.map_cons, gls_cons, gls_cons, show (noV p).s = p.s from rfl, run1_noV, ← List.map_drop, ih]
theorem cutsL_map (f : Pc → Pc) : ∀ (ns : List Nat) (l : List Pc), cutsL ns (l.map f) = (cutsL ns l).map (·.map f)
  | [], _ => rfl
  | n :: ns, l => by
    rw [cutsL, cutsL, List.map_cons, ← List.map_take, ← List.map_drop, cutsL_map f ns]
theorem roomG_noV : ∀ gs : List (List Pc), roomG (gs.map (·.map noV)) = roomG gs
  | [] => rfl
  | g :: gs => by
    simp only [List.map_cons, roomG, roomG_noV gs]
    cases g <;> rfl
theorem roomL_noV (l : List Pc) : roomL (l.map noV) = roomL l := by
  unfold roomL grps
  rw [gls_noV, cutsL_map, roomG_noV, List.length_map]
theorem okAt_noV (l : List Pc) (i : Nat) : okAt (l.map noV) i = okAt l i := by
  have h : ∀ j, (l.map noV).getD j pc0 = noV (l.getD j pc0) := fun j => by
    simp only [List.getD_eq_getElem?_getD, List.getElem?_map]
    cases l[j]? <;> rfl
  unfold okAt
  rw [h, h]
  rfl
theorem chkL_noV (l : List Pc) : chkL (l.map noV) = chkL l := by
  unfold chkL
  rw [roomL_noV, List.length_map]
  have h : okTo (l.map noV) l.length = okTo l l.length := by
    unfold okTo
    congr 1
    funext i
    exact okAt_noV l i
  rw [h]
theorem chkL_like {l m : List Pc} (h : l.map noV = m.map noV) : chkL l = chkL m := by rw [← chkL_noV l, h, chkL_noV]
theorem roomL_like {l m : List Pc} (h : l.map noV = m.map noV) : roomL l = roomL m := by rw [← roomL_noV l, h, roomL_noV]
theorem layL_like {l m : List Pc} (h : l.map noV = m.map noV) (h0 : chkL l = 0) (hl : ∀ p ∈ l, PcOk p) (hm : ∀ p ∈ m, PcOk p) : (layL l).length = (layL m).length := by
  rw [layL_len h0 hl, layL_len ((chkL_like h).symm.trans h0) hm, roomL_like h]
/-- the first k values are other ones -/
def vset : List Int → List Pc → Nat → List Pc
  | _, l, 0 => l
  | _, [], _ => []
  | [], l, _ => l
  | v :: vs, p :: l, k + 1 => ⟨p.s, p.t, v, p.n, p.d⟩ :: vset vs l k
theorem vset_cons (v : Int) (vs : List Int) (p : Pc) (l : List Pc) (k : Nat) : vset (v :: vs) (p :: l) (k + 1) = ⟨p.s, p.t, v, p.n, p.d⟩ :: vset vs l k := by rw [vset]
theorem vset_zero (vs : List Int) (l : List Pc) : vset vs l 0 = l := by cases vs <;> cases l <;> rfl
theorem vset_noV : ∀ (vs : List Int) (l : List Pc) (k : Nat), (vset vs l k).map noV = l.map noV
  | vs, l, 0 => by rw [vset_zero]
  | vs, [], k + 1 => by cases vs <;> rfl
  | [], p :: l, k + 1 => rfl
  | v :: vs, p :: l, k + 1 => by rw [vset, List.map_cons, List.map_cons, vset_noV vs l k]; rfl
theorem vset_len (vs : List Int) (l : List Pc) (k : Nat) : (vset vs l k).length = l.length := by
  have h := congrArg List.length (vset_noV vs l k)
  simpa using h
theorem vset_succ : ∀ (vs : List Int) (l : List Pc) (k : Nat) (_ : k < vs.length) (_ : k < l.length), vset vs l (k + 1) = (vset vs l k).set k ⟨(l.getD k pc0).s, (l.getD k pc0).t, vs.getD k 0, (l.getD k pc0).n, (l.getD k pc0).d⟩
  | [], _, _, h, _ => by simp at h
  | _ :: _, [], _, _, h => by simp at h
  | v :: vs, p :: l, 0, _, _ => by
    rw [vset_zero, vset_cons, vset_zero]; rfl
  | v :: vs, p :: l, k + 1, h, h2 => by
    rw [vset, vset, vset_succ vs l k (by simpa using h) (by simpa using h2)]
    rfl
theorem vset_at (vs : List Int) (l : List Pc) (k : Nat) (h : k < l.length) : ∀ (j : Nat), j ≤ k → (vset vs l j).getD k pc0 = l.getD k pc0 := by
  intro j hj
  induction j generalizing vs l k with
  | zero => rw [vset_zero]
  | succ j ih =>
    cases vs with
    | nil => cases l <;> rfl
    | cons v vs =>
      cases l with
      | nil => rfl
      | cons p l =>
        obtain ⟨k, rfl⟩ : ∃ k', k = k' + 1 := ⟨k - 1, by omega⟩
        rw [vset]
        exact ih vs l k (by simpa using h) (by omega)
theorem vset_ok {vs : List Int} (hv : ∀ v ∈ vs, -9223372036854775808 ≤ v ∧ v ≤ 9223372036854775807) {n : Nat} : ∀ {l : List Pc} (k : Nat) (_ : ∀ p ∈ l, PcOk p ∧ p.s.size ≤ n), ∀ p ∈ vset vs l k, PcOk p ∧ p.s.size ≤ n := by
  induction vs with
  | nil => intro l k h; cases k <;> cases l <;> exact h
  | cons v vs ih =>
    intro l k h
    cases k with
    | zero => rw [vset_zero]; exact h
    | succ k =>
      cases l with
      | nil => exact h
      | cons p l =>
        intro q hq
        rw [vset] at hq
        rcases List.mem_cons.1 hq with rfl | hq
        · have h1 := h p (List.mem_cons_self ..)
          have h2 := hv v (List.mem_cons_self ..)
          exact ⟨⟨h1.1.t0, h1.1.t1, h2.1, h2.2, h1.1.n1, h1.1.d1⟩, h1.2⟩
        · exact ih (fun v hv' => hv v (List.mem_cons_of_mem _ hv')) k (fun p hp => h p (List.mem_cons_of_mem _ hp)) q hq
end Go.Proofs.Ytihbjnjpomljjaa
/- Contracts: numbers laid and read. -/
namespace Go.Proofs.Ytihbjnjpomljjaa
set_option maxRecDepth 100000
open Go.RowKit
set_option linter.unusedVariables false
set_option linter.unusedSimpArgs false
theorem div_pow_succ (n k : Nat) : n / 256 ^ k / 256 = n / 256 ^ (k + 1) := by rw [Nat.div_div_eq_div_mul, ← Nat.pow_succ]
theorem div_pow_lt (n k : Nat) (h : n < 2 ^ 64) : n / 256 ^ k < 2 ^ 64 := Nat.lt_of_le_of_lt (Nat.div_le_self _ _) h
/-- what num.Put lays behind -/
def tailOf (n : Nat) (wd : Int) : List Nat := if 8 < wd then [] else form n wd.toNat
/-- num.Get's error -/
def getErr (len : Nat) (wd : Int) : Int := if wd < 1 ∨ 8 < wd then 1 else if (len : Int) < wd then 2 else 0
def getNum (l : List Nat) (wd : Int) : Nat := if getErr l.length wd = 0 then number (l.take wd.toNat) else 0
theorem or_low (a c : Nat) (ha : a < 72057594037927936) (hc : c < 256) : Go.bits BinOp.or IntKind.u64 ((a : Int) * 256) (c : Int) = ((a * 256 + c : Nat) : Int) := by
  have e : (a : Int) * 256 = ((a * 256 : Nat) : Int) := by omega
  rw [e, u64_or_nat _ _ (by omega) (by omega), show a * 256 = 2 ^ 8 * a by omega, Nat.two_pow_add_eq_or_of_lt (i := 8) hc a]
end Go.Proofs.Ytihbjnjpomljjaa
/- Contracts: short forms, zigzags. -/
namespace Go.Proofs.Ytihbjnjpomljjaa
set_option maxRecDepth 100000
open Go.RowKit
set_option linter.unusedVariables false
set_option linter.unusedSimpArgs false
/-- the first j bytes of a short form that goes on -/
def shortTo (n j : Nat) : List Nat := (List.range j).map fun i => n / 128 ^ i % 128 + 128
theorem shortTo_succ (n j : Nat) : shortTo n (j + 1) = shortTo n j ++ [n / 128 ^ j % 128 + 128] := by simp [shortTo, List.range_succ]
theorem shortTo_len (n j : Nat) : (shortTo n j).length = j := by simp [shortTo]
def ShortGives (l : List Nat) (n : Nat) (w : World) (e : Ending) (w' : World) : Prop :=
  ∃ j, (∀ i, i < j → 128 ≤ n / 128 ^ i) ∧ n / 128 ^ j < 128 ∧ Gives (l ++ shortTo n j ++ [n / 128 ^ j]) w e w'
theorem or128 (x : Nat) : Go.bits BinOp.or IntKind.u8 ((x : Int) % 256) 128 = ((x % 128 + 128 : Nat) : Int) := by
  have h : ∀ y, y < 256 → Go.bits BinOp.or IntKind.u8 ((y : Nat) : Int) 128 = ((y % 128 + 128 : Nat) : Int) := by decide +kernel
  have := h (x % 256) (Nat.mod_lt _ (by decide))
  rw [show ((x % 256 : Nat) : Int) = (x : Int) % 256 by omega, show x % 256 % 128 = x % 128 by omega] at this
  exact this
theorem div128_succ (n k : Nat) : n / 128 ^ k / 128 = n / 128 ^ (k + 1) := by rw [Nat.div_div_eq_div_mul, ← Nat.pow_succ]
theorem short_bound (n j : Nat) (hn : n < 2 ^ 64) (h : ∀ i, i < j → 128 ≤ n / 128 ^ i) : j ≤ 9 := by
  rcases Nat.lt_or_ge 9 j with hj | hj
  · have h9 := h 9 hj
    have : n / 128 ^ 9 < 128 := by
      rw [Nat.div_lt_iff_lt_mul (by decide)]
      exact Nat.lt_of_lt_of_le hn (by decide)
    omega
  · exact hj
theorem sh_shortTo (n : Nat) : ∀ j, (∀ i, i < j → 128 ≤ n / 128 ^ i) → n / 128 ^ j < 128 → shortTo n j ++ [n / 128 ^ j] = sh n := by
  induction n using Nat.strongRecOn with
  | ind n ih =>
    intro j h1 h2
    cases j with
    | zero =>
      rw [sh, dif_pos (by simpa using h2)]
      simp [shortTo]
    | succ j =>
      have h0 : 128 ≤ n := by simpa using h1 0 (by omega)
      rw [sh, dif_neg (by omega)]
      have e := ih (n / 128) (by omega) j (fun i hi => by have := h1 (i + 1) (by omega); rwa [Nat.pow_succ, Nat.mul_comm, ← Nat.div_div_eq_div_mul] at this) (by rwa [Nat.pow_succ, Nat.mul_comm, ← Nat.div_div_eq_div_mul] at h2)
      rw [← e, Nat.pow_succ, Nat.mul_comm, ← Nat.div_div_eq_div_mul]
      unfold shortTo
      rw [List.range_succ_eq_map, List.map_cons, List.map_map]
      simp only [Nat.pow_zero, Nat.div_one, List.cons_append, List.cons.injEq, true_and]
      congr 1
      apply List.map_congr_left
      intro i _
      simp only [Function.comp, Nat.succ_eq_add_one]
      rw [Nat.pow_succ, Nat.mul_comm, ← Nat.div_div_eq_div_mul]
end Go.Proofs.Ytihbjnjpomljjaa
/- Contracts: zigzags. -/
namespace Go.Proofs.Ytihbjnjpomljjaa
set_option maxRecDepth 100000
open Go.RowKit
set_option linter.unusedVariables false
set_option linter.unusedSimpArgs false
theorem wrapU (x : Int) : IntKind.u64.wrap x = x % 18446744073709551616 := by simp [IntKind.wrap, IntKind.signed, IntKind.bits]
theorem xor_ones (a : Nat) (ha : a < 18446744073709551616) : a ^^^ 18446744073709551615 = 18446744073709551615 - a := by
  have h := BitVec.xor_allOnes (x := BitVec.ofNat 64 a)
  have h2 := congrArg BitVec.toNat h
  rw [BitVec.toNat_xor, BitVec.toNat_not, BitVec.toNat_ofNat, BitVec.toNat_allOnes, Nat.mod_eq_of_lt (by simpa using ha)] at h2
  simpa using h2
theorem zig_pos (n : Int) (h0 : 0 ≤ n) (h1 : n ≤ 9223372036854775807) : bits BinOp.xor IntKind.u64 (n * 2) (n / 9223372036854775808) = (zig n : Nat) := by
  rw [u64_xor _ _ (by omega) (by omega) (by omega) (by omega), show (n / 9223372036854775808).toNat = 0 by omega, Nat.xor_zero]
  unfold zig
  rw [if_pos h0]
  congr 2
  omega
theorem zig_neg (n : Int) (h0 : n < 0) (h1 : -9223372036854775808 ≤ n) : bits BinOp.xor IntKind.u64 (IntKind.u64.wrap (IntKind.u64.wrap n * 2)) (IntKind.u64.wrap (n / 9223372036854775808)) = (zig n : Nat) := by
  have e1 : IntKind.u64.wrap (IntKind.u64.wrap n * 2) = n * 2 + 18446744073709551616 := by
    rw [wrapU, wrapU]
    omega
  have e2 : IntKind.u64.wrap (n / 9223372036854775808) = 18446744073709551615 := by
    rw [show n / 9223372036854775808 = -1 by omega]
    rfl
  rw [e1, e2, u64_xor _ _ (by omega) (by omega) (by omega) (by omega), show (18446744073709551615 : Int).toNat = 18446744073709551615 from rfl, xor_ones _ (by omega)]
  unfold zig
  rw [if_neg (by omega)]
  congr 1
  omega
theorem zag_even (n : Nat) (h : n % 2 = 0) (h1 : n < 18446744073709551616) : bits BinOp.xor IntKind.i64 ((n : Int) / 2) (wrap64 (-wrap64 (bits BinOp.and IntKind.u64 (n : Int) 1))) = zag n := by
  have e : bits BinOp.and IntKind.u64 (n : Int) 1 = 0 := by
    have h2 := u64_and_nat n 1 h1 (by decide)
    rw [show ((1 : Nat) : Int) = 1 from rfl] at h2
    rw [h2, Nat.and_one_is_mod, h]
    rfl
  rw [e]
  unfold zag
  rw [if_pos h]
  rw [show wrap64 (-wrap64 0) = 0 by simp [wrap64]]
  obtain ⟨m, hm⟩ : ∃ m : Nat, m = n / 2 := ⟨_, rfl⟩
  rw [show (n : Int) / 2 = (m : Int) by omega, ← hm]
  show IntKind.i64.wrap ((BitVec.ofInt 64 (m : Int) ^^^ BitVec.ofInt 64 0).toNat : Nat) = _
  rw [show BitVec.ofInt 64 0 = 0#64 from rfl, BitVec.xor_zero, BitVec.toNat_ofInt, IntKind.wrap_i64]
  omega
theorem zag_odd (n : Nat) (h : n % 2 = 1) (h1 : n < 18446744073709551616) : bits BinOp.xor IntKind.i64 ((n : Int) / 2) (wrap64 (-wrap64 (bits BinOp.and IntKind.u64 (n : Int) 1))) = zag n := by
  have e : bits BinOp.and IntKind.u64 (n : Int) 1 = 1 := by
    have h2 := u64_and_nat n 1 h1 (by decide)
    rw [show ((1 : Nat) : Int) = 1 from rfl] at h2
    rw [h2, Nat.and_one_is_mod, h]
    rfl
  rw [e]
  unfold zag
  rw [if_neg (by omega)]
  rw [show wrap64 (-wrap64 1) = -1 by simp [wrap64]]
  obtain ⟨m, hm⟩ : ∃ m : Nat, m = n / 2 := ⟨_, rfl⟩
  rw [show (n : Int) / 2 = (m : Int) by omega, ← hm]
  show IntKind.i64.wrap ((BitVec.ofInt 64 (m : Int) ^^^ BitVec.ofInt 64 (-1)).toNat : Nat) = _
  rw [show BitVec.ofInt 64 (-1) = BitVec.allOnes 64 from rfl, BitVec.xor_allOnes, BitVec.toNat_not, BitVec.toNat_ofInt, IntKind.wrap_i64]
  omega
theorem rzig_neg (n : Int) (h0 : n < 0) (h1 : -9223372036854775808 ≤ n) : IntKind.u64.wrap (IntKind.u64.wrap (IntKind.u64.wrap (-IntKind.u64.wrap n) * 2) - 1) = (zig n : Nat) := by
  unfold zig
  rw [if_neg (by omega)]
  rw [wrapU, wrapU, wrapU, wrapU]
  omega
end Go.Proofs.Ytihbjnjpomljjaa
/- Contract: short forms, by the document. -/
namespace Go.Proofs.Ytihbjnjpomljjaa
set_option maxRecDepth 100000
open Go.RowKit
set_option linter.unusedVariables false
set_option linter.unusedSimpArgs false
end Go.Proofs.Ytihbjnjpomljjaa
/- Contract: a short form that is read. -/
namespace Go.Proofs.Ytihbjnjpomljjaa
set_option maxRecDepth 100000
open Go.RowKit
set_option linter.unusedVariables false
set_option linter.unusedSimpArgs false
theorem rd_cellP {w : World} {B : Nat} {ad : Addr} {l : List Nat} (h : Rd w B (some ad) (byt l)) (i : Nat) (hi : i < l.length) : w.cell? (ad.add i) = some (.int .u8 (l.getD i 0 : Nat)) := by
  obtain ⟨a1, e1, _, hc⟩ := h.byte hi
  injection e1 with e1
  subst e1
  exact hc
end Go.Proofs.Ytihbjnjpomljjaa
/- Contract: the pieces of a series are laid. -/
namespace Go.Proofs.Ytihbjnjpomljjaa
set_option maxRecDepth 100000
open Go.RowKit
set_option linter.unusedVariables false
set_option linter.unusedSimpArgs false
section
variable {P : Program} {ops : Array Oper} {Z : World} {ls : List Tmp} {V : Tmp → Value → World → Prop} {Q : Act → Prop} {rest : List Oper} {o : Oper} {b : Act}
theorem wpLoud_valDP (d : Tmp) (hd : o.dst = some d) (hw : Region.wanted o (yielded ops b.tmps) = true) (hq : quietB ops ls o = true) (hsel : ∀ cs t, o.op ≠ .select cs t) (v : Value) (hr : ∀ x : Ext Z, (execOp b.eval o).run P x.wd = .ok (.value v) x.wd)
    (b' : Act) (hb : b.put o.dst v = b') (h : wpLoud P ops Z ls V Q rest b') : wpLoud P ops Z ls V Q (o :: rest) b := wpLoud_val hw hq hsel v hr b' hb h
end
theorem OwnB.rdAtP {w : World} {base : Nat} {A : Option Addr} {n c : Nat} {l : List Nat} (h : OwnB w base (.slice A n c) l) : Rd w w.heap.size A (byt l) := by
  obtain ⟨A', c', e, _, _, h3⟩ := h.rd
  injection e with e1 e2 e3
  rw [e1]; exact h3
theorem tailOf2P (n : Nat) : tailOf n 2 = form n 2 := rfl
theorem strCells_sby (s : ByteArray) : Lib.strCells s = byt (sby s) := by
  unfold Lib.strCells byt sby
  cases s with
  | mk d => rw [ByteArray.toList_mk, List.map_map]; rfl
theorem own_str {w5 : World} {base : Nat} {v5 : Value} {l : List Nat} {s : ByteArray} (h : w5.ownsRow base 5 1 v5 (l.length + s.size) (byt l ++ Lib.strCells s)) : OwnB w5 base v5 (l ++ sby s) := by
  unfold OwnB
  rw [List.length_append, sby_len, ← byt_app, ← strCells_sby]
  exact h
theorem below_grown {w w' : World} {base : Nat} {v : Value} {l : List Nat} (h : OwnB w base v l) (hg : w.grownBy w' v.ownBlock) (hb : base ≤ w.heap.size) : Below base w w' :=
  (Below.refl _ _).grown hg hb (fun k hk => own_base h k hk)
theorem wrap_w (x : Int) : wrap64 x = w64 x := by unfold wrap64 w64; rfl
/-- a row, and then the others -/
theorem rows_cons (t step v : Int) (p : Pc) (l : List Pc) : rowsL t step v (p :: l) = (((sh (zig (wrap64 (wrap64 (p.t - t) - step))) ++ sh (zig (wrap64 (p.v - v)))) ++ sh p.n) ++ form p.d 2) ++ rowsL p.t (wrap64 (p.t - t)) p.v l := by simp only [wrap_w]; rfl
theorem wrap64_lo (x : Int) : -9223372036854775808 ≤ wrap64 x := by rw [wrap_w]; exact w64_lo x
theorem wrap64_hi (x : Int) : wrap64 x ≤ 9223372036854775807 := by rw [wrap_w]; exact w64_hi x
theorem idle2 {x y : Value} (h1 : isTok x = false) (h2 : isTok y = false) : (!isTok x && (!isTok y && true)) = true := by rw [h1, h2]; rfl
structure PcBlk (W : World) (g : Nat) (p : Pc) : Prop where
  b : Blk W g 33 (pcV p)
theorem PcBlk.next {W W' : World} {g : Nat} {p : Pc} (h : PcBlk W g p) (hb : Below W.heap.size W W') : PcBlk W' g p := ⟨h.b.below hb h.b.lt⟩
theorem PcBlk.c1 {W : World} {g : Nat} {p : Pc} (h : PcBlk W g p) : W.cell? ⟨g, 1, none⟩ = some (.int .i64 p.t) := (h.b.cell 1).trans rfl
theorem PcBlk.c2 {W : World} {g : Nat} {p : Pc} (h : PcBlk W g p) : W.cell? ⟨g, 2, none⟩ = some (.int .i64 p.v) := (h.b.cell 2).trans rfl
theorem PcBlk.c3 {W : World} {g : Nat} {p : Pc} (h : PcBlk W g p) : W.cell? ⟨g, 3, none⟩ = some (.int .u64 (p.n : Int)) := (h.b.cell 3).trans rfl
theorem PcBlk.c4 {W : World} {g : Nat} {p : Pc} (h : PcBlk W g p) : W.cell? ⟨g, 4, none⟩ = some (.int .u16 (p.d : Int)) := (h.b.cell 4).trans rfl
end Go.Proofs.Ytihbjnjpomljjaa
/- Contract: the form of pieces. -/
namespace Go.Proofs.Ytihbjnjpomljjaa
set_option maxRecDepth 100000
open Go.RowKit
set_option linter.unusedVariables false
set_option linter.unusedSimpArgs false
/-- the groups, of any pieces -/
theorem groupsAny_c (A : Option Addr) (c : Nat) (l : List Pc) (w : World) (hr : RdP w w.heap.size A l) (hc : l.length ≤ c) (h1 : l.length ≤ 100000) :
    ∃ ad, (0 < l.length → A = some ad ∧ AtA w ad (pcs l) ∧ ad.block < w.heap.size) ∧ Calls Try.prog 31 #[.slice A l.length c] w fun e w' => ∃ v, e = .returned v ∧ OwnG w' w.heap.size v (gv ad c 0 (gls l)) ∧ Below w.heap.size w w' := by
  rcases Nat.eq_zero_or_pos l.length with h0 | h0
  · obtain rfl : l = [] := List.eq_nil_of_length_eq_zero h0
    refine ⟨⟨0, 0, none⟩, fun h => by simp at h, ?_⟩
    refine (groups0_c A c w).mono ?_
    rintro e w' ⟨rfl, hb⟩
    exact ⟨_, rfl, by rw [gls_nil]; exact ⟨rfl, .inl ⟨rfl, rfl⟩⟩, hb⟩
  · obtain ⟨ad, rfl, hab, hat⟩ := hr.open_ h0
    exact ⟨ad, fun _ => ⟨rfl, hat, hab⟩, groups_c ad c l w hat hab hc h0 h1⟩
theorem gls_len_le : ∀ l : List Pc, (gls l).length ≤ l.length := grps_ind (by rw [gls_nil]; exact Nat.le_refl _) fun p l ih => by
  rw [gls_cons, List.length_cons, List.length_cons]
  rw [List.length_drop] at ih
  omega
theorem AtA.drop_ {w : World} {ad : Addr} {l : List Pc} (h : AtA w ad (pcs l)) (off m : Nat) : AtA w (ad.add (off * 5)) (pcs ((l.drop off).take m)) := by
  rw [pcs_take, pcs_drop]
  exact h.drop (off * 5) (m * 5)
end Go.Proofs.Ytihbjnjpomljjaa
/- append of zeros (gc's append-of-make) onto a row of the call's own. -/
namespace Go.Proofs.Ytihbjnjpomljjaa
set_option maxRecDepth 100000
open Go.RowKit
set_option linter.unusedVariables false
set_option linter.unusedSimpArgs false
section
variable {P : Program} (w : World)
theorem run_room_zeros (t tn ty e : TypeId) (i : TypeInfo) (z : Value) (kn kq : IntKind) (ht : P.underlying t = some (.slice e)) (htn : P.underlying tn = some (.int kn)) (hi : P.info? e = some i) (hz : i.zero = some z) (hs : i.size = 1) (hzs : z.cells.size = 1)
    (g sLen sCap : Nat) (cur : Array Value) (hg : w.heap[g]? = some (.cells cur e (0, 0)))
    (m : Nat) (h0 : 0 < m) (hm : m ≤ 1000000000) (hb : i.bytes ≤ 1000) (news : List Value) (hn : (Builtin.zeroCells z.cells m).toList = news) (h1 : ∀ u ∈ news, u.oneCell' = true)
    (hroom : sLen + m ≤ sCap) (hfit : sLen + m ≤ cur.size) :
    (Builtin.append_ #[t, tn] ty #[.slice (some ⟨g, 0, none⟩) sLen sCap, .int kq m]).run P w =
      .ok (.slice (some ⟨g, 0, none⟩) (sLen + m) sCap) (w.setRow g (cur.toList.take sLen ++ news ++ cur.toList.drop (sLen + news.length)).toArray) := by
  have hnl : news.length = m := by rw [← hn, Array.length_toList]; simp [Builtin.zeroCells, hzs]
  have hst := run_storeCells_at P g sLen e news 0 cur w hg (by rw [hnl]; simpa using hfit) h1
  simp only [Nat.add_zero] at hst
  have hw : IntKind.i64.wrap (m : Int) = m := by rw [IntKind.wrap_i64]; omega
  have hneg : ¬ ((m : Int) < 0) := by omega
  have h48i : ¬ (281474976710656 < (m : Int) * (i.bytes : Int)) := by
    have : (m : Int) * (i.bytes : Int) ≤ 1000000000 * 1000 := by
      rw [← Int.natCast_mul]
      have := Nat.mul_le_mul hm hb
      omega
    omega
  have hmz : m ≠ 0 := by omega
  simp [Builtin.append_, run_underlying ht, run_underlying htn, sizeOf, typeInfo, zeroValue, hi, hz, hs, asInt, asIntOf, hw, hneg, h48i, hroom, hmz, Addr.add_lit, hn, hst]
theorem run_app_zeros (base : Nat) (t tn ty e : TypeId) (i : TypeInfo) (z : Value) (kn kq : IntKind) (ht : P.underlying t = some (.slice e)) (htn : P.underlying tn = some (.int kn)) (hi : P.info? e = some i) (hz : i.zero = some z) (hs : i.size = 1) (hzs : z.cells.size = 1) (hby : i.bytes = 1)
    (v : Value) (n : Nat) (xs : List Value) (hown : w.ownsRow base e 1 v n xs) (m : Nat) (hm : n + m ≤ 1000000000) (news : List Value) (hn : (Builtin.zeroCells z.cells m).toList = news) (h1 : ∀ u ∈ news, u.oneCell' = true) (hbase : base ≤ w.heap.size) :
    ∃ v' w', (Builtin.append_ #[t, tn] ty #[v, .int kq m]).run P w = .ok v' w' ∧ Apped w base e 1 v w' v' (n + m) (xs ++ news) := by
  have hnl : news.length = m := by rw [← hn, Array.length_toList]; simp [Builtin.zeroCells, hzs]
  have h63 : n + m ≤ maxLen := by simp only [maxLen]; omega
  have hlen : (xs ++ news).length = (n + m) * 1 := by rw [List.length_append, hown.1, hnl]; omega
  have hw : IntKind.i64.wrap (m : Int) = m := by rw [IntKind.wrap_i64]; omega
  have hna : (Builtin.zeroCells z.cells m) = news.toArray := by rw [← hn, Array.toArray_toList]
  have grown : ∀ (old : Nat), old < n + m → ∀ (row : Option Nat),
      (w.drew.alloc (.cells (xs.toArray ++ Builtin.zeroCells z.cells m ++ Builtin.zeroCells z.cells (grownCap w (n + m) old e - (n + m))) e)).ownsRow base e 1
        (.slice (some ⟨w.heap.size, 0, none⟩) (n + m) (grownCap w (n + m) old e)) (n + m) (xs ++ news) ∧
      w.grownBy (w.drew.alloc (.cells (xs.toArray ++ Builtin.zeroCells z.cells m ++ Builtin.zeroCells z.cells (grownCap w (n + m) old e - (n + m))) e)) row := by
    intro old ho row
    have hge := grownCap_ge w (n + m) old e
    have hcm : grownCap w (n + m) old e ≤ maxLen := grownCap_le_maxLen w (n + m) old e h63
    rw [hna]
    refine ⟨⟨hlen, .inr ⟨w.heap.size, _, _, rfl, hbase, heap_alloc_new w.drew _, hge, hcm, ?_, ?_⟩⟩, ⟨rfl, rfl, rfl, by simp, fun k hk _ => heap_alloc_old _ _ hk⟩⟩
    · simp only [Array.size_append, List.size_toArray, size_zeroCells, hzs, hown.1, hnl]
      omega
    · simp only [Array.toList_append, List.append_assoc]
      rw [← List.append_assoc, ← hlen]
      exact List.take_left
  rcases Nat.eq_zero_or_pos m with hm0 | hm0
  · subst hm0
    obtain rfl : news = [] := List.eq_nil_of_length_eq_zero hnl
    refine ⟨v, w, ?_, ⟨by simpa using hown, World.grownBy.refl w _, .inl rfl⟩⟩
    rcases hown.2 with ⟨rfl, rfl⟩ | ⟨g, cap, cur, rfl, hbg, hg, hnc, hcm, hcs, htake⟩
    · simp [Builtin.append_, run_underlying ht, run_underlying htn, sizeOf, typeInfo, hi, asInt, asIntOf, IntKind.wrap_i64]
    · simp [Builtin.append_, run_underlying ht, run_underlying htn, sizeOf, typeInfo, hi, asInt, asIntOf, IntKind.wrap_i64, hnc, storeCells]
  · rcases hown.2 with ⟨rfl, rfl⟩ | ⟨g, cap, cur, rfl, hbg, hg, hnc, hcm, hcs, htake⟩
    · obtain rfl : xs = [] := List.eq_nil_of_length_eq_zero (by simpa using hown.1)
      have hr := Lib.run_append_nil_zeros (P := P) w t tn ty e i z kq kn ht htn hi hz m hm0 (by omega) (by omega) (by rw [hby]; omega)
      have hgr := grown 0 (by omega) (Value.ownBlock (.slice none 0 0))
      simp only [Nat.zero_add, List.nil_append, Array.empty_append] at hgr ⊢
      exact ⟨_, _, hr, hgr.1, hgr.2, Or.inr rfl⟩
    · by_cases hroom : n + m ≤ cap
      · have hr := run_room_zeros (P := P) w t tn ty e i z kn kq ht htn hi hz hs hzs g n cap cur hg m hm0 (by omega) (by omega) news hn h1 hroom (by omega)
        refine ⟨_, _, hr, ⟨hlen, .inr ⟨g, cap, _, rfl, hbg, setRow_heap w g cur _ e _ hg, hroom, hcm, ?_, ?_⟩⟩, ⟨rfl, rfl, rfl, by simp, fun k _ hk => setRow_other w g k _ (fun e => hk (by simp [Value.ownBlock, e]))⟩, Or.inl rfl⟩
        · simp only [List.size_toArray, List.length_append, List.length_take, List.length_drop, Array.length_toList]
          omega
        · rw [Nat.mul_one] at htake
          rw [htake, ← hlen]
          exact List.take_left
      · have holds : ∀ j u, xs[j]? = some u → w.cell? ((⟨g, 0, none⟩ : Addr).add j) = some u := hown.cells (g := g) rfl
        have hold := run_firstCells_some (P := P) w.drew i.size n ⟨g, 0, none⟩ n cap xs (by rw [hs]; exact hown.1) (by simpa using holds)
        have hr := Lib.run_append_grow_zeros (P := P) w t tn ty e i z kq kn ht htn hi hz (some ⟨g, 0, none⟩) n cap xs hold m hm0 (by omega) (by omega) (by omega) (by rw [hby]; omega) (growslice_fits (by omega) (by rw [hby]; omega))
        have hgr := grown cap (by omega) (Value.ownBlock (.slice (some ⟨g, 0, none⟩) n cap))
        exact ⟨_, _, hr, hgr.1, hgr.2, Or.inr rfl⟩
end
theorem zero_bytes (n : Nat) : (Builtin.zeroCells (Value.int .u8 0).cells n).toList = byt (List.replicate n 0) := by
  unfold Builtin.zeroCells
  simp only [Value.cells, byt, Array.toList_map, Array.toList_range, List.map_replicate]
  apply List.ext_getElem
  · simp
  · intro i h1 h2
    simp [Nat.mod_one]
end Go.Proofs.Ytihbjnjpomljjaa
/- Contract: delta.Lay. -/
namespace Go.Proofs.Ytihbjnjpomljjaa
set_option maxRecDepth 100000
open Go.RowKit
set_option linter.unusedVariables false
set_option linter.unusedSimpArgs false
/-- what Lay gives -/
def layR (l : List Pc) : List Nat := if chkL l = 0 then layL l else []
theorem Rd.ups {w : World} {B B' : Nat} {A : Option Addr} {xs : List Value} (h : Rd w B A xs) (hB : B ≤ B') : Rd w B' A xs := fun hn => by
  obtain ⟨ad, e, h1, h2⟩ := h hn
  exact ⟨ad, e, Nat.lt_of_lt_of_le h1 hB, h2⟩
theorem RdP.next {w w' : World} {A : Option Addr} {l : List Pc} (h : RdP w w.heap.size A l) (hb : Below w.heap.size w w') : RdP w' w'.heap.size A l := Rd.ups (Rd.below h hb) hb.size
end Go.Proofs.Ytihbjnjpomljjaa
/- Rows of pieces of the call's own. -/
namespace Go.Proofs.Ytihbjnjpomljjaa
set_option maxRecDepth 100000
open Go.RowKit
set_option linter.unusedVariables false
set_option linter.unusedSimpArgs false
theorem pieceInfo : (Try.prog.info? 33).map (fun i => (i.zero, i.size, i.bytes)) = some (some (.agg zPc), 5, 48) := by kernel_rfl
theorem piece_parts : ∃ i, Try.prog.info? 33 = some i ∧ i.zero = some (.agg zPc) ∧ i.size = 5 ∧ i.bytes = 48 := by
  obtain ⟨i, hi, hi2⟩ := Option.map_eq_some_iff.1 pieceInfo
  simp only [Prod.mk.injEq] at hi2
  exact ⟨i, hi, hi2.1, hi2.2.1, hi2.2.2⟩
theorem pcs_oneCell (l : List Pc) : ∀ u ∈ pcs l, u.oneCell' = true := by
  intro u hu
  obtain ⟨c, hc, hu⟩ := List.mem_flatten.1 hu
  obtain ⟨p, _, rfl⟩ := List.mem_map.1 hc
  simp [pcL] at hu
  rcases hu with rfl | rfl | rfl | rfl | rfl <;> rfl
/-- pieces of the call's own -/
def OwnP (w : World) (base : Nat) (v : Value) (l : List Pc) : Prop := w.ownsRow base 33 5 v l.length (pcs l)
theorem OwnP.rd {w : World} {base : Nat} {v : Value} {l : List Pc} (h : OwnP w base v l) : ∃ A cap, v = .slice A l.length cap ∧ l.length ≤ cap ∧ cap ≤ maxLen ∧ RdP w w.heap.size A l := own_rd h
theorem OwnP.next {w w' : World} {base : Nat} {v : Value} {l : List Pc} (h : OwnP w base v l) (hb : Below w.heap.size w w') : OwnP w' base v l := own_keep (S := fun _ => False) h (Only.of_below hb) (fun _ _ h => h)
theorem OwnP.rdAt {w : World} {base : Nat} {A : Option Addr} {n c : Nat} {l : List Pc} (h : OwnP w base (.slice A n c) l) : RdP w w.heap.size A l := by
  obtain ⟨A', c', e, _, _, h3⟩ := h.rd
  injection e with e1 e2 e3
  rw [e1]; exact h3
theorem OwnP.open_ {w : World} {base : Nat} {A : Option Addr} {n cap : Nat} {l : List Pc} (h : OwnP w base (.slice A n cap) l) (hne : 0 < l.length) : ∃ g rest, A = some ⟨g, 0, none⟩ ∧ base ≤ g ∧ Blk w g 33 (pcs l ++ rest).toArray ∧ l.length ≤ cap ∧ cap ≤ maxLen ∧ rest.length + l.length * 5 = cap * 5 := by
  rcases h.2 with ⟨_, h0⟩ | ⟨g, cap', cur, e, hb, hh, hn, hm, hc, ht⟩
  · omega
  · injection e with e1 e2 e3
    subst e1 e3
    refine ⟨g, cur.toList.drop (l.length * 5), rfl, hb, ?_, hn, hm, ?_⟩
    · unfold Blk
      rw [hh, ← ht, List.take_append_drop]
    · rw [List.length_drop, Array.length_toList, hc]; omega
theorem OwnP.ofBlk {w : World} {base g cap : Nat} {l : List Pc} {rest : List Value} (hg : base ≤ g) (h : Blk w g 33 (pcs l ++ rest).toArray) (hn : l.length ≤ cap) (hm : cap ≤ maxLen) (hr : rest.length + l.length * 5 = cap * 5) : OwnP w base (.slice (some ⟨g, 0, none⟩) l.length cap) l :=
  ⟨pcs_len l, .inr ⟨g, cap, _, rfl, hg, h, hn, hm, by rw [List.size_toArray, List.length_append, pcs_len]; omega, by rw [← pcs_len l]; exact List.take_left⟩⟩
theorem pcs_at (l : List Pc) (k j : Nat) (hk : k < l.length) (hj : j < 5) : (pcs l)[k * 5 + j]? = (pcL (l.getD k pc0))[j]? := by
  rw [← pcs_one l k hk, List.getElem?_take_of_lt hj, List.getElem?_drop]
theorem pcs_setV : ∀ (l : List Pc) (k : Nat) (x : Int) (_ : k < l.length), (pcs l).set (k * 5 + 2) (.int .i64 x) = pcs (l.set k ⟨(l.getD k pc0).s, (l.getD k pc0).t, x, (l.getD k pc0).n, (l.getD k pc0).d⟩)
  | [], _, _, h => by simp at h
  | p :: l, 0, x, _ => rfl
  | p :: l, k + 1, x, h => by
    rw [List.set_cons_succ, pcs_cons, pcs_cons, show (k + 1) * 5 + 2 = (pcL p).length + (k * 5 + 2) by simp [pcL]; omega, List.set_append_right _ _ (by omega), Nat.add_sub_cancel_left, pcs_setV l k x (by simpa using h)]
    rfl
def ivs (vs : List Int) : List Value := vs.map fun v => .int .i64 v
theorem ivs_cell {w : World} {B : Nat} {A : Option Addr} {vs : List Int} (h : Rd w B A (ivs vs)) (k : Nat) (hk : k < vs.length) : ∃ ad, A = some ad ∧ ad.block < B ∧ w.cell? (ad.add k) = some (.int .i64 (vs.getD k 0)) := by
  obtain ⟨ad, e, hb, hc⟩ := h (by unfold ivs; intro h0; rw [List.map_eq_nil_iff] at h0; rw [h0] at hk; simp at hk)
  refine ⟨ad, e, hb, hc k _ ?_⟩
  simp [ivs, List.getD_eq_getElem?_getD, hk]
theorem layR_like {l m : List Pc} (h : l.map noV = m.map noV) (hl : ∀ p ∈ l, PcOk p) (hm : ∀ p ∈ m, PcOk p) : (layR l).length = (layR m).length := by
  unfold layR
  rw [← chkL_like h]
  split
  · rename_i h0; exact layL_like h h0 hl hm
  · rfl
theorem layR_le {l : List Pc} (hl : ∀ p ∈ l, PcOk p) : (layR l).length ≤ 4096 := by
  unfold layR
  split
  · rename_i h0; rw [layL_len h0 hl]; exact (chk_ok h0).2.1
  · simp
end Go.Proofs.Ytihbjnjpomljjaa
/- Laws for rounds: operations told by a run, stores and loads of whole rows; a slice of one piece. -/
namespace Go.Proofs.Ytihbjnjpomljjaa
set_option maxRecDepth 100000
open Go.RowKit
set_option linter.unusedVariables false
set_option linter.unusedSimpArgs false
section
variable {F : Fence} {n : Nat} {P : Program} {ops : Array Oper} {Q : Exit → Act → World → Prop} {a : Act} {w : World} {rest : List Oper} {o : Oper}
theorem wpListIn_run (hg : o.guard = none) (hab : o.about P w a.eval = none) (hnd : ∀ c, o.op ≠ .defer c) (v : Value) (w' : World) (hrun : (execOp a.eval o).run P w = .ok (.value v) w')
    (h : wpListIn F n P ops Q rest (a.put o.dst v) w') : wpListIn F n P ops Q (o :: rest) a w := by
  refine wpListIn_plain hg fun K' hK' => ?_
  unfold Oper.wpIn
  refine ⟨fun f hf => (by rw [hab] at hf; cases hf), ?_⟩
  rw [Oper.semAt_plain F _ _ hnd, hrun]
  exact hK' _ _ h
theorem wpListIn_skipR (hg : o.guard = none) (hab : o.about P w a.eval = none) (hnd : ∀ c, o.op ≠ .defer c) (w' : World) (hrun : (execOp a.eval o).run P w = .ok .skip w')
    (h : wpListIn F n P ops Q rest (a.put o.dst undef) w') : wpListIn F n P ops Q (o :: rest) a w := by
  refine wpListIn_plain hg fun K' hK' => ?_
  unfold Oper.wpIn
  refine ⟨fun f hf => (by rw [hab] at hf; cases hf), ?_⟩
  rw [Oper.semAt_plain F _ _ hnd, hrun]
  exact hK' _ _ h
theorem wpListIn_storeP (hgd : o.guard = none) (ty : TypeId) (x y : Operand) (ho : o.op = .store ty x y)
    (hd : o.dst = none) (g : Nat) (cells : Array Value) (hx : a.eval x = .pointer (some ⟨g, 0, none⟩)) (hy : a.eval y = .agg cells)
    (t : TypeId) (old : Array Value) (hg : w.heap[g]? = some (.cells old t (0, 0))) (hi : (P.info? ty).map (·.size) = some cells.size)
    (hold : old.size = cells.size) (h1 : cells.all (·.oneCell') = true)
    (h : wpListIn F n P ops Q rest a (w.setRow g cells)) : wpListIn F n P ops Q (o :: rest) a w :=
  wpListIn_skipR hgd (by unfold Oper.about; rw [ho]) (by rw [ho]; intro c hc; cases hc) (w.setRow g cells) (by
    unfold execOp
    simp only [ho, hx, hy, Instr.storeAt, Instr.sureAddr, Sem.run_bind, Sem.run_pure, Result.andThen_ok, run_storeVar_row w g t ty old cells hg hi hold h1]) (by rw [hd]; exact h)
theorem wpListIn_loadP (hgd : o.guard = none) (ty : TypeId) (x : Operand) (ho : o.op = .load ty x) (b : Addr) (hx : a.eval x = .pointer (some b)) (cs : List Value) (d : TypeDesc) (hc : AtA w b cs)
    (hu : P.underlying ty = some d) (hd : d.isRow = true) (hi : (P.info? ty).map (·.size) = some cs.length)
    (h : wpListIn F n P ops Q rest (a.put o.dst (.agg cs.toArray)) w) : wpListIn F n P ops Q (o :: rest) a w :=
  wpListIn_run hgd (by unfold Oper.about; rw [ho]) (by rw [ho]; intro c hc; cases hc) (.agg cs.toArray) w (by
    unfold execOp
    simp only [ho, hx, Instr.loadAt, Instr.sureAddr, Sem.run_bind, Sem.run_pure, Result.andThen_ok, run_loadVar_at w b ty cs d hc hu hd hi]) h
end
theorem atA_blk {w : World} {g : Nat} {T : TypeId} {cs : List Value} (h : Blk w g T cs.toArray) : AtA w ⟨g, 0, none⟩ cs := fun j u hu => by
  rw [Addr.add_mid, Nat.zero_add, h.cell]
  simpa using hu
theorem run_onePc (w : World) (p : Pc) {o : Oper} {ρ : Operand → Value} (x : Operand) (ho : o.op = .buildSlice 22 1 #[(0, x)]) (hx : ρ x = .agg (pcV p)) :
    (execOp ρ o).run Try.prog w = .ok (.value (.slice (some ⟨w.heap.size, 0, none⟩) 1 1)) (w.alloc (.cells (pcV p) 33)) := by
  obtain ⟨i, hi, hz, hs, _⟩ := piece_parts
  have h1 := run_buildSlice (P := Try.prog) w 22 33 1 #[(0, .agg (pcV p))] (pcV p) i _ Try.underlying22 hi hz (by rw [hs]; omega) (by rw [hs]; omega) (by rw [hs]; kernel_rfl)
  unfold execOp
  simp only [ho, Sem.run_bind, List.map_toArray, List.map_cons, List.map_nil, hx, h1, Result.andThen_ok]
  rfl
theorem grown_none {A B : World} (h : Below A.heap.size A B) : A.grownBy B none := ⟨h.os, h.tape, h.output, h.size, fun k hk _ => h.block k hk⟩
end Go.Proofs.Ytihbjnjpomljjaa
/- maps.Values' iterator over Merge's map: each piece comes once. -/
namespace Go.Proofs.Ytihbjnjpomljjaa
set_option maxRecDepth 100000
open Go.RowKit
set_option linter.unusedVariables false
set_option linter.unusedSimpArgs false
attribute [local go_sem] Oper.semAt_some
set_option maxRecDepth 100000 in
set_option maxHeartbeats 4000000 in
theorem vals_in (n l Bm b nn : Nat) (M : List Pc) (hn : 1 ≤ n) (J Jx : List Pc → World → Prop)
    (hY0 : ∀ pre x W, J pre W → pre.length < nn → YieldAt Fence.wide (n - 1) Try.prog l #[.agg (pcV x)] W fun e W' =>
      (e = .returned (.bool true) ∧ J (pre ++ [x]) W' ∧ KeepsWalks W W') ∨ (e = .returned (.bool false) ∧ Jx (pre ++ [x]) W'))
    (W : World) (hJ : AbidesFrom W.heap.size J) (hm : W.cell? ⟨Bm, 0, none⟩ = some (.map (some b))) (hown : MapAt W b nn M) (h0 : J [] W) :
    CallsIn Fence.wide n Try.prog 29 #[.func (.yield l) #[] #[], .pointer (some ⟨Bm, 0, none⟩)] W fun e W' => (∃ v, e = .returned v) ∧
      ((∃ ss : List Pc, (ss.Nodup ∧ ∀ p, p ∈ ss ↔ p ∈ M) ∧ J ss W') ∨ (∃ pre, True ∧ Jx pre W')) := by
  obtain ⟨D, hown, hPM, hS, hV⟩ := hown
  have zf := zero_pc
  have zs1 : zPc.size = 5 := by rfl
  have zs2 : ¬ zPc = #[] := by intro h; have := congrArg Array.size h; rw [zs1] at this; cases this
  refine callsIn_of_wp Try.func29 rfl trivial ?_ rfl
  simp only [Try.ntmps29, List.size_toArray, List.length_cons, List.length_nil, Nat.reduceAdd, Nat.reduceSub, Array.replicate_succ, Array.replicate_zero, List.push_toArray, List.append_toArray, List.nil_append, List.cons_append]
  have HY0 := Lib.hid hY0
  have HPM := Lib.hid hPM
  have HS := Lib.hid hS
  have HV := Lib.hid hV
  have HJ := Lib.hid hJ
  clear hY0 hPM hS hV hJ
  gi_wp2_with (first
    | (gi_at_range; refine wpListIn_range_own _ rfl _ 42 rfl 45 33 placeKeyed Try.underlying42 _ b nn _ rfl hown ?_; intro w0 hrg0 hg0 hs0)
    | gi_in)
  go_frame
  gi_loopw [4] (fun _ wr => ∃ (left : Lit → Bool) (cnt : Nat) (ss : List Pc), wr.ranges Try.prog 45 asIs b W.heap.size nn D left cnt ∧ ss.length + cnt ≤ Maps.size D ∧ Coll M left ss ∧ J ss wr)
    (fun _ wr => wr.rangeLeft b W.heap.size)
  case atStart =>
    exact ⟨_, _, [], hrg0, by simp, Coll.start HPM.out, HJ.out [] W w0 none h0 hg0 (fun r e => by cases e)⟩
  case round =>
    obtain ⟨left, cnt, ss, hrg, hcs, hC, hJs⟩ := hrel
    gi_wp2_with (first
      | (gi_at_next; refine wpListIn_next_ranges _ rfl _ rfl 45 placeKeyed asIs (fun v : Value => v) (fun v : Value => v) (fun key kl hk => ⟨key, rfl⟩) (fun v _ _ => ⟨v, rfl⟩) b W.heap.size nn _ _ _ rfl hrg ?_ ?_)
      | gi_in)
    · -- nothing is left
      intro hc0 hl0
      gi_wp2
      go_end0
      exact ⟨⟨_, rfl⟩, .inl ⟨ss, hC.done hl0, hJs⟩⟩
    · -- a piece has come
      intro x c kl yd yp w2 cnt2 hkey hlk hv hat hrg2 hlt hg2 hs2 hen
      obtain ⟨p, hp, rfl, hC2⟩ := hC.step place_pin HPM.out HV.out HS.out hlk (by
        unfold asIs at hv
        simp only [Option.some.injEq, Prod.mk.injEq] at hv
        exact hv.1.symm) hat
      have hJ2 : J ss w2 := HJ.out ss wr w2 (some W.heap.size) hJs hg2 (fun r e => by cases e; exact ⟨Nat.le_refl _, hrg.iter_walk⟩)
      have HJ2 := Lib.hid hJ2
      have HC2 := Lib.hid hC2
      have HRG2 := Lib.hid hrg2
      have HN := Lib.hid (show ss.length < nn by have := hown.size_le; omega)
      have HCS := Lib.hid hcs
      have HLT := Lib.hid hlt
      have HRG := Lib.hid hrg
      clear hs2 hJ2 hC2 hrg2 hC hJs hcs hlt hrg hg2 hat hlk hv hkey
      gi_wp2_with (first
        | (refine wpListIn_storeP rfl 33 (.tmp 4) (.tmp 10) rfl rfl w2.heap.size (pcV p) rfl rfl 33 zPc (by exact heap_alloc_new _ _) (pcInfo p) rfl (pcV_one p) ?_
           obtain ⟨Y, hYe⟩ : ∃ Y, Y = (w2.alloc (Obj.cells zPc 33)).setRow w2.heap.size (pcV p) := ⟨_, rfl⟩
           have hnr := new_rowP w2 33 zPc (pcV p)
           rw [← hYe] at hnr ⊢
           have hgY := grown_none hnr.2
           have HBY := Lib.hid hnr.1
           have HRGY := Lib.hid (HRG2.out.kept hgY (by simp) (by simp))
           obtain ⟨fn, tmps, assign, body, hy, hR⟩ := HY0.out ss p Y (HJ.out ss w2 Y none HJ2.out hgY (fun r e => by cases e)) HN.out
           rw [show (Value.agg (pcV p)) = .agg (pcL p).toArray from rfl] at hy
           clear hYe hnr hgY hen
           generalize w2.heap.size = gY at *)
        | (refine wpListIn_loadP rfl 33 (.tmp 4) rfl ⟨gY, 0, none⟩ rfl (pcL p) _ (atA_blk HBY.out) Try.underlying33 rfl (pcLn p) ?_)
        | gi_in)
      clear HY0 HBY HJ2 HRG2
      refine hR.mono ?_
      rintro e W3 (⟨rfl, hJ3, hk3⟩ | ⟨rfl, hJx3⟩)
      · have HJ3 := Lib.hid hJ3
        have hrg3 := HRGY.out.of_walks hk3
        have HRG3 := Lib.hid hrg3
        clear hJ3 hk3 hrg3 hy hR
        gi_wp2
        go_roundw
        case rel => exact ⟨_, cnt2, ss ++ [p], HRG3.out, by have := HCS.out; have := HLT.out; simp; omega, HC2.out, HJ3.out⟩
        case measure => rw [HRG3.out.left_eq, HRG.out.left_eq]; exact HLT.out
      · have HX := Lib.hid hJx3
        clear hJx3 hy hR
        gi_wp2
        refine bodyPost_ret (results_none rfl _ _ _) rfl ?_
        exact ⟨⟨_, rfl⟩, .inr ⟨_, trivial, HX.out⟩⟩
/-- maps.Values hands back an iterator -/
theorem valsV_c (mb : Option Nat) (w : World) : Calls Try.prog 20 #[.map mb] w fun e w' =>
    e = .returned (.func (.func 29) #[] #[.pointer (some ⟨w.heap.size, 0, none⟩)]) ∧ w' = w.alloc (.cells #[.map mb] 42) := by
  go_enter Try.func20, Try.ntmps20
  go_wp2_with fail
  go_ret
  exact ⟨rfl, rfl⟩
theorem vals_stops (n Bm b nn : Nat) (M : List Pc) (hn : 1 ≤ n) (w : World) (hlt : Bm < w.heap.size) (hm : w.cell? ⟨Bm, 0, none⟩ = some (.map (some b))) (hown : MapAt w b nn M) :
    SeqStopsK Fence.wide n Try.prog 29 #[.pointer (some ⟨Bm, 0, none⟩)] (fun p : Pc => #[.agg (pcV p)]) KeepsWalks (fun ss => ss.Nodup ∧ ∀ p, p ∈ ss ↔ p ∈ M) (fun _ => True) nn w := fun l J Jx W hW hJ hJx hY h0 =>
  vals_in n l Bm b nn M hn J Jx hY W hJ ((hW.cell (p := ⟨Bm, 0, none⟩) hlt).trans hm) (hown.next hW) h0
end Go.Proofs.Ytihbjnjpomljjaa
/- A range over a function whose rounds lay their variable into memory of its own. -/
namespace Go.Proofs.Ytihbjnjpomljjaa
set_option maxRecDepth 100000
open Go.RowKit
set_option linter.unusedVariables false
theorem wpIn_rangeFunc_asg {P : Program} {n : Nat} {α : Type} {g : Operand} {ps : Array Tmp} {assign body : Code} {Q : Exit → Act → World → Prop} {a : Act} {w : World}
    (h1 : 1 ≤ n) {gf : Nat} {lb : Array Value} (hg : a.eval g = .func (.func gf) #[] lb) (eg : ∀ args w, (callFunc gf args).run P w = .ok (.enter gf args) w)
    {encs : α → Array Value} {Kp : World → World → Prop} {S Sp : List α → Prop} {N : Nat} {w0 : World} (hseq : SeqStopsK Fence.wide (n - 1) P gf lb encs Kp S Sp N w0)
    (hKt : ∀ {A B C : World}, Kp A B → Kp B C → Kp A C) (hKb : ∀ (W : World) (l : Nat) (o o' : Obj), w.heap.size ≤ l → W.heap[l]? = some o → o.isCells = false → o.isWalk = false → Kp W (W.putObj l o')) (hb0 : Below w0.heap.size w0 w) (hps : ∀ x, (encs x).size = ps.size)
    (I : List α → World → Prop) (I2 : List α → α → Act → World → Prop) (hI : OwnFrom w.heap.size I) (hI2 : ∀ pre x a1, OwnFrom w.heap.size (fun (_ : Unit) W => I2 pre x a1 W)) (h0 : I [] w)
    (hassign : ∀ (l : Nat) (pre : List α) (x : α) (W : World) (K : Act → World → Prop), I pre W → pre.length < N → (∀ a1 W1, KeepsOthers W W1 → Kp W W1 → I2 pre x a1 W1 → K a1 W1) →
      assign.wpIn (Fence.wide.inRound l) (n - 1 - 1) P (Exit.then K (fun _ _ _ => False)) { tmps := (ps.zip (encs x)).foldl (fun t (p, v) => t.setIfInBounds p v) a.tmps, defers := [] } W)
    (hbody : ∀ (l : Nat) (pre : List α) (x : α) (a1 : Act) (W : World), I2 pre x a1 W → pre.length < N → body.wpIn (Fence.wide.inRound l) (n - 1 - 1) P (fun e _ W' => e = .normal ∧ KeepsOthers W W' ∧ Kp W W' ∧ I (pre ++ [x]) W') a1 W)
    (hdone : ∀ (D : Nat) (xs : List α) (W : World), w.heap.size ≤ D → S xs → I xs W → W.heap[D]? = some (.deferred (some [])) → Q .normal { a with defers := { target := .collected D, args := #[] } :: a.defers } W) :
    (Code.rangeFunc g ps assign body).wpIn Fence.wide n P Q a w := by
  refine wpIn_rangeFunc ?_
  intro fn hfn
  show ∃ l : Nat, _
  obtain ⟨rec, hrec⟩ : ∃ rec : LoopState → Option Code → Loop, rec = fun st pe => { state := st, pending := pe, fn, tmps := a.tmps, params := ps, assign, body, defers := w.heap.size } := ⟨_, rfl⟩
  obtain ⟨W1, hW1⟩ : ∃ W1, W1 = (w.alloc (.deferred (some []))).alloc (.loop (rec .ready none)) := ⟨_, rfl⟩
  have hs1 : W1.heap.size = w.heap.size + 2 := by rw [hW1]; simp
  have hL1 : W1.heap[w.heap.size + 1]? = some (.loop (rec .ready none)) := by
    have h := World.alloc_heap_new (w.alloc (.deferred (some []))) (.loop (rec .ready none))
    rw [World.size_alloc] at h
    rw [hW1]; exact h
  have hK1 : W1.heap[w.heap.size]? = some (.deferred (some [])) := by
    rw [hW1]; exact (Below.heap_alloc _ _ _ (by simp)).trans (World.alloc_heap_new w _)
  have hI1 : I [] W1 := by rw [hW1]; exact hI.alloc _ (hI.alloc _ h0)
  have hb1 : Below w0.heap.size w0 W1 := by
    rw [hW1]; exact hb0.trans ((((Below.refl _ w).alloc (Nat.le_refl _) _).alloc (by simp) _).mono hb0.size)
  refine ⟨w.heap.size + 1, [{ target := .collected w.heap.size, args := #[] }], W1, { target := .fn (.func gf) lb, args := #[.func (.yield (w.heap.size + 1)) #[] #[]] }, W1, gf,
    #[.func (.yield (w.heap.size + 1)) #[] #[]] ++ lb, W1, ?_, ?_, ?_, ?_, fun _ => h1, ?_⟩
  · rw [hW1, hrec]; exact run_enterLoop_outer _ _ _ _ _
  · simp only [resolve, hg]
    simp [go_sem]
  · intro f' hf'; trivial
  · simp [invoke, go_sem, eg]
  · refine (hseq (w.heap.size + 1) (fun pre W => I pre W ∧ W.heap[w.heap.size + 1]? = some (.loop (rec .ready none)) ∧ W.heap[w.heap.size]? = some (.deferred (some []))) (fun _ _ => False) W1 hb1
      (fun s A B row hs hg' hr => ⟨hI s A B row hs.1 hg' (fun r e => by
          obtain ⟨hB, o, ho, hw⟩ := hr r e
          exact ⟨by omega, o, ho, Obj.not_cells_of_walk hw⟩), (grownBy_keeps hg' (fun r e => (hr r e).2) hs.2.1 rfl).trans hs.2.1, (grownBy_keeps hg' (fun r e => (hr r e).2) hs.2.2 rfl).trans hs.2.2⟩)
      (fun s A B row hs hg' hr => hs.elim) ?_ ⟨hI1, hL1, hK1⟩).mono ?_
    · -- a round
      rintro pre x W ⟨hi, hl, hk⟩ hlen
      have hy := run_yield (P := P) (args := encs x) hl (by rw [hrec]; exact hps x)
      rw [hrec] at hy
      refine ⟨fn, _, assign, body, hy, roundIn_of_wpIn hfn (hassign _ pre x W _ hi hlen ?_)⟩
      intro a1 Wa ka kpa hi2
      have hla := ka.same _ _ hl rfl
      have hka := ka.same _ _ hk rfl
      have hlt : w.heap.size + 1 < Wa.heap.size := (Array.getElem?_eq_some_iff.1 hla).1
      refine ⟨_, run_beginRound hla (by rw [hrec]), ?_⟩
      obtain ⟨Wb, hWb⟩ : ∃ Wb, Wb = Wa.putObj (w.heap.size + 1) (.loop { rec .ready none with state := .busy }) := ⟨_, rfl⟩
      rw [← hWb]
      have hlb : Wb.heap[w.heap.size + 1]? = some (.loop { rec .ready none with state := .busy }) := by rw [hWb]; exact World.putObj_heap_same hlt
      have hkb : Wb.heap[w.heap.size]? = some (.deferred (some [])) := by rw [hWb]; exact (World.putObj_heap_other (by omega)).trans hka
      have hkpb : Kp Wa Wb := by rw [hWb]; exact hKb _ _ _ _ (by omega) hla rfl rfl
      have hi2b : I2 pre x a1 Wb := by rw [hWb]; exact OwnFrom.putObj (s := ()) (hI2 pre x a1) _ hi2 (by omega) hla rfl
      refine wpIn_mono (hbody _ pre x a1 Wb hi2b hlen) ?_
      rintro e a3 W3 ⟨rfl, hk3, hkp3, hi3⟩
      have hl3 := hk3.same _ _ hlb rfl
      have hd3 := hk3.same _ _ hkb rfl
      have hr := run_endRound (P := P) none hl3
      rw [hrec] at hr hl3
      refine ⟨_, _, hr, .inl ⟨rfl, ⟨hI.putObj _ hi3 (by omega) hl3 rfl, ?_, (World.putObj_heap_other (by omega)).trans hd3⟩, hKt (hKt kpa (hKt hkpb hkp3)) (hKb _ _ _ _ (by omega) hl3 rfl rfl)⟩⟩
      rw [hrec]
      exact World.putObj_heap_same (Array.getElem?_eq_some_iff.1 hl3).1
    · -- behind the iterator
      rintro e W2 ⟨⟨v, rfl⟩, (⟨xs, hS, hi, hl, hk⟩ | ⟨pre, hSp, hf⟩)⟩
      · exact ⟨none, _, by have := run_endLoop (P := P) hl (by rw [hrec]; simp); rw [hrec] at this; exact this, hdone _ xs _ (Nat.le_refl _) hS (hI.putObj _ hi (by omega) hl rfl) ((World.putObj_heap_other (by omega)).trans hk)⟩
      · exact hf.elim
end Go.Proofs.Ytihbjnjpomljjaa
/- Contracts: slices.AppendSeq, Collect of what comes of Merge's map. -/
namespace Go.Proofs.Ytihbjnjpomljjaa
set_option maxRecDepth 100000
open Go.RowKit
set_option linter.unusedVariables false
set_option linter.unusedSimpArgs false
attribute [local go_sem] Oper.semAt_some
def ColI (w : World) (pre : List Pc) (W : World) : Prop := (∃ v, Boxed W w.heap.size 22 v ∧ W.ownsRow w.heap.size 33 5 v pre.length (pcs pre)) ∧ Below w.heap.size w W
def colA (sv : Value) (B g : Nat) (x : Pc) : Act := { tmps := #[.slice none 0 0, sv, .pointer (some ⟨B, 0, none⟩), undef, .slice none 0 0, .pointer (some ⟨g, 0, none⟩), sv, .agg (pcV x), undef, undef, undef, undef, undef], defers := [] }
def ColI2 (w : World) (sv : Value) (pre : List Pc) (x : Pc) (a1 : Act) (W : World) : Prop := ColI w pre W ∧ ∃ g, a1 = colA sv w.heap.size g x ∧ Blk W g 33 (pcV x)
theorem ColI.own (w : World) (B : Nat) (hB : w.heap.size ≤ B) : OwnFrom B (ColI w) := fun s W W' row h hg hr => by
  obtain ⟨⟨v, h1, h2⟩, h3⟩ := h
  have h4 := holdsRow_own (β := Unit) w.heap.size w.heap.size 22 33 5 (fun _ => s.length) (fun _ => pcs s) (fun _ _ => True) () W W' row ⟨v, h1, h2, trivial⟩ hg (fun r e => (hr r e).2)
  obtain ⟨v', h5, h6, _⟩ := h4
  exact ⟨⟨v', h5, h6⟩, h3.grown hg h3.size (fun k e => Nat.le_trans hB (hr k e).1)⟩
theorem ColI2.own (w : World) (sv : Value) (B : Nat) (hB : w.heap.size ≤ B) (pre : List Pc) (x : Pc) (a1 : Act) : OwnFrom B (fun (_ : Unit) W => ColI2 w sv pre x a1 W) := fun s W W' row h hg hr => by
  obtain ⟨h1, g, h2, h3⟩ := h
  refine ⟨ColI.own w B hB pre W W' row h1 hg hr, g, h2, (hg.block g h3.lt (fun e => ?_)).trans h3⟩
  obtain ⟨_, o, ho, hc⟩ := hr g e.symm
  rw [show W.heap[g]? = _ from h3] at ho
  injection ho with ho
  subst ho
  cases hc
set_option maxRecDepth 100000 in
set_option maxHeartbeats 4000000 in
theorem appendSeq_in (n b nn : Nat) (M : List Pc) (hn : 3 ≤ n) (hnn : nn ≤ 1000000) (Bm : Nat) (w : World) (hlt : Bm < w.heap.size) (hm : w.cell? ⟨Bm, 0, none⟩ = some (.map (some b))) (hown : MapAt w b nn M) :
    CallsIn Fence.wide n Try.prog 34 #[.slice none 0 0, .func (.func 29) #[] #[.pointer (some ⟨Bm, 0, none⟩)]] w fun e w' =>
      ∃ (v : Value) (ss : List Pc), e = .returned v ∧ (ss.Nodup ∧ ∀ p, p ∈ ss ↔ p ∈ M) ∧ w'.ownsRow w.heap.size 33 5 v ss.length (pcs ss) ∧ Below w.heap.size w w' := by
  obtain ⟨i0, hi0, hi1, hi2, hi3⟩ := piece_parts
  have zf := zero_pc
  have zs1 : zPc.size = 5 := by rfl
  have zs2 : ¬ zPc = #[] := by intro h; have := congrArg Array.size h; rw [zs1] at this; cases this
  have hst := vals_stops (n - 1) Bm b nn M (by omega) w hlt hm hown
  have HST := Lib.hid hst
  clear hst
  refine callsIn_of_wp_marks Try.func34 rfl trivial ?_ rfl
  simp only [Try.ntmps34, List.size_toArray, List.length_cons, List.length_nil, Nat.reduceAdd, Nat.reduceSub, Array.replicate_succ, Array.replicate_zero, List.push_toArray, List.append_toArray, List.nil_append, List.cons_append]
  gi_wp2
  obtain ⟨Z, hZ⟩ : ∃ Z, Z = w.alloc (Obj.cells #[.slice none 0 0] 22) := ⟨_, rfl⟩
  have hzs : Z.heap.size = w.heap.size + 1 := by rw [hZ]; simp
  have hb0 : Below w.heap.size w Z := by rw [hZ]; exact (Below.refl _ _).alloc (Nat.le_refl _) _
  have hbx : Boxed Z w.heap.size 22 (.slice none 0 0) := by rw [hZ]; exact Boxed.new _ _ _
  rw [← hZ]
  clear hZ
  refine wpIn_rangeFunc_asg (n := n) (by omega) (gf := 29) (lb := #[.pointer (some ⟨Bm, 0, none⟩)]) rfl (enters_of Try.func29 (by kernel_rfl) rfl)
    HST.out (fun h1 h2 => h1.trans h2) (fun W l o o' _ h _ hw => KeepsWalks.putObj _ h hw) hb0 (fun _ => rfl)
    (ColI w) (ColI2 w (.func (.func 29) #[] #[.pointer (some ⟨Bm, 0, none⟩)])) (ColI.own w _ (by omega)) (ColI2.own w _ _ (by omega)) ⟨⟨_, hbx, ⟨rfl, .inl ⟨rfl, rfl⟩⟩⟩, hb0⟩ ?assign ?body ?done
  case assign =>
    intro l pre x W K hI hlen hK
    have HK := Lib.hid hK
    have HI := Lib.hid hI
    clear hK hI
    gi_wp2_with (first
      | (refine wpListIn_storeP rfl 33 (.tmp 5) (.tmp 7) rfl rfl W.heap.size (pcV x) rfl rfl 33 zPc (by exact heap_alloc_new _ _) (pcInfo x) rfl (pcV_one x) ?_)
      | gi_in)
    obtain ⟨h1, h2⟩ := new_rowP W 33 zPc (pcV x)
    refine HK.out _ _ (KeepsOthers.of_grownBy (grown_none h2) (fun j o e ho => by cases e)) (KeepsWalks.of_grownBy (grown_none h2) (fun j o e ho => by cases e)) ⟨ColI.own w Z.heap.size (by omega) pre W _ none HI.out (grown_none h2) (fun r e => by cases e), W.heap.size, rfl, h1⟩
  case body =>
    rintro l pre x a1 W ⟨⟨⟨v, hv, hrow⟩, hbw⟩, g, rfl, hg⟩ hlen
    have hc2 := hv.cell
    have hf2 := hv.frozen
    have HV := Lib.hid hv
    have HROW := Lib.hid hrow
    have HBW := Lib.hid hbw
    have HG := Lib.hid hg
    have hl1 : pre.length + 1 ≤ 1000000 := by omega
    have HL := Lib.hid hl1
    unfold colA
    clear hv hrow hbw hg hl1
    gi_wp2_with (first
      | (refine wpListIn_loadP rfl 33 (.tmp 5) rfl ⟨g, 0, none⟩ rfl (pcL x) _ (atA_blk HG.out) Try.underlying33 rfl (pcLn x) ?_)
      | (refine wpListIn_run rfl rfl (fun c hc => by cases hc) (.slice (some ⟨W.heap.size, 0, none⟩) 1 1) (W.alloc (.cells (pcV x) 33)) (run_onePc W x (.tmp 9) rfl rfl) ?_)
      | (gi_at_builtin
         refine wpListIn_append_own _ rfl _ _ 22 rfl w.heap.size 33 i0 (.agg zPc) 5 48 Try.underlying22 hi0 hi1 hi2 hi3 zs1 (by decide) _ _ _ rfl (World.ownsRow.alloc HROW.out _) ⟨W.heap.size, 0, none⟩ 1 1 (pcL x) rfl rfl (atA_blk (Blk.new W _ _)) (by intro u hu; exact pcs_oneCell [x] u (by simpa [pcs_cons, pcs_nil] using hu)) (by have := HL.out; unfold maxLen; omega) (by have := HL.out; omega) (by have := HBW.out.size; simp; omega) ?_
         intro v' w3 hown' hg3 hnil3
         obtain ⟨hb1, hb2, hb3, hb4, hb5⟩ := Boxed.appended HV.out (show 22 ≠ 33 by decide) HROW.out HBW.out.size (Nat.le_refl _) hown' hg3
         obtain ⟨g', cap', rfl⟩ := ownsRow_succ hown'
         have hc3 := hb1.cell
         have hf3 := hb1.frozen
         have R2 := Lib.hid hb2
         have R3 := Lib.hid hb3
         have R4 := Lib.hid hb4
         have R5 := Lib.hid hb5
         clear hb1 hb2 hb3 hb4 hb5 hg3 hnil3 hown'
         go_frame)
      | gi_in)
    refine ⟨R4.out, R4.out.walks, ⟨_, R2.out, ?_⟩, HBW.out.trans R5.out⟩
    rw [show (pre ++ [x]).length = pre.length + 1 by simp, show pcs (pre ++ [x]) = pcs pre ++ pcL x by rw [pcs_app, pcs_cons, pcs_nil, List.append_nil]]
    exact R3.out
  case done =>
    rintro D ss W hD hS ⟨⟨v, hv, hrow⟩, hbw⟩ hK
    have hc3 := hv.cell
    have hf3 := hv.frozen
    have HROW := Lib.hid hrow
    have HBW := Lib.hid hbw
    have HK := Lib.hid hK
    have HS := Lib.hid hS
    have HV := Lib.hid hv
    clear hv hrow hbw hK hS
    gi_wp2
    refine ⟨by simp, .inl ⟨_, _, rfl, run_takeDeferred HK.out, ?_⟩⟩
    refine ⟨_, results_tmp rfl _ _ _, v, ss, rfl, HS.out, ownsRow_putObj HROW.out _ HK.out rfl, HBW.out.grown (grownBy_putObj' W D _) HBW.out.size (fun k e => by cases e; omega)⟩
set_option maxRecDepth 100000 in
set_option maxHeartbeats 4000000 in
theorem collect_c (b nn : Nat) (M : List Pc) (hnn : nn ≤ 1000000) (Bm : Nat) (w : World) (hlt : Bm < w.heap.size) (hm : w.cell? ⟨Bm, 0, none⟩ = some (.map (some b))) (hown : MapAt w b nn M) :
    Calls Try.prog 27 #[.func (.func 29) #[] #[.pointer (some ⟨Bm, 0, none⟩)]] w fun e w' =>
      ∃ (v : Value) (ss : List Pc), e = .returned v ∧ (ss.Nodup ∧ ∀ p, p ∈ ss ↔ p ∈ M) ∧ w'.ownsRow w.heap.size 33 5 v ss.length (pcs ss) ∧ Below w.heap.size w w' := by
  have HC := Lib.hid ((callsIn_wide (n := 8)).1 (appendSeq_in 8 b nn M (by omega) hnn Bm w hlt hm hown))
  clear hown
  go_enter Try.func27, Try.ntmps27
  go_wp2_with (go_at_call 34; (refine HC.out.mono ?_); rintro e w2 ⟨v, ss, rfl, h1, h2, h3⟩; have R1 := Lib.hid h1; have R2 := Lib.hid h2; have R3 := Lib.hid h3; clear h1 h2 h3)
  go_ret
  exact ⟨v, ss, rfl, R1.out, R2.out, R3.out⟩
end Go.Proofs.Ytihbjnjpomljjaa
/- A sort's world: the row's block, and all else. -/
namespace Go.Proofs.Ytihbjnjpomljjaa
set_option maxRecDepth 100000
open Go.RowKit
open Go.Sort (flatK size_flatK HoldsK Holds putRowK putRow putCells mapBlock onCells grow)
set_option linter.unusedVariables false
set_option linter.unusedSectionVars false
section
variable {α : Type} [Inhabited α] (enc : α → List Value) (k : Nat)
def flatE (l : List α) : List Value := (l.map enc).flatten
theorem flatE_cons (x : α) (l : List α) : flatE enc (x :: l) = enc x ++ flatE enc l := by simp [flatE]
theorem flatE_len (hk : ∀ x, (enc x).length = k) : ∀ l : List α, (flatE enc l).length = l.length * k
  | [] => by simp [flatE]
  | x :: l => by rw [flatE_cons, List.length_append, hk, flatE_len hk l, List.length_cons, Nat.add_mul, Nat.one_mul, Nat.add_comm]
theorem flatE_at (hk : ∀ x, (enc x).length = k) : ∀ (l : List α) (q r : Nat), r < k → q < l.length → (flatE enc l)[q * k + r]? = (enc (l[q]!))[r]?
  | [], q, r, _, h => by simp at h
  | x :: l, 0, r, hr, _ => by
    rw [flatE_cons, Nat.zero_mul, Nat.zero_add, List.getElem?_append_left (by rw [hk]; exact hr)]
    rfl
  | x :: l, q + 1, r, hr, h => by
    rw [flatE_cons, List.getElem?_append_right (by rw [hk, Nat.add_mul]; omega), hk, show (q + 1) * k + r - k = q * k + r by rw [Nat.add_mul]; omega, flatE_at hk l q r hr (by simpa using h)]
    rfl
theorem flatK_list (hk : ∀ x, (enc x).length = k) (h0 : 0 < k) (l : List α) : flatK enc k l.toArray = (flatE enc l).toArray := by
  refine Go.Sort.ext_get! (by rw [size_flatK]; simp [flatE_len enc k hk]) fun t ht => ?_
  rw [size_flatK] at ht
  have ht' : t < l.length * k := by simpa using ht
  rw [Go.Sort.get_flatK _ _ _ t ht]
  have hq : t / k < l.length := Nat.div_lt_of_lt_mul (by rw [Nat.mul_comm]; exact ht')
  have hr : t % k < k := Nat.mod_lt _ h0
  have h1 := flatE_at enc k hk l (t / k) (t % k) hr hq
  rw [show t / k * k + t % k = t by rw [Nat.mul_comm]; exact Nat.div_add_mod t k] at h1
  have h2 : t < (flatE enc l).toArray.size := by simp [flatE_len enc k hk]; exact ht'
  rw [getElem!_pos _ t h2]
  have h3 : (flatE enc l).toArray[t] = (flatE enc l)[t]'(by simpa using h2) := by simp
  rw [h3]
  have h4 : (flatE enc l)[t]? = some ((flatE enc l)[t]'(by simpa using h2)) := List.getElem?_eq_getElem _
  rw [h4] at h1
  have e1 : l.toArray[t / k]! = l[t / k]! := by simp
  rw [e1, List.getElem!_eq_getElem?_getD, ← h1]
  rfl
theorem holdsK_blk (hk : ∀ x, (enc x).length = k) (h0 : 0 < k) {w : World} {g : Nat} {T : TypeId} {l : List α} {rest : List Value} (h : Blk w g T (flatE enc l ++ rest).toArray) : HoldsK enc k w g 0 l.toArray := by
  intro j hj
  rw [size_flatK] at hj
  rw [flatK_list enc k hk h0]
  have hj' : j < (flatE enc l).length := by rw [flatE_len enc k hk]; simpa using hj
  refine ⟨?_, h.free _⟩
  rw [Nat.zero_add, h.cell, getElem!_pos _ j (by simpa using hj')]
  simp [List.getElem?_append_left hj', hj']
theorem sortWorld_blk (hk : ∀ x, (enc x).length = k) (h0 : 0 < k) {w : World} {g : Nat} {T : TypeId} {l : List α} {rest : List Value} (h : Blk w g T (flatE enc l ++ rest).toArray) (n : Nat) (d' : Array α) (hd : d'.size = l.length) (os : Array Obj) :
    Blk (sortWorldK enc k w g 0 n d' os) g T (flatE enc d'.toList ++ rest).toArray ∧ Only (fun i => i = g) w (sortWorldK enc k w g 0 n d' os) := by
  have hg := h.lt
  have hsz : ((putRowK enc k (Go.Sort.ahead w n) g 0 d').heap).size = w.heap.size := Go.Sort.size_putRowK enc k _ g 0 d'
  have hold : ∀ i : Nat, i < w.heap.size → (sortWorldK enc k w g 0 n d' os).heap[i]? = (putRowK enc k (Go.Sort.ahead w n) g 0 d').heap[i]? := fun i hi => by
    show ((putRowK enc k (Go.Sort.ahead w n) g 0 d').heap ++ os)[i]? = _
    rw [Array.getElem?_append_left (by rw [hsz]; exact hi)]
  have hmod : ∀ i : Nat, (putRowK enc k (Go.Sort.ahead w n) g 0 d').heap[i]? = (w.heap.modify g (onCells (putCells id 0 (flatK enc k d'))))[i]? := fun i => rfl
  refine ⟨?_, rfl, rfl, rfl, ?_, fun i hi hne => ?_⟩
  · unfold Blk
    rw [hold g hg, hmod, Array.getElem?_modify, if_pos rfl, show w.heap[g]? = some (.cells (flatE enc l ++ rest).toArray T (0, 0)) from h]
    show some (Obj.cells _ T (0, 0)) = _
    congr 2
    obtain ⟨dl⟩ := d'
    rw [flatK_list enc k hk h0 dl]
    have hd' : dl.length = l.length := by simpa using hd
    have hl1 := flatE_len enc k hk l
    have hl2 := flatE_len enc k hk dl
    rw [hd'] at hl2
    apply Array.ext_getElem?
    intro j
    unfold putCells
    rw [Array.getElem?_mapIdx]
    simp only [List.getElem?_toArray, List.size_toArray, Nat.zero_le, true_and, Nat.zero_add, Nat.sub_zero, id]
    by_cases hj : j < l.length * k
    · rw [List.getElem?_append_left (by omega), List.getElem?_append_left (by omega), List.getElem?_eq_getElem (by omega), List.getElem?_eq_getElem (by omega)]
      show some (if j < (flatE enc dl).length then _ else _) = _
      rw [if_pos (by omega)]
      simp [show j < (flatE enc dl).length by omega]
    · rw [List.getElem?_append_right (by omega), List.getElem?_append_right (by omega), hl1, hl2]
      cases hr : rest[j - l.length * k]? with
      | none => rfl
      | some v =>
        show some (if j < l.length * k then _ else _) = _
        rw [if_neg hj]
  · show w.heap.size ≤ ((putRowK enc k (Go.Sort.ahead w n) g 0 d').heap ++ os).size
    rw [Array.size_append, hsz]; omega
  · rw [hold i hi, hmod, Array.getElem?_modify, if_neg (fun e => hne e.symm)]
end
end Go.Proofs.Ytihbjnjpomljjaa
/- Below, and no draw is taken back. -/
namespace Go.Proofs.Ytihbjnjpomljjaa
open Go.RowKit
structure Gro (B : Nat) (w w' : World) : Prop extends Below B w w' where
  drawn : w.drawn ≤ w'.drawn
theorem Gro.refl (B : Nat) (w : World) : Gro B w w := ⟨Below.refl _ _, Nat.le_refl _⟩
theorem Gro.trans {B : Nat} {a b c : World} (h : Gro B a b) (k : Gro B b c) : Gro B a c := ⟨h.toBelow.trans k.toBelow, Nat.le_trans h.drawn k.drawn⟩
theorem Gro.mono {B B' : Nat} {w w' : World} (h : Gro B w w') (hB : B' ≤ B) : Gro B' w w' := ⟨h.toBelow.mono hB, h.drawn⟩
theorem Gro.drew {B : Nat} {a w : World} (h : Gro B a w) : Gro B a w.drew := ⟨h.toBelow.drew, Nat.le_trans h.drawn (Nat.le_succ _)⟩
theorem Gro.alloc {B : Nat} {a w : World} (h : Gro B a w) (hB : B ≤ w.heap.size) (o : Obj) : Gro B a (w.alloc o) := ⟨h.toBelow.alloc hB o, h.drawn⟩
theorem Gro.drewN {B : Nat} {a w : World} (h : Gro B a w) (n : Nat) : Gro B a (w.drewN n) := ⟨belowDrewN n h.toBelow, Nat.le_trans h.drawn (Nat.le_add_right _ _)⟩
/-- what it is: draws, and blocks laid behind -/
theorem Gro.grow {w w' : World} (h : Gro w.heap.size w w') : ∃ q os, w' = Go.Sort.grow (w.drewN q) os := by
  refine ⟨w'.drawn - w.drawn, w'.heap.extract w.heap.size w'.heap.size, ?_⟩
  obtain ⟨⟨h1, h2, h3, h4, h5⟩, h6⟩ := h
  have hh : w'.heap = w.heap ++ w'.heap.extract w.heap.size w'.heap.size := by
    apply Array.ext_getElem?
    intro i
    rcases Nat.lt_or_ge i w.heap.size with hi | hi
    · rw [Array.getElem?_append_left hi, h5 i hi]
    · rw [Array.getElem?_append_right hi, Array.getElem?_extract]
      by_cases h8 : i - w.heap.size < min w'.heap.size w'.heap.size - w.heap.size
      · rw [if_pos h8, show w.heap.size + (i - w.heap.size) = i by omega]
      · rw [if_neg h8, Array.getElem?_eq_none (by omega)]
  obtain ⟨a, b, c, d, e⟩ := w'
  simp only at *
  subst h1 h2 h3
  unfold Go.Sort.grow
  show World.mk _ _ _ _ _ = World.mk _ _ _ _ _
  congr 1
  show c = w.drawn + (c - w.drawn)
  omega
def ExtG (w0 : World) : Type := {w : World // Gro w0.heap.size w0 w}
instance (w0 : World) : Nonempty (ExtG w0) := ⟨⟨w0, Gro.refl _ _⟩⟩
def ExtG.wd {w0 : World} (x : ExtG w0) : World := x.1
theorem ExtG.bel {w0 : World} (x : ExtG w0) : Gro w0.heap.size w0 x.wd := x.2
end Go.Proofs.Ytihbjnjpomljjaa
