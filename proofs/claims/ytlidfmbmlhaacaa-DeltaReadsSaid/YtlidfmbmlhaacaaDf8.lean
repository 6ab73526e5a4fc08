/- Contract: whether pieces may be laid. -/
import Derived.Test.YtlidfmbmlhaacaaDf7
namespace Go.Proofs.Ytlidfmbmlhaacaa
open Go.RowKit
set_option linter.unusedVariables false
set_option linter.unusedSimpArgs false
theorem below_setRow (w : World) (g : Nat) (cs : Array Value) {n : Nat} (h : n ≤ g) : Below n w (w.setRow g cs) := ⟨rfl, rfl, rfl, by simp [World.setRow], fun i hi => setRow_other _ _ i _ (by omega)⟩
theorem new_row (W : World) (T : TypeId) (old cs : Array Value) : Blk ((W.alloc (Obj.cells old T)).setRow W.heap.size cs) W.heap.size T cs ∧ Below W.heap.size W ((W.alloc (Obj.cells old T)).setRow W.heap.size cs) :=
  ⟨setRow_heap _ _ _ _ _ (0, 0) (Blk.new W _ _), ((Below.refl _ _).alloc (Nat.le_refl _) _).trans (below_setRow _ _ _ (Nat.le_refl _))⟩
def zPc : Array Value := pcV pc0
theorem zero_pc (w : World) : (zeroValue 31).run Try.prog w = .ok (.agg zPc) w := by kernel_rfl
theorem pcV_one (p : Pc) : (pcV p).all (·.oneCell') = true := by simp [pcV, pcL, Value.oneCell']
theorem cmpI_neg (x y : Int) : cmpI x y < 0 ↔ x < y := by unfold cmpI; split <;> (try split) <;> omega
theorem cmpI_zero (x y : Int) : cmpI x y = 0 ↔ x = y := by unfold cmpI; split <;> (try split) <;> omega
theorem cmpS_neg (a b : ByteArray) : cmpS a b < 0 ↔ ltS a b = true := by
  unfold cmpS
  split
  · rename_i h; simp [h]
  · rename_i h
    split <;> simp [h]
theorem cmpS_zero (a b : ByteArray) : cmpS a b = 0 ↔ a = b := by
  unfold cmpS
  split
  · rename_i h
    constructor
    · intro h1; omega
    · rintro rfl; unfold ltS at h; rw [bless_irr] at h; cases h
  · rename_i h
    split
    · rename_i h2
      constructor
      · intro h1; omega
      · rintro rfl; unfold ltS at h2; rw [bless_irr] at h2; cases h2
    · rename_i h2
      constructor
      · intro _
        by_cases he : a = b
        · exact he
        · unfold ltS at h h2
          have h3 := bless_tri a.toList b.toList (fun h => he (toList_inj h)) (by simpa using h)
          exact absurd h3 h2
      · intro _; rfl
/-- what the program asks of two that follow one another -/
theorem okPair_less (q p : Pc) : okPair q p = (lessP q p && !((q.s.toList == p.s.toList) && (q.t == p.t))) := by
  have hl : lessP q p = true ↔ (ltS q.s p.s = true ∨ (q.s = p.s ∧ (q.t < p.t ∨ (q.t = p.t ∧ cmpD q.n q.d p.n p.d < 0)))) := by
    unfold lessP cmpP
    rw [decide_eq_true_iff, orL]
    by_cases h0 : cmpS q.s p.s = 0
    · rw [if_pos h0]
      have h1 := (cmpS_zero _ _).1 h0
      have h2 : ¬ ltS q.s p.s = true := fun h => by have := (cmpS_neg _ _).2 h; omega
      rw [orL]
      by_cases h3 : cmpI q.t p.t = 0
      · rw [if_pos h3]
        have h4 := (cmpI_zero _ _).1 h3
        have h5 : orL [cmpD q.n q.d p.n p.d] = cmpD q.n q.d p.n p.d := by
          rw [orL]
          split
          · rename_i h6; rw [h6]; rfl
          · rfl
        rw [h5]
        constructor
        · intro h; exact .inr ⟨h1, .inr ⟨h4, h⟩⟩
        · rintro (h | ⟨_, h | ⟨_, h⟩⟩)
          · exact absurd h h2
          · omega
          · exact h
      · rw [if_neg h3]
        have h4 : q.t ≠ p.t := fun h => h3 ((cmpI_zero _ _).2 h)
        rw [cmpI_neg]
        constructor
        · intro h; exact .inr ⟨h1, .inl h⟩
        · rintro (h | ⟨_, h | ⟨h, _⟩⟩)
          · exact absurd h h2
          · exact h
          · exact absurd h h4
    · rw [if_neg h0, cmpS_neg]
      constructor
      · intro h; exact .inl h
      · rintro (h | ⟨h, _⟩)
        · exact h
        · exact absurd ((cmpS_zero _ _).2 h) h0
  rw [Bool.eq_iff_iff]
  unfold okPair
  rw [Bool.or_eq_true, Bool.and_eq_true, Bool.and_eq_true, hl, Bool.not_eq_true', Bool.and_eq_false_iff, beq_iff_eq, decide_eq_true_iff, beq_eq_false_iff_ne, beq_eq_false_iff_ne]
  constructor
  · rintro (h | ⟨h, h2⟩)
    · refine ⟨.inl h, .inl (fun e => ?_)⟩
      unfold ltS at h
      rw [e, bless_irr] at h
      cases h
    · exact ⟨.inr ⟨toList_inj h, .inl h2⟩, .inr (by omega)⟩
  · rintro ⟨h | ⟨h, h2⟩, h3⟩
    · exact .inl h
    · rcases h3 with h3 | h3
      · exact absurd (by rw [h]) h3
      · rcases h2 with h2 | ⟨h2, _⟩
        · exact .inr ⟨by rw [h], h2⟩
        · exact absurd h2 h3
theorem AtA.tim {w : World} {a : Addr} {p : Pc} (h : AtA w a (pcL p)) : w.cell? ⟨a.block, a.off + 1, none⟩ = some (.int .i64 p.t) := h 1 _ rfl
theorem run_loadA {P : Program} (w : World) (a : Addr) (ty : TypeId) (l : List Value) (d : TypeDesc) (hc : AtA w a l) (hu : P.underlying ty = some d) (hd : d.isRow = true) (hi : (P.info? ty).map (·.size) = some l.length) {o : Oper} {ρ : Operand → Value} (x : Operand) (ho : o.op = .load ty x) (hx : ρ x = .pointer (some a)) :
    (execOp ρ o).run P w = .ok (.value (.agg l.toArray)) w := by
  unfold execOp
  simp only [ho, hx, Instr.loadAt, Instr.sureAddr, Sem.run_bind, Sem.run_pure, Result.andThen_ok, run_loadVar_at w a ty l d hc hu hd hi]
theorem AtA.blk {w : World} {g : Nat} {T : TypeId} {p : Pc} (h : Blk w g T (pcV p)) : AtA w ⟨g, 0, none⟩ (pcL p) := fun j v hv => by
  rw [Addr.add_mid, Nat.zero_add]
  refine (h.cell j).trans ?_
  rw [← hv]
  exact List.getElem?_toArray
theorem wpQuiet_loadA {P : Program} {ops : Array Oper} {C : World → Prop} {Q : Act → Prop} {a : Act} {o : Oper} {rest : List Oper} (ty : TypeId) (x : Operand) (ho : o.op = .load ty x) (hw : Region.wanted o (yielded ops a.tmps) = true) (b : Addr) (hx : a.eval x = .pointer (some b))
    (l : List Value) (d : TypeDesc) (hC : ∀ w, C w → AtA w b l) (hu : P.underlying ty = some d) (hd : d.isRow = true) (hi : (P.info? ty).map (·.size) = some l.length)
    (a' : Act) (ha : a.put o.dst (.agg l.toArray) = a') (h : wpQuiet P ops C Q rest a') : wpQuiet P ops C Q (o :: rest) a := by
  refine BigFrame.wpQuiet_want hw fun K hK => ⟨.agg l.toArray, fun w hw' => ?_, ?_⟩
  · unfold Oper.quietAt execOp
    simp only [ho, hx, Instr.loadAt, Instr.sureAddr, Sem.run_bind, Sem.run_pure, Result.andThen_ok, run_loadVar_at w b ty l d (hC w hw') hu hd hi]
    exact ⟨rfl, rfl⟩
  · rw [ha]; exact hK _ h
theorem okAt_zero (l : List Pc) : okAt l 0 = ckP (l.getD 0 pc0) := by unfold okAt; simp
theorem okAt_succ (l : List Pc) (j : Nat) : okAt l (j + 1) = (ckP (l.getD (j + 1) pc0) && okPair (l.getD j pc0) (l.getD (j + 1) pc0)) := by unfold okAt; simp
theorem pcE_ok {p : Pc} (h : ckP p = true) : pcE p = 0 := by unfold pcE; rw [if_pos h]
theorem pcE_bad {p : Pc} (h : ckP p = false) : pcE p = 1 := by unfold pcE; rw [h]; rfl
set_option maxRecDepth 100000 in
set_option maxHeartbeats 4000000 in
theorem check_c (A : Option Addr) (c : Nat) (l : List Pc) (w : World) (hr : RdP w w.heap.size A l) (hc : l.length ≤ c) (h1 : l.length ≤ 100000) (hs : ∀ p ∈ l, p.s.size ≤ 1000000) :
    Calls Try.prog 12 #[.slice A l.length c] w fun e w' => e = .returned (.int .i64 (chkL l : Nat)) ∧ Below w.heap.size w w' := by
  have zf := zero_pc
  have zs1 : zPc.size = 5 := by rfl
  have zs2 : ¬ zPc = #[] := by intro h; have := congrArg Array.size h; rw [zs1] at this; cases this
  have HR := Lib.hid hr
  have HRC := Lib.hid (room_c A c l w hr hc h1 hs)
  have HSZ := Lib.hid (show ∀ k, (l.getD k pc0).s.size ≤ 1000000 from fun k => by
    rcases Nat.lt_or_ge k l.length with h | h
    · exact hs _ (by simp [List.getD_eq_getElem?_getD, h])
    · rw [List.getD_eq_getElem?_getD, List.getElem?_eq_none h]; decide)
  have HCH := Lib.hid (show chkL l = if 256 < l.length ∨ 4096 < roomL l then 3 else if okTo l l.length then 0 else 1 from rfl)
  obtain ⟨r, hr'⟩ : ∃ r, r = chkL l := ⟨_, rfl⟩
  rw [← hr'] at HCH ⊢
  clear hr hs hr'
  by_cases hg : 256 < l.length
  · have HRV := Lib.hid (show r = 3 by rw [HCH.out, if_pos (.inl hg)])
    have p1 : decide ((256 : Int) < (l.length : Int)) = true := decide_eq_true (by omega)
    go_enter Try.func12, Try.ntmps12
    go_wp2_with fail
    go_ret
    exact ⟨by rw [HRV.out]; rfl, Below.refl _ _⟩
  · have p1 : decide ((256 : Int) < (l.length : Int)) = false := decide_eq_false (by omega)
    by_cases hg2 : 4096 < roomL l
    · have HRV := Lib.hid (show r = 3 by rw [HCH.out, if_pos (.inr hg2)])
      have p2 : decide ((4096 : Int) < ((roomL l : Nat) : Int)) = true := decide_eq_true (by omega)
      generalize roomL l = rm at *
      clear hg
      go_enter Try.func12, Try.ntmps12
      go_wp2_with (go_at_call 13; (refine HRC.out.mono ?_); rintro e W1 ⟨rfl, hb⟩; have HB1 := Lib.hid hb; clear hb)
      go_ret
      exact ⟨by rw [HRV.out]; rfl, HB1.out⟩
    · have HRV := Lib.hid (show r = if okTo l l.length then 0 else 1 by rw [HCH.out, if_neg (by omega)])
      have p2 : decide ((4096 : Int) < ((roomL l : Nat) : Int)) = false := decide_eq_false (by omega)
      have hlen : l.length ≤ 256 := by omega
      generalize roomL l = rm at *
      clear hg hg2
      go_enter Try.func12, Try.ntmps12
      go_wp2_with (go_at_call 13; (refine HRC.out.mono ?_); rintro e W1 ⟨rfl, hb⟩; have HB1 := Lib.hid hb; clear hb)
      go_loopw [15] (fun i wr => ∃ k : Nat, k ≤ l.length ∧ i = .int .i64 k ∧ okTo l k = true ∧ Below w.heap.size w wr) (fun i _ => l.length - (intOf i).toNat)
      case atStart => exact ⟨0, Nat.zero_le _, rfl, rfl, HB1.out⟩
      case round =>
        rename World => wr
        obtain ⟨k, hk, rfl, hok, hb⟩ := hrel
        have HOK := Lib.hid hok
        have HB := Lib.hid hb
        clear hok hb HB1 p1 p2
        by_cases hlt : k < l.length
        · have q1 : (k : Int) < (l.length : Int) := by omega
          have hrr := HR.out
          obtain ⟨ad, rfl, hab, hat⟩ := hrr.open_ (by omega)
          have HAT := Lib.hid (hat.below HB.out hab)
          have HAB := Lib.hid (show ad.block < wr.heap.size from Nat.lt_of_lt_of_le hab HB.out.size)
          have HPA := Lib.hid (HAT.out.piece k hlt)
          have HPI := Lib.hid (pcLn (l.getD k pc0))
          have HPS := Lib.hid (pcInfo (l.getD k pc0))
          have HPC := Lib.hid (fun W => pcheck_c (l.getD k pc0) W (by have := HSZ.out k; omega))
          have HNO := Lib.hid (okTo_not l k l.length hlt)
          have HNX := Lib.hid (okTo_succ l k)
          have HO0 := Lib.hid (show k = 0 → okAt l k = ckP (l.getD k pc0) from fun h => by rw [h]; exact okAt_zero l)
          have HOJ := Lib.hid (show ∀ j, k = j + 1 → okAt l k = (ckP (l.getD k pc0) && okPair (l.getD j pc0) (l.getD k pc0)) from fun j h => by rw [h]; exact okAt_succ l j)
          clear hat hab hrr
          generalize l.getD k pc0 = p at *
          go_upto_region 6 with (first
            | (refine wpList_loadA rfl 31 (.tmp 18) rfl (ad.add (k * 5)) rfl (pcL p) _ HPA.out Try.underlying31 rfl HPI.out ?_)
            | (refine wpList_store_rowTo rfl 31 (.tmp 4) (.tmp 19) rfl rfl wr.heap.size (pcV p) rfl rfl 31 zPc (by exact Blk.new wr _ _) HPS.out rfl (pcV_one _) ?_))
          have hnr := new_row wr 31 zPc (pcV p)
          have HX := Lib.hid hnr.1
          have HXW := Lib.hid hnr.2
          generalize (wr.alloc (Obj.cells zPc 31)).setRow wr.heap.size (pcV p) = X at *
          clear hnr
          have HXT := Lib.hid (show Below w.heap.size w X from HB.out.trans (HXW.out.mono HB.out.size))
          by_cases hck : ckP p = true
          · have HPC1 := Lib.hid (show Calls Try.prog 23 #[.agg (pcV p)] X fun e w' => e = .returned (.int .i64 0) ∧ Below X.heap.size X w' from by have h := HPC.out X; rw [pcE_ok hck] at h; exact h)
            go_upto_region 8 with (first
              | (refine wpList_load_row rfl 31 (.tmp 4) rfl wr.heap.size rfl 31 (pcV p) (0, 0) _ HX.out Try.underlying31 rfl HPS.out ?_)
              | (go_at_call 23; (refine HPC1.out.mono ?_); rintro e W2 ⟨rfl, hb2⟩; have HX2 := Lib.hid (HX.out.below hb2 HX.out.lt); have HW2 := Lib.hid (HXW.out.trans (hb2.mono HXW.out.size)); clear hb2))
            have HT2 := Lib.hid (HB.out.trans (HW2.out.mono HB.out.size))
            have HAB2 := Lib.hid (show ad.block < W2.heap.size from Nat.lt_of_lt_of_le HAB.out HW2.out.size)
            rcases Nat.eq_zero_or_pos k with h0 | h0
            · have d0 : decide (0 < k) = false := decide_eq_false (by omega)
              have HOKN := Lib.hid (show okTo l (k + 1) = true by rw [HNX.out, HOK.out, HO0.out h0, hck]; rfl)
              clear h0 hck
              go_quiet (fail)
              have HBZ := Lib.hid (belowDrewN nq HT2.out)
              generalize W2.drewN nq = Y2 at *
              go_wp2_with fail
              go_roundw
              case rel => exact ⟨k + 1, by omega, by go_num, HOKN.out, HBZ.out⟩
              case measure => simp only [intOf]; omega
            · obtain ⟨j, hj⟩ : ∃ j, k = j + 1 := ⟨k - 1, by omega⟩
              have d0 : decide (0 < k) = true := decide_eq_true (by omega)
              have fj : IntKind.i64.wrap ((k : Int) - 1) = (j : Int) := by rw [IntWalk.i64_in _ (by omega)]; omega
              have hjl : (j : Int) < (l.length : Int) := by omega
              have hj0 : (0 : Int) ≤ (j : Int) := by omega
              have HQA := Lib.hid (((HAT.out.below HW2.out HAB.out)).piece j (by omega))
              have HQI := Lib.hid (pcLn (l.getD j pc0))
              have HLL := Lib.hid (fun W => less_c (l.getD j pc0) p W)
              have HOK2 := Lib.hid (show okAt l k = (lessP (l.getD j pc0) p && !(((l.getD j pc0).s.toList == p.s.toList) && ((l.getD j pc0).t == p.t))) by rw [HOJ.out j hj, hck, okPair_less]; rfl)
              clear hj h0 hck HOJ HO0
              generalize l.getD j pc0 = q at *
              have e0 := cell_ext (HQA.out.ser)
              have e1 := cell_ext (HQA.out.tim)
              have e2 := cell_ext (show W2.cell? ⟨wr.heap.size, 0, none⟩ = some (.string p.s) from (HX2.out.cell 0).trans rfl)
              have e3 := cell_ext (show W2.cell? ⟨wr.heap.size, 1, none⟩ = some (.int .i64 p.t) from (HX2.out.cell 1).trans rfl)
              rcases (show lessP q p = true ∨ lessP q p = false by cases lessP q p <;> simp) with hL | hL
              · rw [hL] at HLL HOK2
                have HLS := Lib.hid HLL.out
                clear hL HLL
                rcases (show (q.s.toList == p.s.toList) = true ∨ (q.s.toList == p.s.toList) = false by cases (q.s.toList == p.s.toList) <;> simp) with hS | hS
                · rcases (show (q.t == p.t) = true ∨ (q.t == p.t) = false by cases (q.t == p.t) <;> simp) with hT | hT
                  · have HBADN := Lib.hid (show r = 1 by rw [HRV.out, HNO.out (by rw [HOK2.out, hS, hT]; rfl)]; rfl)
                    refine wp_region_class (Ext.wd (w0 := W2)) (by kernel_rfl) (by kernel_rfl) (Ext.of (Below.refl _ _).drew) ?_
                    repeat (first
                      | go_big_quiet_skip
                      | (refine wpQuiet_loadA 31 (.tmp 29) rfl rfl (ad.add (j * 5)) rfl (pcL q) _ (fun w hw => by obtain ⟨x, rfl⟩ := hw; exact HQA.out.below x.bel (by rw [add_block]; exact HAB2.out)) Try.underlying31 rfl HQI.out _ (by simp only [Act.put, List.setIfInBounds_toArray, List.set_cons_succ, List.set_cons_zero]; rfl) ?_)
                      | (refine wpQuiet_loadA 31 (.tmp 4) rfl rfl ⟨wr.heap.size, 0, none⟩ rfl (pcL p) _ (fun w hw => by obtain ⟨x, rfl⟩ := hw; exact AtA.blk (HX2.out.below x.bel HX2.out.lt)) Try.underlying31 rfl HPI.out _ (by simp only [Act.put, List.setIfInBounds_toArray, List.set_cons_succ, List.set_cons_zero]; rfl) ?_)
                      | (go_big_quiet_step ((go_at_call 27; exact ext_call (HLS.out _)))))
                    refine wpQuiet_nil ?_
                    rintro _ ⟨z, rfl⟩
                    have HBZ := Lib.hid (HT2.out.trans (z.bel.mono HT2.out.size))
                    generalize z.wd = Y2 at *
                    go_wp2_with fail
                    go_ret
                    exact ⟨by rw [HBADN.out]; rfl, HBZ.out⟩
                  · have HOKN := Lib.hid (show okTo l (k + 1) = true by rw [HNX.out, HOK.out, HOK2.out, hS, hT]; rfl)
                    refine wp_region_class (Ext.wd (w0 := W2)) (by kernel_rfl) (by kernel_rfl) (Ext.of (Below.refl _ _).drew) ?_
                    repeat (first
                      | go_big_quiet_skip
                      | (refine wpQuiet_loadA 31 (.tmp 29) rfl rfl (ad.add (j * 5)) rfl (pcL q) _ (fun w hw => by obtain ⟨x, rfl⟩ := hw; exact HQA.out.below x.bel (by rw [add_block]; exact HAB2.out)) Try.underlying31 rfl HQI.out _ (by simp only [Act.put, List.setIfInBounds_toArray, List.set_cons_succ, List.set_cons_zero]; rfl) ?_)
                      | (refine wpQuiet_loadA 31 (.tmp 4) rfl rfl ⟨wr.heap.size, 0, none⟩ rfl (pcL p) _ (fun w hw => by obtain ⟨x, rfl⟩ := hw; exact AtA.blk (HX2.out.below x.bel HX2.out.lt)) Try.underlying31 rfl HPI.out _ (by simp only [Act.put, List.setIfInBounds_toArray, List.set_cons_succ, List.set_cons_zero]; rfl) ?_)
                      | (go_big_quiet_step ((go_at_call 27; exact ext_call (HLS.out _)))))
                    refine wpQuiet_nil ?_
                    rintro _ ⟨z, rfl⟩
                    have HBZ := Lib.hid (HT2.out.trans (z.bel.mono HT2.out.size))
                    generalize z.wd = Y2 at *
                    go_wp2_with fail
                    go_roundw
                    case rel => exact ⟨k + 1, by omega, by go_num, HOKN.out, HBZ.out⟩
                    case measure => simp only [intOf]; omega
                · have HOKN := Lib.hid (show okTo l (k + 1) = true by rw [HNX.out, HOK.out, HOK2.out, hS]; rfl)
                  refine wp_region_class (Ext.wd (w0 := W2)) (by kernel_rfl) (by kernel_rfl) (Ext.of (Below.refl _ _).drew) ?_
                  repeat (first
                    | go_big_quiet_skip
                    | (refine wpQuiet_loadA 31 (.tmp 29) rfl rfl (ad.add (j * 5)) rfl (pcL q) _ (fun w hw => by obtain ⟨x, rfl⟩ := hw; exact HQA.out.below x.bel (by rw [add_block]; exact HAB2.out)) Try.underlying31 rfl HQI.out _ (by simp only [Act.put, List.setIfInBounds_toArray, List.set_cons_succ, List.set_cons_zero]; rfl) ?_)
                    | (refine wpQuiet_loadA 31 (.tmp 4) rfl rfl ⟨wr.heap.size, 0, none⟩ rfl (pcL p) _ (fun w hw => by obtain ⟨x, rfl⟩ := hw; exact AtA.blk (HX2.out.below x.bel HX2.out.lt)) Try.underlying31 rfl HPI.out _ (by simp only [Act.put, List.setIfInBounds_toArray, List.set_cons_succ, List.set_cons_zero]; rfl) ?_)
                    | (go_big_quiet_step ((go_at_call 27; exact ext_call (HLS.out _)))))
                  refine wpQuiet_nil ?_
                  rintro _ ⟨z, rfl⟩
                  have HBZ := Lib.hid (HT2.out.trans (z.bel.mono HT2.out.size))
                  generalize z.wd = Y2 at *
                  go_wp2_with fail
                  go_roundw
                  case rel => exact ⟨k + 1, by omega, by go_num, HOKN.out, HBZ.out⟩
                  case measure => simp only [intOf]; omega
              · rw [hL] at HLL HOK2
                have HLS := Lib.hid HLL.out
                have HBADN := Lib.hid (show r = 1 by rw [HRV.out, HNO.out (by rw [HOK2.out]; rfl)]; rfl)
                clear hL HLL
                refine wp_region_class (Ext.wd (w0 := W2)) (by kernel_rfl) (by kernel_rfl) (Ext.of (Below.refl _ _).drew) ?_
                repeat (first
                  | go_big_quiet_skip
                  | (refine wpQuiet_loadA 31 (.tmp 29) rfl rfl (ad.add (j * 5)) rfl (pcL q) _ (fun w hw => by obtain ⟨x, rfl⟩ := hw; exact HQA.out.below x.bel (by rw [add_block]; exact HAB2.out)) Try.underlying31 rfl HQI.out _ (by simp only [Act.put, List.setIfInBounds_toArray, List.set_cons_succ, List.set_cons_zero]; rfl) ?_)
                  | (refine wpQuiet_loadA 31 (.tmp 4) rfl rfl ⟨wr.heap.size, 0, none⟩ rfl (pcL p) _ (fun w hw => by obtain ⟨x, rfl⟩ := hw; exact AtA.blk (HX2.out.below x.bel HX2.out.lt)) Try.underlying31 rfl HPI.out _ (by simp only [Act.put, List.setIfInBounds_toArray, List.set_cons_succ, List.set_cons_zero]; rfl) ?_)
                  | (go_big_quiet_step ((go_at_call 27; exact ext_call (HLS.out _)))))
                refine wpQuiet_nil ?_
                rintro _ ⟨z, rfl⟩
                have HBZ := Lib.hid (HT2.out.trans (z.bel.mono HT2.out.size))
                generalize z.wd = Y2 at *
                go_wp2_with fail
                go_ret
                exact ⟨by rw [HBADN.out]; rfl, HBZ.out⟩
          · have hck' : ckP p = false := by simpa using hck
            have HPC1 := Lib.hid (show Calls Try.prog 23 #[.agg (pcV p)] X fun e w' => e = .returned (.int .i64 1) ∧ Below X.heap.size X w' from by have h := HPC.out X; rw [pcE_bad hck'] at h; exact h)
            have HRV1 := Lib.hid (show r = 1 by
              rw [HRV.out, HNO.out (by
                rcases Nat.eq_zero_or_pos k with h | h
                · rw [HO0.out h, hck']
                · rw [HOJ.out (k - 1) (by omega), hck', Bool.false_and])]
              rfl)
            clear hck hck'
            go_wp2_with (first
              | (refine wpList_load_row rfl 31 (.tmp 4) rfl wr.heap.size rfl 31 (pcV p) (0, 0) _ HX.out Try.underlying31 rfl HPS.out ?_)
              | (go_at_call 23; (refine HPC1.out.mono ?_); rintro e W2 ⟨rfl, hb2⟩; have HW2 := Lib.hid (HXT.out.trans (hb2.mono HXT.out.size)); clear hb2))
            go_ret
            exact ⟨by rw [HRV1.out]; rfl, HW2.out⟩
        · obtain rfl : k = l.length := by omega
          have HRV1 := Lib.hid (show r = 0 by rw [HRV.out, HOK.out]; rfl)
          go_wp2_with fail
          go_ret
          exact ⟨by rw [HRV1.out]; rfl, HB.out⟩
end Go.Proofs.Ytlidfmbmlhaacaa
