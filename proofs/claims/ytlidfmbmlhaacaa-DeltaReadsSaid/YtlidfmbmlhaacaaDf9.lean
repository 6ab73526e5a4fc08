/- Contract: whether pieces may be laid, by the document. -/
import Derived.Test.YtlidfmbmlhaacaaDf7
namespace Go.Proofs.Ytlidfmbmlhaacaa
open Go.RowKit
set_option linter.unusedVariables false
set_option linter.unusedSimpArgs false
theorem okAt_zero' (l : List Pc) : okAt l 0 = ckP (l.getD 0 pc0) := by unfold okAt; simp
theorem okAt_succ' (l : List Pc) (j : Nat) : okAt l (j + 1) = (ckP (l.getD (j + 1) pc0) && okPair (l.getD j pc0) (l.getD (j + 1) pc0)) := by unfold okAt; simp
theorem AtA.tim' {w : World} {a : Addr} {p : Pc} (h : AtA w a (pcL p)) : w.cell? ⟨a.block, a.off + 1, none⟩ = some (.int .i64 p.t) := h 1 _ rfl
set_option maxRecDepth 100000 in
set_option maxHeartbeats 4000000 in
theorem rcheck_c (A : Option Addr) (c : Nat) (l : List Pc) (w : World) (hr : RdP w w.heap.size A l) (h1 : l.length ≤ 100000) (hs : ∀ p ∈ l, p.s.size ≤ 1000000) :
    Calls Try.prog 11 #[.slice A l.length c] w fun e w' => e = .returned (.int .i64 (chkL l : Nat)) ∧ Below w.heap.size w w' := by
  have HR := Lib.hid hr
  have HRC := Lib.hid (rroom_c w.heap.size A c l w hr (by omega) hs)
  have HSZ := Lib.hid (show ∀ k, (l.getD k pc0).s.size ≤ 1000000 from fun k => by
    rcases Nat.lt_or_ge k l.length with h | h
    · exact hs _ (by simp [List.getD_eq_getElem?_getD, h])
    · rw [List.getD_eq_getElem?_getD, List.getElem?_eq_none h]; decide)
  have HCH := Lib.hid (show chkL l = if 256 < l.length ∨ 4096 < roomL l then 3 else if okTo l l.length then 0 else 1 from rfl)
  obtain ⟨r, hr'⟩ : ∃ r, r = chkL l := ⟨_, rfl⟩
  rw [← hr'] at HCH ⊢
  clear hr hs hr'
  by_cases hg : 256 < l.length
  · have HRV := Lib.hid (show r = 3 by rw [HCH.out, if_pos (.inl hg)])
    have p1 : decide ((256 : Int) < (l.length : Int)) = true := decide_eq_true (by omega)
    go_enter Try.func11, Try.ntmps11
    go_wp2_with fail
    go_ret
    exact ⟨by rw [HRV.out]; rfl, Below.refl _ _⟩
  · have p1 : decide ((256 : Int) < (l.length : Int)) = false := decide_eq_false (by omega)
    by_cases hg2 : 4096 < roomL l
    · have HRV := Lib.hid (show r = 3 by rw [HCH.out, if_pos (.inr hg2)])
      have p2 : decide ((4096 : Int) < ((roomL l : Nat) : Int)) = true := decide_eq_true (by omega)
      generalize roomL l = rm at *
      clear hg
      go_enter Try.func11, Try.ntmps11
      go_wp2_with (go_at_call 14; (refine HRC.out.mono ?_); rintro e W1 ⟨rfl, q1, rfl⟩)
      go_ret
      exact ⟨by rw [HRV.out]; rfl, belowDrewN q1 (Below.refl _ _)⟩
    · have HRV := Lib.hid (show r = if okTo l l.length then 0 else 1 by rw [HCH.out, if_neg (by omega)])
      have p2 : decide ((4096 : Int) < ((roomL l : Nat) : Int)) = false := decide_eq_false (by omega)
      have hlen : l.length ≤ 256 := by omega
      generalize roomL l = rm at *
      clear hg hg2
      go_enter Try.func11, Try.ntmps11
      go_wp2_with (go_at_call 14; (refine HRC.out.mono ?_); rintro e W1 ⟨rfl, q1, rfl⟩)
      have HB1 := Lib.hid (belowDrewN q1 (Below.refl w.heap.size w))
      generalize w.drewN q1 = W1 at *
      go_loopw [3] (fun i wr => ∃ k : Nat, k ≤ l.length ∧ i = .int .i64 k ∧ okTo l k = true ∧ Below w.heap.size w wr) (fun i _ => l.length - (intOf i).toNat)
      case atStart => exact ⟨0, Nat.zero_le _, rfl, rfl, HB1.out⟩
      case round =>
        rename World => wr
        obtain ⟨k, hk, rfl, hok, hb⟩ := hrel
        have HOK := Lib.hid hok
        have HB := Lib.hid hb
        clear hok hb HB1 p1 p2
        by_cases hlt : k < l.length
        · have q1 : (k : Int) < (l.length : Int) := by omega
          have hrr := HR.out
          obtain ⟨ad, rfl, hab, hat⟩ := hrr.open_ (by omega)
          have HAT := Lib.hid (hat.below HB.out hab)
          have HAB := Lib.hid (show ad.block < wr.heap.size from Nat.lt_of_lt_of_le hab HB.out.size)
          have HPA := Lib.hid (HAT.out.piece k hlt)
          have HPI := Lib.hid (pcLn (l.getD k pc0))
          have HPC := Lib.hid (fun W => rpcheck_c (l.getD k pc0) W (by have := HSZ.out k; omega))
          have HNO := Lib.hid (okTo_not l k l.length hlt)
          have HNX := Lib.hid (okTo_succ l k)
          have HO0 := Lib.hid (show k = 0 → okAt l k = ckP (l.getD k pc0) from fun h => by rw [h]; exact okAt_zero' l)
          have HOJ := Lib.hid (show ∀ j, k = j + 1 → okAt l k = (ckP (l.getD k pc0) && okPair (l.getD j pc0) (l.getD k pc0)) from fun j h => by rw [h]; exact okAt_succ' l j)
          clear hat hab hrr
          generalize l.getD k pc0 = p at *
          by_cases hck : ckP p = true
          · rw [hck] at HPC
            go_upto_region 8 with (first
              | (refine wpList_loadA rfl 31 (.tmp 20) rfl (ad.add (k * 5)) rfl (pcL p) _ HPA.out Try.underlying31 rfl HPI.out ?_)
              | (go_at_call 24; (refine (HPC.out wr).mono ?_); rintro e W2 ⟨rfl, hb2⟩; have HW2 := Lib.hid hb2; clear hb2))
            have HT2 := Lib.hid (HB.out.trans (HW2.out.mono HB.out.size))
            have HPB := Lib.hid (HPA.out.below HW2.out (by rw [add_block]; exact HAB.out))
            rcases Nat.eq_zero_or_pos k with h0 | h0
            · have d0 : decide (0 < k) = false := decide_eq_false (by omega)
              have HOKN := Lib.hid (show okTo l (k + 1) = true by rw [HNX.out, HOK.out, HO0.out h0, hck]; rfl)
              clear h0 hck
              go_quiet (fail)
              have HW3 := Lib.hid (belowDrewN nq HT2.out)
              generalize W2.drewN nq = Y2 at *
              go_wp2_with fail
              go_roundw
              case rel => exact ⟨k + 1, by omega, by go_num, HOKN.out, HW3.out⟩
              case measure => simp only [intOf]; omega
            · obtain ⟨j, hj⟩ : ∃ j, k = j + 1 := ⟨k - 1, by omega⟩
              have d0 : decide (0 < k) = true := decide_eq_true (by omega)
              have fj : IntKind.i64.wrap ((k : Int) - 1) = (j : Int) := by rw [IntWalk.i64_in _ (by omega)]; omega
              have hjl : (j : Int) < (l.length : Int) := by omega
              have hj0 : (0 : Int) ≤ (j : Int) := by omega
              have HQA := Lib.hid (((HAT.out.below HW2.out HAB.out)).piece j (by omega))
              have HOK2 := Lib.hid (show okAt l k = okPair (l.getD j pc0) p by rw [HOJ.out j hj, hck]; rfl)
              clear hj h0 hck HOJ HO0
              generalize l.getD j pc0 = q at *
              have e0 := HQA.out.ser
              have e1 := HQA.out.tim'
              have e2 := HPB.out.ser
              have e3 := HPB.out.tim'
              have HPR := Lib.hid (show okPair q p = (Op.bytesLess q.s.toList p.s.toList || (q.s.toList == p.s.toList && decide (q.t < p.t))) from rfl)
              rcases (show Op.bytesLess p.s.toList q.s.toList = true ∨ Op.bytesLess p.s.toList q.s.toList = false by cases Op.bytesLess p.s.toList q.s.toList <;> simp) with hL | hL
              · have HBADN := Lib.hid (show r = 1 by
                  rw [HRV.out, HNO.out (by
                    rw [HOK2.out, HPR.out, bless_asym _ _ hL, Bool.false_or]
                    have : (q.s.toList == p.s.toList) = false := by
                      rw [beq_eq_false_iff_ne]
                      intro h; rw [h, bless_irr] at hL; cases hL
                    rw [this]; rfl)]
                  rfl)
                go_quiet (fail)
                have HW3 := Lib.hid (belowDrewN nq HT2.out)
                generalize W2.drewN nq = Y2 at *
                go_wp2_with fail
                go_ret
                exact ⟨by rw [HBADN.out]; rfl, HW3.out⟩
              · rcases (show (p.s.toList == q.s.toList) = true ∨ (p.s.toList == q.s.toList) = false by cases (p.s.toList == q.s.toList) <;> simp) with hS | hS
                · have hS2 : (q.s.toList == p.s.toList) = true := by rw [beq_iff_eq] at hS ⊢; exact hS.symm
                  have hL2 : Op.bytesLess q.s.toList p.s.toList = false := by rw [beq_iff_eq] at hS; rw [hS]; exact bless_irr _
                  by_cases hT : p.t ≤ q.t
                  · have hT1 : decide (p.t ≤ q.t) = true := decide_eq_true hT
                    have HBADN := Lib.hid (show r = 1 by rw [HRV.out, HNO.out (by rw [HOK2.out, HPR.out, hL2, hS2, decide_eq_false (show ¬ q.t < p.t by omega)]; rfl)]; rfl)
                    clear hT hS2 hL2
                    go_quiet (fail)
                    have HW3 := Lib.hid (belowDrewN nq HT2.out)
                    generalize W2.drewN nq = Y2 at *
                    go_wp2_with fail
                    go_ret
                    exact ⟨by rw [HBADN.out]; rfl, HW3.out⟩
                  · have hT1 : decide (p.t ≤ q.t) = false := decide_eq_false hT
                    have HOKN := Lib.hid (show okTo l (k + 1) = true by rw [HNX.out, HOK.out, HOK2.out, HPR.out, hS2, decide_eq_true (show q.t < p.t by omega)]; simp)
                    clear hT hS2 hL2
                    go_quiet (fail)
                    have HW3 := Lib.hid (belowDrewN nq HT2.out)
                    generalize W2.drewN nq = Y2 at *
                    go_wp2_with fail
                    go_roundw
                    case rel => exact ⟨k + 1, by omega, by go_num, HOKN.out, HW3.out⟩
                    case measure => simp only [intOf]; omega
                · have HOKN := Lib.hid (show okTo l (k + 1) = true by
                    rw [HNX.out, HOK.out, HOK2.out, HPR.out, bless_tri _ _ (by rw [beq_eq_false_iff_ne] at hS; exact hS) hL]; rfl)
                  go_quiet (fail)
                  have HW3 := Lib.hid (belowDrewN nq HT2.out)
                  generalize W2.drewN nq = Y2 at *
                  go_wp2_with fail
                  go_roundw
                  case rel => exact ⟨k + 1, by omega, by go_num, HOKN.out, HW3.out⟩
                  case measure => simp only [intOf]; omega
          · have hck' : ckP p = false := by simpa using hck
            rw [hck'] at HPC
            have HRV1 := Lib.hid (show r = 1 by
              rw [HRV.out, HNO.out (by
                rcases Nat.eq_zero_or_pos k with h | h
                · rw [HO0.out h, hck']
                · rw [HOJ.out (k - 1) (by omega), hck', Bool.false_and])]
              rfl)
            clear hck hck'
            go_wp2_with (first
              | (refine wpList_loadA rfl 31 (.tmp 20) rfl (ad.add (k * 5)) rfl (pcL p) _ HPA.out Try.underlying31 rfl HPI.out ?_)
              | (go_at_call 24; (refine (HPC.out wr).mono ?_); rintro e W2 ⟨rfl, hb2⟩; have HW2 := Lib.hid (HB.out.trans (hb2.mono HB.out.size)); clear hb2))
            go_ret
            exact ⟨by rw [HRV1.out]; rfl, HW2.out⟩
        · obtain rfl : k = l.length := by omega
          have HRV1 := Lib.hid (show r = 0 by rw [HRV.out, HOK.out]; rfl)
          go_wp2_with fail
          go_ret
          exact ⟨by rw [HRV1.out]; rfl, HB.out⟩
end Go.Proofs.Ytlidfmbmlhaacaa
