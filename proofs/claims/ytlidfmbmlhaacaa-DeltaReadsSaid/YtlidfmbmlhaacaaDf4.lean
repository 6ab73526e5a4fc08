/- Contracts: whether a piece may be; the document's room. -/
import Derived.Test.YtlidfmbmlhaacaaDf3
import Derived.IntWalk
namespace Go.Proofs.Ytlidfmbmlhaacaa
open Go.RowKit
set_option linter.unusedVariables false
set_option linter.unusedSimpArgs false
def pcE (p : Pc) : Int := if ckP p then 0 else 1
set_option maxRecDepth 100000 in
theorem pcheck_c (p : Pc) (w : World) (hz : p.s.size ≤ 9223372036854775807) : Calls Try.prog 23 #[.agg (pcV p)] w fun e w' => e = .returned (.int .i64 (pcE p)) ∧ Below w.heap.size w w' := by
  have HCK := Lib.hid (show ckP p = (decide (1 ≤ p.s.size) && decide (p.s.size ≤ 200)) from rfl)
  obtain ⟨r, hr⟩ : ∃ r, r = pcE p := ⟨_, rfl⟩
  rw [← hr]
  have h1 : Blk (w.alloc (Obj.cells (pcV p) 31)) w.heap.size 31 (pcV p) := Blk.new w _ _
  have HB := Lib.hid (show Below w.heap.size w (w.alloc (Obj.cells (pcV p) 31)) from (Below.refl _ _).alloc (Nat.le_refl _) _)
  have c0 : (w.alloc (Obj.cells (pcV p) 31)).cell? ⟨w.heap.size, 0, none⟩ = some (.string p.s) := (h1.cell 0).trans rfl
  clear h1
  rcases (show p.s.size = 0 ∨ (1 ≤ p.s.size ∧ p.s.size ≤ 200) ∨ 200 < p.s.size by omega) with hc | ⟨hc1, hc2⟩ | hc
  · have HBB := Lib.hid (show r = 1 by rw [hr]; show (if ckP p then (0 : Int) else 1) = _; rw [HCK.out, hc]; rfl)
    have HH := Lib.hid hc
    have t0 : ((p.s.size : Int) == 0) = true := by rw [hc]; rfl
    have t1 : decide ((1 : Int) ≤ (p.s.size : Int)) = false := by rw [hc]; rfl
    clear hc hz hr
    go_enter Try.func23, Try.ntmps23
    go_upto_region 1 with (refine Go.Great.wpList_boxTo rfl 31 (.tmp 0) rfl (some 1) rfl w.heap.size rfl (pcV p) rfl ?_)
    generalize w.alloc (Obj.cells (pcV p) 31) = Z at *
    go_wp2_with fail
    go_ret
    exact ⟨by rw [HBB.out]; rfl, HB.out⟩
  · have HBB := Lib.hid (show r = 0 by rw [hr]; show (if ckP p then (0 : Int) else 1) = _; rw [HCK.out, decide_eq_true hc1, decide_eq_true hc2]; rfl)
    have t0 : ((p.s.size : Int) == 0) = false := by rw [beq_eq_false_iff_ne]; omega
    have t1 : decide ((1 : Int) ≤ (p.s.size : Int)) = true := decide_eq_true (by omega)
    have t2 : decide ((200 : Int) < (p.s.size : Int)) = false := decide_eq_false (by omega)
    have t3 : decide ((p.s.size : Int) ≤ 200) = true := decide_eq_true (by omega)
    clear hc1 hc2 hz hr
    go_enter Try.func23, Try.ntmps23
    go_upto_region 1 with (refine Go.Great.wpList_boxTo rfl 31 (.tmp 0) rfl (some 1) rfl w.heap.size rfl (pcV p) rfl ?_)
    generalize w.alloc (Obj.cells (pcV p) 31) = Z at *
    go_wp2_with fail
    go_ret
    exact ⟨by rw [HBB.out]; rfl, HB.out⟩
  · have HBB := Lib.hid (show r = 1 by rw [hr]; show (if ckP p then (0 : Int) else 1) = _; rw [HCK.out, decide_eq_false (show ¬ p.s.size ≤ 200 by omega), Bool.and_false]; try rfl)
    have t0 : ((p.s.size : Int) == 0) = false := by rw [beq_eq_false_iff_ne]; omega
    have t1 : decide ((1 : Int) ≤ (p.s.size : Int)) = true := decide_eq_true (by omega)
    have t2 : decide ((200 : Int) < (p.s.size : Int)) = true := decide_eq_true (by omega)
    have t3 : decide ((p.s.size : Int) ≤ 200) = false := decide_eq_false (by omega)
    clear hc hz hr
    go_enter Try.func23, Try.ntmps23
    go_upto_region 1 with (refine Go.Great.wpList_boxTo rfl 31 (.tmp 0) rfl (some 1) rfl w.heap.size rfl (pcV p) rfl ?_)
    generalize w.alloc (Obj.cells (pcV p) 31) = Z at *
    go_wp2_with fail
    go_ret
    exact ⟨by rw [HBB.out]; rfl, HB.out⟩
set_option maxRecDepth 100000 in
theorem rpcheck_c (p : Pc) (w : World) (hz : p.s.size ≤ 9223372036854775807) : Calls Try.prog 24 #[.agg (pcV p)] w fun e w' => e = .returned (.bool (ckP p)) ∧ Below w.heap.size w w' := by
  have HCK := Lib.hid (show ckP p = (decide (1 ≤ p.s.size) && decide (p.s.size ≤ 200)) from rfl)
  obtain ⟨r, hr⟩ : ∃ r, r = ckP p := ⟨_, rfl⟩
  rw [← hr]
  have h1 : Blk (w.alloc (Obj.cells (pcV p) 31)) w.heap.size 31 (pcV p) := Blk.new w _ _
  have HB := Lib.hid (show Below w.heap.size w (w.alloc (Obj.cells (pcV p) 31)) from (Below.refl _ _).alloc (Nat.le_refl _) _)
  have c0 : (w.alloc (Obj.cells (pcV p) 31)).cell? ⟨w.heap.size, 0, none⟩ = some (.string p.s) := (h1.cell 0).trans rfl
  clear h1
  rcases (show p.s.size = 0 ∨ (1 ≤ p.s.size ∧ p.s.size ≤ 200) ∨ 200 < p.s.size by omega) with hc | ⟨hc1, hc2⟩ | hc
  · have HBB := Lib.hid (show r = false by rw [hr]; show (ckP p) = _; rw [HCK.out, hc]; rfl)
    have HH := Lib.hid hc
    have t0 : ((p.s.size : Int) == 0) = true := by rw [hc]; rfl
    have t1 : decide ((1 : Int) ≤ (p.s.size : Int)) = false := by rw [hc]; rfl
    clear hc hz hr
    go_enter Try.func24, Try.ntmps24
    go_upto_region 1 with (refine Go.Great.wpList_boxTo rfl 31 (.tmp 0) rfl (some 1) rfl w.heap.size rfl (pcV p) rfl ?_)
    generalize w.alloc (Obj.cells (pcV p) 31) = Z at *
    go_wp2_with fail
    go_ret
    exact ⟨by rw [HBB.out]; rfl, HB.out⟩
  · have HBB := Lib.hid (show r = true by rw [hr]; show (ckP p) = _; rw [HCK.out, decide_eq_true hc1, decide_eq_true hc2]; rfl)
    have t0 : ((p.s.size : Int) == 0) = false := by rw [beq_eq_false_iff_ne]; omega
    have t1 : decide ((1 : Int) ≤ (p.s.size : Int)) = true := decide_eq_true (by omega)
    have t2 : decide ((200 : Int) < (p.s.size : Int)) = false := decide_eq_false (by omega)
    have t3 : decide ((p.s.size : Int) ≤ 200) = true := decide_eq_true (by omega)
    clear hc1 hc2 hz hr
    go_enter Try.func24, Try.ntmps24
    go_upto_region 1 with (refine Go.Great.wpList_boxTo rfl 31 (.tmp 0) rfl (some 1) rfl w.heap.size rfl (pcV p) rfl ?_)
    generalize w.alloc (Obj.cells (pcV p) 31) = Z at *
    go_wp2_with fail
    go_ret
    exact ⟨by rw [HBB.out]; rfl, HB.out⟩
  · have HBB := Lib.hid (show r = false by rw [hr]; show (ckP p) = _; rw [HCK.out, decide_eq_false (show ¬ p.s.size ≤ 200 by omega), Bool.and_false]; try rfl)
    have t0 : ((p.s.size : Int) == 0) = false := by rw [beq_eq_false_iff_ne]; omega
    have t1 : decide ((1 : Int) ≤ (p.s.size : Int)) = true := decide_eq_true (by omega)
    have t2 : decide ((200 : Int) < (p.s.size : Int)) = true := decide_eq_true (by omega)
    have t3 : decide ((p.s.size : Int) ≤ 200) = false := decide_eq_false (by omega)
    clear hc hz hr
    go_enter Try.func24, Try.ntmps24
    go_upto_region 1 with (refine Go.Great.wpList_boxTo rfl 31 (.tmp 0) rfl (some 1) rfl w.heap.size rfl (pcV p) rfl ?_)
    generalize w.alloc (Obj.cells (pcV p) 31) = Z at *
    go_wp2_with fail
    go_ret
    exact ⟨by rw [HBB.out]; rfl, HB.out⟩
theorem ser_ne (p q : Pc) : (p.s.toList != q.s.toList) = true ↔ p.s ≠ q.s := by
  rw [bne_iff_ne]
  exact ⟨fun h e => h (by rw [e]), fun h e => h (toList_inj e)⟩
set_option maxRecDepth 100000 in
set_option maxHeartbeats 2000000 in
theorem rroom_c (B : Nat) (A : Option Addr) (c : Nat) (l : List Pc) (w : World) (hr : RdP w B A l) (h1 : l.length ≤ 1000000) (hs : ∀ p ∈ l, p.s.size ≤ 1000000) :
    Calls Try.prog 14 #[.slice A l.length c] w fun e w' => e = .returned (.int .i64 (roomL l : Nat)) ∧ ∃ n, w' = w.drewN n := by
  have HR := Lib.hid hr
  have HSZ := Lib.hid (show ∀ k, (l.getD k pc0).s.size ≤ 1000000 from fun k => by
    rcases Nat.lt_or_ge k l.length with h | h
    · exact hs _ (by simp [List.getD_eq_getElem?_getD, h])
    · rw [List.getD_eq_getElem?_getD, List.getElem?_eq_none h]; decide)
  have hbd : ∀ k, k ≤ l.length → roomTo l k ≤ 4 + k * 1000100 := by
    intro k
    induction k with
    | zero => intro _; rw [roomTo_zero]; omega
    | succ k ih =>
      intro hk
      have h2 := ih (by omega)
      have h3 := HSZ.out k
      rw [roomTo_succ l k hk]
      split <;> omega
  have HBD := Lib.hid hbd
  clear hr hs hbd
  go_enter Try.func14, Try.ntmps14
  go_wp2
  go_loopw [3, 4] (fun n i wr => ∃ k q : Nat, k ≤ l.length ∧ i = .int .i64 k ∧ n = .int .i64 (roomTo l k : Nat) ∧ wr = w.drewN q) (fun _ i _ => l.length - (intOf i).toNat)
  case atStart => exact ⟨0, 0, Nat.zero_le _, rfl, by rw [roomTo_zero]; rfl, rfl⟩
  case round =>
    rename World => wr
    obtain ⟨k, q, hk, rfl, rfl, hw⟩ := hrel
    have HW := Lib.hid hw
    clear hw
    by_cases hlt : k < l.length
    · have p1 : (k : Int) < (l.length : Int) := by omega
      have hrr := HR.out
      obtain ⟨ad, rfl, _, hat⟩ := hrr.open_ (by omega)
      have e0 : wr.cell? (ad.add (k * 5)) = some (.string (l.getD k pc0).s) := by rw [HW.out]; exact (hat.piece k hlt).ser
      have HSU := Lib.hid (roomTo_succ l k hlt)
      have hz := HSZ.out k
      have hb0 := HBD.out k hk
      have hb1 := HBD.out (k + 1) hlt
      rcases Nat.eq_zero_or_pos k with h0 | h0
      · have HRT := Lib.hid (show roomTo l (k + 1) = roomTo l k + (6 + (l.getD k pc0).s.size) + 32 by rw [HSU.out, if_pos (.inl h0)])
        have t0 : ((k : Int) == 0) = true := by rw [h0]; rfl
        clear HSU hat h0
        generalize l.getD k pc0 = p at *
        generalize hr0 : roomTo l k = r0 at *
        clear hr0
        have f1 : IntKind.i64.wrap ((r0 : Int) + 6) = (r0 : Int) + 6 := IntWalk.i64_in _ (by omega)
        have f2 : IntKind.i64.wrap ((r0 : Int) + 6 + (p.s.size : Int)) = (r0 : Int) + 6 + (p.s.size : Int) := IntWalk.i64_in _ (by omega)
        have HE := Lib.hid (show (r0 : Int) + 6 + (p.s.size : Int) + 32 = ((roomTo l (k + 1) : Nat) : Int) by rw [HRT.out]; omega)
        clear HRT hb1
        go_upto_region 5 with fail
        go_quiet (fail)
        have HW2 := Lib.hid (show wr.drewN nq = w.drewN (q + nq) by rw [HW.out]; exact World.drewN_drewN ..)
        have e1 : (wr.drewN nq).cell? (ad.add (k * 5)) = some (.string p.s) := e0
        clear e0 HW
        generalize wr.drewN nq = wp at *
        go_wp2_with fail
        go_roundw
        case rel => exact ⟨k + 1, q + nq, by omega, by go_num, by rw [← HE.out], HW2.out⟩
        case measure => simp only [intOf]; omega
      · obtain ⟨j, hj⟩ : ∃ j, k = j + 1 := ⟨k - 1, by omega⟩
        have e2 : wr.cell? (ad.add (j * 5)) = some (.string (l.getD j pc0).s) := by rw [HW.out]; exact (hat.piece j (by omega)).ser
        have fj : IntKind.i64.wrap ((k : Int) - 1) = (j : Int) := by rw [IntWalk.i64_in _ (by omega)]; omega
        have hjl : (j : Int) < (l.length : Int) := by omega
        have hj0 : (0 : Int) ≤ (j : Int) := by omega
        have t0 : ((k : Int) == 0) = false := by rw [beq_eq_false_iff_ne]; omega
        have HKJ := Lib.hid (show k - 1 = j by omega)
        have HK0 := Lib.hid (show ¬ k = 0 by omega)
        clear hj h0 hat
        by_cases hse : ((l.getD k pc0).s.toList == (l.getD j pc0).s.toList) = true
        · have HRT := Lib.hid (show roomTo l (k + 1) = roomTo l k + 32 by
            rw [HSU.out, HKJ.out, if_neg (by rintro (h | h); · exact HK0.out h
                                             · exact h (toList_inj (eq_of_beq hse)))])
          clear HSU
          generalize l.getD k pc0 = p at *
          generalize l.getD j pc0 = p' at *
          generalize hr0 : roomTo l k = r0 at *
          clear hr0
          have HE := Lib.hid (show (r0 : Int) + 32 = ((roomTo l (k + 1) : Nat) : Int) by rw [HRT.out]; omega)
          clear HRT hb1
          go_upto_region 5 with fail
          go_quiet (fail)
          have HW2 := Lib.hid (show wr.drewN nq = w.drewN (q + nq) by rw [HW.out]; exact World.drewN_drewN ..)
          have e1 : (wr.drewN nq).cell? (ad.add (k * 5)) = some (.string p.s) := e0
          clear e0 e2 HW
          generalize wr.drewN nq = wp at *
          go_wp2_with fail
          go_roundw
          case rel => exact ⟨k + 1, q + nq, by omega, by go_num, by rw [← HE.out], HW2.out⟩
          case measure => simp only [intOf]; omega
        · have hsf : ((l.getD k pc0).s.toList == (l.getD j pc0).s.toList) = false := by simpa using hse
          have HRT := Lib.hid (show roomTo l (k + 1) = roomTo l k + (6 + (l.getD k pc0).s.size) + 32 by
            rw [HSU.out, HKJ.out, if_pos (.inr (fun h => hse (by rw [h]; simp)))])
          clear HSU hse
          generalize l.getD k pc0 = p at *
          generalize l.getD j pc0 = p' at *
          generalize hr0 : roomTo l k = r0 at *
          clear hr0
          have f1 : IntKind.i64.wrap ((r0 : Int) + 6) = (r0 : Int) + 6 := IntWalk.i64_in _ (by omega)
          have f2 : IntKind.i64.wrap ((r0 : Int) + 6 + (p.s.size : Int)) = (r0 : Int) + 6 + (p.s.size : Int) := IntWalk.i64_in _ (by omega)
          have HE := Lib.hid (show (r0 : Int) + 6 + (p.s.size : Int) + 32 = ((roomTo l (k + 1) : Nat) : Int) by rw [HRT.out]; omega)
          clear HRT hb1
          go_upto_region 5 with fail
          go_quiet (fail)
          have HW2 := Lib.hid (show wr.drewN nq = w.drewN (q + nq) by rw [HW.out]; exact World.drewN_drewN ..)
          have e1 : (wr.drewN nq).cell? (ad.add (k * 5)) = some (.string p.s) := e0
          clear e0 e2 HW
          generalize wr.drewN nq = wp at *
          go_wp2_with fail
          go_roundw
          case rel => exact ⟨k + 1, q + nq, by omega, by go_num, by rw [← HE.out], HW2.out⟩
          case measure => simp only [intOf]; omega
    · obtain rfl : k = l.length := by omega
      go_wp2_with fail
      go_ret
      exact ⟨by rw [roomTo_all]; rfl, q, HW.out.symm ▸ rfl⟩
end Go.Proofs.Ytlidfmbmlhaacaa
