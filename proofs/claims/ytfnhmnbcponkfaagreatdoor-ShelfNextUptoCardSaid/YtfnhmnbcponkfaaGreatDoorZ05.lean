/- Parts, one behind the other: Bx1 De4 Df4 Df5 Df6 Df7 Df8 Cb0 Dg1 Dg2 Dg3 Dg4. -/
import Derived.Test.YtfnhmnbcponkfaaGreatDoorZ04
import Derived.IntWalk
import Derived.Laws.ShiftsVarLaws
import Derived.Laws.BitsAllLaws
set_option maxRecDepth 100000
set_option linter.unusedVariables false
set_option linter.unusedSimpArgs false
set_option maxHeartbeats 4000000
namespace Go.Proofs.YtfnhmnbcponkfaaGreatDoor
open Go.RowKit
def ltrN (c : Nat) : Bool := (decide (97 ≤ c) && decide (c ≤ 122)) || ((decide (48 ≤ c) && decide (c ≤ 57)) || decide (c = 45))
def nameB (s : ByteArray) : Bool := (sby s).all ltrN && (decide (1 ≤ s.size) && decide (s.size ≤ 24))
theorem sby_size (s : ByteArray) : (sby s).length = s.size := by unfold sby; rw [List.length_map]; cases s with | mk d => rw [ByteArray.toList_mk]; rfl
theorem sby_data (s : ByteArray) : sby s = s.data.toList.map (·.toNat) := by
 unfold sby
 cases s with
 | mk d => rw [ByteArray.toList_mk]
theorem sby_take (s : ByteArray) (k : Nat) (h : k < s.size) : (sby s).take (k + 1) = (sby s).take k ++ [(s[k]).toNat] := by
 have hk : k < (s.data.toList.map (·.toNat)).length := by rw [← sby_data, sby_size]; exact h
 rw [sby_data, List.take_succ_eq_append_getElem hk, List.getElem_map]
 rfl
theorem name_no {s : ByteArray} {k : Nat} (h : k < s.size) (hc : ltrN (s[k]).toNat = false) : nameB s = false := by
 unfold nameB
 rw [Bool.and_eq_false_iff]
 left
 rw [List.all_eq_false]
 refine ⟨(s[k]).toNat, ?_, by rw [hc]; decide⟩
 have h1 := sby_take s k h
 have h2 : (s[k]).toNat ∈ (sby s).take (k + 1) := by rw [h1]; simp
 exact List.mem_of_mem_take h2
theorem name_c (s : ByteArray) (w : World) (hs : s.size ≤ 1000000000) : Calls Tryz.prog 48 #[.string s] w fun e w' => e = .returned (.bool (nameB s)) ∧ w = w' := by
 go_enter Tryz.func48, Tryz.ntmps48
 go_wp2
 go_loop [7] (fun i => ∃ k : Nat, k ≤ s.size ∧ i = .int .i64 k ∧ ((sby s).take k).all ltrN = true) (fun i => s.size - (intOf i).toNat)
 case atStart => exact ⟨0, Nat.zero_le _, rfl, rfl⟩
 case round =>
  obtain ⟨k, hk, rfl, hd⟩ := hrel
  have HD := Li hd
  clear hd
  by_cases hlt : k < s.size
  ·have HT := Li (sby_take s k hlt)
   have HNO := Li (name_no hlt)
   have p1 : (k : Int) < (s.size : Int) := by omega
   rcases (show s[k].toNat < 45 ∨ s[k].toNat = 45 ∨ (45 < s[k].toNat ∧ s[k].toNat < 48) ∨ (48 ≤ s[k].toNat ∧ s[k].toNat ≤ 57) ∨ (57 < s[k].toNat ∧ s[k].toNat < 97) ∨ (97 ≤ s[k].toNat ∧ s[k].toNat ≤ 122) ∨ 122 < s[k].toNat by omega) with hc | hc | hc | hc | hc | hc | hc
   ·have b1 : decide ((97 : Int) ≤ (s[k].toNat : Int)) = false := jG (by omega)
    have b2 : decide ((s[k].toNat : Int) ≤ 122) = true := jF (by omega)
    have b3 : decide ((48 : Int) ≤ (s[k].toNat : Int)) = false := jG (by omega)
    have b4 : decide ((s[k].toNat : Int) ≤ 57) = true := jF (by omega)
    have b5 : (((s[k].toNat : Nat) : Int) == 45) = false := by rw [beq_eq_false_iff_ne]; omega
    have b6 : (((s[k].toNat : Nat) : Int) != 45) = true := by rw [bne_iff_ne]; omega
    have HL := Li (show ltrN s[k].toNat = false by unfold ltrN; simp; omega)
    clear hc
    go_wp2_with fail
    go_ret
    exact ⟨by rw [HNO.out HL.out]; rfl, rfl⟩
   ·have b1 : decide ((97 : Int) ≤ (s[k].toNat : Int)) = false := jG (by omega)
    have b2 : decide ((s[k].toNat : Int) ≤ 122) = true := jF (by omega)
    have b3 : decide ((48 : Int) ≤ (s[k].toNat : Int)) = false := jG (by omega)
    have b4 : decide ((s[k].toNat : Int) ≤ 57) = true := jF (by omega)
    have b5 : (((s[k].toNat : Nat) : Int) == 45) = true := by rw [beq_iff_eq]; omega
    have b6 : (((s[k].toNat : Nat) : Int) != 45) = false := by rw [bne_eq_false_iff_eq]; omega
    have HL := Li (show ltrN s[k].toNat = true by unfold ltrN; simp; omega)
    clear hc
    go_wp2_with fail
    go_round
    case rel => exact ⟨k + 1, by omega, by go_num, by rw [HT.out, List.all_append, HD.out, List.all_cons, HL.out]; rfl⟩
    case measure => simp [intOf]; omega
   ·have b1 : decide ((97 : Int) ≤ (s[k].toNat : Int)) = false := jG (by omega)
    have b2 : decide ((s[k].toNat : Int) ≤ 122) = true := jF (by omega)
    have b3 : decide ((48 : Int) ≤ (s[k].toNat : Int)) = false := jG (by omega)
    have b4 : decide ((s[k].toNat : Int) ≤ 57) = true := jF (by omega)
    have b5 : (((s[k].toNat : Nat) : Int) == 45) = false := by rw [beq_eq_false_iff_ne]; omega
    have b6 : (((s[k].toNat : Nat) : Int) != 45) = true := by rw [bne_iff_ne]; omega
    have HL := Li (show ltrN s[k].toNat = false by unfold ltrN; simp; omega)
    clear hc
    go_wp2_with fail
    go_ret
    exact ⟨by rw [HNO.out HL.out]; rfl, rfl⟩
   ·have b1 : decide ((97 : Int) ≤ (s[k].toNat : Int)) = false := jG (by omega)
    have b2 : decide ((s[k].toNat : Int) ≤ 122) = true := jF (by omega)
    have b3 : decide ((48 : Int) ≤ (s[k].toNat : Int)) = true := jF (by omega)
    have b4 : decide ((s[k].toNat : Int) ≤ 57) = true := jF (by omega)
    have b5 : (((s[k].toNat : Nat) : Int) == 45) = false := by rw [beq_eq_false_iff_ne]; omega
    have b6 : (((s[k].toNat : Nat) : Int) != 45) = true := by rw [bne_iff_ne]; omega
    have HL := Li (show ltrN s[k].toNat = true by unfold ltrN; simp; omega)
    clear hc
    go_wp2_with fail
    go_round
    case rel => exact ⟨k + 1, by omega, by go_num, by rw [HT.out, List.all_append, HD.out, List.all_cons, HL.out]; rfl⟩
    case measure => simp [intOf]; omega
   ·have b1 : decide ((97 : Int) ≤ (s[k].toNat : Int)) = false := jG (by omega)
    have b2 : decide ((s[k].toNat : Int) ≤ 122) = true := jF (by omega)
    have b3 : decide ((48 : Int) ≤ (s[k].toNat : Int)) = true := jF (by omega)
    have b4 : decide ((s[k].toNat : Int) ≤ 57) = false := jG (by omega)
    have b5 : (((s[k].toNat : Nat) : Int) == 45) = false := by rw [beq_eq_false_iff_ne]; omega
    have b6 : (((s[k].toNat : Nat) : Int) != 45) = true := by rw [bne_iff_ne]; omega
    have HL := Li (show ltrN s[k].toNat = false by unfold ltrN; simp; omega)
    clear hc
    go_wp2_with fail
    go_ret
    exact ⟨by rw [HNO.out HL.out]; rfl, rfl⟩
   ·have b1 : decide ((97 : Int) ≤ (s[k].toNat : Int)) = true := jF (by omega)
    have b2 : decide ((s[k].toNat : Int) ≤ 122) = true := jF (by omega)
    have b3 : decide ((48 : Int) ≤ (s[k].toNat : Int)) = true := jF (by omega)
    have b4 : decide ((s[k].toNat : Int) ≤ 57) = false := jG (by omega)
    have b5 : (((s[k].toNat : Nat) : Int) == 45) = false := by rw [beq_eq_false_iff_ne]; omega
    have b6 : (((s[k].toNat : Nat) : Int) != 45) = true := by rw [bne_iff_ne]; omega
    have HL := Li (show ltrN s[k].toNat = true by unfold ltrN; simp; omega)
    clear hc
    go_wp2_with fail
    go_round
    case rel => exact ⟨k + 1, by omega, by go_num, by rw [HT.out, List.all_append, HD.out, List.all_cons, HL.out]; rfl⟩
    case measure => simp [intOf]; omega
   ·have b1 : decide ((97 : Int) ≤ (s[k].toNat : Int)) = true := jF (by omega)
    have b2 : decide ((s[k].toNat : Int) ≤ 122) = false := jG (by omega)
    have b3 : decide ((48 : Int) ≤ (s[k].toNat : Int)) = true := jF (by omega)
    have b4 : decide ((s[k].toNat : Int) ≤ 57) = false := jG (by omega)
    have b5 : (((s[k].toNat : Nat) : Int) == 45) = false := by rw [beq_eq_false_iff_ne]; omega
    have b6 : (((s[k].toNat : Nat) : Int) != 45) = true := by rw [bne_iff_ne]; omega
    have HL := Li (show ltrN s[k].toNat = false by unfold ltrN; simp; omega)
    clear hc
    go_wp2_with fail
    go_ret
    exact ⟨by rw [HNO.out HL.out]; rfl, rfl⟩
  ·have hks : k = s.size := by omega
   have HF := Li (show (sby s).all ltrN = true by have h := HD.out; rw [hks, List.take_of_length_le (by rw [sby_size]; exact jD _)] at h; exact h)
   have HV := Li (show nameB s = (decide (1 ≤ s.size) && decide (s.size ≤ 24)) by unfold nameB; rw [HF.out, Bool.true_and])
   have p0 : ¬ (k : Int) < (s.size : Int) := by omega
   clear hks
   rcases (show s.size = 0 ∨ (1 ≤ s.size ∧ s.size ≤ 24) ∨ 24 < s.size by omega) with hz | hz | hz
   ·have q1 : decide ((0 : Int) < (s.size : Int)) = false := jG (by omega)
    have q2 : decide ((1 : Int) ≤ (s.size : Int)) = false := jG (by omega)
    have q3 : decide ((s.size : Int) ≤ 24) = true := jF (by omega)
    have q4 : decide (0 < s.size) = false := jG (by omega)
    have HQ := Li (show nameB s = false by rw [HV.out]; simp; omega)
    clear hz
    go_wp2_with fail
    go_ret
    exact ⟨by rw [HQ.out]; rfl, rfl⟩
   ·have q1 : decide ((0 : Int) < (s.size : Int)) = true := jF (by omega)
    have q2 : decide ((1 : Int) ≤ (s.size : Int)) = true := jF (by omega)
    have q3 : decide ((s.size : Int) ≤ 24) = true := jF (by omega)
    have q4 : decide (0 < s.size) = true := jF (by omega)
    have HQ := Li (show nameB s = true by rw [HV.out]; simp; omega)
    clear hz
    go_wp2_with fail
    go_ret
    exact ⟨by rw [HQ.out]; rfl, rfl⟩
   ·have q1 : decide ((0 : Int) < (s.size : Int)) = true := jF (by omega)
    have q2 : decide ((1 : Int) ≤ (s.size : Int)) = true := jF (by omega)
    have q3 : decide ((s.size : Int) ≤ 24) = false := jG (by omega)
    have q4 : decide (0 < s.size) = true := jF (by omega)
    have HQ := Li (show nameB s = false by rw [HV.out]; simp; omega)
    clear hz
    go_wp2_with fail
    go_ret
    exact ⟨by rw [HQ.out]; rfl, rfl⟩
end Go.Proofs.YtfnhmnbcponkfaaGreatDoor
namespace Go.Proofs.YtfnhmnbcponkfaaGreatDoor
end Go.Proofs.YtfnhmnbcponkfaaGreatDoor
namespace Go.Proofs.YtfnhmnbcponkfaaGreatDoor
open Go.RowKit
def pcE (p : Pc) : Int := if ckP p then 0 else 1
theorem pcheck_c (p : Pc) (w : World) (hz : p.s.size ≤ 9223372036854775807) : Calls Tryz.prog 41 #[.agg (pcV p)] w fun e w' => e = .returned (.int .i64 (pcE p)) ∧ Below w.heap.size w w' := by
 have HCK := Li (show ckP p = (decide (1 ≤ p.s.size) && decide (p.s.size ≤ 200)) from rfl)
 obtain ⟨r, hr⟩ : ∃ r, r = pcE p := ⟨_, rfl⟩
 rw [← hr]
 have h1 : Blk (w.alloc (Obj.cells (pcV p) 77)) w.heap.size 77 (pcV p) := Blk.new w _ _
 have HB := Li (show Below w.heap.size w (w.alloc (Obj.cells (pcV p) 77)) from (jE _ _).alloc (jD _) _)
 have c0 : (w.alloc (Obj.cells (pcV p) 77)).cell? ⟨w.heap.size, 0, none⟩ = some (.string p.s) := (h1.cell 0).trans rfl
 clear h1
 rcases (show p.s.size = 0 ∨ (1 ≤ p.s.size ∧ p.s.size ≤ 200) ∨ 200 < p.s.size by omega) with hc | ⟨hc1, hc2⟩ | hc
 ·have HBB := Li (show r = 1 by rw [hr]; show (if ckP p then (0 : Int) else 1) = _; rw [HCK.out, hc]; rfl)
  have HH := Li hc
  have t0 : ((p.s.size : Int) == 0) = true := by rw [hc]; rfl
  have t1 : decide ((1 : Int) ≤ (p.s.size : Int)) = false := by rw [hc]; rfl
  clear hc hz hr
  go_enter Tryz.func41, Tryz.ntmps41
  go_upto_region 1 with (refine Go.Great.wpList_boxTo rfl 77 (.tmp 0) rfl (some 1) rfl w.heap.size rfl (pcV p) rfl ?_)
  generalize w.alloc (Obj.cells (pcV p) 77) = Z at *
  go_wp2_with fail
  go_ret
  exact ⟨by rw [HBB.out]; rfl, HB.out⟩
 ·have HBB := Li (show r = 0 by rw [hr]; show (if ckP p then (0 : Int) else 1) = _; rw [HCK.out, jF hc1, jF hc2]; rfl)
  have t0 : ((p.s.size : Int) == 0) = false := by rw [beq_eq_false_iff_ne]; omega
  have t1 : decide ((1 : Int) ≤ (p.s.size : Int)) = true := jF (by omega)
  have t2 : decide ((200 : Int) < (p.s.size : Int)) = false := jG (by omega)
  have t3 : decide ((p.s.size : Int) ≤ 200) = true := jF (by omega)
  clear hc1 hc2 hz hr
  go_enter Tryz.func41, Tryz.ntmps41
  go_upto_region 1 with (refine Go.Great.wpList_boxTo rfl 77 (.tmp 0) rfl (some 1) rfl w.heap.size rfl (pcV p) rfl ?_)
  generalize w.alloc (Obj.cells (pcV p) 77) = Z at *
  go_wp2_with fail
  go_ret
  exact ⟨by rw [HBB.out]; rfl, HB.out⟩
 ·have HBB := Li (show r = 1 by rw [hr]; show (if ckP p then (0 : Int) else 1) = _; rw [HCK.out, jG (show ¬ p.s.size ≤ 200 by omega), Bool.and_false]; try rfl)
  have t0 : ((p.s.size : Int) == 0) = false := by rw [beq_eq_false_iff_ne]; omega
  have t1 : decide ((1 : Int) ≤ (p.s.size : Int)) = true := jF (by omega)
  have t2 : decide ((200 : Int) < (p.s.size : Int)) = true := jF (by omega)
  have t3 : decide ((p.s.size : Int) ≤ 200) = false := jG (by omega)
  clear hc hz hr
  go_enter Tryz.func41, Tryz.ntmps41
  go_upto_region 1 with (refine Go.Great.wpList_boxTo rfl 77 (.tmp 0) rfl (some 1) rfl w.heap.size rfl (pcV p) rfl ?_)
  generalize w.alloc (Obj.cells (pcV p) 77) = Z at *
  go_wp2_with fail
  go_ret
  exact ⟨by rw [HBB.out]; rfl, HB.out⟩
theorem rpcheck_c (p : Pc) (w : World) (hz : p.s.size ≤ 9223372036854775807) : Calls Tryz.prog 30 #[.agg (pcV p)] w fun e w' => e = .returned (.bool (ckP p)) ∧ Below w.heap.size w w' := by
 have HCK := Li (show ckP p = (decide (1 ≤ p.s.size) && decide (p.s.size ≤ 200)) from rfl)
 obtain ⟨r, hr⟩ : ∃ r, r = ckP p := ⟨_, rfl⟩
 rw [← hr]
 have h1 : Blk (w.alloc (Obj.cells (pcV p) 77)) w.heap.size 77 (pcV p) := Blk.new w _ _
 have HB := Li (show Below w.heap.size w (w.alloc (Obj.cells (pcV p) 77)) from (jE _ _).alloc (jD _) _)
 have c0 : (w.alloc (Obj.cells (pcV p) 77)).cell? ⟨w.heap.size, 0, none⟩ = some (.string p.s) := (h1.cell 0).trans rfl
 clear h1
 rcases (show p.s.size = 0 ∨ (1 ≤ p.s.size ∧ p.s.size ≤ 200) ∨ 200 < p.s.size by omega) with hc | ⟨hc1, hc2⟩ | hc
 ·have HBB := Li (show r = false by rw [hr]; show (ckP p) = _; rw [HCK.out, hc]; rfl)
  have HH := Li hc
  have t0 : ((p.s.size : Int) == 0) = true := by rw [hc]; rfl
  have t1 : decide ((1 : Int) ≤ (p.s.size : Int)) = false := by rw [hc]; rfl
  clear hc hz hr
  go_enter Tryz.func30, Tryz.ntmps30
  go_upto_region 1 with (refine Go.Great.wpList_boxTo rfl 77 (.tmp 0) rfl (some 1) rfl w.heap.size rfl (pcV p) rfl ?_)
  generalize w.alloc (Obj.cells (pcV p) 77) = Z at *
  go_wp2_with fail
  go_ret
  exact ⟨by rw [HBB.out]; rfl, HB.out⟩
 ·have HBB := Li (show r = true by rw [hr]; show (ckP p) = _; rw [HCK.out, jF hc1, jF hc2]; rfl)
  have t0 : ((p.s.size : Int) == 0) = false := by rw [beq_eq_false_iff_ne]; omega
  have t1 : decide ((1 : Int) ≤ (p.s.size : Int)) = true := jF (by omega)
  have t2 : decide ((200 : Int) < (p.s.size : Int)) = false := jG (by omega)
  have t3 : decide ((p.s.size : Int) ≤ 200) = true := jF (by omega)
  clear hc1 hc2 hz hr
  go_enter Tryz.func30, Tryz.ntmps30
  go_upto_region 1 with (refine Go.Great.wpList_boxTo rfl 77 (.tmp 0) rfl (some 1) rfl w.heap.size rfl (pcV p) rfl ?_)
  generalize w.alloc (Obj.cells (pcV p) 77) = Z at *
  go_wp2_with fail
  go_ret
  exact ⟨by rw [HBB.out]; rfl, HB.out⟩
 ·have HBB := Li (show r = false by rw [hr]; show (ckP p) = _; rw [HCK.out, jG (show ¬ p.s.size ≤ 200 by omega), Bool.and_false]; try rfl)
  have t0 : ((p.s.size : Int) == 0) = false := by rw [beq_eq_false_iff_ne]; omega
  have t1 : decide ((1 : Int) ≤ (p.s.size : Int)) = true := jF (by omega)
  have t2 : decide ((200 : Int) < (p.s.size : Int)) = true := jF (by omega)
  have t3 : decide ((p.s.size : Int) ≤ 200) = false := jG (by omega)
  clear hc hz hr
  go_enter Tryz.func30, Tryz.ntmps30
  go_upto_region 1 with (refine Go.Great.wpList_boxTo rfl 77 (.tmp 0) rfl (some 1) rfl w.heap.size rfl (pcV p) rfl ?_)
  generalize w.alloc (Obj.cells (pcV p) 77) = Z at *
  go_wp2_with fail
  go_ret
  exact ⟨by rw [HBB.out]; rfl, HB.out⟩
theorem rroom_c (B : Nat) (A : Option Addr) (c : Nat) (l : List Pc) (w : World) (hr : RdP w B A l) (h1 : l.length ≤ 1000000) (hs : ∀ p ∈ l, p.s.size ≤ 1000000) :
  Calls Tryz.prog 29 #[.slice A l.length c] w fun e w' => e = .returned (.int .i64 (roomL l : Nat)) ∧ ∃ n, w' = w.drewN n := by
 have HR := Li hr
 have HSZ := Li (show ∀ k, (l.getD k pc0).s.size ≤ 1000000 from fun k => by
  rcases Nat.lt_or_ge k l.length with h | h
  ·exact hs _ (by simp [jA, h])
  ·rw [jA, List.getElem?_eq_none h]; decide)
 have hbd : ∀ k, k ≤ l.length → roomTo l k ≤ 4 + k * 1000100 := by
  intro k
  induction k with
  | zero => intro _; rw [roomTo_zero]; omega
  | succ k ih =>
   intro hk
   have h2 := ih (by omega)
   have h3 := HSZ.out k
   rw [roomTo_succ l k hk]
   split <;> omega
 have HBD := Li hbd
 clear hr hs hbd
 go_enter Tryz.func29, Tryz.ntmps29
 go_wp2
 go_loopw [3, 4] (fun n i wr => ∃ k q : Nat, k ≤ l.length ∧ i = .int .i64 k ∧ n = .int .i64 (roomTo l k : Nat) ∧ wr = w.drewN q) (fun _ i _ => l.length - (intOf i).toNat)
 case atStart => exact ⟨0, 0, Nat.zero_le _, rfl, by rw [roomTo_zero]; rfl, rfl⟩
 case round =>
  rename World => wr
  obtain ⟨k, q, hk, rfl, rfl, hw⟩ := hrel
  have HW := Li hw
  clear hw
  by_cases hlt : k < l.length
  ·have p1 : (k : Int) < (l.length : Int) := by omega
   have hrr := HR.out
   obtain ⟨ad, rfl, _, hat⟩ := hrr.open_ (by omega)
   have e0 : wr.cell? (ad.add (k * 5)) = some (.string (l.getD k pc0).s) := by rw [HW.out]; exact (hat.piece k hlt).ser
   have HSU := Li (roomTo_succ l k hlt)
   have hz := HSZ.out k
   have hb0 := HBD.out k hk
   have hb1 := HBD.out (k + 1) hlt
   rcases Nat.eq_zero_or_pos k with h0 | h0
   ·have HRT := Li (show roomTo l (k + 1) = roomTo l k + (6 + (l.getD k pc0).s.size) + 32 by rw [HSU.out, if_pos (.inl h0)])
    have t0 : ((k : Int) == 0) = true := by rw [h0]; rfl
    clear HSU hat h0
    generalize l.getD k pc0 = p at *
    generalize hr0 : roomTo l k = r0 at *
    clear hr0
    have f1 : IntKind.i64.wrap ((r0 : Int) + 6) = (r0 : Int) + 6 := IntWalk.i64_in _ (by omega)
    have f2 : IntKind.i64.wrap ((r0 : Int) + 6 + (p.s.size : Int)) = (r0 : Int) + 6 + (p.s.size : Int) := IntWalk.i64_in _ (by omega)
    have HE := Li (show (r0 : Int) + 6 + (p.s.size : Int) + 32 = ((roomTo l (k + 1) : Nat) : Int) by rw [HRT.out]; omega)
    clear HRT hb1
    go_upto_region 5 with fail
    go_quiet (fail)
    have HW2 := Li (show wr.drewN nq = w.drewN (q + nq) by rw [HW.out]; exact World.drewN_drewN ..)
    have e1 : (wr.drewN nq).cell? (ad.add (k * 5)) = some (.string p.s) := e0
    clear e0 HW
    generalize wr.drewN nq = wp at *
    go_wp2_with fail
    go_roundw
    case rel => exact ⟨k + 1, q + nq, by omega, by go_num, by rw [← HE.out], HW2.out⟩
    case measure => simp only [intOf]; omega
   ·obtain ⟨j, hj⟩ : ∃ j, k = j + 1 := ⟨k - 1, by omega⟩
    have e2 : wr.cell? (ad.add (j * 5)) = some (.string (l.getD j pc0).s) := by rw [HW.out]; exact (hat.piece j (by omega)).ser
    have fj : IntKind.i64.wrap ((k : Int) - 1) = (j : Int) := by rw [IntWalk.i64_in _ (by omega)]; omega
    have hjl : (j : Int) < (l.length : Int) := by omega
    have hj0 : (0 : Int) ≤ (j : Int) := by omega
    have t0 : ((k : Int) == 0) = false := by rw [beq_eq_false_iff_ne]; omega
    have HKJ := Li (show k - 1 = j by omega)
    have HK0 := Li (show ¬ k = 0 by omega)
    clear hj h0 hat
    by_cases hse : ((l.getD k pc0).s.toList == (l.getD j pc0).s.toList) = true
    ·have HRT := Li (show roomTo l (k + 1) = roomTo l k + 32 by
      rw [HSU.out, HKJ.out, if_neg (by rintro (h | h); · exact HK0.out h
                                       ·exact h (toList_inj (eq_of_beq hse)))])
     clear HSU
     generalize l.getD k pc0 = p at *
     generalize l.getD j pc0 = p' at *
     generalize hr0 : roomTo l k = r0 at *
     clear hr0
     have HE := Li (show (r0 : Int) + 32 = ((roomTo l (k + 1) : Nat) : Int) by rw [HRT.out]; omega)
     clear HRT hb1
     go_upto_region 5 with fail
     go_quiet (fail)
     have HW2 := Li (show wr.drewN nq = w.drewN (q + nq) by rw [HW.out]; exact World.drewN_drewN ..)
     have e1 : (wr.drewN nq).cell? (ad.add (k * 5)) = some (.string p.s) := e0
     clear e0 e2 HW
     generalize wr.drewN nq = wp at *
     go_wp2_with fail
     go_roundw
     case rel => exact ⟨k + 1, q + nq, by omega, by go_num, by rw [← HE.out], HW2.out⟩
     case measure => simp only [intOf]; omega
    ·have hsf : ((l.getD k pc0).s.toList == (l.getD j pc0).s.toList) = false := by simpa using hse
     have HRT := Li (show roomTo l (k + 1) = roomTo l k + (6 + (l.getD k pc0).s.size) + 32 by
      rw [HSU.out, HKJ.out, if_pos (.inr (fun h => hse (by rw [h]; simp)))])
     clear HSU hse
     generalize l.getD k pc0 = p at *
     generalize l.getD j pc0 = p' at *
     generalize hr0 : roomTo l k = r0 at *
     clear hr0
     have f1 : IntKind.i64.wrap ((r0 : Int) + 6) = (r0 : Int) + 6 := IntWalk.i64_in _ (by omega)
     have f2 : IntKind.i64.wrap ((r0 : Int) + 6 + (p.s.size : Int)) = (r0 : Int) + 6 + (p.s.size : Int) := IntWalk.i64_in _ (by omega)
     have HE := Li (show (r0 : Int) + 6 + (p.s.size : Int) + 32 = ((roomTo l (k + 1) : Nat) : Int) by rw [HRT.out]; omega)
     clear HRT hb1
     go_upto_region 5 with fail
     go_quiet (fail)
     have HW2 := Li (show wr.drewN nq = w.drewN (q + nq) by rw [HW.out]; exact World.drewN_drewN ..)
     have e1 : (wr.drewN nq).cell? (ad.add (k * 5)) = some (.string p.s) := e0
     clear e0 e2 HW
     generalize wr.drewN nq = wp at *
     go_wp2_with fail
     go_roundw
     case rel => exact ⟨k + 1, q + nq, by omega, by go_num, by rw [← HE.out], HW2.out⟩
     case measure => simp only [intOf]; omega
  ·obtain rfl : k = l.length := by omega
   go_wp2_with fail
   go_ret
   exact ⟨by rw [roomTo_all]; rfl, q, HW.out.symm ▸ rfl⟩
theorem run1_at (s : ByteArray) : ∀ (l : List Pc) (k : Nat), k ≤ run1 s l → k < l.length → ((l.getD k pc0).s = s → k + 1 ≤ run1 s l) ∧ ((l.getD k pc0).s ≠ s → run1 s l = k)
 | [], k, _, h => by simp at h
 | p :: l, 0, hk, _ => by
  unfold run1
  constructor
  ·intro h
   have h' : p.s = s := h
   rw [if_pos h']; omega
  ·intro h
   have h' : ¬ p.s = s := h
   rw [if_neg h']
 | p :: l, k + 1, hk, h => by
  unfold run1 at hk ⊢
  by_cases he : p.s = s
  ·rw [if_pos he] at hk ⊢
   have := run1_at s l k (by omega) (by simpa using h)
   simp only [List.getD_cons_succ]
   exact ⟨fun h1 => by have := this.1 h1; omega, fun h1 => by have := this.2 h1; omega⟩
  ·rw [if_neg he] at hk; omega
theorem closure_c (p : Pc) (gl n c : Nat) (a : Addr) (s0 : ByteArray) (w : World) (hv : w.cell? ⟨gl, 0, none⟩ = some (.slice (some a) n c)) (hn : 0 < n) (ha : w.cell? a = some (.string s0)) (hb : gl < w.heap.size) (hab : a.block < w.heap.size) :
  Calls Tryz.prog 114 #[.agg (pcV p), .pointer (some ⟨gl, 0, none⟩)] w fun e w' => e = .returned (.bool (!(p.s.toList == s0.toList))) ∧ Below w.heap.size w w' := by
 have h1 : Blk (w.alloc (Obj.cells (pcV p) 77)) w.heap.size 77 (pcV p) := Blk.new w _ _
 have hB : Below w.heap.size w (w.alloc (Obj.cells (pcV p) 77)) := (jE _ _).alloc (jD _) _
 have HB := Li hB
 have c0 : (w.alloc (Obj.cells (pcV p) 77)).cell? ⟨w.heap.size, 0, none⟩ = some (.string p.s) := (h1.cell 0).trans rfl
 have c1 : (w.alloc (Obj.cells (pcV p) 77)).cell? ⟨gl, 0, none⟩ = some (.slice (some a) n c) := (hB.cell (p := ⟨gl, 0, none⟩) hb).trans hv
 have c2 : (w.alloc (Obj.cells (pcV p) 77)).cell? a = some (.string s0) := (hB.cell hab).trans ha
 have p0 : (0 : Int) < (n : Int) := by omega
 obtain ⟨r, hr⟩ : ∃ r, r = !(p.s.toList == s0.toList) := ⟨_, rfl⟩
 have HR := Li hr
 rw [← hr]
 clear h1 hB hv ha hb hab hr
 go_enter Tryz.func114, Tryz.ntmps114
 go_upto_region 1 with (refine Go.Great.wpList_boxTo rfl 77 (.tmp 0) rfl (some 2) rfl w.heap.size rfl (pcV p) rfl ?_)
 generalize w.alloc (Obj.cells (pcV p) 77) = Z at *
 go_quiet (fail)
 have HB2 := Li (belowDrewN nq HB.out)
 generalize Z.drewN nq = Z2 at *
 go_wp2_with fail
 go_ret
 exact ⟨by rw [HR.out]; rfl, HB2.out⟩
def idxR (m n : Nat) : Int := if m < n then (m : Int) else -1
theorem index_c (gl c : Nat) (a : Addr) (l : List Pc) (s0 : ByteArray) (w : World) (hv : w.cell? ⟨gl, 0, none⟩ = some (.slice (some a) l.length c)) (hn : 0 < l.length) (hs0 : s0 = (l.getD 0 pc0).s) (hat : AtA w a (pcs l)) (hb : gl < w.heap.size) (hab : a.block < w.heap.size) (h1 : l.length ≤ 1000000) :
  Calls Tryz.prog 60 #[.slice (some a) l.length c, .func (.func 114) #[] #[.pointer (some ⟨gl, 0, none⟩)]] w fun e w' => e = .returned (.int .i64 (idxR (run1 s0 l) l.length)) ∧ Below w.heap.size w w' := by
 have HAT := Li hat
 have HRA := Li (run1_at s0 l)
 have HRL := Li (run1_le s0 l)
 have HCL := Li (fun W (h : Below w.heap.size w W) p => closure_c p gl l.length c a s0 W ((h.cell (p := ⟨gl, 0, none⟩) hb).trans hv) hn ((h.cell hab).trans (by rw [hs0]; have := (hat.piece 0 hn).ser; simpa [Addr.add] using this)) (jH hb h.size) (jH hab h.size))
 have HAB := Li hab
 obtain ⟨r, hr⟩ : ∃ r, r = idxR (run1 s0 l) l.length := ⟨_, rfl⟩
 have HRR := Li (show r = if run1 s0 l < l.length then ((run1 s0 l : Nat) : Int) else -1 from hr)
 rw [← hr]
 clear hv hat hb hab hs0 hr
 generalize run1 s0 l = m at *
 go_enter Tryz.func60, Tryz.ntmps60
 go_wp2
 go_loopw [8] (fun i wr => ∃ k : Nat, k ≤ l.length ∧ k ≤ m ∧ i = .int .i64 k ∧ Below w.heap.size w wr) (fun i _ => l.length - (intOf i).toNat)
 case atStart => exact ⟨0, Nat.zero_le _, Nat.zero_le _, rfl, jE _ _⟩
 case round =>
  rename World => wr
  obtain ⟨k, hk, hkm, rfl, hb⟩ := hrel
  have HB := Li hb
  clear hb
  by_cases hlt : k < l.length
  ·have p1 : (k : Int) < (l.length : Int) := by omega
   have HPC := Li ((HAT.out.below HB.out HAB.out).piece k hlt)
   have HRK := Li (HRA.out k hkm hlt)
   have HPI := Li (pcLn (l.getD k pc0))
   have HCK := Li (HCL.out wr HB.out (l.getD k pc0))
   generalize l.getD k pc0 = p at *
   by_cases hse : p.s = s0
   ·have HK1 := Li (HRK.out.1 hse)
    have HS := Li (show (!(p.s.toList == s0.toList)) = false by rw [hse]; simp)
    rw [HS.out] at HCK
    clear hse
    go_wp2_with (first
     | (refine wpList_loadA rfl 77 (.tmp 14) rfl (a.add (k * 5)) rfl (pcL p) _ HPC.out Tryz.underlying77 rfl HPI.out ?_)
     | (go_at_call 114; (refine HCK.out.mono ?_); rintro e W1 ⟨rfl, hb1⟩; have HB1 := Li (HB.out.trans (hb1.mono HB.out.size)); clear hb1))
    go_roundw
    case rel => exact ⟨k + 1, by omega, by have := HK1.out; omega, by go_num, HB1.out⟩
    case measure => simp only [intOf]; omega
   ·have HK1 := Li (HRK.out.2 hse)
    have HS := Li (show (!(p.s.toList == s0.toList)) = true by
     rw [Bool.not_eq_true', beq_eq_false_iff_ne]
     exact fun h => hse (toList_inj h))
    rw [HS.out] at HCK
    have HRV := Li (show r = (k : Int) by rw [HRR.out, HK1.out, if_pos hlt])
    clear hse
    go_wp2_with (first
     | (refine wpList_loadA rfl 77 (.tmp 14) rfl (a.add (k * 5)) rfl (pcL p) _ HPC.out Tryz.underlying77 rfl HPI.out ?_)
     | (go_at_call 114; (refine HCK.out.mono ?_); rintro e W1 ⟨rfl, hb1⟩; have HB1 := Li (HB.out.trans (hb1.mono HB.out.size)); clear hb1))
    go_ret
    exact ⟨by rw [HRV.out]; rfl, HB1.out⟩
  ·obtain rfl : k = l.length := by omega
   have HRV := Li (show r = (-1 : Int) by rw [HRR.out, if_neg (by omega)])
   go_wp2_with fail
   go_ret
   exact ⟨by rw [HRV.out]; rfl, HB.out⟩
def gv (ad : Addr) (c : Nat) : Nat → List Nat → List Value
 | _, [] => []
 | off, m :: ms => .slice (some (ad.add (off * 5))) m (c - off) :: gv ad c (off + m) ms
theorem gv_len (ad : Addr) (c : Nat) : ∀ (off : Nat) (ms : List Nat), (gv ad c off ms).length = ms.length
 | _, [] => rfl
 | off, m :: ms => by rw [gv, List.length_cons, gv_len ad c (off + m) ms, List.length_cons]
theorem gv_snoc (ad : Addr) (c m : Nat) : ∀ (off : Nat) (ms : List Nat), gv ad c off (ms ++ [m]) = gv ad c off ms ++ [.slice (some (ad.add ((off + ms.sum) * 5))) m (c - (off + ms.sum))]
 | off, [] => by simp [gv]
 | off, n :: ms => by
  rw [List.cons_append, gv, gv, gv_snoc ad c m (off + n) ms, List.sum_cons, List.cons_append, Nat.add_assoc]
theorem gv_at (ad : Addr) (c : Nat) : ∀ (off : Nat) (ms : List Nat) (k : Nat), k < ms.length → (gv ad c off ms)[k]? = some (.slice (some (ad.add ((off + (ms.take k).sum) * 5))) (ms.getD k 0) (c - (off + (ms.take k).sum)))
 | off, [], k, h => by simp at h
 | off, m :: ms, 0, h => by simp [gv]
 | off, m :: ms, k + 1, h => by
  rw [gv, List.getElem?_cons_succ, gv_at ad c (off + m) ms k (by simpa using h), List.take_succ_cons, List.sum_cons, List.getD_cons_succ, Nat.add_assoc]
theorem grps_at (l : List Pc) : ∀ (ns : List Nat) (k : Nat) (off : Nat), k < ns.length → (cutsL ns (l.drop off)).getD k [] = (l.drop (off + (ns.take k).sum)).take (ns.getD k 0)
 | [], k, off, h => by simp at h
 | n :: ns, 0, off, h => by simp [cutsL]
 | n :: ns, k + 1, off, h => by
  rw [cutsL, List.getD_cons_succ, List.drop_drop, grps_at l ns k (off + n) (by simpa using h), List.take_succ_cons, List.sum_cons, List.getD_cons_succ, Nat.add_assoc]
theorem cutsL_len : ∀ (ns : List Nat) (l : List Pc), (cutsL ns l).length = ns.length
 | [], _ => rfl
 | n :: ns, l => by rw [cutsL, List.length_cons, cutsL_len ns, List.length_cons]
theorem grps_len (l : List Pc) : (grps l).length = (gls l).length := cutsL_len _ _
theorem gls_sum : ∀ l : List Pc, (gls l).sum = l.length := grps_ind (by rw [gls_nil]; rfl) fun p l ih => by
 rw [gls_cons, List.sum_cons, ih, List.length_drop, List.length_cons]
 have := run1_le p.s l
 omega
theorem gls_le (l : List Pc) (h : 0 < l.length) : gls l = run1 (l.getD 0 pc0).s l :: gls (l.drop (run1 (l.getD 0 pc0).s l)) ∧ 0 < run1 (l.getD 0 pc0).s l ∧ run1 (l.getD 0 pc0).s l ≤ l.length := by
 cases l with
 | nil => simp at h
 | cons p l =>
  have e : run1 p.s (p :: l) = run1 p.s l + 1 := by conv => lhs; unfold run1; rw [if_pos rfl]
  have := run1_le p.s (p :: l)
  rw [List.getD_cons_zero, e]
  rw [e] at this
  exact ⟨by rw [gls_cons, List.drop_succ_cons], by omega, this⟩
def OwnG (w : World) (base : Nat) (v : Value) (xs : List Value) : Prop := w.ownsRow base 31 1 v xs.length xs
theorem OwnG.next {w w' : World} {base : Nat} {v : Value} {xs : List Value} (h : OwnG w base v xs) (hb : Below w.heap.size w w') : OwnG w' base v xs := own_keep (S := fun _ => False) h (Only.of_below hb) (fun _ _ h => h)
theorem OwnG.alloc {w : World} {base : Nat} {v : Value} {xs : List Value} (h : OwnG w base v xs) (o : Obj) : OwnG (w.alloc o) base v xs := World.ownsRow.alloc h o
theorem OwnG.off {w w' : World} {base : Nat} {v : Value} {xs : List Value} {S : Nat → Prop} (h : OwnG w base v xs) (ho : Only S w w') (hS : ∀ k, S k → k < base) : OwnG w' base v xs :=
 own_keep h ho (fun g hg hs => by
  rcases h.2 with ⟨h1, h2⟩ | ⟨g', cap, cur, h1, hb, _⟩
  ·rw [h1] at hg; cases hg
  ·rw [h1] at hg
   have e : g' = g := by simpa [Value.ownBlock] using hg
   have := hS g hs
   omega)
theorem OwnG.snoc {w w' : World} {base : Nat} {v v' x : Value} {xs : List Value} (h : Apped w base 31 1 v w' v' (xs.length + 1) (xs ++ [x])) : OwnG w' base v' (xs ++ [x]) := by
 have := h.own
 unfold OwnG
 rw [jC]
 exact this
theorem grpInfo : (Tryz.prog.info? 31).map (fun i => (i.zero, i.size, i.bytes)) = some (some (.slice none 0 0), 1, 24) := by kernel_rfl
theorem groups_c (ad : Addr) (c : Nat) (l : List Pc) (w : World) (hat : AtA w ad (pcs l)) (hab : ad.block < w.heap.size) (hc : l.length ≤ c) (h0 : 0 < l.length) (h1 : l.length ≤ 100000) :
  Calls Tryz.prog 93 #[.slice (some ad) l.length c] w fun e w' => ∃ v, e = .returned v ∧ OwnG w' w.heap.size v (gv ad c 0 (gls l)) ∧ Below w.heap.size w w' := by
 obtain ⟨i0, hib, hz0, hz1, hz2⟩ := info_parts grpInfo
 have HAT := Li hat
 have HAB := Li hab
 have HLEN := Li (show (gls l).length ≤ l.length from by
  have hgn : ∀ l : List Pc, (gls l).length ≤ l.length := grps_ind (by rw [gls_nil]; exact jD _) fun p l ih => by
   rw [gls_cons, List.length_cons, List.length_cons]
   rw [List.length_drop] at ih
   omega
  exact hgn l)
 clear hat hab
 go_enter Tryz.func93, Tryz.ntmps93
 go_wp2_with fail
 go_loopw [3] (fun o wr => ∃ (ms : List Nat) (A' : Option Addr), ms.sum ≤ l.length ∧ gls l = ms ++ gls (l.drop ms.sum) ∧ OwnG wr (w.heap.size + 1) o (gv ad c 0 ms) ∧ Below w.heap.size w wr ∧ Blk wr w.heap.size 31 #[.slice A' (l.length - ms.sum) (c - ms.sum)] ∧ (ms.sum < l.length → A' = some (ad.add (ms.sum * 5))) ∧ w.heap.size + 1 ≤ wr.heap.size) (fun _ wr => match wr.cell? ⟨w.heap.size, 0, none⟩ with | some (.slice _ n _) => n | _ => 0)
 case atStart => exact ⟨[], some ad, Nat.zero_le _, by simp, ⟨rfl, .inl ⟨rfl, rfl⟩⟩, (jE _ _).alloc (jD _) _, Blk.new _ _ _, fun _ => by simp [Addr.add], by simp⟩
 case round =>
  rename World => wr
  obtain ⟨ms, A', hms, hgl, ho, hb, hB, hA, hsz⟩ := hrel
  have HGL := Li hgl
  have HO := Li ho
  have HB := Li hb
  have HBK := Li hB
  have HSZ := Li hsz
  have c0 : wr.cell? ⟨w.heap.size, 0, none⟩ = some (.slice A' (l.length - ms.sum) (c - ms.sum)) := (hB.cell 0).trans rfl
  have fz : wr.frozen? ⟨w.heap.size, 0, none⟩ = false := hB.free 0
  clear hgl ho hb hB hsz
  by_cases hlt : ms.sum < l.length
  ·have hAA := hA hlt
   subst hAA
   have HATW := Li (show AtA wr (ad.add (ms.sum * 5)) (pcs (l.drop ms.sum)) by
    rw [pcs_drop]
    have h1 := (HAT.out.below HB.out HAB.out).drop (ms.sum * 5) ((pcs l).length - ms.sum * 5)
    rwa [List.take_of_length_le (by rw [List.length_drop]; exact jD _)] at h1)
   have HG := gls_le (l.drop ms.sum) (by rw [List.length_drop]; omega)
   have HLL := Li (show (l.drop ms.sum).length = l.length - ms.sum from List.length_drop ..)
   have HIC := Li (index_c w.heap.size (c - ms.sum) (ad.add (ms.sum * 5)) (l.drop ms.sum) ((l.drop ms.sum).getD 0 pc0).s wr (by rw [HLL.out]; exact c0) (by rw [HLL.out]; omega) rfl HATW.out HBK.out.lt (by have := HB.out.size; have := HAB.out; rw [add_block]; omega) (by rw [HLL.out]; omega))
   rw [HLL.out] at HIC HG
   rw [List.drop_drop] at HG
   obtain ⟨m, hm⟩ : ∃ m, m = run1 ((l.drop ms.sum).getD 0 pc0).s (l.drop ms.sum) := ⟨_, rfl⟩
   rw [← hm] at HIC HG
   obtain ⟨hg1, hg2, hg3⟩ := HG
   have HGS := Li (gv_snoc ad c m 0 ms)
   rw [Nat.zero_add] at HGS
   have HGM := Li (show gls l = (ms ++ [m]) ++ gls (l.drop (ms.sum + m)) by rw [HGL.out, hg1, List.append_assoc]; rfl)
   have HSUM := Li (show (ms ++ [m]).sum = ms.sum + m by simp)
   have HGN := Li (gv_len ad c 0 ms)
   have HMN := Li (show ms.length ≤ l.length from by have h1 := congrArg List.length HGL.out; rw [jC] at h1; have := HLEN.out; omega)
   have HADD := Li (show (ad.add (ms.sum * 5)).add (m * 5) = ad.add ((ms.sum + m) * 5) by rw [Addr.add_add, Nat.add_mul])
   clear hm hg1 HATW hA HGL
   obtain ⟨N, hN⟩ : ∃ N, N = l.length - ms.sum := ⟨_, rfl⟩
   obtain ⟨C, hC⟩ : ∃ C, C = c - ms.sum := ⟨_, rfl⟩
   rw [← hN] at HIC hg3 c0
   rw [← hC] at HIC HGS c0
   have HNN := Li (show l.length - (ms.sum + m) = N - m by omega)
   have HCC := Li (show c - (ms.sum + m) = C - m by omega)
   have hNC : N ≤ C := by omega
   have hms2 : ms.sum + m ≤ l.length := by omega
   have HBK2 := Li (show Blk wr w.heap.size 31 #[.slice (some (ad.add (ms.sum * 5))) N C] by rw [hN, hC]; exact HBK.out)
   have hN0 : (0 : Int) < (N : Int) := by omega
   have hNle : N ≤ l.length := by omega
   clear hN hC hms hlt HLL HBK
   generalize ad.add (ms.sum * 5) = a' at *
   have q0 : (0 : Int) ≤ (m : Int) := by omega
   have q1 : (m : Int) ≤ (N : Int) := by omega
   have q2 : (m : Int) ≤ (C : Int) := by omega
   have q3 : decide ((m : Int) < 0) = false := jG (by omega)
   have q4 : decide ((-1 : Int) < 0) = true := rfl
   by_cases hmN : m < N
   ·have hid : idxR m N = (m : Int) := by unfold idxR; rw [if_pos hmN]
    rw [hid] at HIC
    have hCm : ¬ C = m := by omega
    clear hid
    go_wp2_with (first
     | (go_at_call 60; (refine HIC.out.mono ?_); rintro e W1 ⟨rfl, hb1⟩; have HB1 := Li (HB.out.trans (hb1.mono HB.out.size)); have HO1 := Li (show OwnG W1 (w.heap.size + 1) _ (gv ad c 0 ms) from OwnG.next HO.out hb1); have HBK1 := HBK2.out.below hb1 HBK2.out.lt; have d0 : W1.cell? ⟨w.heap.size, 0, none⟩ = some (.slice (some a') N C) := (HBK1.cell 0).trans rfl; have HBK3 := Li HBK1; have HS1 := Li (Nat.le_trans HSZ.out hb1.size); clear hb1 HBK1)
     | (at_builtin; go_loud (refine wpList_app _ rfl (.tmp 15) (.tmp 19) _ rfl (w.heap.size + 1) 31 i0 (.slice none 0 0) 1 24 Tryz.underlying22 hib hz0 hz1 hz2 rfl (by decide) _ _ (gv ad c 0 ms) rfl (HO1.out.alloc _) _ (some ⟨W1.heap.size, 0, none⟩) 1 1 [.slice (some a') m C] rfl rfl (by exact rd_new W1 [.slice (some a') m C] _ (0, 0)) (by intro u hu; rw [List.mem_singleton.1 hu]; rfl) (by rw [HGN.out]; have := HMN.out; omega) (by rw [HGN.out]; have := HMN.out; omega) (by have := HS1.out; simp; omega) ?_; intro v1 w2 hap; have hbw := hap.below (HO1.out.alloc _) (by have := HS1.out; simp; omega); have hbk4 := (HBK3.out.alloc (Obj.cells #[.slice (some a') m C] 31)).below hbw (Nat.lt_succ_self _); have d1 : w2.cell? ⟨w.heap.size, 0, none⟩ = some (.slice (some a') N C) := (hbk4.cell 0).trans rfl; have d2 : w2.frozen? ⟨w.heap.size, 0, none⟩ = false := hbk4.free 0; have HBK4 := Li hbk4; have HAP := Li (OwnG.snoc hap); have HB2 := Li ((HB1.out.alloc HB1.out.size (Obj.cells #[.slice (some a') m C] 31)).trans (hbw.mono (Nat.le_succ _))); have HS2 := Li (show w.heap.size + 1 ≤ w2.heap.size from Nat.le_trans (Nat.le_trans HS1.out (by simp)) hbw.size); clear hap hbw hbk4 d0)))
    go_roundw
    case rel => exact ⟨ms ++ [m], _, by rw [HSUM.out]; omega, by rw [HSUM.out]; exact HGM.out, by rw [HGS.out]; exact HAP.out.off ((Only.refl (fun k => k = w.heap.size) w2).setCell (p := ⟨w.heap.size, 0, none⟩) (fun _ => rfl) _) (fun k hk => by omega), HB2.out.setCell (by show w.heap.size ≤ w.heap.size; omega) _, by rw [HSUM.out, HNN.out, HCC.out]; exact HBK4.out.set_ 0 _, fun h => by rw [HSUM.out, HADD.out], by simpa using HS2.out⟩
    case measure =>
     have HM1 := (HBK4.out.set_ 0 (.slice (some (a'.add (m * 5))) (N - m) (C - m))).cell 0
     have HM0 := (HBK2.out.cell 0)
     rw [HM0, HM1]
     show (N - m) < N
     omega
   ·have hmN2 : m = N := by omega
    subst hmN2
    have hid : idxR m m = -1 := by unfold idxR; rw [if_neg (by omega)]
    rw [hid] at HIC
    clear hid hmN q1
    have HEND := Li (show ms.sum + m = l.length by have := HNN.out; omega)
    by_cases hCm : C = m
    ·have hCm' : m = C := hCm.symm
     subst hCm'
     clear hCm
     go_wp2_with (first
      | (go_at_call 60; (refine HIC.out.mono ?_); rintro e W1 ⟨rfl, hb1⟩; have HB1 := Li (HB.out.trans (hb1.mono HB.out.size)); have HO1 := Li (show OwnG W1 (w.heap.size + 1) _ (gv ad c 0 ms) from OwnG.next HO.out hb1); have HBK1 := HBK2.out.below hb1 HBK2.out.lt; have d0 : W1.cell? ⟨w.heap.size, 0, none⟩ = some (.slice (some a') m m) := (HBK1.cell 0).trans rfl; have HBK3 := Li HBK1; have HS1 := Li (Nat.le_trans HSZ.out hb1.size); clear hb1 HBK1)
      | (at_builtin; go_loud (refine wpList_app _ rfl (.tmp 15) (.tmp 19) _ rfl (w.heap.size + 1) 31 i0 (.slice none 0 0) 1 24 Tryz.underlying22 hib hz0 hz1 hz2 rfl (by decide) _ _ (gv ad c 0 ms) rfl (HO1.out.alloc _) _ (some ⟨W1.heap.size, 0, none⟩) 1 1 [.slice (some a') m m] rfl rfl (by exact rd_new W1 [.slice (some a') m m] _ (0, 0)) (by intro u hu; rw [List.mem_singleton.1 hu]; rfl) (by rw [HGN.out]; have := HMN.out; omega) (by rw [HGN.out]; have := HMN.out; omega) (by have := HS1.out; simp; omega) ?_; intro v1 w2 hap; have hbw := hap.below (HO1.out.alloc _) (by have := HS1.out; simp; omega); have hbk4 := (HBK3.out.alloc (Obj.cells #[.slice (some a') m m] 31)).below hbw (Nat.lt_succ_self _); have d1 : w2.cell? ⟨w.heap.size, 0, none⟩ = some (.slice (some a') m m) := (hbk4.cell 0).trans rfl; have d2 : w2.frozen? ⟨w.heap.size, 0, none⟩ = false := hbk4.free 0; have HBK4 := Li hbk4; have HAP := Li (OwnG.snoc hap); have HB2 := Li ((HB1.out.alloc HB1.out.size (Obj.cells #[.slice (some a') m m] 31)).trans (hbw.mono (Nat.le_succ _))); have HS2 := Li (show w.heap.size + 1 ≤ w2.heap.size from Nat.le_trans (Nat.le_trans HS1.out (by simp)) hbw.size); clear hap hbw hbk4 d0)))
     go_roundw
     case rel => exact ⟨ms ++ [m], _, by rw [HSUM.out]; omega, by rw [HSUM.out]; exact HGM.out, by rw [HGS.out]; exact HAP.out.off ((Only.refl (fun k => k = w.heap.size) w2).setCell (p := ⟨w.heap.size, 0, none⟩) (fun _ => rfl) _) (fun k hk => by omega), HB2.out.setCell (by show w.heap.size ≤ w.heap.size; omega) _, by rw [HSUM.out, HNN.out, HCC.out, Nat.sub_self]; exact HBK4.out.set_ 0 _, fun h => by rw [HSUM.out, HEND.out] at h; omega, by simpa using HS2.out⟩
     case measure =>
      have HM1 := (HBK4.out.set_ 0 (.slice (some a') 0 (0))).cell 0
      have HM0 := (HBK2.out.cell 0)
      rw [HM0, HM1]
      show 0 < m
      omega
    ·go_wp2_with (first
      | (go_at_call 60; (refine HIC.out.mono ?_); rintro e W1 ⟨rfl, hb1⟩; have HB1 := Li (HB.out.trans (hb1.mono HB.out.size)); have HO1 := Li (show OwnG W1 (w.heap.size + 1) _ (gv ad c 0 ms) from OwnG.next HO.out hb1); have HBK1 := HBK2.out.below hb1 HBK2.out.lt; have d0 : W1.cell? ⟨w.heap.size, 0, none⟩ = some (.slice (some a') m C) := (HBK1.cell 0).trans rfl; have HBK3 := Li HBK1; have HS1 := Li (Nat.le_trans HSZ.out hb1.size); clear hb1 HBK1)
      | (at_builtin; go_loud (refine wpList_app _ rfl (.tmp 15) (.tmp 19) _ rfl (w.heap.size + 1) 31 i0 (.slice none 0 0) 1 24 Tryz.underlying22 hib hz0 hz1 hz2 rfl (by decide) _ _ (gv ad c 0 ms) rfl (HO1.out.alloc _) _ (some ⟨W1.heap.size, 0, none⟩) 1 1 [.slice (some a') m C] rfl rfl (by exact rd_new W1 [.slice (some a') m C] _ (0, 0)) (by intro u hu; rw [List.mem_singleton.1 hu]; rfl) (by rw [HGN.out]; have := HMN.out; omega) (by rw [HGN.out]; have := HMN.out; omega) (by have := HS1.out; simp; omega) ?_; intro v1 w2 hap; have hbw := hap.below (HO1.out.alloc _) (by have := HS1.out; simp; omega); have hbk4 := (HBK3.out.alloc (Obj.cells #[.slice (some a') m C] 31)).below hbw (Nat.lt_succ_self _); have d1 : w2.cell? ⟨w.heap.size, 0, none⟩ = some (.slice (some a') m C) := (hbk4.cell 0).trans rfl; have d2 : w2.frozen? ⟨w.heap.size, 0, none⟩ = false := hbk4.free 0; have HBK4 := Li hbk4; have HAP := Li (OwnG.snoc hap); have HB2 := Li ((HB1.out.alloc HB1.out.size (Obj.cells #[.slice (some a') m C] 31)).trans (hbw.mono (Nat.le_succ _))); have HS2 := Li (show w.heap.size + 1 ≤ w2.heap.size from Nat.le_trans (Nat.le_trans HS1.out (by simp)) hbw.size); clear hap hbw hbk4 d0)))
     go_roundw
     case rel => exact ⟨ms ++ [m], _, by rw [HSUM.out]; omega, by rw [HSUM.out]; exact HGM.out, by rw [HGS.out]; exact HAP.out.off ((Only.refl (fun k => k = w.heap.size) w2).setCell (p := ⟨w.heap.size, 0, none⟩) (fun _ => rfl) _) (fun k hk => by omega), HB2.out.setCell (by show w.heap.size ≤ w.heap.size; omega) _, by rw [HSUM.out, HNN.out, HCC.out, Nat.sub_self]; exact HBK4.out.set_ 0 _, fun h => by rw [HSUM.out, HEND.out] at h; omega, by simpa using HS2.out⟩
     case measure =>
      have HM1 := (HBK4.out.set_ 0 (.slice (some (a'.add (m * 5))) 0 (C - m))).cell 0
      have HM0 := (HBK2.out.cell 0)
      rw [HM0, HM1]
      show 0 < m
      omega
  ·have hend : ms.sum = l.length := by omega
   have HFG := Li (show gls l = ms by rw [HGL.out, hend, List.drop_length, gls_nil, List.append_nil])
   have hn0 : l.length - ms.sum = 0 := by omega
   rw [hn0] at c0
   clear hn0 hend hlt hA
   go_wp2_with fail
   refine bodyPost_ret (results_tmp rfl _ _ _) rfl ?_
   exact ⟨_, rfl, by rw [HFG.out]; exact own_base_le HO.out (by omega), HB.out⟩
theorem groups0_c (A : Option Addr) (c : Nat) (w : World) : Calls Tryz.prog 93 #[.slice A 0 c] w fun e w' => e = .returned (.slice none 0 0) ∧ Below w.heap.size w w' := by
 have HB := Li (show Below w.heap.size w (w.alloc (.cells #[.slice A 0 c] 31)) from (jE _ _).alloc (jD _) _)
 go_enter Tryz.func93, Tryz.ntmps93
 go_wp2_with fail
 go_loopw [3] (fun o wr => o = .slice none 0 0 ∧ wr = w.alloc (.cells #[.slice A 0 c] 31)) (fun _ wr => 0)
 case atStart => exact ⟨rfl, rfl⟩
 case round =>
  rename World => wr
  obtain ⟨rfl, rfl⟩ := hrel
  go_wp2_with fail
  refine bodyPost_ret (results_tmp rfl _ _ _) rfl ?_
  exact ⟨rfl, HB.out⟩
theorem gls_pos : ∀ l : List Pc, ∀ m ∈ gls l, 0 < m := grps_ind (by rw [gls_nil]; intro m h; cases h) fun p l ih m h => by
 rw [gls_cons] at h
 rcases List.mem_cons.1 h with rfl | h
 ·omega
 ·exact ih m h
theorem sum_take_succ : ∀ (ms : List Nat) (k : Nat), k < ms.length → (ms.take (k + 1)).sum = (ms.take k).sum + ms.getD k 0
 | [], k, h => by simp at h
 | m :: ms, 0, h => by simp
 | m :: ms, k + 1, h => by
  rw [List.take_succ_cons, List.sum_cons, sum_take_succ ms k (by simpa using h), List.take_succ_cons, List.sum_cons, List.getD_cons_succ, Nat.add_assoc]
theorem sum_take_le : ∀ (ms : List Nat) (k : Nat), (ms.take k).sum ≤ ms.sum
 | [], k => by simp
 | m :: ms, 0 => by simp
 | m :: ms, k + 1 => by
  rw [List.take_succ_cons, List.sum_cons, List.sum_cons]
  have := sum_take_le ms k
  omega
def offG (l : List Pc) (k : Nat) : Nat := ((gls l).take k).sum
def lenG (l : List Pc) (k : Nat) : Nat := (gls l).getD k 0
theorem offG_succ (l : List Pc) (k : Nat) (h : k < (gls l).length) : offG l (k + 1) = offG l k + lenG l k := sum_take_succ _ _ h
theorem offG_le (l : List Pc) (k : Nat) : offG l k ≤ l.length := by rw [← gls_sum l]; exact sum_take_le _ _
theorem lenG_pos (l : List Pc) (k : Nat) (h : k < (gls l).length) : 0 < lenG l k := gls_pos l _ (by
 unfold lenG
 rw [jA, jB h]
 exact List.getElem_mem h)
theorem offG_lt (l : List Pc) (k : Nat) (h : k < (gls l).length) : offG l k + lenG l k ≤ l.length := by rw [← offG_succ l k h]; exact offG_le _ _
theorem grpG (l : List Pc) (k : Nat) (h : k < (gls l).length) : (grps l).getD k [] = (l.drop (offG l k)).take (lenG l k) := by
 have := grps_at l (gls l) k 0 h
 rw [List.drop_zero, Nat.zero_add] at this
 exact this
theorem roomG_cons (a : List Pc) (gs : List (List Pc)) : roomG (a :: gs) = roomG [a] + roomG gs := by cases a <;> simp [roomG]
theorem roomG_snoc (gs : List (List Pc)) (g : List Pc) : roomG (gs ++ [g]) = roomG gs + roomG [g] := by
 induction gs with
 | nil => simp [roomG]
 | cons a gs ih => rw [List.cons_append, roomG_cons, ih, roomG_cons a gs, Nat.add_assoc]
theorem take_snoc_ {α : Type} (d : α) (l : List α) (k : Nat) (h : k < l.length) : l.take (k + 1) = l.take k ++ [l.getD k d] := by
 rw [List.take_succ_eq_append_getElem h]
 simp [jA, h]
theorem room_step (l : List Pc) (k : Nat) (h : k < (gls l).length) : roomG ((grps l).take (k + 1)) = roomG ((grps l).take k) + (6 + (l.getD (offG l k) pc0).s.size) := by
 rw [take_snoc_ [] _ k (by rw [grps_len]; exact h), roomG_snoc, grpG l k h]
 have h1 := lenG_pos l k h
 have h2 := offG_lt l k h
 rw [List.drop_eq_getElem_cons (by omega), show lenG l k = (lenG l k - 1) + 1 by omega, List.take_succ_cons]
 simp [roomG, jA, show offG l k < l.length by omega]
theorem gv_rd {W : World} {base : Nat} {v : Value} {xs : List Value} (h : OwnG W base v xs) : ∃ A cap, v = .slice A xs.length cap ∧ xs.length ≤ cap ∧ cap ≤ maxLen ∧ Rd W W.heap.size A xs := own_rd h
theorem rdG_cell {W : World} {B : Nat} {a : Addr} {xs : List Value} {u : Value} (h : Rd W B (some a) xs) (k : Nat) (hk : xs[k]? = some u) : W.cell? (a.add k) = some u := by
 obtain ⟨ad, e, _, hc⟩ := h (by intro h0; rw [h0] at hk; simp at hk)
 injection e with e
 subst e
 exact hc k u hk
theorem room_c (A : Option Addr) (c : Nat) (l : List Pc) (w : World) (hr : RdP w w.heap.size A l) (hc : l.length ≤ c) (h1 : l.length ≤ 100000) (hs : ∀ p ∈ l, p.s.size ≤ 1000000) :
  Calls Tryz.prog 71 #[.slice A l.length c] w fun e w' => e = .returned (.int .i64 (roomL l : Nat)) ∧ Below w.heap.size w w' := by
 have f1 : IntKind.i64.wrap (32 * (l.length : Int)) = 32 * (l.length : Int) := IntWalk.i64_in _ (by omega)
 have f2 : IntKind.i64.wrap (4 + 32 * (l.length : Int)) = 4 + 32 * (l.length : Int) := IntWalk.i64_in _ (by omega)
 rcases Nat.eq_zero_or_pos l.length with h0 | h0
 ·obtain rfl : l = [] := List.eq_nil_of_length_eq_zero h0
  have HE := Li (show roomL [] = 4 by unfold roomL; rw [grps_nil]; rfl)
  rw [HE.out]
  clear f1 f2
  show Calls _ _ #[.slice A 0 c] _ _
  go_enter Tryz.func71, Tryz.ntmps71
  go_wp2_with (go_at_call 93; (refine (groups0_c A c w).mono ?_); rintro e W1 ⟨rfl, hb⟩; have HB := Li hb; clear hb)
  go_loopw [3, 13] (fun n i wr => n = .int .i64 4 ∧ i = .int .i64 0 ∧ wr = W1) (fun _ i _ => 0)
  case atStart => exact ⟨rfl, rfl, rfl⟩
  case round =>
   rename World => wr
   obtain ⟨rfl, rfl, rfl⟩ := hrel
   go_wp2_with fail
   go_ret
   exact ⟨rfl, HB.out⟩
 ·obtain ⟨ad, rfl, hab, hat⟩ := hr.open_ h0
  have HAT := Li hat
  have HAB := Li hab
  have HGC := Li (groups_c ad c l w hat hab hc h0 h1)
  have HSZ := Li (show ∀ k, (l.getD k pc0).s.size ≤ 1000000 from fun k => by
   rcases Nat.lt_or_ge k l.length with h | h
   ·exact hs _ (by simp [jA, h])
   ·rw [jA, List.getElem?_eq_none h]; decide)
  have hgn : (gls l).length ≤ l.length := by
   have hgn : ∀ l : List Pc, (gls l).length ≤ l.length := grps_ind (by rw [gls_nil]; exact jD _) fun p l ih => by
    rw [gls_cons, List.length_cons, List.length_cons]
    rw [List.length_drop] at ih
    omega
   exact hgn l
  have HGV := Li (gv_len ad c 0 (gls l))
  have HGA := Li (fun k (h : k < (gls l).length) => gv_at ad c 0 (gls l) k h)
  have HST := Li (fun k (h : k < (gls l).length) => room_step l k h)
  have HLP := Li (fun k (h : k < (gls l).length) => lenG_pos l k h)
  have HOL := Li (fun k (h : k < (gls l).length) => offG_lt l k h)
  have HFIN := Li (show roomL l = 4 + 32 * l.length + roomG ((grps l).take (gls l).length) by unfold roomL; rw [← grps_len, List.take_length])
  have hbd : ∀ k, k ≤ (gls l).length → roomG ((grps l).take k) ≤ k * 1000100 := by
   intro k
   induction k with
   | zero => intro _; simp [roomG]
   | succ k ih =>
    intro hk
    have h2 := ih (by omega)
    have h3 := HSZ.out (offG l k)
    rw [room_step l k hk]
    omega
  have HBD := Li hbd
  clear hr hs hbd hat hab
  obtain ⟨r, hr⟩ : ∃ r, r = roomL l := ⟨_, rfl⟩
  rw [← hr]
  have HRR := Li hr
  clear hr
  go_enter Tryz.func71, Tryz.ntmps71
  go_wp2_with (go_at_call 93; (refine HGC.out.mono ?_); rintro e W1 ⟨v, rfl, ho, hb⟩; obtain ⟨A2, c2, rfl, _, _, r2⟩ := gv_rd ho; have HB := Li hb; have HR2 := Li r2; rw [HGV.out]; clear ho hb r2)
  have HATW := Li (HAT.out.below HB.out HAB.out)
  go_loop [3, 13] (fun n i => ∃ k : Nat, k ≤ (gls l).length ∧ i = .int .i64 k ∧ n = .int .i64 (4 + 32 * (l.length : Int) + (roomG ((grps l).take k) : Nat))) (fun _ i => (gls l).length - (intOf i).toNat)
  case atStart => exact ⟨0, Nat.zero_le _, rfl, by simp [roomG]⟩
  case round =>
   obtain ⟨k, hk, rfl, rfl⟩ := hrel
   by_cases hlt : k < (gls l).length
   ·have p1 : (k : Int) < ((gls l).length : Int) := by omega
    have hga := HGA.out k hlt
    rw [Nat.zero_add] at hga
    have hrr := HR2.out
    obtain ⟨a2, rfl, _, _⟩ := hrr (by intro h; rw [h] at hga; simp at hga)
    have e0r := rdG_cell HR2.out k hga
    have hol := HOL.out k hlt
    have hlp := HLP.out k hlt
    have e1 := (HATW.out.piece (offG l k) (by omega)).ser
    have HSK := Li (HST.out k hlt)
    have hz := HSZ.out (offG l k)
    have hb0 := HBD.out k hk
    have e0 : W1.cell? (a2.add k) = some (.slice (some (ad.add (offG l k * 5))) (lenG l k) (c - offG l k)) := e0r
    clear hga e0r
    generalize l.getD (offG l k) pc0 = p at *
    generalize ad.add (offG l k * 5) = a' at *
    generalize lenG l k = m at *
    generalize c - offG l k = cc at *
    have p2 : (0 : Int) < (m : Int) := by omega
    generalize hq : roomG ((grps l).take k) = q at *
    have g1 : IntKind.i64.wrap (6 + (p.s.size : Int)) = 6 + (p.s.size : Int) := IntWalk.i64_in _ (by omega)
    have g2 : IntKind.i64.wrap (4 + 32 * (l.length : Int) + (q : Int) + (6 + (p.s.size : Int))) = 4 + 32 * (l.length : Int) + (q : Int) + (6 + (p.s.size : Int)) := IntWalk.i64_in _ (by omega)
    clear hq hol
    go_wp2_with fail
    go_round
    case rel => exact ⟨k + 1, by omega, by go_num, by rw [HSK.out]; go_num⟩
    case measure => simp [intOf]; omega
   ·obtain rfl : k = (gls l).length := by omega
    have HEQ := Li (show (4 + 32 * (l.length : Int) + (roomG ((grps l).take (gls l).length) : Nat)) = ((r : Nat) : Int) by rw [HRR.out, HFIN.out]; omega)
    go_wp2_with fail
    go_ret
    exact ⟨by rw [← HEQ.out]; rfl, HB.out⟩
theorem below_setRowP (w : World) (g : Nat) (cs : Array Value) {n : Nat} (h : n ≤ g) : Below n w (w.setRow g cs) := ⟨rfl, rfl, rfl, by simp [World.setRow], fun i hi => setRow_other _ _ i _ (by omega)⟩
theorem new_rowP (W : World) (T : TypeId) (old cs : Array Value) : Blk ((W.alloc (Obj.cells old T)).setRow W.heap.size cs) W.heap.size T cs ∧ Below W.heap.size W ((W.alloc (Obj.cells old T)).setRow W.heap.size cs) :=
 ⟨setRow_heap _ _ _ _ _ (0, 0) (Blk.new W _ _), ((jE _ _).alloc (jD _) _).trans (below_setRowP _ _ _ (jD _))⟩
def zPc : Array Value := pcV pc0
theorem zero_pc (w : World) : (zeroValue 77).run Tryz.prog w = .ok (.agg zPc) w := by kernel_rfl
theorem pcV_one (p : Pc) : (pcV p).all (·.oneCell') = true := by simp [pcV, pcL, Value.oneCell']
theorem cmpI_neg (x y : Int) : cmpI x y < 0 ↔ x < y := by unfold cmpI; split <;> (try split) <;> omega
theorem cmpI_zero (x y : Int) : cmpI x y = 0 ↔ x = y := by unfold cmpI; split <;> (try split) <;> omega
theorem cmpS_neg (a b : ByteArray) : cmpS a b < 0 ↔ ltS a b = true := by
 unfold cmpS
 split
 ·rename_i h; simp [h]
 ·rename_i h
  split <;> simp [h]
theorem cmpS_zero (a b : ByteArray) : cmpS a b = 0 ↔ a = b := by
 unfold cmpS
 split
 ·rename_i h
  constructor
  ·intro h1; omega
  ·rintro rfl; unfold ltS at h; rw [bless_irr] at h; cases h
 ·rename_i h
  split
  ·rename_i h2
   constructor
   ·intro h1; omega
   ·rintro rfl; unfold ltS at h2; rw [bless_irr] at h2; cases h2
  ·rename_i h2
   constructor
   ·intro _
    by_cases he : a = b
    ·exact he
    ·unfold ltS at h h2
     have h3 := bless_tri a.toList b.toList (fun h => he (toList_inj h)) (by simpa using h)
     exact absurd h3 h2
   ·intro _; rfl
theorem okPair_less (q p : Pc) : okPair q p = (lessP q p && !((q.s.toList == p.s.toList) && (q.t == p.t))) := by
 have hl : lessP q p = true ↔ (ltS q.s p.s = true ∨ (q.s = p.s ∧ (q.t < p.t ∨ (q.t = p.t ∧ cmpD q.n q.d p.n p.d < 0)))) := by
  unfold lessP cmpP
  rw [decide_eq_true_iff, orL]
  by_cases h0 : cmpS q.s p.s = 0
  ·rw [if_pos h0]
   have h1 := (cmpS_zero _ _).1 h0
   have h2 : ¬ ltS q.s p.s = true := fun h => by have := (cmpS_neg _ _).2 h; omega
   rw [orL]
   by_cases h3 : cmpI q.t p.t = 0
   ·rw [if_pos h3]
    have h4 := (cmpI_zero _ _).1 h3
    have h5 : orL [cmpD q.n q.d p.n p.d] = cmpD q.n q.d p.n p.d := by
     rw [orL]
     split
     ·rename_i h6; rw [h6]; rfl
     ·rfl
    rw [h5]
    constructor
    ·intro h; exact .inr ⟨h1, .inr ⟨h4, h⟩⟩
    ·rintro (h | ⟨_, h | ⟨_, h⟩⟩)
     ·exact absurd h h2
     ·omega
     ·exact h
   ·rw [if_neg h3]
    have h4 : q.t ≠ p.t := fun h => h3 ((cmpI_zero _ _).2 h)
    rw [cmpI_neg]
    constructor
    ·intro h; exact .inr ⟨h1, .inl h⟩
    ·rintro (h | ⟨_, h | ⟨h, _⟩⟩)
     ·exact absurd h h2
     ·exact h
     ·exact absurd h h4
  ·rw [if_neg h0, cmpS_neg]
   constructor
   ·intro h; exact .inl h
   ·rintro (h | ⟨h, _⟩)
    ·exact h
    ·exact absurd ((cmpS_zero _ _).2 h) h0
 rw [Bool.eq_iff_iff]
 unfold okPair
 rw [Bool.or_eq_true, Bool.and_eq_true, Bool.and_eq_true, hl, Bool.not_eq_true', Bool.and_eq_false_iff, beq_iff_eq, decide_eq_true_iff, beq_eq_false_iff_ne, beq_eq_false_iff_ne]
 constructor
 ·rintro (h | ⟨h, h2⟩)
  ·refine ⟨.inl h, .inl (fun e => ?_)⟩
   unfold ltS at h
   rw [e, bless_irr] at h
   cases h
  ·exact ⟨.inr ⟨toList_inj h, .inl h2⟩, .inr (by omega)⟩
 ·rintro ⟨h | ⟨h, h2⟩, h3⟩
  ·exact .inl h
  ·rcases h3 with h3 | h3
   ·exact absurd (by rw [h]) h3
   ·rcases h2 with h2 | ⟨h2, _⟩
    ·exact .inr ⟨by rw [h], h2⟩
    ·exact absurd h2 h3
theorem AtA.tim {w : World} {a : Addr} {p : Pc} (h : AtA w a (pcL p)) : w.cell? ⟨a.block, a.off + 1, none⟩ = some (.int .i64 p.t) := h 1 _ rfl
theorem AtA.blk {w : World} {g : Nat} {T : TypeId} {p : Pc} (h : Blk w g T (pcV p)) : AtA w ⟨g, 0, none⟩ (pcL p) := fun j v hv => by
 rw [Addr.add_mid, Nat.zero_add]
 refine (h.cell j).trans ?_
 rw [← hv]
 exact List.getElem?_toArray
theorem wpQuiet_loadA {P : Program} {ops : Array Oper} {C : World → Prop} {Q : Act → Prop} {a : Act} {o : Oper} {rest : List Oper} (ty : TypeId) (x : Operand) (ho : o.op = .load ty x) (hw : Region.wanted o (yielded ops a.tmps) = true) (b : Addr) (hx : a.eval x = .pointer (some b))
  (l : List Value) (d : TypeDesc) (hC : ∀ w, C w → AtA w b l) (hu : P.underlying ty = some d) (hd : d.isRow = true) (hi : (P.info? ty).map (·.size) = some l.length)
  (a' : Act) (ha : a.put o.dst (.agg l.toArray) = a') (h : wpQuiet P ops C Q rest a') : wpQuiet P ops C Q (o :: rest) a := by
 refine BigFrame.wpQuiet_want hw fun K hK => ⟨.agg l.toArray, fun w hw' => ?_, ?_⟩
 ·unfold Oper.quietAt execOp
  simp only [ho, hx, Instr.loadAt, Instr.sureAddr, Sem.run_bind, Sem.run_pure, Result.andThen_ok, run_loadVar_at w b ty l d (hC w hw') hu hd hi]
  exact ⟨rfl, rfl⟩
 ·rw [ha]; exact hK _ h
theorem okAt_zero (l : List Pc) : okAt l 0 = ckP (l.getD 0 pc0) := by unfold okAt; simp
theorem okAt_succ (l : List Pc) (j : Nat) : okAt l (j + 1) = (ckP (l.getD (j + 1) pc0) && okPair (l.getD j pc0) (l.getD (j + 1) pc0)) := by unfold okAt; simp
theorem pcE_ok {p : Pc} (h : ckP p = true) : pcE p = 0 := by unfold pcE; rw [if_pos h]
theorem pcE_bad {p : Pc} (h : ckP p = false) : pcE p = 1 := by unfold pcE; rw [h]; rfl
theorem check_c (A : Option Addr) (c : Nat) (l : List Pc) (w : World) (hr : RdP w w.heap.size A l) (hc : l.length ≤ c) (h1 : l.length ≤ 100000) (hs : ∀ p ∈ l, p.s.size ≤ 1000000) :
  Calls Tryz.prog 68 #[.slice A l.length c] w fun e w' => e = .returned (.int .i64 (chkL l : Nat)) ∧ Below w.heap.size w w' := by
 have zf := zero_pc
 have zs1 : zPc.size = 5 := by rfl
 have zs2 : ¬ zPc = #[] := by intro h; have := congrArg Array.size h; rw [zs1] at this; cases this
 have HR := Li hr
 have HRC := Li (room_c A c l w hr hc h1 hs)
 have HSZ := Li (show ∀ k, (l.getD k pc0).s.size ≤ 1000000 from fun k => by
  rcases Nat.lt_or_ge k l.length with h | h
  ·exact hs _ (by simp [jA, h])
  ·rw [jA, List.getElem?_eq_none h]; decide)
 have HCH := Li (show chkL l = if 256 < l.length ∨ 4096 < roomL l then 3 else if okTo l l.length then 0 else 1 from rfl)
 obtain ⟨r, hr'⟩ : ∃ r, r = chkL l := ⟨_, rfl⟩
 rw [← hr'] at HCH ⊢
 clear hr hs hr'
 by_cases hg : 256 < l.length
 ·have HRV := Li (show r = 3 by rw [HCH.out, if_pos (.inl hg)])
  have p1 : decide ((256 : Int) < (l.length : Int)) = true := jF (by omega)
  go_enter Tryz.func68, Tryz.ntmps68
  go_wp2_with fail
  go_ret
  exact ⟨by rw [HRV.out]; rfl, jE _ _⟩
 ·have p1 : decide ((256 : Int) < (l.length : Int)) = false := jG (by omega)
  by_cases hg2 : 4096 < roomL l
  ·have HRV := Li (show r = 3 by rw [HCH.out, if_pos (.inr hg2)])
   have p2 : decide ((4096 : Int) < ((roomL l : Nat) : Int)) = true := jF (by omega)
   generalize roomL l = rm at *
   clear hg
   go_enter Tryz.func68, Tryz.ntmps68
   go_wp2_with (go_at_call 71; (refine HRC.out.mono ?_); rintro e W1 ⟨rfl, hb⟩; have HB1 := Li hb; clear hb)
   go_ret
   exact ⟨by rw [HRV.out]; rfl, HB1.out⟩
  ·have HRV := Li (show r = if okTo l l.length then 0 else 1 by rw [HCH.out, if_neg (by omega)])
   have p2 : decide ((4096 : Int) < ((roomL l : Nat) : Int)) = false := jG (by omega)
   have hlen : l.length ≤ 256 := by omega
   generalize roomL l = rm at *
   clear hg hg2
   go_enter Tryz.func68, Tryz.ntmps68
   go_wp2_with (go_at_call 71; (refine HRC.out.mono ?_); rintro e W1 ⟨rfl, hb⟩; have HB1 := Li hb; clear hb)
   go_loopw [15] (fun i wr => ∃ k : Nat, k ≤ l.length ∧ i = .int .i64 k ∧ okTo l k = true ∧ Below w.heap.size w wr) (fun i _ => l.length - (intOf i).toNat)
   case atStart => exact ⟨0, Nat.zero_le _, rfl, rfl, HB1.out⟩
   case round =>
    rename World => wr
    obtain ⟨k, hk, rfl, hok, hb⟩ := hrel
    have HOK := Li hok
    have HB := Li hb
    clear hok hb HB1 p1 p2
    by_cases hlt : k < l.length
    ·have q1 : (k : Int) < (l.length : Int) := by omega
     have hrr := HR.out
     obtain ⟨ad, rfl, hab, hat⟩ := hrr.open_ (by omega)
     have HAT := Li (hat.below HB.out hab)
     have HAB := Li (show ad.block < wr.heap.size from jH hab HB.out.size)
     have HPA := Li (HAT.out.piece k hlt)
     have HPI := Li (pcLn (l.getD k pc0))
     have HPS := Li (pcInfo (l.getD k pc0))
     have HPC := Li (fun W => pcheck_c (l.getD k pc0) W (by have := HSZ.out k; omega))
     have HNO := Li (okTo_not l k l.length hlt)
     have HNX := Li (okTo_succ l k)
     have HO0 := Li (show k = 0 → okAt l k = ckP (l.getD k pc0) from fun h => by rw [h]; exact okAt_zero l)
     have HOJ := Li (show ∀ j, k = j + 1 → okAt l k = (ckP (l.getD k pc0) && okPair (l.getD j pc0) (l.getD k pc0)) from fun j h => by rw [h]; exact okAt_succ l j)
     clear hat hab hrr
     generalize l.getD k pc0 = p at *
     go_upto_region 6 with (first
      | (refine wpList_loadA rfl 77 (.tmp 18) rfl (ad.add (k * 5)) rfl (pcL p) _ HPA.out Tryz.underlying77 rfl HPI.out ?_)
      | (refine wpList_store_rowTo rfl 77 (.tmp 4) (.tmp 19) rfl rfl wr.heap.size (pcV p) rfl rfl 77 zPc (by exact Blk.new wr _ _) HPS.out rfl (pcV_one _) ?_))
     have hnr := new_rowP wr 77 zPc (pcV p)
     have HX := Li hnr.1
     have HXW := Li hnr.2
     generalize (wr.alloc (Obj.cells zPc 77)).setRow wr.heap.size (pcV p) = X at *
     clear hnr
     have HXT := Li (show Below w.heap.size w X from HB.out.trans (HXW.out.mono HB.out.size))
     by_cases hck : ckP p = true
     ·have HPC1 := Li (show Calls Tryz.prog 41 #[.agg (pcV p)] X fun e w' => e = .returned (.int .i64 0) ∧ Below X.heap.size X w' from by have h := HPC.out X; rw [pcE_ok hck] at h; exact h)
      go_upto_region 8 with (first
       | (refine wpList_load_row rfl 77 (.tmp 4) rfl wr.heap.size rfl 77 (pcV p) (0, 0) _ HX.out Tryz.underlying77 rfl HPS.out ?_)
       | (go_at_call 41; (refine HPC1.out.mono ?_); rintro e W2 ⟨rfl, hb2⟩; have HX2 := Li (HX.out.below hb2 HX.out.lt); have HW2 := Li (HXW.out.trans (hb2.mono HXW.out.size)); clear hb2))
      have HT2 := Li (HB.out.trans (HW2.out.mono HB.out.size))
      have HAB2 := Li (show ad.block < W2.heap.size from jH HAB.out HW2.out.size)
      rcases Nat.eq_zero_or_pos k with h0 | h0
      ·have d0 : decide (0 < k) = false := jG (by omega)
       have HOKN := Li (show okTo l (k + 1) = true by rw [HNX.out, HOK.out, HO0.out h0, hck]; rfl)
       clear h0 hck
       go_quiet (fail)
       have HBZ := Li (belowDrewN nq HT2.out)
       generalize W2.drewN nq = Y2 at *
       go_wp2_with fail
       go_roundw
       case rel => exact ⟨k + 1, by omega, by go_num, HOKN.out, HBZ.out⟩
       case measure => simp only [intOf]; omega
      ·obtain ⟨j, hj⟩ : ∃ j, k = j + 1 := ⟨k - 1, by omega⟩
       have d0 : decide (0 < k) = true := jF (by omega)
       have fj : IntKind.i64.wrap ((k : Int) - 1) = (j : Int) := by rw [IntWalk.i64_in _ (by omega)]; omega
       have hjl : (j : Int) < (l.length : Int) := by omega
       have hj0 : (0 : Int) ≤ (j : Int) := by omega
       have HQA := Li (((HAT.out.below HW2.out HAB.out)).piece j (by omega))
       have HQI := Li (pcLn (l.getD j pc0))
       have HLL := Li (fun W => less_c (l.getD j pc0) p W)
       have HOK2 := Li (show okAt l k = (lessP (l.getD j pc0) p && !(((l.getD j pc0).s.toList == p.s.toList) && ((l.getD j pc0).t == p.t))) by rw [HOJ.out j hj, hck, okPair_less]; rfl)
       clear hj h0 hck HOJ HO0
       generalize l.getD j pc0 = q at *
       have e0 := cell_ext (HQA.out.ser)
       have e1 := cell_ext (HQA.out.tim)
       have e2 := cell_ext (show W2.cell? ⟨wr.heap.size, 0, none⟩ = some (.string p.s) from (HX2.out.cell 0).trans rfl)
       have e3 := cell_ext (show W2.cell? ⟨wr.heap.size, 1, none⟩ = some (.int .i64 p.t) from (HX2.out.cell 1).trans rfl)
       rcases (show lessP q p = true ∨ lessP q p = false by cases lessP q p <;> simp) with hL | hL
       ·rw [hL] at HLL HOK2
        have HLS := Li HLL.out
        clear hL HLL
        rcases (show (q.s.toList == p.s.toList) = true ∨ (q.s.toList == p.s.toList) = false by cases (q.s.toList == p.s.toList) <;> simp) with hS | hS
        ·rcases (show (q.t == p.t) = true ∨ (q.t == p.t) = false by cases (q.t == p.t) <;> simp) with hT | hT
         ·have HBADN := Li (show r = 1 by rw [HRV.out, HNO.out (by rw [HOK2.out, hS, hT]; rfl)]; rfl)
          refine wp_region_class (Ext.wd (w0 := W2)) (by kernel_rfl) (by kernel_rfl) (Ext.of (jE _ _).drew) ?_
          repeat (first
           | go_big_quiet_skip
           | (refine wpQuiet_loadA 77 (.tmp 29) rfl rfl (ad.add (j * 5)) rfl (pcL q) _ (fun w hw => by obtain ⟨x, rfl⟩ := hw; exact HQA.out.below x.bel (by rw [add_block]; exact HAB2.out)) Tryz.underlying77 rfl HQI.out _ (by simp only [Act.put, sI, sS, sZ]; rfl) ?_)
           | (refine wpQuiet_loadA 77 (.tmp 4) rfl rfl ⟨wr.heap.size, 0, none⟩ rfl (pcL p) _ (fun w hw => by obtain ⟨x, rfl⟩ := hw; exact AtA.blk (HX2.out.below x.bel HX2.out.lt)) Tryz.underlying77 rfl HPI.out _ (by simp only [Act.put, sI, sS, sZ]; rfl) ?_)
           | (go_big_quiet_step ((go_at_call 92; exact ext_call (HLS.out _)))))
          refine wpQuiet_nil ?_
          rintro _ ⟨z, rfl⟩
          have HBZ := Li (HT2.out.trans (z.bel.mono HT2.out.size))
          generalize z.wd = Y2 at *
          go_wp2_with fail
          go_ret
          exact ⟨by rw [HBADN.out]; rfl, HBZ.out⟩
         ·have HOKN := Li (show okTo l (k + 1) = true by rw [HNX.out, HOK.out, HOK2.out, hS, hT]; rfl)
          refine wp_region_class (Ext.wd (w0 := W2)) (by kernel_rfl) (by kernel_rfl) (Ext.of (jE _ _).drew) ?_
          repeat (first
           | go_big_quiet_skip
           | (refine wpQuiet_loadA 77 (.tmp 29) rfl rfl (ad.add (j * 5)) rfl (pcL q) _ (fun w hw => by obtain ⟨x, rfl⟩ := hw; exact HQA.out.below x.bel (by rw [add_block]; exact HAB2.out)) Tryz.underlying77 rfl HQI.out _ (by simp only [Act.put, sI, sS, sZ]; rfl) ?_)
           | (refine wpQuiet_loadA 77 (.tmp 4) rfl rfl ⟨wr.heap.size, 0, none⟩ rfl (pcL p) _ (fun w hw => by obtain ⟨x, rfl⟩ := hw; exact AtA.blk (HX2.out.below x.bel HX2.out.lt)) Tryz.underlying77 rfl HPI.out _ (by simp only [Act.put, sI, sS, sZ]; rfl) ?_)
           | (go_big_quiet_step ((go_at_call 92; exact ext_call (HLS.out _)))))
          refine wpQuiet_nil ?_
          rintro _ ⟨z, rfl⟩
          have HBZ := Li (HT2.out.trans (z.bel.mono HT2.out.size))
          generalize z.wd = Y2 at *
          go_wp2_with fail
          go_roundw
          case rel => exact ⟨k + 1, by omega, by go_num, HOKN.out, HBZ.out⟩
          case measure => simp only [intOf]; omega
        ·have HOKN := Li (show okTo l (k + 1) = true by rw [HNX.out, HOK.out, HOK2.out, hS]; rfl)
         refine wp_region_class (Ext.wd (w0 := W2)) (by kernel_rfl) (by kernel_rfl) (Ext.of (jE _ _).drew) ?_
         repeat (first
          | go_big_quiet_skip
          | (refine wpQuiet_loadA 77 (.tmp 29) rfl rfl (ad.add (j * 5)) rfl (pcL q) _ (fun w hw => by obtain ⟨x, rfl⟩ := hw; exact HQA.out.below x.bel (by rw [add_block]; exact HAB2.out)) Tryz.underlying77 rfl HQI.out _ (by simp only [Act.put, sI, sS, sZ]; rfl) ?_)
          | (refine wpQuiet_loadA 77 (.tmp 4) rfl rfl ⟨wr.heap.size, 0, none⟩ rfl (pcL p) _ (fun w hw => by obtain ⟨x, rfl⟩ := hw; exact AtA.blk (HX2.out.below x.bel HX2.out.lt)) Tryz.underlying77 rfl HPI.out _ (by simp only [Act.put, sI, sS, sZ]; rfl) ?_)
          | (go_big_quiet_step ((go_at_call 92; exact ext_call (HLS.out _)))))
         refine wpQuiet_nil ?_
         rintro _ ⟨z, rfl⟩
         have HBZ := Li (HT2.out.trans (z.bel.mono HT2.out.size))
         generalize z.wd = Y2 at *
         go_wp2_with fail
         go_roundw
         case rel => exact ⟨k + 1, by omega, by go_num, HOKN.out, HBZ.out⟩
         case measure => simp only [intOf]; omega
       ·rw [hL] at HLL HOK2
        have HLS := Li HLL.out
        have HBADN := Li (show r = 1 by rw [HRV.out, HNO.out (by rw [HOK2.out]; rfl)]; rfl)
        clear hL HLL
        refine wp_region_class (Ext.wd (w0 := W2)) (by kernel_rfl) (by kernel_rfl) (Ext.of (jE _ _).drew) ?_
        repeat (first
         | go_big_quiet_skip
         | (refine wpQuiet_loadA 77 (.tmp 29) rfl rfl (ad.add (j * 5)) rfl (pcL q) _ (fun w hw => by obtain ⟨x, rfl⟩ := hw; exact HQA.out.below x.bel (by rw [add_block]; exact HAB2.out)) Tryz.underlying77 rfl HQI.out _ (by simp only [Act.put, sI, sS, sZ]; rfl) ?_)
         | (refine wpQuiet_loadA 77 (.tmp 4) rfl rfl ⟨wr.heap.size, 0, none⟩ rfl (pcL p) _ (fun w hw => by obtain ⟨x, rfl⟩ := hw; exact AtA.blk (HX2.out.below x.bel HX2.out.lt)) Tryz.underlying77 rfl HPI.out _ (by simp only [Act.put, sI, sS, sZ]; rfl) ?_)
         | (go_big_quiet_step ((go_at_call 92; exact ext_call (HLS.out _)))))
        refine wpQuiet_nil ?_
        rintro _ ⟨z, rfl⟩
        have HBZ := Li (HT2.out.trans (z.bel.mono HT2.out.size))
        generalize z.wd = Y2 at *
        go_wp2_with fail
        go_ret
        exact ⟨by rw [HBADN.out]; rfl, HBZ.out⟩
     ·have hck' : ckP p = false := by simpa using hck
      have HPC1 := Li (show Calls Tryz.prog 41 #[.agg (pcV p)] X fun e w' => e = .returned (.int .i64 1) ∧ Below X.heap.size X w' from by have h := HPC.out X; rw [pcE_bad hck'] at h; exact h)
      have HRV1 := Li (show r = 1 by
       rw [HRV.out, HNO.out (by
        rcases Nat.eq_zero_or_pos k with h | h
        ·rw [HO0.out h, hck']
        ·rw [HOJ.out (k - 1) (by omega), hck', Bool.false_and])]
       rfl)
      clear hck hck'
      go_wp2_with (first
       | (refine wpList_load_row rfl 77 (.tmp 4) rfl wr.heap.size rfl 77 (pcV p) (0, 0) _ HX.out Tryz.underlying77 rfl HPS.out ?_)
       | (go_at_call 41; (refine HPC1.out.mono ?_); rintro e W2 ⟨rfl, hb2⟩; have HW2 := Li (HXT.out.trans (hb2.mono HXT.out.size)); clear hb2))
      go_ret
      exact ⟨by rw [HRV1.out]; rfl, HW2.out⟩
    ·obtain rfl : k = l.length := by omega
     have HRV1 := Li (show r = 0 by rw [HRV.out, HOK.out]; rfl)
     go_wp2_with fail
     go_ret
     exact ⟨by rw [HRV1.out]; rfl, HB.out⟩
theorem clone_c (B : Nat) (A : Option Addr) (ca : Nat) (l : List Nat) (w : World) (hr : Rd w B A (byt l)) (h1 : l.length ≤ 100000000) :
  Calls Tryz.prog 36 #[.slice A l.length ca] w (Gives l w) := by
 obtain ⟨i0, hi, hz0, hz1, hz2⟩ := info_parts byteInfo
 have HR := Li hr
 clear hr
 cases A with
 | none =>
  have hq := fun (W : World) (n c : Nat) => Lib.run_eql_slice_nil (P := Tryz.prog) W 23 5 none n c 0 0 Tryz.underlying23
  simp only [Option.isNone_none] at hq
  obtain rfl : l = [] := by have := HR.out.none_nil; simpa [byt] using this
  go_enter Tryz.func36, Tryz.ntmps36
  go_wp2
  go_ret
  exact ⟨_, rfl, OwnB.nil_ _ _, jE _ _⟩
 | some ad =>
  have hq := fun (W : World) (n c : Nat) => Lib.run_eql_slice_nil (P := Tryz.prog) W 23 5 (some ad) n c 0 0 Tryz.underlying23
  simp only [Option.isNone_some] at hq
  go_enter Tryz.func36, Tryz.ntmps36
  go_wp2_with (at_builtin; refine wpList_app _ rfl (.tmp 5) (.tmp 6) _ rfl w.heap.size 5 i0 (.int .u8 0) 1 1 Tryz.underlying23 hi hz0 hz1 hz2 rfl (by decide) _ 0 [] rfl (by exact OwnB.new _ _ [] (jD _) (by simp [maxLen])) B (some ad) l.length ca (byt l) rfl (by simp [byt_len]) (HR.out.ext ((jE _ _).alloc (jD _) _)) (byt_one l) (by omega) (by omega) (by simp) ?_; intro v1 w1 hap)
  go_ret
  refine ⟨v1, rfl, ?_, ((jE _ _).alloc (jD _) _).trans (hap.below (by exact OwnB.new _ _ [] (jD _) (by simp [maxLen])) (by simp))⟩
  have := hap.own
  simpa [OwnB] using this
theorem div_pow_succ (n k : Nat) : n / 256 ^ k / 256 = n / 256 ^ (k + 1) := by rw [Nat.div_div_eq_div_mul, ← Nat.pow_succ]
theorem div_pow_lt (n k : Nat) (h : n < 2 ^ 64) : n / 256 ^ k < 2 ^ 64 := Nat.lt_of_le_of_lt (Nat.div_le_self _ _) h
theorem rform_c (n k : Nat) (w : World) (hn : n < 2 ^ 64) (hk : k ≤ 1000) :
  Calls Tryz.prog 54 #[.int .u64 n, .int .i64 k] w (Gives (form n k) w) := by
 obtain ⟨i0, hi, hz0, hz1, hz2⟩ := info_parts byteInfo
 go_enter Tryz.func54, Tryz.ntmps54
 go_wp2
 go_loopw [0, 5, 6] (fun N u i wr => ∃ j : Nat, j ≤ k ∧ i = .int .i64 j ∧ N = .int .u64 (n / 256 ^ j : Nat) ∧ OwnB wr w.heap.size u (form n j) ∧ Below w.heap.size w wr) (fun _ _ i _ => k - (intOf i).toNat)
 case atStart => exact ⟨0, Nat.zero_le _, rfl, by simp, OwnB.nil_ _ _, jE _ _⟩
 case round =>
  rename_i wr
  obtain ⟨j, hj, rfl, rfl, ho, hb⟩ := hrel
  have HO := Li ho
  have HB := Li hb
  have hnl := div_pow_lt n j hn
  have HF := Li (form_succ n j)
  have HD := Li (div_pow_succ n j)
  have HLen := Li (form_len n j)
  clear ho hb
  generalize n / 256 ^ j = q at *
  by_cases hlt : j < k
  ·go_wp2_with (at_builtin; refine wpList_app _ rfl (.tmp 12) (.tmp 16) _ rfl w.heap.size 5 i0 (.int .u8 0) 1 1 Tryz.underlying23 hi hz0 hz1 hz2 rfl (by decide) _ _ _ rfl (HO.out.alloc _) _ _ 1 1 [.int .u8 (q % 256 : Nat)] rfl rfl (by exact rd_one _ _ _) (byt_one [q % 256]) (by rw [HLen.out]; omega) (by rw [HLen.out]; omega) (by have := HB.out.size; simp; omega) ?_; intro v1 w2 hap)
   go_roundw
   case rel =>
    go_light
    refine ⟨j + 1, by omega, by go_num, by rw [← HD.out]; go_num, ?_, (HB.out.alloc HB.out.size _).trans (hap.below (HO.out.alloc _) (by have := HB.out.size; simp; omega))⟩
    rw [HF.out]
    exact OwnB.snoc hap
   case measure => simp [intOf]; omega
  ·obtain rfl : j = k := by omega
   go_wp2
   go_ret
   exact ⟨_, rfl, HO.out, HB.out⟩
def tailOf (n : Nat) (wd : Int) : List Nat := if 8 < wd then [] else form n wd.toNat
theorem put_c (B : Nat) (A : Option Addr) (ca : Nat) (l : List Nat) (n : Nat) (wd : Int) (w : World) (hr : Rd w B A (byt l)) (hn : n < 2 ^ 64) (hw1 : -9223372036854775808 ≤ wd) (hw2 : wd ≤ 9223372036854775807) (h1 : l.length ≤ 10000000) :
  Calls Tryz.prog 70 #[.slice A l.length ca, .int .u64 n, .int .i64 wd] w (Gives (l ++ tailOf n wd) w) := by
 obtain ⟨i0, hi, hz0, hz1, hz2⟩ := info_parts byteInfo
 have HR := Li hr
 clear hr
 go_enter Tryz.func70, Tryz.ntmps70
 go_wp2_with fail
 refine (clone_c B A ca l _ HR.out (by omega)).mono ?_
 rintro e w1 ⟨v, rfl, ho, hb⟩
 have HO := Li ho
 have HB := Li hb
 clear ho hb
 by_cases h8 : 8 < wd
 ·have HT := Li (show l ++ tailOf n wd = l by simp [tailOf, h8])
  go_wp2
  go_ret
  rw [HT.out]
  exact ⟨_, rfl, HO.out, HB.out⟩
 ·have HT := Li (show tailOf n wd = form n wd.toNat by simp [tailOf, h8])
  have hdec : decide (8 < wd) = false := jG h8
  go_wp2
  obtain ⟨m, hm⟩ : ∃ m : Nat, m = wd.toNat := ⟨_, rfl⟩
  have hm8 : m ≤ 8 := by omega
  go_loopw [1, 7, 14] (fun N u i wr => ∃ j : Nat, j ≤ m ∧ i = .int .i64 j ∧ N = .int .u64 (n / 256 ^ j : Nat) ∧ OwnB wr w.heap.size u (l ++ form n j) ∧ Below w.heap.size w wr) (fun _ _ i _ => m - (intOf i).toNat)
  case atStart => exact ⟨0, Nat.zero_le _, rfl, by simp, by simpa [form] using HO.out, HB.out⟩
  case round =>
   rename_i wr
   obtain ⟨j, hj, rfl, rfl, ho, hb⟩ := hrel
   have HO2 := Li ho
   have HB2 := Li hb
   have hnl := div_pow_lt n j hn
   have HF := Li (form_succ n j)
   have HD := Li (div_pow_succ n j)
   have hlen : (l ++ form n j).length ≤ 10000010 := by rw [jC, form_len]; omega
   have HLen := Li hlen
   have HM := Li hm
   have HE := Li (show ((n / 256 ^ j : Nat) : Int) % 256 = ((n / 256 ^ j % 256 : Nat) : Int) by omega)
   have hjw : ((j : Int) < wd) ∨ ¬ ((j : Int) < wd) := by omega
   clear ho hb hm hlen
   generalize n / 256 ^ j = q at *
   rcases hjw with hlt | hge
   ·go_wp2_with (at_builtin; refine wpList_app _ rfl (.tmp 16) (.tmp 19) _ rfl w.heap.size 5 i0 (.int .u8 0) 1 1 Tryz.underlying23 hi hz0 hz1 hz2 rfl (by decide) _ _ _ rfl (HO2.out.alloc _) _ _ 1 1 [.int .u8 (q % 256 : Nat)] rfl rfl (by exact rd_one _ _ _) (byt_one [q % 256]) (by have := HLen.out; omega) (by have := HLen.out; omega) (by have := HB2.out.size; simp; omega) ?_; intro v1 w2 hap)
    go_roundw
    case rel =>
     go_light
     refine ⟨j + 1, by have := HM.out; omega, by go_num, by rw [← HD.out]; go_num, ?_, (HB2.out.alloc HB2.out.size _).trans (hap.below (HO2.out.alloc _) (by have := HB2.out.size; simp; omega))⟩
     rw [HF.out, ← List.append_assoc]
     exact OwnB.snoc hap
    case measure => have := HM.out; simp [intOf]; omega
   ·go_wp2
    go_ret
    have hjm : j = wd.toNat := by have := HM.out; omega
    rw [HT.out, ← hjm]
    exact ⟨_, rfl, HO2.out, HB2.out⟩
theorem rnumber_c (B : Nat) (A : Option Addr) (ca : Nat) (l : List Nat) (w : World) (hr : Rd w B A (byt l)) (hl : ∀ c ∈ l, c < 256) (h8 : l.length ≤ 8) :
  Calls Tryz.prog 99 #[.slice A l.length ca] w fun e w' => e = .returned (.int .u64 (number l : Nat)) ∧ w = w' := by
 have HR := Li hr
 have HL := Li hl
 clear hr hl
 generalize hn : l.length = n at *
 have HN := Li hn
 clear hn
 go_enter Tryz.func99, Tryz.ntmps99
 go_wp2
 go_loop [3, 4] (fun v i => ∃ k : Nat, k ≤ n ∧ i = .int .i64 ((k : Int) - 1) ∧ v = .int .u64 (number (l.drop k) : Nat)) (fun _ i => (intOf i + 1).toNat)
 case atStart => exact ⟨n, jD _, rfl, by rw [← HN.out, List.drop_length]; rfl⟩
 case round =>
  obtain ⟨k, hk, rfl, rfl⟩ := hrel
  cases k with
  | zero =>
   rw [show (((0 : Nat) : Int) - 1) = -1 from rfl]
   go_wp2
   go_ret
   exact ⟨rfl, rfl⟩
  | succ j =>
   rw [show (((j + 1 : Nat) : Int) - 1) = (j : Int) from by omega]
   have hj : j < l.length := by have := HN.out; omega
   obtain ⟨ad, rfl, hb, hc⟩ := HR.out.byte hj
   have hlt := getD_lt HL.out j
   have HST := Li (number_drop hj)
   have hnum : number (l.drop (j + 1)) < 256 ^ 7 := jH (number_lt _ (drop_lt HL.out _)) (Nat.pow_le_pow_right (by decide) (by rw [List.length_drop]; have := HN.out; omega))
   have hnum2 : number (l.drop (j + 1)) < 72057594037927936 := hnum
   clear hj hnum
   generalize number (l.drop (j + 1)) = v at *
   generalize l.getD j 0 = c at *
   go_wp2
   go_round
   case rel => exact ⟨j, by omega, rfl, by rw [HST.out]; go_num⟩
   case measure => simp [intOf]
def getErr (len : Nat) (wd : Int) : Int := if wd < 1 ∨ 8 < wd then 1 else if (len : Int) < wd then 2 else 0
def getNum (l : List Nat) (wd : Int) : Nat := if getErr l.length wd = 0 then number (l.take wd.toNat) else 0
theorem or_low (a c : Nat) (ha : a < 72057594037927936) (hc : c < 256) : Go.bits BinOp.or IntKind.u64 ((a : Int) * 256) (c : Int) = ((a * 256 + c : Nat) : Int) := by
 have e : (a : Int) * 256 = ((a * 256 : Nat) : Int) := by omega
 rw [e, u64_or_nat _ _ (by omega) (by omega), show a * 256 = 2 ^ 8 * a by omega, Nat.two_pow_add_eq_or_of_lt (i := 8) hc a]
theorem get_c (B : Nat) (A : Option Addr) (ca : Nat) (l : List Nat) (wd : Int) (w : World) (hr : Rd w B A (byt l)) (hl : ∀ c ∈ l, c < 256) (_hlen : l.length ≤ 1000000000) (hw1 : -9223372036854775808 ≤ wd) (hw2 : wd ≤ 9223372036854775807) :
  Calls Tryz.prog 82 #[.slice A l.length ca, .int .i64 wd] w fun e w' => e = .returned (.tuple #[.int .u64 (getNum l wd : Nat), .int .i64 (getErr l.length wd)]) ∧ w = w' := by
 have HR := Li hr
 have HL := Li hl
 clear hr hl
 by_cases h1 : wd < 1 ∨ 8 < wd
 ·have he : getErr l.length wd = 1 := by simp [getErr, h1]
  have hg : getNum l wd = 0 := by simp [getNum, he]
  rw [he, hg]
  rcases h1 with h1 | h1
  ·generalize l.length = n at *
   go_enter Tryz.func82, Tryz.ntmps82
   go_wp2
   go_ret2
   exact ⟨rfl, rfl⟩
  ·have h2 : ¬ wd < 1 := by omega
   generalize l.length = n at *
   go_enter Tryz.func82, Tryz.ntmps82
   go_wp2
   go_ret2
   exact ⟨rfl, rfl⟩
 ·have h2 : 1 ≤ wd := by omega
  have h3 : wd ≤ 8 := by omega
  by_cases h4 : (l.length : Int) < wd
  ·have he : getErr l.length wd = 2 := by simp [getErr, h1, h4]
   have hg : getNum l wd = 0 := by simp [getNum, he]
   rw [he, hg]
   clear h1 he hg
   generalize l.length = n at *
   go_enter Tryz.func82, Tryz.ntmps82
   go_wp2
   go_ret2
   exact ⟨rfl, rfl⟩
  ·have he : getErr l.length wd = 0 := by simp [getErr, h1, h4]
   have hg := Li (show getNum l wd = number (l.take wd.toNat) by simp [getNum, he])
   rw [he]
   obtain ⟨d, rfl⟩ := Int.eq_ofNat_of_zero_le (show 0 ≤ wd by omega)
   rw [Int.toNat_natCast] at hg
   have hdl : d ≤ l.length := by omega
   have htl := Li (show (l.take d).length = d by rw [List.length_take]; omega)
   have HTL := Li (fun c (hc : c ∈ l.take d) => HL.out c (List.mem_of_mem_take hc))
   have h5 : (d : Int) ≤ (l.length : Int) := by omega
   clear he h1
   go_enter Tryz.func82, Tryz.ntmps82
   go_wp2
   go_loop [6, 7] (fun v i => ∃ k : Nat, k ≤ d ∧ i = .int .i64 ((k : Int) - 1) ∧ v = .int .u64 (number ((l.take d).drop k) : Nat)) (fun _ i => (intOf i + 1).toNat)
   case atStart => exact ⟨d, jD _, rfl, by have := htl.out; rw [List.drop_of_length_le (by omega)]; rfl⟩
   case round =>
    obtain ⟨k, hk, rfl, rfl⟩ := hrel
    cases k with
    | zero =>
     rw [show (((0 : Nat) : Int) - 1) = -1 from rfl]
     go_wp2
     go_ret2
     rw [hg.out]
     exact ⟨rfl, rfl⟩
    | succ j =>
     rw [show (((j + 1 : Nat) : Int) - 1) = (j : Int) from by omega]
     have hj : j < (l.take d).length := by have := htl.out; omega
     obtain ⟨ad, rfl, hb, hc⟩ := HR.out.byte (show j < l.length by omega)
     have hlt := getD_lt HL.out j
     have hgd : (l.take d).getD j 0 = l.getD j 0 := by
      rw [jA, jA, List.getElem?_take_of_lt (by omega)]
     have HST := Li (number_drop hj)
     rw [hgd] at HST
     have hnum : number ((l.take d).drop (j + 1)) < 256 ^ 7 := jH (number_lt _ (drop_lt HTL.out _)) (Nat.pow_le_pow_right (by decide) (by rw [List.length_drop]; have := htl.out; omega))
     have hnum2 : number ((l.take d).drop (j + 1)) < 72057594037927936 := hnum
     clear hj hnum hgd
     generalize number ((l.take d).drop (j + 1)) = v at *
     generalize l.getD j 0 = c at *
     have hor := or_low v c hnum2 hlt
     have HOR := Li hor
     clear hor
     go_wp2
     go_round
     case rel => exact ⟨j, by omega, rfl, by rw [HST.out, HOR.out]⟩
     case measure => simp [intOf]
def shortTo (n j : Nat) : List Nat := (List.range j).map fun i => n / 128 ^ i % 128 + 128
theorem shortTo_succ (n j : Nat) : shortTo n (j + 1) = shortTo n j ++ [n / 128 ^ j % 128 + 128] := by simp [shortTo, List.range_succ]
theorem shortTo_len (n j : Nat) : (shortTo n j).length = j := by simp [shortTo]
def ShortGives (l : List Nat) (n : Nat) (w : World) (e : Ending) (w' : World) : Prop :=
 ∃ j, (∀ i, i < j → 128 ≤ n / 128 ^ i) ∧ n / 128 ^ j < 128 ∧ Gives (l ++ shortTo n j ++ [n / 128 ^ j]) w e w'
theorem or128 (x : Nat) : Go.bits BinOp.or IntKind.u8 ((x : Int) % 256) 128 = ((x % 128 + 128 : Nat) : Int) := by
 have h : ∀ y, y < 256 → Go.bits BinOp.or IntKind.u8 ((y : Nat) : Int) 128 = ((y % 128 + 128 : Nat) : Int) := by decide +kernel
 have := h (x % 256) (Nat.mod_lt _ (by decide))
 rw [show ((x % 256 : Nat) : Int) = (x : Int) % 256 by omega, show x % 256 % 128 = x % 128 by omega] at this
 exact this
theorem div128_succ (n k : Nat) : n / 128 ^ k / 128 = n / 128 ^ (k + 1) := by rw [Nat.div_div_eq_div_mul, ← Nat.pow_succ]
theorem short_bound (n j : Nat) (hn : n < 2 ^ 64) (h : ∀ i, i < j → 128 ≤ n / 128 ^ i) : j ≤ 9 := by
 rcases Nat.lt_or_ge 9 j with hj | hj
 ·have h9 := h 9 hj
  have : n / 128 ^ 9 < 128 := by
   rw [Nat.div_lt_iff_lt_mul (by decide)]
   exact jH hn (by decide)
  omega
 ·exact hj
theorem putShort_c (B : Nat) (A : Option Addr) (ca : Nat) (l : List Nat) (n : Nat) (w : World) (hr : Rd w B A (byt l)) (hn : n < 2 ^ 64) (h1 : l.length ≤ 10000000) :
  Calls Tryz.prog 94 #[.slice A l.length ca, .int .u64 n] w (ShortGives l n w) := by
 obtain ⟨i0, hi, hz0, hz1, hz2⟩ := info_parts byteInfo
 have HR := Li hr
 clear hr
 go_enter Tryz.func94, Tryz.ntmps94
 go_wp2_with fail
 refine (clone_c B A ca l _ HR.out (by omega)).mono ?_
 rintro e w1 ⟨v, rfl, ho, hb⟩
 have HO := Li ho
 have HB := Li hb
 clear ho hb
 go_wp2
 go_loopw [1, 5] (fun N u wr => ∃ j : Nat, N = .int .u64 (n / 128 ^ j : Nat) ∧ (∀ i, i < j → 128 ≤ n / 128 ^ i) ∧ OwnB wr w.heap.size u (l ++ shortTo n j) ∧ Below w.heap.size w wr) (fun N _ _ => (intOf N).toNat)
 case atStart => exact ⟨0, by simp, by simp, by simpa [shortTo] using HO.out, HB.out⟩
 case round =>
  rename_i wr
  obtain ⟨j, rfl, hge, ho, hb⟩ := hrel
  have hj9 := short_bound n j hn hge
  have HG := Li hge
  have HO2 := Li ho
  have HB2 := Li hb
  have hnl : n / 128 ^ j < 2 ^ 64 := Nat.lt_of_le_of_lt (Nat.div_le_self _ _) hn
  have HF := Li (shortTo_succ n j)
  have HD := Li (div128_succ n j)
  have hor := or128 (n / 128 ^ j)
  have hlen : (l ++ shortTo n j).length ≤ 10000009 := by rw [jC, shortTo_len]; omega
  have HLen := Li hlen
  clear ho hb hge hlen
  generalize hq : n / 128 ^ j = q at *
  have HQ := Li hq
  clear hq
  by_cases hlt : 128 ≤ q
  ·have HLT := Li hlt
   go_wp2_with (at_builtin; refine wpList_app _ rfl (.tmp 12) (.tmp 16) _ rfl w.heap.size 5 i0 (.int .u8 0) 1 1 Tryz.underlying23 hi hz0 hz1 hz2 rfl (by decide) _ _ _ rfl (HO2.out.alloc _) _ _ 1 1 [.int .u8 (q % 128 + 128 : Nat)] rfl rfl (by exact rd_one _ _ _) (byt_one [q % 128 + 128]) (by have := HLen.out; omega) (by have := HLen.out; omega) (by have := HB2.out.size; simp; omega) ?_; intro v1 w2 hap)
   go_roundw
   case rel =>
    go_light
    refine ⟨j + 1, by rw [← HD.out]; go_num, fun i hi => ?_, ?_, (HB2.out.alloc HB2.out.size _).trans (hap.below (HO2.out.alloc _) (by have := HB2.out.size; simp; omega))⟩
    ·rcases Nat.lt_or_ge i j with h | h
     ·exact HG.out i h
     ·rw [show i = j by omega, HQ.out]; exact HLT.out
    ·rw [HF.out, ← List.append_assoc]
     exact OwnB.snoc hap
   case measure => simp [intOf]; omega
  ·go_wp2_with (at_builtin; refine wpList_app _ rfl (.tmp 18) (.tmp 21) _ rfl w.heap.size 5 i0 (.int .u8 0) 1 1 Tryz.underlying23 hi hz0 hz1 hz2 rfl (by decide) _ _ _ rfl (HO2.out.alloc _) _ _ 1 1 [.int .u8 (q : Nat)] rfl rfl (by exact rd_one _ _ _) (byt_one [q]) (by have := HLen.out; omega) (by have := HLen.out; omega) (by have := HB2.out.size; simp; omega) ?_; intro v1 w2 hap)
   go_ret
   refine ⟨j, HG.out, by rw [HQ.out]; omega, v1, rfl, ?_, (HB2.out.alloc HB2.out.size _).trans (hap.below (HO2.out.alloc _) (by have := HB2.out.size; simp; omega))⟩
   rw [HQ.out]
   exact OwnB.snoc hap
theorem sh_shortTo (n : Nat) : ∀ j, (∀ i, i < j → 128 ≤ n / 128 ^ i) → n / 128 ^ j < 128 → shortTo n j ++ [n / 128 ^ j] = sh n := by
 induction n using Nat.strongRecOn with
 | ind n ih =>
  intro j h1 h2
  cases j with
  | zero =>
   rw [sh, dif_pos (by simpa using h2)]
   simp [shortTo]
  | succ j =>
   have h0 : 128 ≤ n := by simpa using h1 0 (by omega)
   rw [sh, dif_neg (by omega)]
   have e := ih (n / 128) (by omega) j (fun i hi => by have := h1 (i + 1) (by omega); rwa [Nat.pow_succ, Nat.mul_comm, ← Nat.div_div_eq_div_mul] at this) (by rwa [Nat.pow_succ, Nat.mul_comm, ← Nat.div_div_eq_div_mul] at h2)
   rw [← e, Nat.pow_succ, Nat.mul_comm, ← Nat.div_div_eq_div_mul]
   unfold shortTo
   rw [List.range_succ_eq_map, List.map_cons, List.map_map]
   simp only [Nat.pow_zero, Nat.div_one, List.cons_append, List.cons.injEq, true_and]
   congr 1
   apply List.map_congr_left
   intro i _
   simp only [Function.comp, Nat.succ_eq_add_one]
   rw [Nat.pow_succ, Nat.mul_comm, ← Nat.div_div_eq_div_mul]
theorem putSh_c (B : Nat) (A : Option Addr) (ca : Nat) (l : List Nat) (n : Nat) (w : World) (hr : Rd w B A (byt l)) (hn : n < 2 ^ 64) (h1 : l.length ≤ 10000000) :
  Calls Tryz.prog 94 #[.slice A l.length ca, .int .u64 n] w (Gives (l ++ sh n) w) := by
 refine (putShort_c B A ca l n w hr hn h1).mono ?_
 rintro e w' ⟨j, h2, h3, hg⟩
 rw [List.append_assoc, sh_shortTo n j h2 h3] at hg
 exact hg
theorem wrapU (x : Int) : IntKind.u64.wrap x = x % 18446744073709551616 := by simp [IntKind.wrap, IntKind.signed, IntKind.bits]
theorem xor_ones (a : Nat) (ha : a < 18446744073709551616) : a ^^^ 18446744073709551615 = 18446744073709551615 - a := by
 have h := BitVec.xor_allOnes (x := BitVec.ofNat 64 a)
 have h2 := congrArg BitVec.toNat h
 rw [BitVec.toNat_xor, BitVec.toNat_not, BitVec.toNat_ofNat, BitVec.toNat_allOnes, Nat.mod_eq_of_lt (by simpa using ha)] at h2
 simpa using h2
theorem zig_pos (n : Int) (h0 : 0 ≤ n) (h1 : n ≤ 9223372036854775807) : bits BinOp.xor IntKind.u64 (n * 2) (n / 9223372036854775808) = (zig n : Nat) := by
 rw [u64_xor _ _ (by omega) (by omega) (by omega) (by omega), show (n / 9223372036854775808).toNat = 0 by omega, Nat.xor_zero]
 unfold zig
 rw [if_pos h0]
 congr 2
 omega
theorem zig_neg (n : Int) (h0 : n < 0) (h1 : -9223372036854775808 ≤ n) : bits BinOp.xor IntKind.u64 (IntKind.u64.wrap (IntKind.u64.wrap n * 2)) (IntKind.u64.wrap (n / 9223372036854775808)) = (zig n : Nat) := by
 have e1 : IntKind.u64.wrap (IntKind.u64.wrap n * 2) = n * 2 + 18446744073709551616 := by
  rw [wrapU, wrapU]
  omega
 have e2 : IntKind.u64.wrap (n / 9223372036854775808) = 18446744073709551615 := by
  rw [show n / 9223372036854775808 = -1 by omega]
  rfl
 rw [e1, e2, u64_xor _ _ (by omega) (by omega) (by omega) (by omega), show (18446744073709551615 : Int).toNat = 18446744073709551615 from rfl, xor_ones _ (by omega)]
 unfold zig
 rw [if_neg (by omega)]
 congr 1
 omega
theorem zag_even (n : Nat) (h : n % 2 = 0) (h1 : n < 18446744073709551616) : bits BinOp.xor IntKind.i64 ((n : Int) / 2) (wrap64 (-wrap64 (bits BinOp.and IntKind.u64 (n : Int) 1))) = zag n := by
 have e : bits BinOp.and IntKind.u64 (n : Int) 1 = 0 := by
  have h2 := u64_and_nat n 1 h1 (by decide)
  rw [show ((1 : Nat) : Int) = 1 from rfl] at h2
  rw [h2, Nat.and_one_is_mod, h]
  rfl
 rw [e]
 unfold zag
 rw [if_pos h]
 rw [show wrap64 (-wrap64 0) = 0 by simp [wrap64]]
 obtain ⟨m, hm⟩ : ∃ m : Nat, m = n / 2 := ⟨_, rfl⟩
 rw [show (n : Int) / 2 = (m : Int) by omega, ← hm]
 show IntKind.i64.wrap ((BitVec.ofInt 64 (m : Int) ^^^ BitVec.ofInt 64 0).toNat : Nat) = _
 rw [show BitVec.ofInt 64 0 = 0#64 from rfl, BitVec.xor_zero, BitVec.toNat_ofInt, IntKind.wrap_i64]
 omega
theorem zag_odd (n : Nat) (h : n % 2 = 1) (h1 : n < 18446744073709551616) : bits BinOp.xor IntKind.i64 ((n : Int) / 2) (wrap64 (-wrap64 (bits BinOp.and IntKind.u64 (n : Int) 1))) = zag n := by
 have e : bits BinOp.and IntKind.u64 (n : Int) 1 = 1 := by
  have h2 := u64_and_nat n 1 h1 (by decide)
  rw [show ((1 : Nat) : Int) = 1 from rfl] at h2
  rw [h2, Nat.and_one_is_mod, h]
  rfl
 rw [e]
 unfold zag
 rw [if_neg (by omega)]
 rw [show wrap64 (-wrap64 1) = -1 by simp [wrap64]]
 obtain ⟨m, hm⟩ : ∃ m : Nat, m = n / 2 := ⟨_, rfl⟩
 rw [show (n : Int) / 2 = (m : Int) by omega, ← hm]
 show IntKind.i64.wrap ((BitVec.ofInt 64 (m : Int) ^^^ BitVec.ofInt 64 (-1)).toNat : Nat) = _
 rw [show BitVec.ofInt 64 (-1) = BitVec.allOnes 64 from rfl, BitVec.xor_allOnes, BitVec.toNat_not, BitVec.toNat_ofInt, IntKind.wrap_i64]
 omega
theorem rzig_neg (n : Int) (h0 : n < 0) (h1 : -9223372036854775808 ≤ n) : IntKind.u64.wrap (IntKind.u64.wrap (IntKind.u64.wrap (-IntKind.u64.wrap n) * 2) - 1) = (zig n : Nat) := by
 unfold zig
 rw [if_neg (by omega)]
 rw [wrapU, wrapU, wrapU, wrapU]
 omega
theorem zig_c (n : Int) (w : World) (h0 : -9223372036854775808 ≤ n) (h1 : n ≤ 9223372036854775807) :
  Calls Tryz.prog 115 #[.int .i64 n] w fun e w' => e = .returned (.int .u64 (zig n : Nat)) ∧ w = w' := by
 rcases (show 0 ≤ n ∨ n < 0 by omega) with hn | hn
 ·go_enter Tryz.func115, Tryz.ntmps115
  go_wp2
  go_ret
  exact ⟨by rw [← zig_pos n hn h1]; rfl, rfl⟩
 ·go_enter Tryz.func115, Tryz.ntmps115
  go_wp2
  go_ret
  exact ⟨by rw [← zig_neg n hn h0]; rfl, rfl⟩
theorem zag_c (n : Nat) (w : World) (h1 : n < 18446744073709551616) :
  Calls Tryz.prog 103 #[.int .u64 n] w fun e w' => e = .returned (.int .i64 (zag n)) ∧ w = w' := by
 go_enter Tryz.func103, Tryz.ntmps103
 go_wp2
 go_ret
 rcases (show n % 2 = 0 ∨ n % 2 = 1 by omega) with h | h
 ·exact ⟨by rw [← zag_even n h h1]; rfl, rfl⟩
 ·exact ⟨by rw [← zag_odd n h h1]; rfl, rfl⟩
theorem rzig_c (n : Int) (w : World) (h0 : -9223372036854775808 ≤ n) (h1 : n ≤ 9223372036854775807) :
  Calls Tryz.prog 80 #[.int .i64 n] w fun e w' => e = .returned (.int .u64 (zig n : Nat)) ∧ w = w' := by
 rcases (show 0 ≤ n ∨ n < 0 by omega) with hn | hn
 ·go_enter Tryz.func80, Tryz.ntmps80
  go_wp2
  go_ret
  exact ⟨by rw [show ((zig n : Nat) : Int) = n * 2 by unfold zig; rw [if_pos hn]; omega]; rfl, rfl⟩
 ·go_enter Tryz.func80, Tryz.ntmps80
  go_wp2
  go_ret
  exact ⟨by rw [← rzig_neg n hn h0]; rfl, rfl⟩
theorem rshort_c (n : Nat) (w : World) (hn : n < 2 ^ 64) :
  Calls Tryz.prog 79 #[.int .u64 n] w (Gives (sh n) w) := by
 obtain ⟨i0, hi, hz0, hz1, hz2⟩ := info_parts byteInfo
 have HSS := Li (sh_shortTo n)
 go_enter Tryz.func79, Tryz.ntmps79
 go_wp2
 go_loopw [0, 3] (fun N u wr => ∃ j : Nat, N = .int .u64 (n / 128 ^ j : Nat) ∧ (∀ i, i < j → 128 ≤ n / 128 ^ i) ∧ OwnB wr w.heap.size u (shortTo n j) ∧ Below w.heap.size w wr) (fun N _ _ => (intOf N).toNat)
 case atStart => exact ⟨0, by simp, by simp, by simpa [shortTo] using OwnB.nil_ _ _, jE _ _⟩
 case round =>
  rename_i wr
  obtain ⟨j, rfl, hge, ho, hb⟩ := hrel
  have hj9 := short_bound n j hn hge
  have HG := Li hge
  have HO2 := Li ho
  have HB2 := Li hb
  have hnl : n / 128 ^ j < 2 ^ 64 := Nat.lt_of_le_of_lt (Nat.div_le_self _ _) hn
  have HF := Li (shortTo_succ n j)
  have HD := Li (div128_succ n j)
  have hlen : (shortTo n j).length ≤ 100 := by rw [shortTo_len]; omega
  have HLen := Li hlen
  clear ho hb hge hlen
  generalize hq : n / 128 ^ j = q at *
  have HQ := Li hq
  clear hq
  by_cases hlt : 128 ≤ q
  ·have HLT := Li hlt
   obtain ⟨x, hx⟩ : ∃ x, x = q % 128 := ⟨_, rfl⟩
   have t1 : (q : Int) % 128 = (x : Int) := by omega
   have t2 : (q : Int).tmod 128 = (x : Int) := by rw [Int.tmod_eq_emod_of_nonneg (by omega)]; omega
   have t3 : (x : Int) % 256 = (x : Int) := by omega
   have t4 : IntKind.u8.wrap (x : Int) = (x : Int) := by rw [IntKind.wrap_u8']; omega
   have t5 : IntKind.u8.wrap ((x : Int) + 128) = ((x + 128 : Nat) : Int) := by rw [IntKind.wrap_u8']; omega
   have HX := Li hx
   have hx1 : x < 128 := by omega
   clear hx
   go_wp2_with (at_builtin; go_loud (refine wpList_app _ rfl (.tmp 6) (.tmp 11) _ rfl w.heap.size 5 i0 (.int .u8 0) 1 1 Tryz.underlying23 hi hz0 hz1 hz2 rfl (by decide) _ _ _ rfl (HO2.out.alloc _) _ _ 1 1 [.int .u8 (x + 128 : Nat)] rfl rfl (by exact rd_one _ _ _) (byt_one [x + 128]) (by have := HLen.out; omega) (by have := HLen.out; omega) (by have := HB2.out.size; simp; omega) ?_; intro v1 w2 hap))
   go_roundw
   case rel =>
    go_light
    refine ⟨j + 1, by rw [← HD.out]; go_num, fun i hi => ?_, ?_, (HB2.out.alloc HB2.out.size _).trans (hap.below (HO2.out.alloc _) (by have := HB2.out.size; simp; omega))⟩
    ·rcases Nat.lt_or_ge i j with h | h
     ·exact HG.out i h
     ·rw [show i = j by omega, HQ.out]; exact HLT.out
    ·rw [HF.out, ← HX.out]
     exact OwnB.snoc hap
   case measure => simp [intOf]; omega
  ·have HSE := Li (show shortTo n j ++ [q] = sh n from HQ.out ▸ HSS.out j HG.out (by rw [HQ.out]; omega))
   have t3 : (q : Int) % 256 = (q : Int) := by omega
   go_wp2_with (at_builtin; go_loud (refine wpList_app _ rfl (.tmp 15) (.tmp 18) _ rfl w.heap.size 5 i0 (.int .u8 0) 1 1 Tryz.underlying23 hi hz0 hz1 hz2 rfl (by decide) _ _ _ rfl (HO2.out.alloc _) _ _ 1 1 [.int .u8 (q : Nat)] rfl rfl (by exact rd_one _ _ _) (byt_one [q]) (by have := HLen.out; omega) (by have := HLen.out; omega) (by have := HB2.out.size; simp; omega) ?_; intro v1 w2 hap))
   refine bodyPost_ret (results_tmp rfl _ _ _) rfl ?_
   exact ⟨v1, rfl, by rw [← HSE.out]; exact OwnB.snoc hap, (HB2.out.alloc HB2.out.size _).trans (hap.below (HO2.out.alloc _) (by have := HB2.out.size; simp; omega))⟩
theorem rd_cellP {w : World} {B : Nat} {ad : Addr} {l : List Nat} (h : Rd w B (some ad) (byt l)) (i : Nat) (hi : i < l.length) : w.cell? (ad.add i) = some (.int .u8 (l.getD i 0 : Nat)) := by
 obtain ⟨a1, e1, _, hc⟩ := h.byte hi
 injection e1 with e1
 subst e1
 exact hc
theorem getShort_c (B : Nat) (A : Option Addr) (ca : Nat) (l : List Nat) (w : World) (hr : Rd w B A (byt l)) (hl : ∀ c ∈ l, c < 256) (h1 : l.length ≤ 10000000) :
  Calls Tryz.prog 101 #[.slice A l.length ca] w fun e w' => e = .returned (.tuple #[.int .u64 ((gsF 0 0 l).1 : Nat), .int .i64 ((gsF 0 0 l).2.1 : Nat), .int .i64 ((gsF 0 0 l).2.2 : Nat)]) ∧ w = w' := by
 have HR := Li hr
 have HL := Li hl
 obtain ⟨R, hR⟩ : ∃ R, R = gsF 0 0 l := ⟨_, rfl⟩
 rw [← hR]
 have HRR := Li hR
 clear hr hl hR
 go_enter Tryz.func101, Tryz.ntmps101
 go_wp2
 go_loop [2, 9] (fun n i => ∃ k acc : Nat, k ≤ l.length ∧ k ≤ 9 ∧ i = .int .i64 k ∧ n = .int .u64 (acc : Nat) ∧ acc < 128 ^ k ∧ R = gsF k acc (l.drop k)) (fun _ i => l.length - (intOf i).toNat)
 case atStart => exact ⟨0, 0, Nat.zero_le _, by omega, rfl, rfl, by decide, HRR.out⟩
 case round =>
  obtain ⟨k, acc, hk, hk9, rfl, rfl, hacc, hg⟩ := hrel
  have HG := Li hg
  have HA := Li hacc
  clear hg hacc
  by_cases hlt : k < l.length
  ·have p1 : (k : Int) < (l.length : Int) := by omega
   have hrr := HR.out
   obtain ⟨ad, rfl, _, _⟩ := hrr.byte (k := k) hlt
   have e0 := rd_cellP HR.out k hlt
   have hc := getD_lt HL.out k
   have HGD := Li (show R = gsF k acc (l.getD k 0 :: l.drop (k + 1)) by
    rw [HG.out, List.drop_eq_getElem_cons hlt]
    simp [jA, hlt])
   clear hrr
   generalize l.getD k 0 = c at *
   obtain ⟨x, hx⟩ : ∃ x, x = c % 128 := ⟨_, rfl⟩
   have hx1 : x < 128 := by omega
   obtain ⟨y, hy⟩ : ∃ y, y = x * 128 ^ k := ⟨_, rfl⟩
   by_cases h9 : k = 9 ∧ 1 < c
   ·have t9 : ((k : Int) == 9) = true := by rw [beq_iff_eq]; omega
    have tc : decide ((1 : Int) < (c : Int)) = true := jF (by omega)
    have HRV := Li (show R = (0, 0, 4) by rw [HGD.out, gsF, if_pos h9])
    clear h9 hy hx
    go_wp2
    refine bodyPost_ret (results_tmp3 rfl _ _ _) rfl ?_
    exact ⟨by rw [HRV.out]; rfl, rfl⟩
   ·have hyb : y < 18446744073709551616 := by
     rcases Nat.lt_or_ge k 9 with h | h
     ·have h2 : x * 128 ^ k ≤ 127 * 128 ^ 8 := Nat.mul_le_mul (by omega) (Nat.pow_le_pow_right (by decide) (by omega))
      omega
     ·have e : k = 9 := by omega
      have hc1 : x ≤ 1 := by
       rcases Nat.lt_or_ge 1 c with h1 | h1
       ·exact absurd ⟨e, h1⟩ h9
       ·omega
      have h2 : x * 128 ^ k ≤ 1 * 128 ^ 9 := by rw [e]; exact Nat.mul_le_mul_right _ hc1
      omega
    have hor : acc ||| y = acc + y := by
     have h2 : (128 : Nat) ^ k = 2 ^ (7 * k) := by rw [Nat.pow_mul]
     have h3 := Nat.two_pow_add_eq_or_of_lt (i := 7 * k) (b := acc) (by rw [← h2]; exact HA.out) x
     rw [← h2] at h3
     rw [hy, Nat.or_comm, Nat.mul_comm x, ← h3, Nat.add_comm]
    have hab : acc < 18446744073709551616 := jH HA.out (Nat.le_trans (Nat.pow_le_pow_right (by decide) hk9) (by decide))
    have f1 : bits BinOp.and IntKind.u8 (c : Int) 127 = (x : Int) := by
     have h2 := u8_and_nat c 127 hc (by decide)
     rw [show ((127 : Nat) : Int) = 127 from rfl] at h2
     rw [h2, hx, show 127 = 2 ^ 7 - 1 from rfl, Nat.and_two_pow_sub_one_eq_mod]
    have f2 : IntKind.u64.wrap (x : Int) = (x : Int) := by rw [IntKind.wrap_u64]; omega
    have f3 : IntKind.u64.wrap ((x : Int) * 2 ^ (7 * k)) = (y : Int) := by
     rw [show (x : Int) * 2 ^ (7 * k) = (y : Int) by rw [hy, Int.natCast_mul, Int.natCast_pow, Int.pow_mul]; rfl, IntKind.wrap_u64]
     omega
    have f4 : bits BinOp.or IntKind.u64 (acc : Int) (y : Int) = ((acc + y : Nat) : Int) := by rw [u64_or_nat _ _ hab hyb, hor]
    have t9 : (((k : Int) == 9) && decide ((1 : Int) < (c : Int))) = false := by
     rw [Bool.and_eq_false_iff, beq_eq_false_iff_ne, decide_eq_false_iff_not]
     by_cases h : k = 9
     ·exact .inr (fun h1 => h9 ⟨h, by omega⟩)
     ·exact .inl (by omega)
    have HGE := Li (show R = if 128 ≤ c then gsF (k + 1) (acc + y) (l.drop (k + 1)) else if c = 0 ∧ 0 < k then (0, 0, 4) else (acc + y, k + 1, 0) by rw [HGD.out, gsF, if_neg h9, hy, hx])
    have HAN := Li (show acc + y < 128 ^ (k + 1) by
     have h2 : (x + 1) * 128 ^ k ≤ 128 * 128 ^ k := Nat.mul_le_mul_right _ hx1
     rw [Nat.add_mul, Nat.one_mul, ← hy] at h2
     rw [Nat.pow_succ, Nat.mul_comm (128 ^ k)]
     have := HA.out
     omega)
    have HX9 := Li h9
    clear hor hyb hab hy hx HGD h9
    rcases (show k = 9 ∨ k ≠ 9 by omega) with hk9' | hk9'
    ·have u9 : ((k : Int) == 9) = true := by rw [beq_iff_eq]; omega
     have hc1 : ¬ 1 < c := fun h => HX9.out ⟨hk9', h⟩
     have uc : decide ((1 : Int) < (c : Int)) = false := jG (by omega)
     have u128 : decide ((128 : Int) ≤ (c : Int)) = false := jG (by omega)
     have uk : decide (0 < k) = true := jF (by omega)
     by_cases hc0 : c = 0
     ·have HRV := Li (show R = (0, 0, 4) by rw [HGE.out, if_neg (by omega), if_pos ⟨hc0, by omega⟩])
      have u0 : ((c : Int) == 0) = true := by rw [beq_iff_eq]; omega
      clear hc0 hc1 hk9' t9
      go_wp2
      refine bodyPost_ret (results_tmp3 rfl _ _ _) rfl ?_
      exact ⟨by rw [HRV.out]; rfl, rfl⟩
     ·have HRV := Li (show R = (acc + y, k + 1, 0) by rw [HGE.out, if_neg (by omega), if_neg (by omega)])
      have u0 : ((c : Int) == 0) = false := by rw [beq_eq_false_iff_ne]; omega
      clear hc0 hc1 hk9' t9
      go_wp2
      refine bodyPost_ret (results_tmp3 rfl _ _ _) rfl ?_
      exact ⟨by rw [HRV.out]; rfl, rfl⟩
    ·have u9 : ((k : Int) == 9) = false := by rw [beq_eq_false_iff_ne]; omega
     by_cases h128 : 128 ≤ c
     ·have u128 : decide ((128 : Int) ≤ (c : Int)) = true := jF (by omega)
      have HRV := Li (show R = gsF (k + 1) (acc + y) (l.drop (k + 1)) by rw [HGE.out, if_pos h128])
      clear h128 t9
      have hk8 : k + 1 ≤ 9 := by omega
      clear hk9'
      go_wp2
      go_round
      case rel => exact ⟨k + 1, acc + y, by omega, hk8, by go_num, rfl, HAN.out, HRV.out⟩
      case measure => simp [intOf]; omega
     ·have u128 : decide ((128 : Int) ≤ (c : Int)) = false := jG (by omega)
      by_cases hc0 : c = 0
      ·have u0 : ((c : Int) == 0) = true := by rw [beq_iff_eq]; omega
       by_cases hk0 : 0 < k
       ·have uk : decide (0 < k) = true := jF hk0
        have HRV := Li (show R = (0, 0, 4) by rw [HGE.out, if_neg h128, if_pos ⟨hc0, hk0⟩])
        clear hc0 hk0 h128 hk9' t9
        go_wp2
        refine bodyPost_ret (results_tmp3 rfl _ _ _) rfl ?_
        exact ⟨by rw [HRV.out]; rfl, rfl⟩
       ·have uk : decide (0 < k) = false := jG hk0
        have HRV := Li (show R = (acc + y, k + 1, 0) by rw [HGE.out, if_neg h128, if_neg (fun h => hk0 h.2)])
        clear hc0 hk0 h128 hk9' t9
        go_wp2
        refine bodyPost_ret (results_tmp3 rfl _ _ _) rfl ?_
        exact ⟨by rw [HRV.out]; rfl, rfl⟩
      ·have u0 : ((c : Int) == 0) = false := by rw [beq_eq_false_iff_ne]; omega
       have HRV := Li (show R = (acc + y, k + 1, 0) by rw [HGE.out, if_neg h128, if_neg (fun h => hc0 h.1)])
       clear hc0 h128 hk9' t9
       go_wp2
       refine bodyPost_ret (results_tmp3 rfl _ _ _) rfl ?_
       exact ⟨by rw [HRV.out]; rfl, rfl⟩
  ·obtain rfl : k = l.length := by omega
   have HRV := Li (show R = (0, 0, 2) by rw [HG.out, List.drop_length]; rfl)
   go_wp2
   refine bodyPost_ret (results_tmp3 rfl _ _ _) rfl ?_
   exact ⟨by rw [HRV.out]; rfl, rfl⟩
end Go.Proofs.YtfnhmnbcponkfaaGreatDoor
