/- Contract: the room. -/
import Derived.Test.YtlidfmbmlhaacaaDf6
namespace Go.Proofs.Ytlidfmbmlhaacaa
open Go.RowKit
set_option linter.unusedVariables false
set_option linter.unusedSimpArgs false
theorem groups0_c (A : Option Addr) (c : Nat) (w : World) : Calls Try.prog 33 #[.slice A 0 c] w fun e w' => e = .returned (.slice none 0 0) ∧ Below w.heap.size w w' := by
  have HB := Lib.hid (show Below w.heap.size w (w.alloc (.cells #[.slice A 0 c] 22)) from (Below.refl _ _).alloc (Nat.le_refl _) _)
  go_enter Try.func33, Try.ntmps33
  go_wp2_with fail
  go_loopw [3] (fun o wr => o = .slice none 0 0 ∧ wr = w.alloc (.cells #[.slice A 0 c] 22)) (fun _ wr => 0)
  case atStart => exact ⟨rfl, rfl⟩
  case round =>
    rename World => wr
    obtain ⟨rfl, rfl⟩ := hrel
    go_wp2_with fail
    refine bodyPost_ret (results_tmp rfl _ _ _) rfl ?_
    exact ⟨rfl, HB.out⟩
theorem gls_pos : ∀ l : List Pc, ∀ m ∈ gls l, 0 < m := grps_ind (by rw [gls_nil]; intro m h; cases h) fun p l ih m h => by
  rw [gls_cons] at h
  rcases List.mem_cons.1 h with rfl | h
  · omega
  · exact ih m h
theorem sum_take_succ : ∀ (ms : List Nat) (k : Nat), k < ms.length → (ms.take (k + 1)).sum = (ms.take k).sum + ms.getD k 0
  | [], k, h => by simp at h
  | m :: ms, 0, h => by simp
  | m :: ms, k + 1, h => by
    rw [List.take_succ_cons, List.sum_cons, sum_take_succ ms k (by simpa using h), List.take_succ_cons, List.sum_cons, List.getD_cons_succ, Nat.add_assoc]
theorem sum_take_le : ∀ (ms : List Nat) (k : Nat), (ms.take k).sum ≤ ms.sum
  | [], k => by simp
  | m :: ms, 0 => by simp
  | m :: ms, k + 1 => by
    rw [List.take_succ_cons, List.sum_cons, List.sum_cons]
    have := sum_take_le ms k
    omega
/-- where a group begins -/
def offG (l : List Pc) (k : Nat) : Nat := ((gls l).take k).sum
def lenG (l : List Pc) (k : Nat) : Nat := (gls l).getD k 0
theorem offG_succ (l : List Pc) (k : Nat) (h : k < (gls l).length) : offG l (k + 1) = offG l k + lenG l k := sum_take_succ _ _ h
theorem offG_le (l : List Pc) (k : Nat) : offG l k ≤ l.length := by rw [← gls_sum l]; exact sum_take_le _ _
theorem lenG_pos (l : List Pc) (k : Nat) (h : k < (gls l).length) : 0 < lenG l k := gls_pos l _ (by
  unfold lenG
  rw [List.getD_eq_getElem?_getD, List.getElem?_eq_getElem h]
  exact List.getElem_mem h)
theorem offG_lt (l : List Pc) (k : Nat) (h : k < (gls l).length) : offG l k + lenG l k ≤ l.length := by rw [← offG_succ l k h]; exact offG_le _ _
theorem grpG (l : List Pc) (k : Nat) (h : k < (gls l).length) : (grps l).getD k [] = (l.drop (offG l k)).take (lenG l k) := by
  have := grps_at l (gls l) k 0 h
  rw [List.drop_zero, Nat.zero_add] at this
  exact this
theorem roomG_cons (a : List Pc) (gs : List (List Pc)) : roomG (a :: gs) = roomG [a] + roomG gs := by cases a <;> simp [roomG]
theorem roomG_snoc (gs : List (List Pc)) (g : List Pc) : roomG (gs ++ [g]) = roomG gs + roomG [g] := by
  induction gs with
  | nil => simp [roomG]
  | cons a gs ih => rw [List.cons_append, roomG_cons, ih, roomG_cons a gs, Nat.add_assoc]
theorem take_snoc_ {α : Type} (d : α) (l : List α) (k : Nat) (h : k < l.length) : l.take (k + 1) = l.take k ++ [l.getD k d] := by
  rw [List.take_succ_eq_append_getElem h]
  simp [List.getD_eq_getElem?_getD, h]
theorem room_step (l : List Pc) (k : Nat) (h : k < (gls l).length) : roomG ((grps l).take (k + 1)) = roomG ((grps l).take k) + (6 + (l.getD (offG l k) pc0).s.size) := by
  rw [take_snoc_ [] _ k (by rw [grps_len]; exact h), roomG_snoc, grpG l k h]
  have h1 := lenG_pos l k h
  have h2 := offG_lt l k h
  rw [List.drop_eq_getElem_cons (by omega), show lenG l k = (lenG l k - 1) + 1 by omega, List.take_succ_cons]
  simp [roomG, List.getD_eq_getElem?_getD, show offG l k < l.length by omega]
theorem gv_rd {W : World} {base : Nat} {v : Value} {xs : List Value} (h : OwnG W base v xs) : ∃ A cap, v = .slice A xs.length cap ∧ xs.length ≤ cap ∧ cap ≤ maxLen ∧ Rd W W.heap.size A xs := own_rd h
theorem rdG_cell {W : World} {B : Nat} {a : Addr} {xs : List Value} {u : Value} (h : Rd W B (some a) xs) (k : Nat) (hk : xs[k]? = some u) : W.cell? (a.add k) = some u := by
  obtain ⟨ad, e, _, hc⟩ := h (by intro h0; rw [h0] at hk; simp at hk)
  injection e with e
  subst e
  exact hc k u hk
set_option maxRecDepth 100000 in
set_option maxHeartbeats 2000000 in
theorem room_c (A : Option Addr) (c : Nat) (l : List Pc) (w : World) (hr : RdP w w.heap.size A l) (hc : l.length ≤ c) (h1 : l.length ≤ 100000) (hs : ∀ p ∈ l, p.s.size ≤ 1000000) :
    Calls Try.prog 13 #[.slice A l.length c] w fun e w' => e = .returned (.int .i64 (roomL l : Nat)) ∧ Below w.heap.size w w' := by
  have f1 : IntKind.i64.wrap (32 * (l.length : Int)) = 32 * (l.length : Int) := IntWalk.i64_in _ (by omega)
  have f2 : IntKind.i64.wrap (4 + 32 * (l.length : Int)) = 4 + 32 * (l.length : Int) := IntWalk.i64_in _ (by omega)
  rcases Nat.eq_zero_or_pos l.length with h0 | h0
  · obtain rfl : l = [] := List.eq_nil_of_length_eq_zero h0
    have HE := Lib.hid (show roomL [] = 4 by unfold roomL; rw [grps_nil]; rfl)
    rw [HE.out]
    clear f1 f2
    show Calls _ _ #[.slice A 0 c] _ _
    go_enter Try.func13, Try.ntmps13
    go_wp2_with (go_at_call 33; (refine (groups0_c A c w).mono ?_); rintro e W1 ⟨rfl, hb⟩; have HB := Lib.hid hb; clear hb)
    go_loopw [3, 13] (fun n i wr => n = .int .i64 4 ∧ i = .int .i64 0 ∧ wr = W1) (fun _ i _ => 0)
    case atStart => exact ⟨rfl, rfl, rfl⟩
    case round =>
      rename World => wr
      obtain ⟨rfl, rfl, rfl⟩ := hrel
      go_wp2_with fail
      go_ret
      exact ⟨rfl, HB.out⟩
  · obtain ⟨ad, rfl, hab, hat⟩ := hr.open_ h0
    have HAT := Lib.hid hat
    have HAB := Lib.hid hab
    have HGC := Lib.hid (groups_c ad c l w hat hab hc h0 h1)
    have HSZ := Lib.hid (show ∀ k, (l.getD k pc0).s.size ≤ 1000000 from fun k => by
      rcases Nat.lt_or_ge k l.length with h | h
      · exact hs _ (by simp [List.getD_eq_getElem?_getD, h])
      · rw [List.getD_eq_getElem?_getD, List.getElem?_eq_none h]; decide)
    have hgn : (gls l).length ≤ l.length := by
      have hgn : ∀ l : List Pc, (gls l).length ≤ l.length := grps_ind (by rw [gls_nil]; exact Nat.le_refl _) fun p l ih => by
        rw [gls_cons, List.length_cons, List.length_cons]
        rw [List.length_drop] at ih
        omega
      exact hgn l
    have HGV := Lib.hid (gv_len ad c 0 (gls l))
    have HGA := Lib.hid (fun k (h : k < (gls l).length) => gv_at ad c 0 (gls l) k h)
    have HST := Lib.hid (fun k (h : k < (gls l).length) => room_step l k h)
    have HLP := Lib.hid (fun k (h : k < (gls l).length) => lenG_pos l k h)
    have HOL := Lib.hid (fun k (h : k < (gls l).length) => offG_lt l k h)
    have HFIN := Lib.hid (show roomL l = 4 + 32 * l.length + roomG ((grps l).take (gls l).length) by unfold roomL; rw [← grps_len, List.take_length])
    have hbd : ∀ k, k ≤ (gls l).length → roomG ((grps l).take k) ≤ k * 1000100 := by
      intro k
      induction k with
      | zero => intro _; simp [roomG]
      | succ k ih =>
        intro hk
        have h2 := ih (by omega)
        have h3 := HSZ.out (offG l k)
        rw [room_step l k hk]
        omega
    have HBD := Lib.hid hbd
    clear hr hs hbd hat hab
    obtain ⟨r, hr⟩ : ∃ r, r = roomL l := ⟨_, rfl⟩
    rw [← hr]
    have HRR := Lib.hid hr
    clear hr
    go_enter Try.func13, Try.ntmps13
    go_wp2_with (go_at_call 33; (refine HGC.out.mono ?_); rintro e W1 ⟨v, rfl, ho, hb⟩; obtain ⟨A2, c2, rfl, _, _, r2⟩ := gv_rd ho; have HB := Lib.hid hb; have HR2 := Lib.hid r2; rw [HGV.out]; clear ho hb r2)
    have HATW := Lib.hid (HAT.out.below HB.out HAB.out)
    go_loop [3, 13] (fun n i => ∃ k : Nat, k ≤ (gls l).length ∧ i = .int .i64 k ∧ n = .int .i64 (4 + 32 * (l.length : Int) + (roomG ((grps l).take k) : Nat))) (fun _ i => (gls l).length - (intOf i).toNat)
    case atStart => exact ⟨0, Nat.zero_le _, rfl, by simp [roomG]⟩
    case round =>
      obtain ⟨k, hk, rfl, rfl⟩ := hrel
      by_cases hlt : k < (gls l).length
      · have p1 : (k : Int) < ((gls l).length : Int) := by omega
        have hga := HGA.out k hlt
        rw [Nat.zero_add] at hga
        have hrr := HR2.out
        obtain ⟨a2, rfl, _, _⟩ := hrr (by intro h; rw [h] at hga; simp at hga)
        have e0r := rdG_cell HR2.out k hga
        have hol := HOL.out k hlt
        have hlp := HLP.out k hlt
        have e1 := (HATW.out.piece (offG l k) (by omega)).ser
        have HSK := Lib.hid (HST.out k hlt)
        have hz := HSZ.out (offG l k)
        have hb0 := HBD.out k hk
        have e0 : W1.cell? (a2.add k) = some (.slice (some (ad.add (offG l k * 5))) (lenG l k) (c - offG l k)) := e0r
        clear hga e0r
        generalize l.getD (offG l k) pc0 = p at *
        generalize ad.add (offG l k * 5) = a' at *
        generalize lenG l k = m at *
        generalize c - offG l k = cc at *
        have p2 : (0 : Int) < (m : Int) := by omega
        generalize hq : roomG ((grps l).take k) = q at *
        have g1 : IntKind.i64.wrap (6 + (p.s.size : Int)) = 6 + (p.s.size : Int) := IntWalk.i64_in _ (by omega)
        have g2 : IntKind.i64.wrap (4 + 32 * (l.length : Int) + (q : Int) + (6 + (p.s.size : Int))) = 4 + 32 * (l.length : Int) + (q : Int) + (6 + (p.s.size : Int)) := IntWalk.i64_in _ (by omega)
        clear hq hol
        go_wp2_with fail
        go_round
        case rel => exact ⟨k + 1, by omega, by go_num, by rw [HSK.out]; go_num⟩
        case measure => simp [intOf]; omega
      · obtain rfl : k = (gls l).length := by omega
        have HEQ := Lib.hid (show (4 + 32 * (l.length : Int) + (roomG ((grps l).take (gls l).length) : Nat)) = ((r : Nat) : Int) by rw [HRR.out, HFIN.out]; omega)
        go_wp2_with fail
        go_ret
        exact ⟨by rw [← HEQ.out]; rfl, HB.out⟩
end Go.Proofs.Ytlidfmbmlhaacaa
