/- Parts, one behind the other: Df6 Df7 Df8 Cb0 Dg1 Dg2 Dg3 Dg4 Dh1 Dh2 Di1 Di2 OwP. -/
import Derived.Test.YtldjbbcfbjpfcaaDoorZ04
import Derived.Laws.ShiftsVarLaws
import Derived.IntWalk
import Derived.Laws.BitsAllLaws
import Derived.Lib.AppendStr
import Derived.Lib.AppendZerosOnto
/- Contract: the groups. -/
namespace Go.Proofs.YtldjbbcfbjpfcaaDoor
set_option maxRecDepth 100000
open Go.RowKit
set_option linter.unusedVariables false
set_option linter.unusedSimpArgs false
/-- the groups' slices -/
def gv (ad : Addr) (c : Nat) : Nat → List Nat → List Value
  | _, [] => []
  | off, m :: ms => .slice (some (ad.add (off * 5))) m (c - off) :: gv ad c (off + m) ms
theorem gv_len (ad : Addr) (c : Nat) : ∀ (off : Nat) (ms : List Nat), (gv ad c off ms).length = ms.length
  | _, [] => rfl
  | off, m :: ms => by rw [gv, List.length_cons, gv_len ad c (off + m) ms, List.length_cons]
theorem gv_snoc (ad : Addr) (c m : Nat) : ∀ (off : Nat) (ms : List Nat), gv ad c off (ms ++ [m]) = gv ad c off ms ++ [.slice (some (ad.add ((off + ms.sum) * 5))) m (c - (off + ms.sum))]
  | off, [] => by simp [gv]
  | off, n :: ms => by
    rw [List.cons_append, gv, gv, gv_snoc ad c m (off + n) ms, List.sum_cons, List.cons_append, Nat.add_assoc]
theorem gv_at (ad : Addr) (c : Nat) : ∀ (off : Nat) (ms : List Nat) (k : Nat), k < ms.length → (gv ad c off ms)[k]? = some (.slice (some (ad.add ((off + (ms.take k).sum) * 5))) (ms.getD k 0) (c - (off + (ms.take k).sum)))
  | off, [], k, h => by simp at h
  | off, m :: ms, 0, h => by simp [gv]
  | off, m :: ms, k + 1, h => by
    rw [gv, List.getElem?_cons_succ, gv_at ad c (off + m) ms k (by simpa using h), List.take_succ_cons, List.sum_cons, List.getD_cons_succ, Nat.add_assoc]
theorem gv_one (ad : Addr) (c off : Nat) (ms : List Nat) : ∀ u ∈ gv ad c off ms, u.oneCell' = true := by
  induction ms generalizing off with
  | nil => intro u h; cases h
  | cons m ms ih =>
    intro u h
    rcases List.mem_cons.1 h with rfl | h
    · rfl
    · exact ih _ u h
theorem grps_at (l : List Pc) : ∀ (ns : List Nat) (k : Nat) (off : Nat), k < ns.length → (cutsL ns (l.drop off)).getD k [] = (l.drop (off + (ns.take k).sum)).take (ns.getD k 0)
  | [], k, off, h => by simp at h
  | n :: ns, 0, off, h => by simp [cutsL]
  | n :: ns, k + 1, off, h => by
    rw [cutsL, List.getD_cons_succ, List.drop_drop, grps_at l ns k (off + n) (by simpa using h), List.take_succ_cons, List.sum_cons, List.getD_cons_succ, Nat.add_assoc]
theorem cutsL_len : ∀ (ns : List Nat) (l : List Pc), (cutsL ns l).length = ns.length
  | [], _ => rfl
  | n :: ns, l => by rw [cutsL, List.length_cons, cutsL_len ns, List.length_cons]
theorem grps_len (l : List Pc) : (grps l).length = (gls l).length := cutsL_len _ _
theorem gls_sum : ∀ l : List Pc, (gls l).sum = l.length := grps_ind (by rw [gls_nil]; rfl) fun p l ih => by
  rw [gls_cons, List.sum_cons, ih, List.length_drop, List.length_cons]
  have := run1_le p.s l
  omega
theorem gls_le (l : List Pc) (h : 0 < l.length) : gls l = run1 (l.getD 0 pc0).s l :: gls (l.drop (run1 (l.getD 0 pc0).s l)) ∧ 0 < run1 (l.getD 0 pc0).s l ∧ run1 (l.getD 0 pc0).s l ≤ l.length := by
  cases l with
  | nil => simp at h
  | cons p l =>
    have e : run1 p.s (p :: l) = run1 p.s l + 1 := by conv => lhs; unfold run1; rw [if_pos rfl]
    have := run1_le p.s (p :: l)
    rw [List.getD_cons_zero, e]
    rw [e] at this
    exact ⟨by rw [gls_cons, List.drop_succ_cons], by omega, this⟩
def OwnG (w : World) (base : Nat) (v : Value) (xs : List Value) : Prop := w.ownsRow base 43 1 v xs.length xs
theorem OwnG.next {w w' : World} {base : Nat} {v : Value} {xs : List Value} (h : OwnG w base v xs) (hb : Below w.heap.size w w') : OwnG w' base v xs := own_keep (S := fun _ => False) h (Only.of_below hb) (fun _ _ h => h)
theorem OwnG.alloc {w : World} {base : Nat} {v : Value} {xs : List Value} (h : OwnG w base v xs) (o : Obj) : OwnG (w.alloc o) base v xs := World.ownsRow.alloc h o
theorem OwnG.off {w w' : World} {base : Nat} {v : Value} {xs : List Value} {S : Nat → Prop} (h : OwnG w base v xs) (ho : Only S w w') (hS : ∀ k, S k → k < base) : OwnG w' base v xs :=
  own_keep h ho (fun g hg hs => by
    rcases h.2 with ⟨h1, h2⟩ | ⟨g', cap, cur, h1, hb, _⟩
    · rw [h1] at hg; cases hg
    · rw [h1] at hg
      have e : g' = g := by simpa [Value.ownBlock] using hg
      have := hS g hs
      omega)
theorem OwnG.snoc {w w' : World} {base : Nat} {v v' x : Value} {xs : List Value} (h : Apped w base 43 1 v w' v' (xs.length + 1) (xs ++ [x])) : OwnG w' base v' (xs ++ [x]) := by
  have := h.own
  unfold OwnG
  rw [List.length_append]
  exact this
theorem grpInfo : (Tryd.prog.info? 43).map (fun i => (i.zero, i.size, i.bytes)) = some (some (.slice none 0 0), 1, 24) := by kernel_rfl
set_option maxRecDepth 100000 in
set_option maxHeartbeats 2000000 in
theorem groups_c (ad : Addr) (c : Nat) (l : List Pc) (w : World) (hat : AtA w ad (pcs l)) (hab : ad.block < w.heap.size) (hc : l.length ≤ c) (h0 : 0 < l.length) (h1 : l.length ≤ 100000) :
    Calls Tryd.prog 39 #[.slice (some ad) l.length c] w fun e w' => ∃ v, e = .returned v ∧ OwnG w' w.heap.size v (gv ad c 0 (gls l)) ∧ Below w.heap.size w w' := by
  obtain ⟨i0, hib, hz0, hz1, hz2⟩ := info_parts grpInfo
  have HAT := Lib.hid hat
  have HAB := Lib.hid hab
  have HLEN := Lib.hid (show (gls l).length ≤ l.length from by
    have hgn : ∀ l : List Pc, (gls l).length ≤ l.length := grps_ind (by rw [gls_nil]; exact Nat.le_refl _) fun p l ih => by
      rw [gls_cons, List.length_cons, List.length_cons]
      rw [List.length_drop] at ih
      omega
    exact hgn l)
  clear hat hab
  go_enter Tryd.func39, Tryd.ntmps39
  go_wp2_with fail
  go_loopw [3] (fun o wr => ∃ (ms : List Nat) (A' : Option Addr), ms.sum ≤ l.length ∧ gls l = ms ++ gls (l.drop ms.sum) ∧ OwnG wr (w.heap.size + 1) o (gv ad c 0 ms) ∧ Below w.heap.size w wr ∧ Blk wr w.heap.size 43 #[.slice A' (l.length - ms.sum) (c - ms.sum)] ∧ (ms.sum < l.length → A' = some (ad.add (ms.sum * 5))) ∧ w.heap.size + 1 ≤ wr.heap.size) (fun _ wr => match wr.cell? ⟨w.heap.size, 0, none⟩ with | some (.slice _ n _) => n | _ => 0)
  case atStart => exact ⟨[], some ad, Nat.zero_le _, by simp, ⟨rfl, .inl ⟨rfl, rfl⟩⟩, (Below.refl _ _).alloc (Nat.le_refl _) _, Blk.new _ _ _, fun _ => by simp [Addr.add], by simp⟩
  case round =>
    rename World => wr
    obtain ⟨ms, A', hms, hgl, ho, hb, hB, hA, hsz⟩ := hrel
    have HGL := Lib.hid hgl
    have HO := Lib.hid ho
    have HB := Lib.hid hb
    have HBK := Lib.hid hB
    have HSZ := Lib.hid hsz
    have c0 : wr.cell? ⟨w.heap.size, 0, none⟩ = some (.slice A' (l.length - ms.sum) (c - ms.sum)) := (hB.cell 0).trans rfl
    have fz : wr.frozen? ⟨w.heap.size, 0, none⟩ = false := hB.free 0
    clear hgl ho hb hB hsz
    by_cases hlt : ms.sum < l.length
    · have hAA := hA hlt
      subst hAA
      have HATW := Lib.hid (show AtA wr (ad.add (ms.sum * 5)) (pcs (l.drop ms.sum)) by
        rw [pcs_drop]
        have h1 := (HAT.out.below HB.out HAB.out).drop (ms.sum * 5) ((pcs l).length - ms.sum * 5)
        rwa [List.take_of_length_le (by rw [List.length_drop]; exact Nat.le_refl _)] at h1)
      have HG := gls_le (l.drop ms.sum) (by rw [List.length_drop]; omega)
      have HLL := Lib.hid (show (l.drop ms.sum).length = l.length - ms.sum from List.length_drop ..)
      have HIC := Lib.hid (index_c w.heap.size (c - ms.sum) (ad.add (ms.sum * 5)) (l.drop ms.sum) ((l.drop ms.sum).getD 0 pc0).s wr (by rw [HLL.out]; exact c0) (by rw [HLL.out]; omega) rfl HATW.out HBK.out.lt (by have := HB.out.size; have := HAB.out; rw [add_block]; omega) (by rw [HLL.out]; omega))
      rw [HLL.out] at HIC HG
      rw [List.drop_drop] at HG
      obtain ⟨m, hm⟩ : ∃ m, m = run1 ((l.drop ms.sum).getD 0 pc0).s (l.drop ms.sum) := ⟨_, rfl⟩
      rw [← hm] at HIC HG
      obtain ⟨hg1, hg2, hg3⟩ := HG
      have HGS := Lib.hid (gv_snoc ad c m 0 ms)
      rw [Nat.zero_add] at HGS
      have HGM := Lib.hid (show gls l = (ms ++ [m]) ++ gls (l.drop (ms.sum + m)) by rw [HGL.out, hg1, List.append_assoc]; rfl)
      have HSUM := Lib.hid (show (ms ++ [m]).sum = ms.sum + m by simp)
      have HGN := Lib.hid (gv_len ad c 0 ms)
      have HMN := Lib.hid (show ms.length ≤ l.length from by have h1 := congrArg List.length HGL.out; rw [List.length_append] at h1; have := HLEN.out; omega)
      have HADD := Lib.hid (show (ad.add (ms.sum * 5)).add (m * 5) = ad.add ((ms.sum + m) * 5) by rw [Addr.add_add, Nat.add_mul])
      clear hm hg1 HATW hA HGL
      obtain ⟨N, hN⟩ : ∃ N, N = l.length - ms.sum := ⟨_, rfl⟩
      obtain ⟨C, hC⟩ : ∃ C, C = c - ms.sum := ⟨_, rfl⟩
      rw [← hN] at HIC hg3 c0
      rw [← hC] at HIC HGS c0
      have HNN := Lib.hid (show l.length - (ms.sum + m) = N - m by omega)
      have HCC := Lib.hid (show c - (ms.sum + m) = C - m by omega)
      have hNC : N ≤ C := by omega
      have hms2 : ms.sum + m ≤ l.length := by omega
      have HBK2 := Lib.hid (show Blk wr w.heap.size 43 #[.slice (some (ad.add (ms.sum * 5))) N C] by rw [hN, hC]; exact HBK.out)
      have hN0 : (0 : Int) < (N : Int) := by omega
      have hNle : N ≤ l.length := by omega
      clear hN hC hms hlt HLL HBK
      generalize ad.add (ms.sum * 5) = a' at *
      have q0 : (0 : Int) ≤ (m : Int) := by omega
      have q1 : (m : Int) ≤ (N : Int) := by omega
      have q2 : (m : Int) ≤ (C : Int) := by omega
      have q3 : decide ((m : Int) < 0) = false := decide_eq_false (by omega)
      have q4 : decide ((-1 : Int) < 0) = true := rfl
      by_cases hmN : m < N
      · have hid : idxR m N = (m : Int) := by unfold idxR; rw [if_pos hmN]
        rw [hid] at HIC
        have hCm : ¬ C = m := by omega
        clear hid
        go_wp2_with (first
          | (go_at_call 47; (refine HIC.out.mono ?_); rintro e W1 ⟨rfl, hb1⟩; have HB1 := Lib.hid (HB.out.trans (hb1.mono HB.out.size)); have HO1 := Lib.hid (show OwnG W1 (w.heap.size + 1) _ (gv ad c 0 ms) from OwnG.next HO.out hb1); have HBK1 := HBK2.out.below hb1 HBK2.out.lt; have d0 : W1.cell? ⟨w.heap.size, 0, none⟩ = some (.slice (some a') N C) := (HBK1.cell 0).trans rfl; have HBK3 := Lib.hid HBK1; have HS1 := Lib.hid (Nat.le_trans HSZ.out hb1.size); clear hb1 HBK1)
          | (at_builtin; go_loud (refine wpList_app _ rfl (.tmp 15) (.tmp 19) _ rfl (w.heap.size + 1) 43 i0 (.slice none 0 0) 1 24 Tryd.underlying84 hib hz0 hz1 hz2 rfl (by decide) _ _ (gv ad c 0 ms) rfl (HO1.out.alloc _) _ (some ⟨W1.heap.size, 0, none⟩) 1 1 [.slice (some a') m C] rfl rfl (by exact rd_new W1 [.slice (some a') m C] _ (0, 0)) (by intro u hu; rw [List.mem_singleton.1 hu]; rfl) (by rw [HGN.out]; have := HMN.out; omega) (by rw [HGN.out]; have := HMN.out; omega) (by have := HS1.out; simp; omega) ?_; intro v1 w2 hap; have hbw := hap.below (HO1.out.alloc _) (by have := HS1.out; simp; omega); have hbk4 := (HBK3.out.alloc (Obj.cells #[.slice (some a') m C] 43)).below hbw (Nat.lt_succ_self _); have d1 : w2.cell? ⟨w.heap.size, 0, none⟩ = some (.slice (some a') N C) := (hbk4.cell 0).trans rfl; have d2 : w2.frozen? ⟨w.heap.size, 0, none⟩ = false := hbk4.free 0; have HBK4 := Lib.hid hbk4; have HAP := Lib.hid (OwnG.snoc hap); have HB2 := Lib.hid ((HB1.out.alloc HB1.out.size (Obj.cells #[.slice (some a') m C] 43)).trans (hbw.mono (Nat.le_succ _))); have HS2 := Lib.hid (show w.heap.size + 1 ≤ w2.heap.size from Nat.le_trans (Nat.le_trans HS1.out (by simp)) hbw.size); clear hap hbw hbk4 d0)))
        go_roundw
        case rel => exact ⟨ms ++ [m], _, by rw [HSUM.out]; omega, by rw [HSUM.out]; exact HGM.out, by rw [HGS.out]; exact HAP.out.off ((Only.refl (fun k => k = w.heap.size) w2).setCell (p := ⟨w.heap.size, 0, none⟩) (fun _ => rfl) _) (fun k hk => by omega), HB2.out.setCell (by show w.heap.size ≤ w.heap.size; omega) _, by rw [HSUM.out, HNN.out, HCC.out]; exact HBK4.out.set_ 0 _, fun h => by rw [HSUM.out, HADD.out], by simpa using HS2.out⟩
        case measure =>
          have HM1 := (HBK4.out.set_ 0 (.slice (some (a'.add (m * 5))) (N - m) (C - m))).cell 0
          have HM0 := (HBK2.out.cell 0)
          rw [HM0, HM1]
          show (N - m) < N
          omega
      · have hmN2 : m = N := by omega
        subst hmN2
        have hid : idxR m m = -1 := by unfold idxR; rw [if_neg (by omega)]
        rw [hid] at HIC
        clear hid hmN q1
        have HEND := Lib.hid (show ms.sum + m = l.length by have := HNN.out; omega)
        by_cases hCm : C = m
        · have hCm' : m = C := hCm.symm
          subst hCm'
          clear hCm
          go_wp2_with (first
            | (go_at_call 47; (refine HIC.out.mono ?_); rintro e W1 ⟨rfl, hb1⟩; have HB1 := Lib.hid (HB.out.trans (hb1.mono HB.out.size)); have HO1 := Lib.hid (show OwnG W1 (w.heap.size + 1) _ (gv ad c 0 ms) from OwnG.next HO.out hb1); have HBK1 := HBK2.out.below hb1 HBK2.out.lt; have d0 : W1.cell? ⟨w.heap.size, 0, none⟩ = some (.slice (some a') m m) := (HBK1.cell 0).trans rfl; have HBK3 := Lib.hid HBK1; have HS1 := Lib.hid (Nat.le_trans HSZ.out hb1.size); clear hb1 HBK1)
            | (at_builtin; go_loud (refine wpList_app _ rfl (.tmp 15) (.tmp 19) _ rfl (w.heap.size + 1) 43 i0 (.slice none 0 0) 1 24 Tryd.underlying84 hib hz0 hz1 hz2 rfl (by decide) _ _ (gv ad c 0 ms) rfl (HO1.out.alloc _) _ (some ⟨W1.heap.size, 0, none⟩) 1 1 [.slice (some a') m m] rfl rfl (by exact rd_new W1 [.slice (some a') m m] _ (0, 0)) (by intro u hu; rw [List.mem_singleton.1 hu]; rfl) (by rw [HGN.out]; have := HMN.out; omega) (by rw [HGN.out]; have := HMN.out; omega) (by have := HS1.out; simp; omega) ?_; intro v1 w2 hap; have hbw := hap.below (HO1.out.alloc _) (by have := HS1.out; simp; omega); have hbk4 := (HBK3.out.alloc (Obj.cells #[.slice (some a') m m] 43)).below hbw (Nat.lt_succ_self _); have d1 : w2.cell? ⟨w.heap.size, 0, none⟩ = some (.slice (some a') m m) := (hbk4.cell 0).trans rfl; have d2 : w2.frozen? ⟨w.heap.size, 0, none⟩ = false := hbk4.free 0; have HBK4 := Lib.hid hbk4; have HAP := Lib.hid (OwnG.snoc hap); have HB2 := Lib.hid ((HB1.out.alloc HB1.out.size (Obj.cells #[.slice (some a') m m] 43)).trans (hbw.mono (Nat.le_succ _))); have HS2 := Lib.hid (show w.heap.size + 1 ≤ w2.heap.size from Nat.le_trans (Nat.le_trans HS1.out (by simp)) hbw.size); clear hap hbw hbk4 d0)))
          go_roundw
          case rel => exact ⟨ms ++ [m], _, by rw [HSUM.out]; omega, by rw [HSUM.out]; exact HGM.out, by rw [HGS.out]; exact HAP.out.off ((Only.refl (fun k => k = w.heap.size) w2).setCell (p := ⟨w.heap.size, 0, none⟩) (fun _ => rfl) _) (fun k hk => by omega), HB2.out.setCell (by show w.heap.size ≤ w.heap.size; omega) _, by rw [HSUM.out, HNN.out, HCC.out, Nat.sub_self]; exact HBK4.out.set_ 0 _, fun h => by rw [HSUM.out, HEND.out] at h; omega, by simpa using HS2.out⟩
          case measure =>
            have HM1 := (HBK4.out.set_ 0 (.slice (some a') 0 (0))).cell 0
            have HM0 := (HBK2.out.cell 0)
            rw [HM0, HM1]
            show 0 < m
            omega
        · go_wp2_with (first
            | (go_at_call 47; (refine HIC.out.mono ?_); rintro e W1 ⟨rfl, hb1⟩; have HB1 := Lib.hid (HB.out.trans (hb1.mono HB.out.size)); have HO1 := Lib.hid (show OwnG W1 (w.heap.size + 1) _ (gv ad c 0 ms) from OwnG.next HO.out hb1); have HBK1 := HBK2.out.below hb1 HBK2.out.lt; have d0 : W1.cell? ⟨w.heap.size, 0, none⟩ = some (.slice (some a') m C) := (HBK1.cell 0).trans rfl; have HBK3 := Lib.hid HBK1; have HS1 := Lib.hid (Nat.le_trans HSZ.out hb1.size); clear hb1 HBK1)
            | (at_builtin; go_loud (refine wpList_app _ rfl (.tmp 15) (.tmp 19) _ rfl (w.heap.size + 1) 43 i0 (.slice none 0 0) 1 24 Tryd.underlying84 hib hz0 hz1 hz2 rfl (by decide) _ _ (gv ad c 0 ms) rfl (HO1.out.alloc _) _ (some ⟨W1.heap.size, 0, none⟩) 1 1 [.slice (some a') m C] rfl rfl (by exact rd_new W1 [.slice (some a') m C] _ (0, 0)) (by intro u hu; rw [List.mem_singleton.1 hu]; rfl) (by rw [HGN.out]; have := HMN.out; omega) (by rw [HGN.out]; have := HMN.out; omega) (by have := HS1.out; simp; omega) ?_; intro v1 w2 hap; have hbw := hap.below (HO1.out.alloc _) (by have := HS1.out; simp; omega); have hbk4 := (HBK3.out.alloc (Obj.cells #[.slice (some a') m C] 43)).below hbw (Nat.lt_succ_self _); have d1 : w2.cell? ⟨w.heap.size, 0, none⟩ = some (.slice (some a') m C) := (hbk4.cell 0).trans rfl; have d2 : w2.frozen? ⟨w.heap.size, 0, none⟩ = false := hbk4.free 0; have HBK4 := Lib.hid hbk4; have HAP := Lib.hid (OwnG.snoc hap); have HB2 := Lib.hid ((HB1.out.alloc HB1.out.size (Obj.cells #[.slice (some a') m C] 43)).trans (hbw.mono (Nat.le_succ _))); have HS2 := Lib.hid (show w.heap.size + 1 ≤ w2.heap.size from Nat.le_trans (Nat.le_trans HS1.out (by simp)) hbw.size); clear hap hbw hbk4 d0)))
          go_roundw
          case rel => exact ⟨ms ++ [m], _, by rw [HSUM.out]; omega, by rw [HSUM.out]; exact HGM.out, by rw [HGS.out]; exact HAP.out.off ((Only.refl (fun k => k = w.heap.size) w2).setCell (p := ⟨w.heap.size, 0, none⟩) (fun _ => rfl) _) (fun k hk => by omega), HB2.out.setCell (by show w.heap.size ≤ w.heap.size; omega) _, by rw [HSUM.out, HNN.out, HCC.out, Nat.sub_self]; exact HBK4.out.set_ 0 _, fun h => by rw [HSUM.out, HEND.out] at h; omega, by simpa using HS2.out⟩
          case measure =>
            have HM1 := (HBK4.out.set_ 0 (.slice (some (a'.add (m * 5))) 0 (C - m))).cell 0
            have HM0 := (HBK2.out.cell 0)
            rw [HM0, HM1]
            show 0 < m
            omega
    · have hend : ms.sum = l.length := by omega
      have HFG := Lib.hid (show gls l = ms by rw [HGL.out, hend, List.drop_length, gls_nil, List.append_nil])
      have hn0 : l.length - ms.sum = 0 := by omega
      rw [hn0] at c0
      clear hn0 hend hlt hA
      go_wp2_with fail
      refine bodyPost_ret (results_tmp rfl _ _ _) rfl ?_
      exact ⟨_, rfl, by rw [HFG.out]; exact own_base_le HO.out (by omega), HB.out⟩
end Go.Proofs.YtldjbbcfbjpfcaaDoor
/- Contract: the room. -/
namespace Go.Proofs.YtldjbbcfbjpfcaaDoor
set_option maxRecDepth 100000
open Go.RowKit
set_option linter.unusedVariables false
set_option linter.unusedSimpArgs false
theorem groups0_c (A : Option Addr) (c : Nat) (w : World) : Calls Tryd.prog 39 #[.slice A 0 c] w fun e w' => e = .returned (.slice none 0 0) ∧ Below w.heap.size w w' := by
  have HB := Lib.hid (show Below w.heap.size w (w.alloc (.cells #[.slice A 0 c] 43)) from (Below.refl _ _).alloc (Nat.le_refl _) _)
  go_enter Tryd.func39, Tryd.ntmps39
  go_wp2_with fail
  go_loopw [3] (fun o wr => o = .slice none 0 0 ∧ wr = w.alloc (.cells #[.slice A 0 c] 43)) (fun _ wr => 0)
  case atStart => exact ⟨rfl, rfl⟩
  case round =>
    rename World => wr
    obtain ⟨rfl, rfl⟩ := hrel
    go_wp2_with fail
    refine bodyPost_ret (results_tmp rfl _ _ _) rfl ?_
    exact ⟨rfl, HB.out⟩
theorem gls_pos : ∀ l : List Pc, ∀ m ∈ gls l, 0 < m := grps_ind (by rw [gls_nil]; intro m h; cases h) fun p l ih m h => by
  rw [gls_cons] at h
  rcases List.mem_cons.1 h with rfl | h
  · omega
  · exact ih m h
theorem sum_take_succ : ∀ (ms : List Nat) (k : Nat), k < ms.length → (ms.take (k + 1)).sum = (ms.take k).sum + ms.getD k 0
  | [], k, h => by simp at h
  | m :: ms, 0, h => by simp
  | m :: ms, k + 1, h => by
    rw [List.take_succ_cons, List.sum_cons, sum_take_succ ms k (by simpa using h), List.take_succ_cons, List.sum_cons, List.getD_cons_succ, Nat.add_assoc]
theorem sum_take_le : ∀ (ms : List Nat) (k : Nat), (ms.take k).sum ≤ ms.sum
  | [], k => by simp
  | m :: ms, 0 => by simp
  | m :: ms, k + 1 => by
    rw [List.take_succ_cons, List.sum_cons, List.sum_cons]
    have := sum_take_le ms k
    omega
/-- where a group begins -/
def offG (l : List Pc) (k : Nat) : Nat := ((gls l).take k).sum
def lenG (l : List Pc) (k : Nat) : Nat := (gls l).getD k 0
theorem offG_succ (l : List Pc) (k : Nat) (h : k < (gls l).length) : offG l (k + 1) = offG l k + lenG l k := sum_take_succ _ _ h
theorem offG_le (l : List Pc) (k : Nat) : offG l k ≤ l.length := by rw [← gls_sum l]; exact sum_take_le _ _
theorem lenG_pos (l : List Pc) (k : Nat) (h : k < (gls l).length) : 0 < lenG l k := gls_pos l _ (by
  unfold lenG
  rw [List.getD_eq_getElem?_getD, List.getElem?_eq_getElem h]
  exact List.getElem_mem h)
theorem offG_lt (l : List Pc) (k : Nat) (h : k < (gls l).length) : offG l k + lenG l k ≤ l.length := by rw [← offG_succ l k h]; exact offG_le _ _
theorem grpG (l : List Pc) (k : Nat) (h : k < (gls l).length) : (grps l).getD k [] = (l.drop (offG l k)).take (lenG l k) := by
  have := grps_at l (gls l) k 0 h
  rw [List.drop_zero, Nat.zero_add] at this
  exact this
theorem roomG_cons (a : List Pc) (gs : List (List Pc)) : roomG (a :: gs) = roomG [a] + roomG gs := by cases a <;> simp [roomG]
theorem roomG_snoc (gs : List (List Pc)) (g : List Pc) : roomG (gs ++ [g]) = roomG gs + roomG [g] := by
  induction gs with
  | nil => simp [roomG]
  | cons a gs ih => rw [List.cons_append, roomG_cons, ih, roomG_cons a gs, Nat.add_assoc]
theorem take_snoc_ {α : Type} (d : α) (l : List α) (k : Nat) (h : k < l.length) : l.take (k + 1) = l.take k ++ [l.getD k d] := by
  rw [List.take_succ_eq_append_getElem h]
  simp [List.getD_eq_getElem?_getD, h]
theorem room_step (l : List Pc) (k : Nat) (h : k < (gls l).length) : roomG ((grps l).take (k + 1)) = roomG ((grps l).take k) + (6 + (l.getD (offG l k) pc0).s.size) := by
  rw [take_snoc_ [] _ k (by rw [grps_len]; exact h), roomG_snoc, grpG l k h]
  have h1 := lenG_pos l k h
  have h2 := offG_lt l k h
  rw [List.drop_eq_getElem_cons (by omega), show lenG l k = (lenG l k - 1) + 1 by omega, List.take_succ_cons]
  simp [roomG, List.getD_eq_getElem?_getD, show offG l k < l.length by omega]
theorem gv_rd {W : World} {base : Nat} {v : Value} {xs : List Value} (h : OwnG W base v xs) : ∃ A cap, v = .slice A xs.length cap ∧ xs.length ≤ cap ∧ cap ≤ maxLen ∧ Rd W W.heap.size A xs := own_rd h
theorem rdG_cell {W : World} {B : Nat} {a : Addr} {xs : List Value} {u : Value} (h : Rd W B (some a) xs) (k : Nat) (hk : xs[k]? = some u) : W.cell? (a.add k) = some u := by
  obtain ⟨ad, e, _, hc⟩ := h (by intro h0; rw [h0] at hk; simp at hk)
  injection e with e
  subst e
  exact hc k u hk
set_option maxRecDepth 100000 in
set_option maxHeartbeats 2000000 in
theorem room_c (A : Option Addr) (c : Nat) (l : List Pc) (w : World) (hr : RdP w w.heap.size A l) (hc : l.length ≤ c) (h1 : l.length ≤ 100000) (hs : ∀ p ∈ l, p.s.size ≤ 1000000) :
    Calls Tryd.prog 30 #[.slice A l.length c] w fun e w' => e = .returned (.int .i64 (roomL l : Nat)) ∧ Below w.heap.size w w' := by
  have f1 : IntKind.i64.wrap (32 * (l.length : Int)) = 32 * (l.length : Int) := IntWalk.i64_in _ (by omega)
  have f2 : IntKind.i64.wrap (4 + 32 * (l.length : Int)) = 4 + 32 * (l.length : Int) := IntWalk.i64_in _ (by omega)
  rcases Nat.eq_zero_or_pos l.length with h0 | h0
  · obtain rfl : l = [] := List.eq_nil_of_length_eq_zero h0
    have HE := Lib.hid (show roomL [] = 4 by unfold roomL; rw [grps_nil]; rfl)
    rw [HE.out]
    clear f1 f2
    show Calls _ _ #[.slice A 0 c] _ _
    go_enter Tryd.func30, Tryd.ntmps30
    go_wp2_with (go_at_call 39; (refine (groups0_c A c w).mono ?_); rintro e W1 ⟨rfl, hb⟩; have HB := Lib.hid hb; clear hb)
    go_loopw [3, 13] (fun n i wr => n = .int .i64 4 ∧ i = .int .i64 0 ∧ wr = W1) (fun _ i _ => 0)
    case atStart => exact ⟨rfl, rfl, rfl⟩
    case round =>
      rename World => wr
      obtain ⟨rfl, rfl, rfl⟩ := hrel
      go_wp2_with fail
      go_ret
      exact ⟨rfl, HB.out⟩
  · obtain ⟨ad, rfl, hab, hat⟩ := hr.open_ h0
    have HAT := Lib.hid hat
    have HAB := Lib.hid hab
    have HGC := Lib.hid (groups_c ad c l w hat hab hc h0 h1)
    have HSZ := Lib.hid (show ∀ k, (l.getD k pc0).s.size ≤ 1000000 from fun k => by
      rcases Nat.lt_or_ge k l.length with h | h
      · exact hs _ (by simp [List.getD_eq_getElem?_getD, h])
      · rw [List.getD_eq_getElem?_getD, List.getElem?_eq_none h]; decide)
    have hgn : (gls l).length ≤ l.length := by
      have hgn : ∀ l : List Pc, (gls l).length ≤ l.length := grps_ind (by rw [gls_nil]; exact Nat.le_refl _) fun p l ih => by
        rw [gls_cons, List.length_cons, List.length_cons]
        rw [List.length_drop] at ih
        omega
      exact hgn l
    have HGV := Lib.hid (gv_len ad c 0 (gls l))
    have HGA := Lib.hid (fun k (h : k < (gls l).length) => gv_at ad c 0 (gls l) k h)
    have HST := Lib.hid (fun k (h : k < (gls l).length) => room_step l k h)
    have HLP := Lib.hid (fun k (h : k < (gls l).length) => lenG_pos l k h)
    have HOL := Lib.hid (fun k (h : k < (gls l).length) => offG_lt l k h)
    have HFIN := Lib.hid (show roomL l = 4 + 32 * l.length + roomG ((grps l).take (gls l).length) by unfold roomL; rw [← grps_len, List.take_length])
    have hbd : ∀ k, k ≤ (gls l).length → roomG ((grps l).take k) ≤ k * 1000100 := by
      intro k
      induction k with
      | zero => intro _; simp [roomG]
      | succ k ih =>
        intro hk
        have h2 := ih (by omega)
        have h3 := HSZ.out (offG l k)
        rw [room_step l k hk]
        omega
    have HBD := Lib.hid hbd
    clear hr hs hbd hat hab
    obtain ⟨r, hr⟩ : ∃ r, r = roomL l := ⟨_, rfl⟩
    rw [← hr]
    have HRR := Lib.hid hr
    clear hr
    go_enter Tryd.func30, Tryd.ntmps30
    go_wp2_with (go_at_call 39; (refine HGC.out.mono ?_); rintro e W1 ⟨v, rfl, ho, hb⟩; obtain ⟨A2, c2, rfl, _, _, r2⟩ := gv_rd ho; have HB := Lib.hid hb; have HR2 := Lib.hid r2; rw [HGV.out]; clear ho hb r2)
    have HATW := Lib.hid (HAT.out.below HB.out HAB.out)
    go_loop [3, 13] (fun n i => ∃ k : Nat, k ≤ (gls l).length ∧ i = .int .i64 k ∧ n = .int .i64 (4 + 32 * (l.length : Int) + (roomG ((grps l).take k) : Nat))) (fun _ i => (gls l).length - (intOf i).toNat)
    case atStart => exact ⟨0, Nat.zero_le _, rfl, by simp [roomG]⟩
    case round =>
      obtain ⟨k, hk, rfl, rfl⟩ := hrel
      by_cases hlt : k < (gls l).length
      · have p1 : (k : Int) < ((gls l).length : Int) := by omega
        have hga := HGA.out k hlt
        rw [Nat.zero_add] at hga
        have hrr := HR2.out
        obtain ⟨a2, rfl, _, _⟩ := hrr (by intro h; rw [h] at hga; simp at hga)
        have e0r := rdG_cell HR2.out k hga
        have hol := HOL.out k hlt
        have hlp := HLP.out k hlt
        have e1 := (HATW.out.piece (offG l k) (by omega)).ser
        have HSK := Lib.hid (HST.out k hlt)
        have hz := HSZ.out (offG l k)
        have hb0 := HBD.out k hk
        have e0 : W1.cell? (a2.add k) = some (.slice (some (ad.add (offG l k * 5))) (lenG l k) (c - offG l k)) := e0r
        clear hga e0r
        generalize l.getD (offG l k) pc0 = p at *
        generalize ad.add (offG l k * 5) = a' at *
        generalize lenG l k = m at *
        generalize c - offG l k = cc at *
        have p2 : (0 : Int) < (m : Int) := by omega
        generalize hq : roomG ((grps l).take k) = q at *
        have g1 : IntKind.i64.wrap (6 + (p.s.size : Int)) = 6 + (p.s.size : Int) := IntWalk.i64_in _ (by omega)
        have g2 : IntKind.i64.wrap (4 + 32 * (l.length : Int) + (q : Int) + (6 + (p.s.size : Int))) = 4 + 32 * (l.length : Int) + (q : Int) + (6 + (p.s.size : Int)) := IntWalk.i64_in _ (by omega)
        clear hq hol
        go_wp2_with fail
        go_round
        case rel => exact ⟨k + 1, by omega, by go_num, by rw [HSK.out]; go_num⟩
        case measure => simp [intOf]; omega
      · obtain rfl : k = (gls l).length := by omega
        have HEQ := Lib.hid (show (4 + 32 * (l.length : Int) + (roomG ((grps l).take (gls l).length) : Nat)) = ((r : Nat) : Int) by rw [HRR.out, HFIN.out]; omega)
        go_wp2_with fail
        go_ret
        exact ⟨by rw [← HEQ.out]; rfl, HB.out⟩
end Go.Proofs.YtldjbbcfbjpfcaaDoor
/- Contract: whether pieces may be laid. -/
namespace Go.Proofs.YtldjbbcfbjpfcaaDoor
set_option maxRecDepth 100000
open Go.RowKit
set_option linter.unusedVariables false
set_option linter.unusedSimpArgs false
theorem below_setRowP (w : World) (g : Nat) (cs : Array Value) {n : Nat} (h : n ≤ g) : Below n w (w.setRow g cs) := ⟨rfl, rfl, rfl, by simp [World.setRow], fun i hi => setRow_other _ _ i _ (by omega)⟩
theorem new_rowP (W : World) (T : TypeId) (old cs : Array Value) : Blk ((W.alloc (Obj.cells old T)).setRow W.heap.size cs) W.heap.size T cs ∧ Below W.heap.size W ((W.alloc (Obj.cells old T)).setRow W.heap.size cs) :=
  ⟨setRow_heap _ _ _ _ _ (0, 0) (Blk.new W _ _), ((Below.refl _ _).alloc (Nat.le_refl _) _).trans (below_setRowP _ _ _ (Nat.le_refl _))⟩
def zPc : Array Value := pcV pc0
theorem zero_pc (w : World) : (zeroValue 81).run Tryd.prog w = .ok (.agg zPc) w := by kernel_rfl
theorem pcV_one (p : Pc) : (pcV p).all (·.oneCell') = true := by simp [pcV, pcL, Value.oneCell']
theorem cmpI_neg (x y : Int) : cmpI x y < 0 ↔ x < y := by unfold cmpI; split <;> (try split) <;> omega
theorem cmpI_zero (x y : Int) : cmpI x y = 0 ↔ x = y := by unfold cmpI; split <;> (try split) <;> omega
theorem cmpS_neg (a b : ByteArray) : cmpS a b < 0 ↔ ltS a b = true := by
  unfold cmpS
  split
  · rename_i h; simp [h]
  · rename_i h
    split <;> simp [h]
theorem cmpS_zero (a b : ByteArray) : cmpS a b = 0 ↔ a = b := by
  unfold cmpS
  split
  · rename_i h
    constructor
    · intro h1; omega
    · rintro rfl; unfold ltS at h; rw [bless_irr] at h; cases h
  · rename_i h
    split
    · rename_i h2
      constructor
      · intro h1; omega
      · rintro rfl; unfold ltS at h2; rw [bless_irr] at h2; cases h2
    · rename_i h2
      constructor
      · intro _
        by_cases he : a = b
        · exact he
        · unfold ltS at h h2
          have h3 := bless_tri a.toList b.toList (fun h => he (toList_inj h)) (by simpa using h)
          exact absurd h3 h2
      · intro _; rfl
/-- what the program asks of two that follow one another -/
theorem okPair_less (q p : Pc) : okPair q p = (lessP q p && !((q.s.toList == p.s.toList) && (q.t == p.t))) := by
  have hl : lessP q p = true ↔ (ltS q.s p.s = true ∨ (q.s = p.s ∧ (q.t < p.t ∨ (q.t = p.t ∧ cmpD q.n q.d p.n p.d < 0)))) := by
    unfold lessP cmpP
    rw [decide_eq_true_iff, orL]
    by_cases h0 : cmpS q.s p.s = 0
    · rw [if_pos h0]
      have h1 := (cmpS_zero _ _).1 h0
      have h2 : ¬ ltS q.s p.s = true := fun h => by have := (cmpS_neg _ _).2 h; omega
      rw [orL]
      by_cases h3 : cmpI q.t p.t = 0
      · rw [if_pos h3]
        have h4 := (cmpI_zero _ _).1 h3
        have h5 : orL [cmpD q.n q.d p.n p.d] = cmpD q.n q.d p.n p.d := by
          rw [orL]
          split
          · rename_i h6; rw [h6]; rfl
          · rfl
        rw [h5]
        constructor
        · intro h; exact .inr ⟨h1, .inr ⟨h4, h⟩⟩
        · rintro (h | ⟨_, h | ⟨_, h⟩⟩)
          · exact absurd h h2
          · omega
          · exact h
      · rw [if_neg h3]
        have h4 : q.t ≠ p.t := fun h => h3 ((cmpI_zero _ _).2 h)
        rw [cmpI_neg]
        constructor
        · intro h; exact .inr ⟨h1, .inl h⟩
        · rintro (h | ⟨_, h | ⟨h, _⟩⟩)
          · exact absurd h h2
          · exact h
          · exact absurd h h4
    · rw [if_neg h0, cmpS_neg]
      constructor
      · intro h; exact .inl h
      · rintro (h | ⟨h, _⟩)
        · exact h
        · exact absurd ((cmpS_zero _ _).2 h) h0
  rw [Bool.eq_iff_iff]
  unfold okPair
  rw [Bool.or_eq_true, Bool.and_eq_true, Bool.and_eq_true, hl, Bool.not_eq_true', Bool.and_eq_false_iff, beq_iff_eq, decide_eq_true_iff, beq_eq_false_iff_ne, beq_eq_false_iff_ne]
  constructor
  · rintro (h | ⟨h, h2⟩)
    · refine ⟨.inl h, .inl (fun e => ?_)⟩
      unfold ltS at h
      rw [e, bless_irr] at h
      cases h
    · exact ⟨.inr ⟨toList_inj h, .inl h2⟩, .inr (by omega)⟩
  · rintro ⟨h | ⟨h, h2⟩, h3⟩
    · exact .inl h
    · rcases h3 with h3 | h3
      · exact absurd (by rw [h]) h3
      · rcases h2 with h2 | ⟨h2, _⟩
        · exact .inr ⟨by rw [h], h2⟩
        · exact absurd h2 h3
theorem AtA.tim {w : World} {a : Addr} {p : Pc} (h : AtA w a (pcL p)) : w.cell? ⟨a.block, a.off + 1, none⟩ = some (.int .i64 p.t) := h 1 _ rfl
theorem run_loadA {P : Program} (w : World) (a : Addr) (ty : TypeId) (l : List Value) (d : TypeDesc) (hc : AtA w a l) (hu : P.underlying ty = some d) (hd : d.isRow = true) (hi : (P.info? ty).map (·.size) = some l.length) {o : Oper} {ρ : Operand → Value} (x : Operand) (ho : o.op = .load ty x) (hx : ρ x = .pointer (some a)) :
    (execOp ρ o).run P w = .ok (.value (.agg l.toArray)) w := by
  unfold execOp
  simp only [ho, hx, Instr.loadAt, Instr.sureAddr, Sem.run_bind, Sem.run_pure, Result.andThen_ok, run_loadVar_at w a ty l d hc hu hd hi]
theorem AtA.blk {w : World} {g : Nat} {T : TypeId} {p : Pc} (h : Blk w g T (pcV p)) : AtA w ⟨g, 0, none⟩ (pcL p) := fun j v hv => by
  rw [Addr.add_mid, Nat.zero_add]
  refine (h.cell j).trans ?_
  rw [← hv]
  exact List.getElem?_toArray
theorem wpQuiet_loadA {P : Program} {ops : Array Oper} {C : World → Prop} {Q : Act → Prop} {a : Act} {o : Oper} {rest : List Oper} (ty : TypeId) (x : Operand) (ho : o.op = .load ty x) (hw : Region.wanted o (yielded ops a.tmps) = true) (b : Addr) (hx : a.eval x = .pointer (some b))
    (l : List Value) (d : TypeDesc) (hC : ∀ w, C w → AtA w b l) (hu : P.underlying ty = some d) (hd : d.isRow = true) (hi : (P.info? ty).map (·.size) = some l.length)
    (a' : Act) (ha : a.put o.dst (.agg l.toArray) = a') (h : wpQuiet P ops C Q rest a') : wpQuiet P ops C Q (o :: rest) a := by
  refine BigFrame.wpQuiet_want hw fun K hK => ⟨.agg l.toArray, fun w hw' => ?_, ?_⟩
  · unfold Oper.quietAt execOp
    simp only [ho, hx, Instr.loadAt, Instr.sureAddr, Sem.run_bind, Sem.run_pure, Result.andThen_ok, run_loadVar_at w b ty l d (hC w hw') hu hd hi]
    exact ⟨rfl, rfl⟩
  · rw [ha]; exact hK _ h
theorem okAt_zero (l : List Pc) : okAt l 0 = ckP (l.getD 0 pc0) := by unfold okAt; simp
theorem okAt_succ (l : List Pc) (j : Nat) : okAt l (j + 1) = (ckP (l.getD (j + 1) pc0) && okPair (l.getD j pc0) (l.getD (j + 1) pc0)) := by unfold okAt; simp
theorem pcE_ok {p : Pc} (h : ckP p = true) : pcE p = 0 := by unfold pcE; rw [if_pos h]
theorem pcE_bad {p : Pc} (h : ckP p = false) : pcE p = 1 := by unfold pcE; rw [h]; rfl
set_option maxRecDepth 100000 in
set_option maxHeartbeats 4000000 in
theorem check_c (A : Option Addr) (c : Nat) (l : List Pc) (w : World) (hr : RdP w w.heap.size A l) (hc : l.length ≤ c) (h1 : l.length ≤ 100000) (hs : ∀ p ∈ l, p.s.size ≤ 1000000) :
    Calls Tryd.prog 28 #[.slice A l.length c] w fun e w' => e = .returned (.int .i64 (chkL l : Nat)) ∧ Below w.heap.size w w' := by
  have zf := zero_pc
  have zs1 : zPc.size = 5 := by rfl
  have zs2 : ¬ zPc = #[] := by intro h; have := congrArg Array.size h; rw [zs1] at this; cases this
  have HR := Lib.hid hr
  have HRC := Lib.hid (room_c A c l w hr hc h1 hs)
  have HSZ := Lib.hid (show ∀ k, (l.getD k pc0).s.size ≤ 1000000 from fun k => by
    rcases Nat.lt_or_ge k l.length with h | h
    · exact hs _ (by simp [List.getD_eq_getElem?_getD, h])
    · rw [List.getD_eq_getElem?_getD, List.getElem?_eq_none h]; decide)
  have HCH := Lib.hid (show chkL l = if 256 < l.length ∨ 4096 < roomL l then 3 else if okTo l l.length then 0 else 1 from rfl)
  obtain ⟨r, hr'⟩ : ∃ r, r = chkL l := ⟨_, rfl⟩
  rw [← hr'] at HCH ⊢
  clear hr hs hr'
  by_cases hg : 256 < l.length
  · have HRV := Lib.hid (show r = 3 by rw [HCH.out, if_pos (.inl hg)])
    have p1 : decide ((256 : Int) < (l.length : Int)) = true := decide_eq_true (by omega)
    go_enter Tryd.func28, Tryd.ntmps28
    go_wp2_with fail
    go_ret
    exact ⟨by rw [HRV.out]; rfl, Below.refl _ _⟩
  · have p1 : decide ((256 : Int) < (l.length : Int)) = false := decide_eq_false (by omega)
    by_cases hg2 : 4096 < roomL l
    · have HRV := Lib.hid (show r = 3 by rw [HCH.out, if_pos (.inr hg2)])
      have p2 : decide ((4096 : Int) < ((roomL l : Nat) : Int)) = true := decide_eq_true (by omega)
      generalize roomL l = rm at *
      clear hg
      go_enter Tryd.func28, Tryd.ntmps28
      go_wp2_with (go_at_call 30; (refine HRC.out.mono ?_); rintro e W1 ⟨rfl, hb⟩; have HB1 := Lib.hid hb; clear hb)
      go_ret
      exact ⟨by rw [HRV.out]; rfl, HB1.out⟩
    · have HRV := Lib.hid (show r = if okTo l l.length then 0 else 1 by rw [HCH.out, if_neg (by omega)])
      have p2 : decide ((4096 : Int) < ((roomL l : Nat) : Int)) = false := decide_eq_false (by omega)
      have hlen : l.length ≤ 256 := by omega
      generalize roomL l = rm at *
      clear hg hg2
      go_enter Tryd.func28, Tryd.ntmps28
      go_wp2_with (go_at_call 30; (refine HRC.out.mono ?_); rintro e W1 ⟨rfl, hb⟩; have HB1 := Lib.hid hb; clear hb)
      go_loopw [15] (fun i wr => ∃ k : Nat, k ≤ l.length ∧ i = .int .i64 k ∧ okTo l k = true ∧ Below w.heap.size w wr) (fun i _ => l.length - (intOf i).toNat)
      case atStart => exact ⟨0, Nat.zero_le _, rfl, rfl, HB1.out⟩
      case round =>
        rename World => wr
        obtain ⟨k, hk, rfl, hok, hb⟩ := hrel
        have HOK := Lib.hid hok
        have HB := Lib.hid hb
        clear hok hb HB1 p1 p2
        by_cases hlt : k < l.length
        · have q1 : (k : Int) < (l.length : Int) := by omega
          have hrr := HR.out
          obtain ⟨ad, rfl, hab, hat⟩ := hrr.open_ (by omega)
          have HAT := Lib.hid (hat.below HB.out hab)
          have HAB := Lib.hid (show ad.block < wr.heap.size from Nat.lt_of_lt_of_le hab HB.out.size)
          have HPA := Lib.hid (HAT.out.piece k hlt)
          have HPI := Lib.hid (pcLn (l.getD k pc0))
          have HPS := Lib.hid (pcInfo (l.getD k pc0))
          have HPC := Lib.hid (fun W => pcheck_c (l.getD k pc0) W (by have := HSZ.out k; omega))
          have HNO := Lib.hid (okTo_not l k l.length hlt)
          have HNX := Lib.hid (okTo_succ l k)
          have HO0 := Lib.hid (show k = 0 → okAt l k = ckP (l.getD k pc0) from fun h => by rw [h]; exact okAt_zero l)
          have HOJ := Lib.hid (show ∀ j, k = j + 1 → okAt l k = (ckP (l.getD k pc0) && okPair (l.getD j pc0) (l.getD k pc0)) from fun j h => by rw [h]; exact okAt_succ l j)
          clear hat hab hrr
          generalize l.getD k pc0 = p at *
          go_upto_region 6 with (first
            | (refine wpList_loadA rfl 81 (.tmp 18) rfl (ad.add (k * 5)) rfl (pcL p) _ HPA.out Tryd.underlying81 rfl HPI.out ?_)
            | (refine wpList_store_rowTo rfl 81 (.tmp 4) (.tmp 19) rfl rfl wr.heap.size (pcV p) rfl rfl 81 zPc (by exact Blk.new wr _ _) HPS.out rfl (pcV_one _) ?_))
          have hnr := new_rowP wr 81 zPc (pcV p)
          have HX := Lib.hid hnr.1
          have HXW := Lib.hid hnr.2
          generalize (wr.alloc (Obj.cells zPc 81)).setRow wr.heap.size (pcV p) = X at *
          clear hnr
          have HXT := Lib.hid (show Below w.heap.size w X from HB.out.trans (HXW.out.mono HB.out.size))
          by_cases hck : ckP p = true
          · have HPC1 := Lib.hid (show Calls Tryd.prog 37 #[.agg (pcV p)] X fun e w' => e = .returned (.int .i64 0) ∧ Below X.heap.size X w' from by have h := HPC.out X; rw [pcE_ok hck] at h; exact h)
            go_upto_region 8 with (first
              | (refine wpList_load_row rfl 81 (.tmp 4) rfl wr.heap.size rfl 81 (pcV p) (0, 0) _ HX.out Tryd.underlying81 rfl HPS.out ?_)
              | (go_at_call 37; (refine HPC1.out.mono ?_); rintro e W2 ⟨rfl, hb2⟩; have HX2 := Lib.hid (HX.out.below hb2 HX.out.lt); have HW2 := Lib.hid (HXW.out.trans (hb2.mono HXW.out.size)); clear hb2))
            have HT2 := Lib.hid (HB.out.trans (HW2.out.mono HB.out.size))
            have HAB2 := Lib.hid (show ad.block < W2.heap.size from Nat.lt_of_lt_of_le HAB.out HW2.out.size)
            rcases Nat.eq_zero_or_pos k with h0 | h0
            · have d0 : decide (0 < k) = false := decide_eq_false (by omega)
              have HOKN := Lib.hid (show okTo l (k + 1) = true by rw [HNX.out, HOK.out, HO0.out h0, hck]; rfl)
              clear h0 hck
              go_quiet (fail)
              have HBZ := Lib.hid (belowDrewN nq HT2.out)
              generalize W2.drewN nq = Y2 at *
              go_wp2_with fail
              go_roundw
              case rel => exact ⟨k + 1, by omega, by go_num, HOKN.out, HBZ.out⟩
              case measure => simp only [intOf]; omega
            · obtain ⟨j, hj⟩ : ∃ j, k = j + 1 := ⟨k - 1, by omega⟩
              have d0 : decide (0 < k) = true := decide_eq_true (by omega)
              have fj : IntKind.i64.wrap ((k : Int) - 1) = (j : Int) := by rw [IntWalk.i64_in _ (by omega)]; omega
              have hjl : (j : Int) < (l.length : Int) := by omega
              have hj0 : (0 : Int) ≤ (j : Int) := by omega
              have HQA := Lib.hid (((HAT.out.below HW2.out HAB.out)).piece j (by omega))
              have HQI := Lib.hid (pcLn (l.getD j pc0))
              have HLL := Lib.hid (fun W => less_c (l.getD j pc0) p W)
              have HOK2 := Lib.hid (show okAt l k = (lessP (l.getD j pc0) p && !(((l.getD j pc0).s.toList == p.s.toList) && ((l.getD j pc0).t == p.t))) by rw [HOJ.out j hj, hck, okPair_less]; rfl)
              clear hj h0 hck HOJ HO0
              generalize l.getD j pc0 = q at *
              have e0 := cell_ext (HQA.out.ser)
              have e1 := cell_ext (HQA.out.tim)
              have e2 := cell_ext (show W2.cell? ⟨wr.heap.size, 0, none⟩ = some (.string p.s) from (HX2.out.cell 0).trans rfl)
              have e3 := cell_ext (show W2.cell? ⟨wr.heap.size, 1, none⟩ = some (.int .i64 p.t) from (HX2.out.cell 1).trans rfl)
              rcases (show lessP q p = true ∨ lessP q p = false by cases lessP q p <;> simp) with hL | hL
              · rw [hL] at HLL HOK2
                have HLS := Lib.hid HLL.out
                clear hL HLL
                rcases (show (q.s.toList == p.s.toList) = true ∨ (q.s.toList == p.s.toList) = false by cases (q.s.toList == p.s.toList) <;> simp) with hS | hS
                · rcases (show (q.t == p.t) = true ∨ (q.t == p.t) = false by cases (q.t == p.t) <;> simp) with hT | hT
                  · have HBADN := Lib.hid (show r = 1 by rw [HRV.out, HNO.out (by rw [HOK2.out, hS, hT]; rfl)]; rfl)
                    refine wp_region_class (Ext.wd (w0 := W2)) (by kernel_rfl) (by kernel_rfl) (Ext.of (Below.refl _ _).drew) ?_
                    repeat (first
                      | go_big_quiet_skip
                      | (refine wpQuiet_loadA 81 (.tmp 29) rfl rfl (ad.add (j * 5)) rfl (pcL q) _ (fun w hw => by obtain ⟨x, rfl⟩ := hw; exact HQA.out.below x.bel (by rw [add_block]; exact HAB2.out)) Tryd.underlying81 rfl HQI.out _ (by simp only [Act.put, List.setIfInBounds_toArray, List.set_cons_succ, List.set_cons_zero]; rfl) ?_)
                      | (refine wpQuiet_loadA 81 (.tmp 4) rfl rfl ⟨wr.heap.size, 0, none⟩ rfl (pcL p) _ (fun w hw => by obtain ⟨x, rfl⟩ := hw; exact AtA.blk (HX2.out.below x.bel HX2.out.lt)) Tryd.underlying81 rfl HPI.out _ (by simp only [Act.put, List.setIfInBounds_toArray, List.set_cons_succ, List.set_cons_zero]; rfl) ?_)
                      | (go_big_quiet_step ((go_at_call 38; exact ext_call (HLS.out _)))))
                    refine wpQuiet_nil ?_
                    rintro _ ⟨z, rfl⟩
                    have HBZ := Lib.hid (HT2.out.trans (z.bel.mono HT2.out.size))
                    generalize z.wd = Y2 at *
                    go_wp2_with fail
                    go_ret
                    exact ⟨by rw [HBADN.out]; rfl, HBZ.out⟩
                  · have HOKN := Lib.hid (show okTo l (k + 1) = true by rw [HNX.out, HOK.out, HOK2.out, hS, hT]; rfl)
                    refine wp_region_class (Ext.wd (w0 := W2)) (by kernel_rfl) (by kernel_rfl) (Ext.of (Below.refl _ _).drew) ?_
                    repeat (first
                      | go_big_quiet_skip
                      | (refine wpQuiet_loadA 81 (.tmp 29) rfl rfl (ad.add (j * 5)) rfl (pcL q) _ (fun w hw => by obtain ⟨x, rfl⟩ := hw; exact HQA.out.below x.bel (by rw [add_block]; exact HAB2.out)) Tryd.underlying81 rfl HQI.out _ (by simp only [Act.put, List.setIfInBounds_toArray, List.set_cons_succ, List.set_cons_zero]; rfl) ?_)
                      | (refine wpQuiet_loadA 81 (.tmp 4) rfl rfl ⟨wr.heap.size, 0, none⟩ rfl (pcL p) _ (fun w hw => by obtain ⟨x, rfl⟩ := hw; exact AtA.blk (HX2.out.below x.bel HX2.out.lt)) Tryd.underlying81 rfl HPI.out _ (by simp only [Act.put, List.setIfInBounds_toArray, List.set_cons_succ, List.set_cons_zero]; rfl) ?_)
                      | (go_big_quiet_step ((go_at_call 38; exact ext_call (HLS.out _)))))
                    refine wpQuiet_nil ?_
                    rintro _ ⟨z, rfl⟩
                    have HBZ := Lib.hid (HT2.out.trans (z.bel.mono HT2.out.size))
                    generalize z.wd = Y2 at *
                    go_wp2_with fail
                    go_roundw
                    case rel => exact ⟨k + 1, by omega, by go_num, HOKN.out, HBZ.out⟩
                    case measure => simp only [intOf]; omega
                · have HOKN := Lib.hid (show okTo l (k + 1) = true by rw [HNX.out, HOK.out, HOK2.out, hS]; rfl)
                  refine wp_region_class (Ext.wd (w0 := W2)) (by kernel_rfl) (by kernel_rfl) (Ext.of (Below.refl _ _).drew) ?_
                  repeat (first
                    | go_big_quiet_skip
                    | (refine wpQuiet_loadA 81 (.tmp 29) rfl rfl (ad.add (j * 5)) rfl (pcL q) _ (fun w hw => by obtain ⟨x, rfl⟩ := hw; exact HQA.out.below x.bel (by rw [add_block]; exact HAB2.out)) Tryd.underlying81 rfl HQI.out _ (by simp only [Act.put, List.setIfInBounds_toArray, List.set_cons_succ, List.set_cons_zero]; rfl) ?_)
                    | (refine wpQuiet_loadA 81 (.tmp 4) rfl rfl ⟨wr.heap.size, 0, none⟩ rfl (pcL p) _ (fun w hw => by obtain ⟨x, rfl⟩ := hw; exact AtA.blk (HX2.out.below x.bel HX2.out.lt)) Tryd.underlying81 rfl HPI.out _ (by simp only [Act.put, List.setIfInBounds_toArray, List.set_cons_succ, List.set_cons_zero]; rfl) ?_)
                    | (go_big_quiet_step ((go_at_call 38; exact ext_call (HLS.out _)))))
                  refine wpQuiet_nil ?_
                  rintro _ ⟨z, rfl⟩
                  have HBZ := Lib.hid (HT2.out.trans (z.bel.mono HT2.out.size))
                  generalize z.wd = Y2 at *
                  go_wp2_with fail
                  go_roundw
                  case rel => exact ⟨k + 1, by omega, by go_num, HOKN.out, HBZ.out⟩
                  case measure => simp only [intOf]; omega
              · rw [hL] at HLL HOK2
                have HLS := Lib.hid HLL.out
                have HBADN := Lib.hid (show r = 1 by rw [HRV.out, HNO.out (by rw [HOK2.out]; rfl)]; rfl)
                clear hL HLL
                refine wp_region_class (Ext.wd (w0 := W2)) (by kernel_rfl) (by kernel_rfl) (Ext.of (Below.refl _ _).drew) ?_
                repeat (first
                  | go_big_quiet_skip
                  | (refine wpQuiet_loadA 81 (.tmp 29) rfl rfl (ad.add (j * 5)) rfl (pcL q) _ (fun w hw => by obtain ⟨x, rfl⟩ := hw; exact HQA.out.below x.bel (by rw [add_block]; exact HAB2.out)) Tryd.underlying81 rfl HQI.out _ (by simp only [Act.put, List.setIfInBounds_toArray, List.set_cons_succ, List.set_cons_zero]; rfl) ?_)
                  | (refine wpQuiet_loadA 81 (.tmp 4) rfl rfl ⟨wr.heap.size, 0, none⟩ rfl (pcL p) _ (fun w hw => by obtain ⟨x, rfl⟩ := hw; exact AtA.blk (HX2.out.below x.bel HX2.out.lt)) Tryd.underlying81 rfl HPI.out _ (by simp only [Act.put, List.setIfInBounds_toArray, List.set_cons_succ, List.set_cons_zero]; rfl) ?_)
                  | (go_big_quiet_step ((go_at_call 38; exact ext_call (HLS.out _)))))
                refine wpQuiet_nil ?_
                rintro _ ⟨z, rfl⟩
                have HBZ := Lib.hid (HT2.out.trans (z.bel.mono HT2.out.size))
                generalize z.wd = Y2 at *
                go_wp2_with fail
                go_ret
                exact ⟨by rw [HBADN.out]; rfl, HBZ.out⟩
          · have hck' : ckP p = false := by simpa using hck
            have HPC1 := Lib.hid (show Calls Tryd.prog 37 #[.agg (pcV p)] X fun e w' => e = .returned (.int .i64 1) ∧ Below X.heap.size X w' from by have h := HPC.out X; rw [pcE_bad hck'] at h; exact h)
            have HRV1 := Lib.hid (show r = 1 by
              rw [HRV.out, HNO.out (by
                rcases Nat.eq_zero_or_pos k with h | h
                · rw [HO0.out h, hck']
                · rw [HOJ.out (k - 1) (by omega), hck', Bool.false_and])]
              rfl)
            clear hck hck'
            go_wp2_with (first
              | (refine wpList_load_row rfl 81 (.tmp 4) rfl wr.heap.size rfl 81 (pcV p) (0, 0) _ HX.out Tryd.underlying81 rfl HPS.out ?_)
              | (go_at_call 37; (refine HPC1.out.mono ?_); rintro e W2 ⟨rfl, hb2⟩; have HW2 := Lib.hid (HXT.out.trans (hb2.mono HXT.out.size)); clear hb2))
            go_ret
            exact ⟨by rw [HRV1.out]; rfl, HW2.out⟩
        · obtain rfl : k = l.length := by omega
          have HRV1 := Lib.hid (show r = 0 by rw [HRV.out, HOK.out]; rfl)
          go_wp2_with fail
          go_ret
          exact ⟨by rw [HRV1.out]; rfl, HB.out⟩
end Go.Proofs.YtldjbbcfbjpfcaaDoor
/- Contracts: numbers laid and read. -/
namespace Go.Proofs.YtldjbbcfbjpfcaaDoor
set_option maxRecDepth 100000
open Go.RowKit
set_option linter.unusedVariables false
set_option linter.unusedSimpArgs false
set_option maxRecDepth 100000 in
set_option maxHeartbeats 400000 in
theorem clone_c (B : Nat) (A : Option Addr) (ca : Nat) (l : List Nat) (w : World) (hr : Rd w B A (byt l)) (h1 : l.length ≤ 100000000) :
    Calls Tryd.prog 15 #[.slice A l.length ca] w (Gives l w) := by
  obtain ⟨i0, hi, hz0, hz1, hz2⟩ := info_parts byteInfo
  have HR := Lib.hid hr
  clear hr
  cases A with
  | none =>
    have hq := fun (W : World) (n c : Nat) => Lib.run_eql_slice_nil (P := Tryd.prog) W 25 5 none n c 0 0 Tryd.underlying25
    simp only [Option.isNone_none] at hq
    obtain rfl : l = [] := by have := HR.out.none_nil; simpa [byt] using this
    go_enter Tryd.func15, Tryd.ntmps15
    go_wp2
    go_ret
    exact ⟨_, rfl, OwnB.nil_ _ _, Below.refl _ _⟩
  | some ad =>
    have hq := fun (W : World) (n c : Nat) => Lib.run_eql_slice_nil (P := Tryd.prog) W 25 5 (some ad) n c 0 0 Tryd.underlying25
    simp only [Option.isNone_some] at hq
    go_enter Tryd.func15, Tryd.ntmps15
    go_wp2_with (at_builtin; refine wpList_app _ rfl (.tmp 5) (.tmp 6) _ rfl w.heap.size 5 i0 (.int .u8 0) 1 1 Tryd.underlying25 hi hz0 hz1 hz2 rfl (by decide) _ 0 [] rfl (by exact OwnB.new _ _ [] (Nat.le_refl _) (by simp [maxLen])) B (some ad) l.length ca (byt l) rfl (by simp [byt_len]) (HR.out.ext ((Below.refl _ _).alloc (Nat.le_refl _) _)) (byt_one l) (by omega) (by omega) (by simp) ?_; intro v1 w1 hap)
    go_ret
    refine ⟨v1, rfl, ?_, ((Below.refl _ _).alloc (Nat.le_refl _) _).trans (hap.below (by exact OwnB.new _ _ [] (Nat.le_refl _) (by simp [maxLen])) (by simp))⟩
    have := hap.own
    simpa [OwnB] using this
theorem div_pow_succ (n k : Nat) : n / 256 ^ k / 256 = n / 256 ^ (k + 1) := by rw [Nat.div_div_eq_div_mul, ← Nat.pow_succ]
theorem div_pow_lt (n k : Nat) (h : n < 2 ^ 64) : n / 256 ^ k < 2 ^ 64 := Nat.lt_of_le_of_lt (Nat.div_le_self _ _) h
/-- what num.Put lays behind -/
def tailOf (n : Nat) (wd : Int) : List Nat := if 8 < wd then [] else form n wd.toNat
set_option maxRecDepth 100000 in
set_option maxHeartbeats 400000 in
theorem put_c (B : Nat) (A : Option Addr) (ca : Nat) (l : List Nat) (n : Nat) (wd : Int) (w : World) (hr : Rd w B A (byt l)) (hn : n < 2 ^ 64) (hw1 : -9223372036854775808 ≤ wd) (hw2 : wd ≤ 9223372036854775807) (h1 : l.length ≤ 10000000) :
    Calls Tryd.prog 17 #[.slice A l.length ca, .int .u64 n, .int .i64 wd] w (Gives (l ++ tailOf n wd) w) := by
  obtain ⟨i0, hi, hz0, hz1, hz2⟩ := info_parts byteInfo
  have HR := Lib.hid hr
  clear hr
  go_enter Tryd.func17, Tryd.ntmps17
  go_wp2_with fail
  refine (clone_c B A ca l _ HR.out (by omega)).mono ?_
  rintro e w1 ⟨v, rfl, ho, hb⟩
  have HO := Lib.hid ho
  have HB := Lib.hid hb
  clear ho hb
  by_cases h8 : 8 < wd
  · have HT := Lib.hid (show l ++ tailOf n wd = l by simp [tailOf, h8])
    go_wp2
    go_ret
    rw [HT.out]
    exact ⟨_, rfl, HO.out, HB.out⟩
  · have HT := Lib.hid (show tailOf n wd = form n wd.toNat by simp [tailOf, h8])
    have hdec : decide (8 < wd) = false := decide_eq_false h8
    go_wp2
    obtain ⟨m, hm⟩ : ∃ m : Nat, m = wd.toNat := ⟨_, rfl⟩
    have hm8 : m ≤ 8 := by omega
    go_loopw [1, 7, 14] (fun N u i wr => ∃ j : Nat, j ≤ m ∧ i = .int .i64 j ∧ N = .int .u64 (n / 256 ^ j : Nat) ∧ OwnB wr w.heap.size u (l ++ form n j) ∧ Below w.heap.size w wr) (fun _ _ i _ => m - (intOf i).toNat)
    case atStart => exact ⟨0, Nat.zero_le _, rfl, by simp, by simpa [form] using HO.out, HB.out⟩
    case round =>
      rename_i wr
      obtain ⟨j, hj, rfl, rfl, ho, hb⟩ := hrel
      have HO2 := Lib.hid ho
      have HB2 := Lib.hid hb
      have hnl := div_pow_lt n j hn
      have HF := Lib.hid (form_succ n j)
      have HD := Lib.hid (div_pow_succ n j)
      have hlen : (l ++ form n j).length ≤ 10000010 := by rw [List.length_append, form_len]; omega
      have HLen := Lib.hid hlen
      have HM := Lib.hid hm
      have HE := Lib.hid (show ((n / 256 ^ j : Nat) : Int) % 256 = ((n / 256 ^ j % 256 : Nat) : Int) by omega)
      have hjw : ((j : Int) < wd) ∨ ¬ ((j : Int) < wd) := by omega
      clear ho hb hm hlen
      generalize n / 256 ^ j = q at *
      rcases hjw with hlt | hge
      · go_wp2_with (at_builtin; refine wpList_app _ rfl (.tmp 16) (.tmp 19) _ rfl w.heap.size 5 i0 (.int .u8 0) 1 1 Tryd.underlying25 hi hz0 hz1 hz2 rfl (by decide) _ _ _ rfl (HO2.out.alloc _) _ _ 1 1 [.int .u8 (q % 256 : Nat)] rfl rfl (by exact rd_one _ _ _) (byt_one [q % 256]) (by have := HLen.out; omega) (by have := HLen.out; omega) (by have := HB2.out.size; simp; omega) ?_; intro v1 w2 hap)
        go_roundw
        case rel =>
          go_light
          refine ⟨j + 1, by have := HM.out; omega, by go_num, by rw [← HD.out]; go_num, ?_, (HB2.out.alloc HB2.out.size _).trans (hap.below (HO2.out.alloc _) (by have := HB2.out.size; simp; omega))⟩
          rw [HF.out, ← List.append_assoc]
          exact OwnB.snoc hap
        case measure => have := HM.out; simp [intOf]; omega
      · go_wp2
        go_ret
        have hjm : j = wd.toNat := by have := HM.out; omega
        rw [HT.out, ← hjm]
        exact ⟨_, rfl, HO2.out, HB2.out⟩
/-- num.Get's error -/
def getErr (len : Nat) (wd : Int) : Int := if wd < 1 ∨ 8 < wd then 1 else if (len : Int) < wd then 2 else 0
def getNum (l : List Nat) (wd : Int) : Nat := if getErr l.length wd = 0 then number (l.take wd.toNat) else 0
theorem or_low (a c : Nat) (ha : a < 72057594037927936) (hc : c < 256) : Go.bits BinOp.or IntKind.u64 ((a : Int) * 256) (c : Int) = ((a * 256 + c : Nat) : Int) := by
  have e : (a : Int) * 256 = ((a * 256 : Nat) : Int) := by omega
  rw [e, u64_or_nat _ _ (by omega) (by omega), show a * 256 = 2 ^ 8 * a by omega, Nat.two_pow_add_eq_or_of_lt (i := 8) hc a]
set_option maxRecDepth 100000 in
set_option maxHeartbeats 400000 in
theorem get_c (B : Nat) (A : Option Addr) (ca : Nat) (l : List Nat) (wd : Int) (w : World) (hr : Rd w B A (byt l)) (hl : ∀ c ∈ l, c < 256) (_hlen : l.length ≤ 1000000000) (hw1 : -9223372036854775808 ≤ wd) (hw2 : wd ≤ 9223372036854775807) :
    Calls Tryd.prog 20 #[.slice A l.length ca, .int .i64 wd] w fun e w' => e = .returned (.tuple #[.int .u64 (getNum l wd : Nat), .int .i64 (getErr l.length wd)]) ∧ w = w' := by
  have HR := Lib.hid hr
  have HL := Lib.hid hl
  clear hr hl
  by_cases h1 : wd < 1 ∨ 8 < wd
  · have he : getErr l.length wd = 1 := by simp [getErr, h1]
    have hg : getNum l wd = 0 := by simp [getNum, he]
    rw [he, hg]
    rcases h1 with h1 | h1
    · generalize l.length = n at *
      go_enter Tryd.func20, Tryd.ntmps20
      go_wp2
      go_ret2
      exact ⟨rfl, rfl⟩
    · have h2 : ¬ wd < 1 := by omega
      generalize l.length = n at *
      go_enter Tryd.func20, Tryd.ntmps20
      go_wp2
      go_ret2
      exact ⟨rfl, rfl⟩
  · have h2 : 1 ≤ wd := by omega
    have h3 : wd ≤ 8 := by omega
    by_cases h4 : (l.length : Int) < wd
    · have he : getErr l.length wd = 2 := by simp [getErr, h1, h4]
      have hg : getNum l wd = 0 := by simp [getNum, he]
      rw [he, hg]
      clear h1 he hg
      generalize l.length = n at *
      go_enter Tryd.func20, Tryd.ntmps20
      go_wp2
      go_ret2
      exact ⟨rfl, rfl⟩
    · have he : getErr l.length wd = 0 := by simp [getErr, h1, h4]
      have hg := Lib.hid (show getNum l wd = number (l.take wd.toNat) by simp [getNum, he])
      rw [he]
      obtain ⟨d, rfl⟩ := Int.eq_ofNat_of_zero_le (show 0 ≤ wd by omega)
      rw [Int.toNat_natCast] at hg
      have hdl : d ≤ l.length := by omega
      have htl := Lib.hid (show (l.take d).length = d by rw [List.length_take]; omega)
      have HTL := Lib.hid (fun c (hc : c ∈ l.take d) => HL.out c (List.mem_of_mem_take hc))
      have h5 : (d : Int) ≤ (l.length : Int) := by omega
      clear he h1
      go_enter Tryd.func20, Tryd.ntmps20
      go_wp2
      go_loop [6, 7] (fun v i => ∃ k : Nat, k ≤ d ∧ i = .int .i64 ((k : Int) - 1) ∧ v = .int .u64 (number ((l.take d).drop k) : Nat)) (fun _ i => (intOf i + 1).toNat)
      case atStart => exact ⟨d, Nat.le_refl _, rfl, by have := htl.out; rw [List.drop_of_length_le (by omega)]; rfl⟩
      case round =>
        obtain ⟨k, hk, rfl, rfl⟩ := hrel
        cases k with
        | zero =>
          rw [show (((0 : Nat) : Int) - 1) = -1 from rfl]
          go_wp2
          go_ret2
          rw [hg.out]
          exact ⟨rfl, rfl⟩
        | succ j =>
          rw [show (((j + 1 : Nat) : Int) - 1) = (j : Int) from by omega]
          have hj : j < (l.take d).length := by have := htl.out; omega
          obtain ⟨ad, rfl, hb, hc⟩ := HR.out.byte (show j < l.length by omega)
          have hlt := getD_lt HL.out j
          have hgd : (l.take d).getD j 0 = l.getD j 0 := by
            rw [List.getD_eq_getElem?_getD, List.getD_eq_getElem?_getD, List.getElem?_take_of_lt (by omega)]
          have HST := Lib.hid (number_drop hj)
          rw [hgd] at HST
          have hnum : number ((l.take d).drop (j + 1)) < 256 ^ 7 := Nat.lt_of_lt_of_le (number_lt _ (drop_lt HTL.out _)) (Nat.pow_le_pow_right (by decide) (by rw [List.length_drop]; have := htl.out; omega))
          have hnum2 : number ((l.take d).drop (j + 1)) < 72057594037927936 := hnum
          clear hj hnum hgd
          generalize number ((l.take d).drop (j + 1)) = v at *
          generalize l.getD j 0 = c at *
          have hor := or_low v c hnum2 hlt
          have HOR := Lib.hid hor
          clear hor
          go_wp2
          go_round
          case rel => exact ⟨j, by omega, rfl, by rw [HST.out, HOR.out]⟩
          case measure => simp [intOf]
end Go.Proofs.YtldjbbcfbjpfcaaDoor
/- Contracts: short forms, zigzags. -/
namespace Go.Proofs.YtldjbbcfbjpfcaaDoor
set_option maxRecDepth 100000
open Go.RowKit
set_option linter.unusedVariables false
set_option linter.unusedSimpArgs false
/-- the first j bytes of a short form that goes on -/
def shortTo (n j : Nat) : List Nat := (List.range j).map fun i => n / 128 ^ i % 128 + 128
theorem shortTo_succ (n j : Nat) : shortTo n (j + 1) = shortTo n j ++ [n / 128 ^ j % 128 + 128] := by simp [shortTo, List.range_succ]
theorem shortTo_len (n j : Nat) : (shortTo n j).length = j := by simp [shortTo]
def ShortGives (l : List Nat) (n : Nat) (w : World) (e : Ending) (w' : World) : Prop :=
  ∃ j, (∀ i, i < j → 128 ≤ n / 128 ^ i) ∧ n / 128 ^ j < 128 ∧ Gives (l ++ shortTo n j ++ [n / 128 ^ j]) w e w'
theorem or128 (x : Nat) : Go.bits BinOp.or IntKind.u8 ((x : Int) % 256) 128 = ((x % 128 + 128 : Nat) : Int) := by
  have h : ∀ y, y < 256 → Go.bits BinOp.or IntKind.u8 ((y : Nat) : Int) 128 = ((y % 128 + 128 : Nat) : Int) := by decide +kernel
  have := h (x % 256) (Nat.mod_lt _ (by decide))
  rw [show ((x % 256 : Nat) : Int) = (x : Int) % 256 by omega, show x % 256 % 128 = x % 128 by omega] at this
  exact this
theorem div128_succ (n k : Nat) : n / 128 ^ k / 128 = n / 128 ^ (k + 1) := by rw [Nat.div_div_eq_div_mul, ← Nat.pow_succ]
theorem short_bound (n j : Nat) (hn : n < 2 ^ 64) (h : ∀ i, i < j → 128 ≤ n / 128 ^ i) : j ≤ 9 := by
  rcases Nat.lt_or_ge 9 j with hj | hj
  · have h9 := h 9 hj
    have : n / 128 ^ 9 < 128 := by
      rw [Nat.div_lt_iff_lt_mul (by decide)]
      exact Nat.lt_of_lt_of_le hn (by decide)
    omega
  · exact hj
set_option maxRecDepth 100000 in
set_option maxHeartbeats 400000 in
theorem putShort_c (B : Nat) (A : Option Addr) (ca : Nat) (l : List Nat) (n : Nat) (w : World) (hr : Rd w B A (byt l)) (hn : n < 2 ^ 64) (h1 : l.length ≤ 10000000) :
    Calls Tryd.prog 16 #[.slice A l.length ca, .int .u64 n] w (ShortGives l n w) := by
  obtain ⟨i0, hi, hz0, hz1, hz2⟩ := info_parts byteInfo
  have HR := Lib.hid hr
  clear hr
  go_enter Tryd.func16, Tryd.ntmps16
  go_wp2_with fail
  refine (clone_c B A ca l _ HR.out (by omega)).mono ?_
  rintro e w1 ⟨v, rfl, ho, hb⟩
  have HO := Lib.hid ho
  have HB := Lib.hid hb
  clear ho hb
  go_wp2
  go_loopw [1, 5] (fun N u wr => ∃ j : Nat, N = .int .u64 (n / 128 ^ j : Nat) ∧ (∀ i, i < j → 128 ≤ n / 128 ^ i) ∧ OwnB wr w.heap.size u (l ++ shortTo n j) ∧ Below w.heap.size w wr) (fun N _ _ => (intOf N).toNat)
  case atStart => exact ⟨0, by simp, by simp, by simpa [shortTo] using HO.out, HB.out⟩
  case round =>
    rename_i wr
    obtain ⟨j, rfl, hge, ho, hb⟩ := hrel
    have hj9 := short_bound n j hn hge
    have HG := Lib.hid hge
    have HO2 := Lib.hid ho
    have HB2 := Lib.hid hb
    have hnl : n / 128 ^ j < 2 ^ 64 := Nat.lt_of_le_of_lt (Nat.div_le_self _ _) hn
    have HF := Lib.hid (shortTo_succ n j)
    have HD := Lib.hid (div128_succ n j)
    have hor := or128 (n / 128 ^ j)
    have hlen : (l ++ shortTo n j).length ≤ 10000009 := by rw [List.length_append, shortTo_len]; omega
    have HLen := Lib.hid hlen
    clear ho hb hge hlen
    generalize hq : n / 128 ^ j = q at *
    have HQ := Lib.hid hq
    clear hq
    by_cases hlt : 128 ≤ q
    · have HLT := Lib.hid hlt
      go_wp2_with (at_builtin; refine wpList_app _ rfl (.tmp 12) (.tmp 16) _ rfl w.heap.size 5 i0 (.int .u8 0) 1 1 Tryd.underlying25 hi hz0 hz1 hz2 rfl (by decide) _ _ _ rfl (HO2.out.alloc _) _ _ 1 1 [.int .u8 (q % 128 + 128 : Nat)] rfl rfl (by exact rd_one _ _ _) (byt_one [q % 128 + 128]) (by have := HLen.out; omega) (by have := HLen.out; omega) (by have := HB2.out.size; simp; omega) ?_; intro v1 w2 hap)
      go_roundw
      case rel =>
        go_light
        refine ⟨j + 1, by rw [← HD.out]; go_num, fun i hi => ?_, ?_, (HB2.out.alloc HB2.out.size _).trans (hap.below (HO2.out.alloc _) (by have := HB2.out.size; simp; omega))⟩
        · rcases Nat.lt_or_ge i j with h | h
          · exact HG.out i h
          · rw [show i = j by omega, HQ.out]; exact HLT.out
        · rw [HF.out, ← List.append_assoc]
          exact OwnB.snoc hap
      case measure => simp [intOf]; omega
    · go_wp2_with (at_builtin; refine wpList_app _ rfl (.tmp 18) (.tmp 21) _ rfl w.heap.size 5 i0 (.int .u8 0) 1 1 Tryd.underlying25 hi hz0 hz1 hz2 rfl (by decide) _ _ _ rfl (HO2.out.alloc _) _ _ 1 1 [.int .u8 (q : Nat)] rfl rfl (by exact rd_one _ _ _) (byt_one [q]) (by have := HLen.out; omega) (by have := HLen.out; omega) (by have := HB2.out.size; simp; omega) ?_; intro v1 w2 hap)
      go_ret
      refine ⟨j, HG.out, by rw [HQ.out]; omega, v1, rfl, ?_, (HB2.out.alloc HB2.out.size _).trans (hap.below (HO2.out.alloc _) (by have := HB2.out.size; simp; omega))⟩
      rw [HQ.out]
      exact OwnB.snoc hap
theorem sh_shortTo (n : Nat) : ∀ j, (∀ i, i < j → 128 ≤ n / 128 ^ i) → n / 128 ^ j < 128 → shortTo n j ++ [n / 128 ^ j] = sh n := by
  induction n using Nat.strongRecOn with
  | ind n ih =>
    intro j h1 h2
    cases j with
    | zero =>
      rw [sh, dif_pos (by simpa using h2)]
      simp [shortTo]
    | succ j =>
      have h0 : 128 ≤ n := by simpa using h1 0 (by omega)
      rw [sh, dif_neg (by omega)]
      have e := ih (n / 128) (by omega) j (fun i hi => by have := h1 (i + 1) (by omega); rwa [Nat.pow_succ, Nat.mul_comm, ← Nat.div_div_eq_div_mul] at this) (by rwa [Nat.pow_succ, Nat.mul_comm, ← Nat.div_div_eq_div_mul] at h2)
      rw [← e, Nat.pow_succ, Nat.mul_comm, ← Nat.div_div_eq_div_mul]
      unfold shortTo
      rw [List.range_succ_eq_map, List.map_cons, List.map_map]
      simp only [Nat.pow_zero, Nat.div_one, List.cons_append, List.cons.injEq, true_and]
      congr 1
      apply List.map_congr_left
      intro i _
      simp only [Function.comp, Nat.succ_eq_add_one]
      rw [Nat.pow_succ, Nat.mul_comm, ← Nat.div_div_eq_div_mul]
theorem putSh_c (B : Nat) (A : Option Addr) (ca : Nat) (l : List Nat) (n : Nat) (w : World) (hr : Rd w B A (byt l)) (hn : n < 2 ^ 64) (h1 : l.length ≤ 10000000) :
    Calls Tryd.prog 16 #[.slice A l.length ca, .int .u64 n] w (Gives (l ++ sh n) w) := by
  refine (putShort_c B A ca l n w hr hn h1).mono ?_
  rintro e w' ⟨j, h2, h3, hg⟩
  rw [List.append_assoc, sh_shortTo n j h2 h3] at hg
  exact hg
end Go.Proofs.YtldjbbcfbjpfcaaDoor
/- Contracts: zigzags. -/
namespace Go.Proofs.YtldjbbcfbjpfcaaDoor
set_option maxRecDepth 100000
open Go.RowKit
set_option linter.unusedVariables false
set_option linter.unusedSimpArgs false
theorem wrapU (x : Int) : IntKind.u64.wrap x = x % 18446744073709551616 := by simp [IntKind.wrap, IntKind.signed, IntKind.bits]
theorem xor_ones (a : Nat) (ha : a < 18446744073709551616) : a ^^^ 18446744073709551615 = 18446744073709551615 - a := by
  have h := BitVec.xor_allOnes (x := BitVec.ofNat 64 a)
  have h2 := congrArg BitVec.toNat h
  rw [BitVec.toNat_xor, BitVec.toNat_not, BitVec.toNat_ofNat, BitVec.toNat_allOnes, Nat.mod_eq_of_lt (by simpa using ha)] at h2
  simpa using h2
theorem zig_pos (n : Int) (h0 : 0 ≤ n) (h1 : n ≤ 9223372036854775807) : bits BinOp.xor IntKind.u64 (n * 2) (n / 9223372036854775808) = (zig n : Nat) := by
  rw [u64_xor _ _ (by omega) (by omega) (by omega) (by omega), show (n / 9223372036854775808).toNat = 0 by omega, Nat.xor_zero]
  unfold zig
  rw [if_pos h0]
  congr 2
  omega
theorem zig_neg (n : Int) (h0 : n < 0) (h1 : -9223372036854775808 ≤ n) : bits BinOp.xor IntKind.u64 (IntKind.u64.wrap (IntKind.u64.wrap n * 2)) (IntKind.u64.wrap (n / 9223372036854775808)) = (zig n : Nat) := by
  have e1 : IntKind.u64.wrap (IntKind.u64.wrap n * 2) = n * 2 + 18446744073709551616 := by
    rw [wrapU, wrapU]
    omega
  have e2 : IntKind.u64.wrap (n / 9223372036854775808) = 18446744073709551615 := by
    rw [show n / 9223372036854775808 = -1 by omega]
    rfl
  rw [e1, e2, u64_xor _ _ (by omega) (by omega) (by omega) (by omega), show (18446744073709551615 : Int).toNat = 18446744073709551615 from rfl, xor_ones _ (by omega)]
  unfold zig
  rw [if_neg (by omega)]
  congr 1
  omega
theorem zag_even (n : Nat) (h : n % 2 = 0) (h1 : n < 18446744073709551616) : bits BinOp.xor IntKind.i64 ((n : Int) / 2) (wrap64 (-wrap64 (bits BinOp.and IntKind.u64 (n : Int) 1))) = zag n := by
  have e : bits BinOp.and IntKind.u64 (n : Int) 1 = 0 := by
    have h2 := u64_and_nat n 1 h1 (by decide)
    rw [show ((1 : Nat) : Int) = 1 from rfl] at h2
    rw [h2, Nat.and_one_is_mod, h]
    rfl
  rw [e]
  unfold zag
  rw [if_pos h]
  rw [show wrap64 (-wrap64 0) = 0 by simp [wrap64]]
  obtain ⟨m, hm⟩ : ∃ m : Nat, m = n / 2 := ⟨_, rfl⟩
  rw [show (n : Int) / 2 = (m : Int) by omega, ← hm]
  show IntKind.i64.wrap ((BitVec.ofInt 64 (m : Int) ^^^ BitVec.ofInt 64 0).toNat : Nat) = _
  rw [show BitVec.ofInt 64 0 = 0#64 from rfl, BitVec.xor_zero, BitVec.toNat_ofInt, IntKind.wrap_i64]
  omega
theorem zag_odd (n : Nat) (h : n % 2 = 1) (h1 : n < 18446744073709551616) : bits BinOp.xor IntKind.i64 ((n : Int) / 2) (wrap64 (-wrap64 (bits BinOp.and IntKind.u64 (n : Int) 1))) = zag n := by
  have e : bits BinOp.and IntKind.u64 (n : Int) 1 = 1 := by
    have h2 := u64_and_nat n 1 h1 (by decide)
    rw [show ((1 : Nat) : Int) = 1 from rfl] at h2
    rw [h2, Nat.and_one_is_mod, h]
    rfl
  rw [e]
  unfold zag
  rw [if_neg (by omega)]
  rw [show wrap64 (-wrap64 1) = -1 by simp [wrap64]]
  obtain ⟨m, hm⟩ : ∃ m : Nat, m = n / 2 := ⟨_, rfl⟩
  rw [show (n : Int) / 2 = (m : Int) by omega, ← hm]
  show IntKind.i64.wrap ((BitVec.ofInt 64 (m : Int) ^^^ BitVec.ofInt 64 (-1)).toNat : Nat) = _
  rw [show BitVec.ofInt 64 (-1) = BitVec.allOnes 64 from rfl, BitVec.xor_allOnes, BitVec.toNat_not, BitVec.toNat_ofInt, IntKind.wrap_i64]
  omega
theorem rzig_neg (n : Int) (h0 : n < 0) (h1 : -9223372036854775808 ≤ n) : IntKind.u64.wrap (IntKind.u64.wrap (IntKind.u64.wrap (-IntKind.u64.wrap n) * 2) - 1) = (zig n : Nat) := by
  unfold zig
  rw [if_neg (by omega)]
  rw [wrapU, wrapU, wrapU, wrapU]
  omega
theorem zig_c (n : Int) (w : World) (h0 : -9223372036854775808 ≤ n) (h1 : n ≤ 9223372036854775807) :
    Calls Tryd.prog 49 #[.int .i64 n] w fun e w' => e = .returned (.int .u64 (zig n : Nat)) ∧ w = w' := by
  rcases (show 0 ≤ n ∨ n < 0 by omega) with hn | hn
  · go_enter Tryd.func49, Tryd.ntmps49
    go_wp2
    go_ret
    exact ⟨by rw [← zig_pos n hn h1]; rfl, rfl⟩
  · go_enter Tryd.func49, Tryd.ntmps49
    go_wp2
    go_ret
    exact ⟨by rw [← zig_neg n hn h0]; rfl, rfl⟩
theorem zag_c (n : Nat) (w : World) (h1 : n < 18446744073709551616) :
    Calls Tryd.prog 45 #[.int .u64 n] w fun e w' => e = .returned (.int .i64 (zag n)) ∧ w = w' := by
  go_enter Tryd.func45, Tryd.ntmps45
  go_wp2
  go_ret
  rcases (show n % 2 = 0 ∨ n % 2 = 1 by omega) with h | h
  · exact ⟨by rw [← zag_even n h h1]; rfl, rfl⟩
  · exact ⟨by rw [← zag_odd n h h1]; rfl, rfl⟩
end Go.Proofs.YtldjbbcfbjpfcaaDoor
/- Contract: short forms, by the document. -/
namespace Go.Proofs.YtldjbbcfbjpfcaaDoor
set_option maxRecDepth 100000
open Go.RowKit
set_option linter.unusedVariables false
set_option linter.unusedSimpArgs false
end Go.Proofs.YtldjbbcfbjpfcaaDoor
/- Contract: a short form that is read. -/
namespace Go.Proofs.YtldjbbcfbjpfcaaDoor
set_option maxRecDepth 100000
open Go.RowKit
set_option linter.unusedVariables false
set_option linter.unusedSimpArgs false
theorem rd_cellP {w : World} {B : Nat} {ad : Addr} {l : List Nat} (h : Rd w B (some ad) (byt l)) (i : Nat) (hi : i < l.length) : w.cell? (ad.add i) = some (.int .u8 (l.getD i 0 : Nat)) := by
  obtain ⟨a1, e1, _, hc⟩ := h.byte hi
  injection e1 with e1
  subst e1
  exact hc
set_option maxRecDepth 100000 in
set_option maxHeartbeats 2000000 in
theorem getShort_c (B : Nat) (A : Option Addr) (ca : Nat) (l : List Nat) (w : World) (hr : Rd w B A (byt l)) (hl : ∀ c ∈ l, c < 256) (h1 : l.length ≤ 10000000) :
    Calls Tryd.prog 27 #[.slice A l.length ca] w fun e w' => e = .returned (.tuple #[.int .u64 ((gsF 0 0 l).1 : Nat), .int .i64 ((gsF 0 0 l).2.1 : Nat), .int .i64 ((gsF 0 0 l).2.2 : Nat)]) ∧ w = w' := by
  have HR := Lib.hid hr
  have HL := Lib.hid hl
  obtain ⟨R, hR⟩ : ∃ R, R = gsF 0 0 l := ⟨_, rfl⟩
  rw [← hR]
  have HRR := Lib.hid hR
  clear hr hl hR
  go_enter Tryd.func27, Tryd.ntmps27
  go_wp2
  go_loop [2, 9] (fun n i => ∃ k acc : Nat, k ≤ l.length ∧ k ≤ 9 ∧ i = .int .i64 k ∧ n = .int .u64 (acc : Nat) ∧ acc < 128 ^ k ∧ R = gsF k acc (l.drop k)) (fun _ i => l.length - (intOf i).toNat)
  case atStart => exact ⟨0, 0, Nat.zero_le _, by omega, rfl, rfl, by decide, HRR.out⟩
  case round =>
    obtain ⟨k, acc, hk, hk9, rfl, rfl, hacc, hg⟩ := hrel
    have HG := Lib.hid hg
    have HA := Lib.hid hacc
    clear hg hacc
    by_cases hlt : k < l.length
    · have p1 : (k : Int) < (l.length : Int) := by omega
      have hrr := HR.out
      obtain ⟨ad, rfl, _, _⟩ := hrr.byte (k := k) hlt
      have e0 := rd_cellP HR.out k hlt
      have hc := getD_lt HL.out k
      have HGD := Lib.hid (show R = gsF k acc (l.getD k 0 :: l.drop (k + 1)) by
        rw [HG.out, List.drop_eq_getElem_cons hlt]
        simp [List.getD_eq_getElem?_getD, hlt])
      clear hrr
      generalize l.getD k 0 = c at *
      obtain ⟨x, hx⟩ : ∃ x, x = c % 128 := ⟨_, rfl⟩
      have hx1 : x < 128 := by omega
      obtain ⟨y, hy⟩ : ∃ y, y = x * 128 ^ k := ⟨_, rfl⟩
      by_cases h9 : k = 9 ∧ 1 < c
      · have t9 : ((k : Int) == 9) = true := by rw [beq_iff_eq]; omega
        have tc : decide ((1 : Int) < (c : Int)) = true := decide_eq_true (by omega)
        have HRV := Lib.hid (show R = (0, 0, 4) by rw [HGD.out, gsF, if_pos h9])
        clear h9 hy hx
        go_wp2
        refine bodyPost_ret (results_tmp3 rfl _ _ _) rfl ?_
        exact ⟨by rw [HRV.out]; rfl, rfl⟩
      · have hyb : y < 18446744073709551616 := by
          rcases Nat.lt_or_ge k 9 with h | h
          · have h2 : x * 128 ^ k ≤ 127 * 128 ^ 8 := Nat.mul_le_mul (by omega) (Nat.pow_le_pow_right (by decide) (by omega))
            omega
          · have e : k = 9 := by omega
            have hc1 : x ≤ 1 := by
              rcases Nat.lt_or_ge 1 c with h1 | h1
              · exact absurd ⟨e, h1⟩ h9
              · omega
            have h2 : x * 128 ^ k ≤ 1 * 128 ^ 9 := by rw [e]; exact Nat.mul_le_mul_right _ hc1
            omega
        have hor : acc ||| y = acc + y := by
          have h2 : (128 : Nat) ^ k = 2 ^ (7 * k) := by rw [Nat.pow_mul]
          have h3 := Nat.two_pow_add_eq_or_of_lt (i := 7 * k) (b := acc) (by rw [← h2]; exact HA.out) x
          rw [← h2] at h3
          rw [hy, Nat.or_comm, Nat.mul_comm x, ← h3, Nat.add_comm]
        have hab : acc < 18446744073709551616 := Nat.lt_of_lt_of_le HA.out (Nat.le_trans (Nat.pow_le_pow_right (by decide) hk9) (by decide))
        have f1 : bits BinOp.and IntKind.u8 (c : Int) 127 = (x : Int) := by
          have h2 := u8_and_nat c 127 hc (by decide)
          rw [show ((127 : Nat) : Int) = 127 from rfl] at h2
          rw [h2, hx, show 127 = 2 ^ 7 - 1 from rfl, Nat.and_two_pow_sub_one_eq_mod]
        have f2 : IntKind.u64.wrap (x : Int) = (x : Int) := by rw [IntKind.wrap_u64]; omega
        have f3 : IntKind.u64.wrap ((x : Int) * 2 ^ (7 * k)) = (y : Int) := by
          rw [show (x : Int) * 2 ^ (7 * k) = (y : Int) by rw [hy, Int.natCast_mul, Int.natCast_pow, Int.pow_mul]; rfl, IntKind.wrap_u64]
          omega
        have f4 : bits BinOp.or IntKind.u64 (acc : Int) (y : Int) = ((acc + y : Nat) : Int) := by rw [u64_or_nat _ _ hab hyb, hor]
        have t9 : (((k : Int) == 9) && decide ((1 : Int) < (c : Int))) = false := by
          rw [Bool.and_eq_false_iff, beq_eq_false_iff_ne, decide_eq_false_iff_not]
          by_cases h : k = 9
          · exact .inr (fun h1 => h9 ⟨h, by omega⟩)
          · exact .inl (by omega)
        have HGE := Lib.hid (show R = if 128 ≤ c then gsF (k + 1) (acc + y) (l.drop (k + 1)) else if c = 0 ∧ 0 < k then (0, 0, 4) else (acc + y, k + 1, 0) by rw [HGD.out, gsF, if_neg h9, hy, hx])
        have HAN := Lib.hid (show acc + y < 128 ^ (k + 1) by
          have h2 : (x + 1) * 128 ^ k ≤ 128 * 128 ^ k := Nat.mul_le_mul_right _ hx1
          rw [Nat.add_mul, Nat.one_mul, ← hy] at h2
          rw [Nat.pow_succ, Nat.mul_comm (128 ^ k)]
          have := HA.out
          omega)
        have HX9 := Lib.hid h9
        clear hor hyb hab hy hx HGD h9
        rcases (show k = 9 ∨ k ≠ 9 by omega) with hk9' | hk9'
        · have u9 : ((k : Int) == 9) = true := by rw [beq_iff_eq]; omega
          have hc1 : ¬ 1 < c := fun h => HX9.out ⟨hk9', h⟩
          have uc : decide ((1 : Int) < (c : Int)) = false := decide_eq_false (by omega)
          have u128 : decide ((128 : Int) ≤ (c : Int)) = false := decide_eq_false (by omega)
          have uk : decide (0 < k) = true := decide_eq_true (by omega)
          by_cases hc0 : c = 0
          · have HRV := Lib.hid (show R = (0, 0, 4) by rw [HGE.out, if_neg (by omega), if_pos ⟨hc0, by omega⟩])
            have u0 : ((c : Int) == 0) = true := by rw [beq_iff_eq]; omega
            clear hc0 hc1 hk9' t9
            go_wp2
            refine bodyPost_ret (results_tmp3 rfl _ _ _) rfl ?_
            exact ⟨by rw [HRV.out]; rfl, rfl⟩
          · have HRV := Lib.hid (show R = (acc + y, k + 1, 0) by rw [HGE.out, if_neg (by omega), if_neg (by omega)])
            have u0 : ((c : Int) == 0) = false := by rw [beq_eq_false_iff_ne]; omega
            clear hc0 hc1 hk9' t9
            go_wp2
            refine bodyPost_ret (results_tmp3 rfl _ _ _) rfl ?_
            exact ⟨by rw [HRV.out]; rfl, rfl⟩
        · have u9 : ((k : Int) == 9) = false := by rw [beq_eq_false_iff_ne]; omega
          by_cases h128 : 128 ≤ c
          · have u128 : decide ((128 : Int) ≤ (c : Int)) = true := decide_eq_true (by omega)
            have HRV := Lib.hid (show R = gsF (k + 1) (acc + y) (l.drop (k + 1)) by rw [HGE.out, if_pos h128])
            clear h128 t9
            have hk8 : k + 1 ≤ 9 := by omega
            clear hk9'
            go_wp2
            go_round
            case rel => exact ⟨k + 1, acc + y, by omega, hk8, by go_num, rfl, HAN.out, HRV.out⟩
            case measure => simp [intOf]; omega
          · have u128 : decide ((128 : Int) ≤ (c : Int)) = false := decide_eq_false (by omega)
            by_cases hc0 : c = 0
            · have u0 : ((c : Int) == 0) = true := by rw [beq_iff_eq]; omega
              by_cases hk0 : 0 < k
              · have uk : decide (0 < k) = true := decide_eq_true hk0
                have HRV := Lib.hid (show R = (0, 0, 4) by rw [HGE.out, if_neg h128, if_pos ⟨hc0, hk0⟩])
                clear hc0 hk0 h128 hk9' t9
                go_wp2
                refine bodyPost_ret (results_tmp3 rfl _ _ _) rfl ?_
                exact ⟨by rw [HRV.out]; rfl, rfl⟩
              · have uk : decide (0 < k) = false := decide_eq_false hk0
                have HRV := Lib.hid (show R = (acc + y, k + 1, 0) by rw [HGE.out, if_neg h128, if_neg (fun h => hk0 h.2)])
                clear hc0 hk0 h128 hk9' t9
                go_wp2
                refine bodyPost_ret (results_tmp3 rfl _ _ _) rfl ?_
                exact ⟨by rw [HRV.out]; rfl, rfl⟩
            · have u0 : ((c : Int) == 0) = false := by rw [beq_eq_false_iff_ne]; omega
              have HRV := Lib.hid (show R = (acc + y, k + 1, 0) by rw [HGE.out, if_neg h128, if_neg (fun h => hc0 h.1)])
              clear hc0 h128 hk9' t9
              go_wp2
              refine bodyPost_ret (results_tmp3 rfl _ _ _) rfl ?_
              exact ⟨by rw [HRV.out]; rfl, rfl⟩
    · obtain rfl : k = l.length := by omega
      have HRV := Lib.hid (show R = (0, 0, 2) by rw [HG.out, List.drop_length]; rfl)
      go_wp2
      refine bodyPost_ret (results_tmp3 rfl _ _ _) rfl ?_
      exact ⟨by rw [HRV.out]; rfl, rfl⟩
end Go.Proofs.YtldjbbcfbjpfcaaDoor
/- Contract: the pieces of a series are laid. -/
namespace Go.Proofs.YtldjbbcfbjpfcaaDoor
set_option maxRecDepth 100000
open Go.RowKit
set_option linter.unusedVariables false
set_option linter.unusedSimpArgs false
section
variable {P : Program} {ops : Array Oper} {Z : World} {ls : List Tmp} {V : Tmp → Value → World → Prop} {Q : Act → Prop} {rest : List Oper} {o : Oper} {b : Act}
theorem wpLoud_valDP (d : Tmp) (hd : o.dst = some d) (hw : Region.wanted o (yielded ops b.tmps) = true) (hq : quietB ops ls o = true) (hsel : ∀ cs t, o.op ≠ .select cs t) (v : Value) (hr : ∀ x : Ext Z, (execOp b.eval o).run P x.wd = .ok (.value v) x.wd)
    (b' : Act) (hb : b.put o.dst v = b') (h : wpLoud P ops Z ls V Q rest b') : wpLoud P ops Z ls V Q (o :: rest) b := wpLoud_val hw hq hsel v hr b' hb h
end
theorem OwnB.rdAtP {w : World} {base : Nat} {A : Option Addr} {n c : Nat} {l : List Nat} (h : OwnB w base (.slice A n c) l) : Rd w w.heap.size A (byt l) := by
  obtain ⟨A', c', e, _, _, h3⟩ := h.rd
  injection e with e1 e2 e3
  rw [e1]; exact h3
theorem tailOf2P (n : Nat) : tailOf n 2 = form n 2 := rfl
theorem strCells_sby (s : ByteArray) : Lib.strCells s = byt (sby s) := by
  unfold Lib.strCells byt sby
  cases s with
  | mk d => rw [ByteArray.toList_mk, List.map_map]; rfl
theorem own_str {w5 : World} {base : Nat} {v5 : Value} {l : List Nat} {s : ByteArray} (h : w5.ownsRow base 5 1 v5 (l.length + s.size) (byt l ++ Lib.strCells s)) : OwnB w5 base v5 (l ++ sby s) := by
  unfold OwnB
  rw [List.length_append, sby_len, ← byt_app, ← strCells_sby]
  exact h
theorem below_grown {w w' : World} {base : Nat} {v : Value} {l : List Nat} (h : OwnB w base v l) (hg : w.grownBy w' v.ownBlock) (hb : base ≤ w.heap.size) : Below base w w' :=
  (Below.refl _ _).grown hg hb (fun k hk => own_base h k hk)
theorem wrap_w (x : Int) : wrap64 x = w64 x := by unfold wrap64 w64; rfl
/-- a row, and then the others -/
theorem rows_cons (t step v : Int) (p : Pc) (l : List Pc) : rowsL t step v (p :: l) = (((sh (zig (wrap64 (wrap64 (p.t - t) - step))) ++ sh (zig (wrap64 (p.v - v)))) ++ sh p.n) ++ form p.d 2) ++ rowsL p.t (wrap64 (p.t - t)) p.v l := by simp only [wrap_w]; rfl
theorem wrap64_lo (x : Int) : -9223372036854775808 ≤ wrap64 x := by rw [wrap_w]; exact w64_lo x
theorem wrap64_hi (x : Int) : wrap64 x ≤ 9223372036854775807 := by rw [wrap_w]; exact w64_hi x
theorem idle2 {x y : Value} (h1 : isTok x = false) (h2 : isTok y = false) : (!isTok x && (!isTok y && true)) = true := by rw [h1, h2]; rfl
structure PcBlk (W : World) (g : Nat) (p : Pc) : Prop where
  b : Blk W g 81 (pcV p)
theorem PcBlk.next {W W' : World} {g : Nat} {p : Pc} (h : PcBlk W g p) (hb : Below W.heap.size W W') : PcBlk W' g p := ⟨h.b.below hb h.b.lt⟩
theorem PcBlk.c1 {W : World} {g : Nat} {p : Pc} (h : PcBlk W g p) : W.cell? ⟨g, 1, none⟩ = some (.int .i64 p.t) := (h.b.cell 1).trans rfl
theorem PcBlk.c2 {W : World} {g : Nat} {p : Pc} (h : PcBlk W g p) : W.cell? ⟨g, 2, none⟩ = some (.int .i64 p.v) := (h.b.cell 2).trans rfl
theorem PcBlk.c3 {W : World} {g : Nat} {p : Pc} (h : PcBlk W g p) : W.cell? ⟨g, 3, none⟩ = some (.int .u64 (p.n : Int)) := (h.b.cell 3).trans rfl
theorem PcBlk.c4 {W : World} {g : Nat} {p : Pc} (h : PcBlk W g p) : W.cell? ⟨g, 4, none⟩ = some (.int .u16 (p.d : Int)) := (h.b.cell 4).trans rfl
set_option maxRecDepth 100000 in
set_option maxHeartbeats 8000000 in
theorem putG_c (B : Nat) (A : Option Addr) (ca c : Nat) (b : List Nat) (ad : Addr) (g : List Pc) (w : World) (hr : Rd w B A (byt b)) (hB : B ≤ w.heap.size) (hbl : b.length ≤ 100000) (hat : AtA w ad (pcs g)) (hab : ad.block < w.heap.size) (h0 : 0 < g.length) (h1 : g.length ≤ 100000) (hk : ∀ p ∈ g, PcOk p ∧ p.s.size ≤ 1000000) :
    Calls Tryd.prog 40 #[.slice A b.length ca, .slice (some ad) g.length c] w (Gives (b ++ putL g) w) := by
  obtain ⟨i0, hib, hz0, hz1, hz2⟩ := info_parts byteInfo
  have zf := zero_pc
  have zs1 : zPc.size = 5 := by rfl
  have zs2 : ¬ zPc = #[] := by intro h; have := congrArg Array.size h; rw [zs1] at this; cases this
  have HR := Lib.hid hr
  have HAT := Lib.hid hat
  have HAB := Lib.hid hab
  have HOKP := Lib.hid (show ∀ k, k < g.length → PcOk (g.getD k pc0) from fun k h => (hk _ (by simp [List.getD_eq_getElem?_getD, h])).1)
  have hp0 := (hk (g.getD 0 pc0) (by simp [List.getD_eq_getElem?_getD, h0])).2
  have HPUT := Lib.hid (show b ++ putL g = (((b ++ sh (g.getD 0 pc0).s.size) ++ sby (g.getD 0 pc0).s) ++ sh g.length) ++ rowsL 0 0 0 g by
    cases g with
    | nil => simp at h0
    | cons p g => unfold putL; simp only [List.getD_cons_zero, List.append_assoc])
  have e0 := cell_ext ((hat.piece 0 h0).ser)
  have hps := sh64 (g.getD 0 pc0).s.size (by omega)
  have HP1 := Lib.hid (fun W A c (h : Rd W W.heap.size A (byt b)) => putSh_c W.heap.size A c b (g.getD 0 pc0).s.size W h (by omega) (by omega))
  have hgs := sh64 g.length (by omega)
  obtain ⟨b1, hb1⟩ : ∃ b1, b1 = b ++ sh (g.getD 0 pc0).s.size := ⟨_, rfl⟩
  have hb1n : b1.length ≤ 100010 := by rw [hb1, List.length_append]; omega
  rw [← hb1] at HPUT HP1
  have HPZ := Lib.hid (putSh_c B A ca b (g.getD 0 pc0).s.size)
  rw [← hb1] at HPZ
  clear hat hab hk hb1 hr
  generalize g.getD 0 pc0 = p0 at *
  have f1 : IntKind.u64.wrap (p0.s.size : Int) = (p0.s.size : Int) := by rw [IntKind.wrap_u64]; omega
  have f2 : IntKind.u64.wrap (g.length : Int) = (g.length : Int) := by rw [IntKind.wrap_u64]; omega
  have q0 : (0 : Int) < (g.length : Int) := by omega
  have hT : ∃ Tg, Tg = b ++ putL g := ⟨_, rfl⟩
  obtain ⟨Tg, hTg⟩ := hT
  rw [← hTg] at HPUT ⊢
  clear hTg
  rw [show ad.add (0 * 5) = ad by simp [Addr.add]] at e0
  go_enter Tryd.func40, Tryd.ntmps40
  go_upto_region 1 with fail
  refine wp_region_loudTail 12 w [17] (fun _ u W => OwnB W w.heap.size u b1) (by kernel_rfl) (by kernel_rfl) (by kernel_rfl) (by kernel_rfl) (fun _ _ _ _ h hb => OwnB.next h hb) (Below.refl _ _).drew ?_
  simp only [List.take_succ_cons, List.take_zero, List.drop_succ_cons, List.drop_zero]
  repeat (first
    | (refine wpLoud_call 17 rfl [] tok 16 (fun g => #[.slice A b.length ca, .int .u64 (p0.s.size : Nat)]) rfl (fun _ _ h => by cases h) rfl (fun g w => by kernel_rfl) (fun g y hg => by
        refine (HPZ.out y.wd (HR.out.ext y.bel) (by omega) (by omega)).mono ?_
        rintro e w' ⟨u, rfl, ho, hb⟩
        exact ⟨u, rfl, hb, own_base_le ho y.2.size⟩) _ (by simp only [Act.put, List.setIfInBounds_toArray, List.set_cons_succ, List.set_cons_zero]; rfl) ?_)
    | (refine wpLoud_valDP 15 rfl rfl (by kernel_rfl) (fun _ _ h => by cases h) (.int .i64 (p0.s.size : Nat)) (fun x => by kernel_rfl) _ (by simp only [Act.put, List.setIfInBounds_toArray, List.set_cons_succ, List.set_cons_zero]; rfl) ?_)
    | (refine wpLoud_plain rfl rfl rfl ?_; intro K hK; go_big_quiet_op; go_big_quiet_on))
  refine wpLoud_end [17] (by rfl) ?_
  intro gg z hg
  have h9 : OwnB z.wd w.heap.size (gg 17) b1 := hg 17 (by simp)
  have HO9 := Lib.hid h9
  have HB9 := Lib.hid z.bel
  generalize z.wd = Y at *
  simp only [fill, Act.put, List.setIfInBounds_toArray, List.set_cons_succ, List.set_cons_zero]
  generalize gg 17 = v17 at *
  clear hg h9 e0 HPZ HP1
  have H63 := Lib.hid (show b1.length + p0.s.size ≤ maxLen by simp only [maxLen]; omega)
  have HBY := Lib.hid (show b1.length + p0.s.size ≤ 140737488355328 by omega)
  refine Lib.wpList_append_own_string _ rfl (.tmp 17) (.tmp 21) 25 9 rfl w.heap.size 5 i0 Tryd.underlying25 Tryd.underlying9 hib hz0 hz1 hz2 v17 b1.length (byt b1) rfl HO9.out p0.s rfl H63.out HBY.out HB9.out.size ?_
  intro v5 w5 ho hgr _
  have HO5 := Lib.hid (own_str ho)
  have HB5 := Lib.hid (HB9.out.trans (below_grown HO9.out hgr HB9.out.size))
  clear ho hgr
  go_upto_region 2 with fail
  obtain ⟨b2, hb2⟩ : ∃ b2, b2 = b1 ++ sby p0.s := ⟨_, rfl⟩
  have hb2n : b2.length ≤ 1100010 := by rw [hb2, List.length_append, sby_len]; omega
  rw [← hb2] at HO5 HPUT
  obtain ⟨A5, c5, rfl, _, _, r5⟩ := HO5.out.rd
  have HPN := Lib.hid (putSh_c w5.heap.size A5 c5 b2 g.length w5 r5 (by omega) (by omega))
  clear hb2 r5 HO9 HB9
  go_upto_region 3 with (go_at_call 16; (refine HPN.out.mono ?_); rintro e W6 ⟨v6, rfl, ho, hb⟩; have HO6 := Lib.hid (show OwnB W6 w.heap.size v6 (b2 ++ sh g.length) from own_base_le ho HB5.out.size); have HB6 := Lib.hid (HB5.out.trans (hb.mono HB5.out.size)); clear ho hb)
  obtain ⟨b3, hb3⟩ : ∃ b3, b3 = b2 ++ sh g.length := ⟨_, rfl⟩
  have hb3n : b3.length ≤ 1100020 := by rw [hb3, List.length_append]; omega
  rw [← hb3] at HO6 HPUT
  clear hb3 HPN HO5 HB5 f1 f2
  go_wp2_with fail
  go_loopw [0, 5, 6, 7, 30, 54, 59] (fun bv tv sv vv i v54 v59 wr => isTok v54 = false ∧ isTok v59 = false ∧ ∃ (k : Nat) (pre : List Nat) (t step v : Int), k ≤ g.length ∧ i = .int .i64 k ∧ tv = .int .i64 t ∧ sv = .int .i64 step ∧ vv = .int .i64 v ∧ Tg = pre ++ rowsL t step v (g.drop k) ∧ pre.length ≤ b3.length + 32 * k ∧ OwnB wr w.heap.size bv pre ∧ Below w.heap.size w wr ∧ (-9223372036854775808 ≤ t ∧ t ≤ 9223372036854775807) ∧ (-9223372036854775808 ≤ step ∧ step ≤ 9223372036854775807) ∧ (-9223372036854775808 ≤ v ∧ v ≤ 9223372036854775807)) (fun _ _ _ _ i _ _ _ => g.length - (intOf i).toNat)
  case atStart => exact ⟨by rfl, by rfl, 0, b3, 0, 0, 0, Nat.zero_le _, rfl, rfl, rfl, rfl, HPUT.out, by omega, HO6.out, HB6.out, by omega, by omega, by omega⟩
  case round =>
    rename World => wr
    rename_i v54 v59 _
    obtain ⟨htk1, htk2, k, pre, t, step, v, hk, rfl, rfl, rfl, rfl, htg, hpn, ho, hb, ht, hst, hv⟩ := hrel
    have HTK1 := Lib.hid htk1
    have HTK2 := Lib.hid htk2
    clear htk1 htk2
    have HTG := Lib.hid htg
    have HO := Lib.hid ho
    have HB := Lib.hid hb
    clear htg ho hb HPUT HO6 HB6
    by_cases hlt : k < g.length
    · have q1 : (k : Int) < (g.length : Int) := by omega
      have HPA := Lib.hid ((HAT.out.below HB.out HAB.out).piece k hlt)
      have HPI := Lib.hid (pcLn (g.getD k pc0))
      have HPS := Lib.hid (pcInfo (g.getD k pc0))
      have HKP := Lib.hid (HOKP.out k hlt)
      have HDR := Lib.hid (show g.drop k = g.getD k pc0 :: g.drop (k + 1) by rw [List.drop_eq_getElem_cons hlt]; simp [List.getD_eq_getElem?_getD, hlt])
      generalize g.getD k pc0 = p at *
      have HRW := Lib.hid (rows_cons t step v p (g.drop (k + 1)))
      have hzl1 := sh64 _ (zig_lt (wrap64 (wrap64 (p.t - t) - step)) (wrap64_lo _) (wrap64_hi _))
      have hzl2 := sh64 _ (zig_lt (wrap64 (p.v - v)) (wrap64_lo _) (wrap64_hi _))
      have hzl3 := sh64 _ HKP.out.n1
      have HL1 := Lib.hid hzl1
      have HL2 := Lib.hid hzl2
      have HL3 := Lib.hid hzl3
      clear hzl1 hzl2 hzl3
      obtain ⟨A7, c7, rfl, _, _, _⟩ := HO.out.rd
      have hpt := HKP.out.t0
      have hpt1 := HKP.out.t1
      have hpv := HKP.out.v0
      have hpv1 := HKP.out.v1
      go_upto_region 7 with (first
        | (refine wpList_loadA rfl 81 (.tmp 32) rfl (ad.add (k * 5)) rfl (pcL p) _ HPA.out Tryd.underlying81 rfl HPI.out ?_)
        | (refine wpList_store_rowTo rfl 81 (.tmp 9) (.tmp 33) rfl rfl wr.heap.size (pcV p) rfl rfl 81 zPc (by exact Blk.new wr _ _) HPS.out rfl (pcV_one _) ?_))
      have hnr := new_rowP wr 81 zPc (pcV p)
      have HX := Lib.hid (show PcBlk _ wr.heap.size p from ⟨hnr.1⟩)
      have HOX := Lib.hid (HO.out.next hnr.2)
      have HBX := Lib.hid (HB.out.trans (hnr.2.mono HB.out.size))
      generalize (wr.alloc (Obj.cells zPc 81)).setRow wr.heap.size (pcV p) = X at *
      generalize wr.heap.size = gp at *
      clear hnr
      have c1 := HX.out.c1
      have hnl : pre.length ≤ 9000000 := by omega
      obtain ⟨z1, hz1'⟩ : ∃ z1, z1 = zig (wrap64 (wrap64 (p.t - t) - step)) := ⟨_, rfl⟩
      obtain ⟨z2, hz2'⟩ : ∃ z2, z2 = zig (wrap64 (p.v - v)) := ⟨_, rfl⟩
      have HZB1 := Lib.hid (show z1 < 18446744073709551616 by rw [hz1']; exact zig_lt _ (wrap64_lo _) (wrap64_hi _))
      have HZB2 := Lib.hid (show z2 < 18446744073709551616 by rw [hz2']; exact zig_lt _ (wrap64_lo _) (wrap64_hi _))
      have HZC1 := Lib.hid (show ∀ W, Calls Tryd.prog 49 #[.int .i64 (wrap64 (wrap64 (p.t - t) - step))] W fun e w' => e = .returned (.int .u64 (z1 : Nat)) ∧ W = w' from fun W => by rw [hz1']; exact zig_c _ W (wrap64_lo _) (wrap64_hi _))
      have HZC2 := Lib.hid (show ∀ W, Calls Tryd.prog 49 #[.int .i64 (wrap64 (p.v - v))] W fun e w' => e = .returned (.int .u64 (z2 : Nat)) ∧ W = w' from fun W => by rw [hz2']; exact zig_c _ W (wrap64_lo _) (wrap64_hi _))
      rw [← hz1', ← hz2'] at HRW
      rw [← hz1'] at HL1
      rw [← hz2'] at HL2
      clear hz1' hz2'
      have HPS1 := Lib.hid (putSh_c X.heap.size A7 c7 pre z1 X HOX.out.rdAtP (by have := HZB1.out; omega) (by omega))
      go_upto_region 8 with (first
        | (go_at_call 49; (refine (HZC1.out X).mono ?_); rintro e W2 ⟨rfl, rfl⟩)
        | (go_at_call 16; (refine HPS1.out.mono ?_); rintro e W2 ⟨v2, rfl, ho2, hb2⟩; have HO2 := Lib.hid (show OwnB W2 w.heap.size v2 (pre ++ sh z1) from own_base_le ho2 HBX.out.size); have HB2 := Lib.hid (HBX.out.trans (hb2.mono HBX.out.size)); have HX2 := Lib.hid (HX.out.next hb2); clear ho2 hb2))
      obtain ⟨pre1, hpre1⟩ : ∃ pre1, pre1 = pre ++ sh z1 := ⟨_, rfl⟩
      have hn1 : pre1.length ≤ pre.length + 10 := by rw [hpre1, List.length_append]; have := HL1.out; omega
      rw [← hpre1] at HO2
      have HE1 := Lib.hid hpre1
      obtain ⟨A8, c8, rfl, _, _, _⟩ := HO2.out.rd
      have c2 := HX2.out.c2
      have HPS2 := Lib.hid (putSh_c W2.heap.size A8 c8 pre1 z2 W2 HO2.out.rdAtP (by have := HZB2.out; omega) (by omega))
      clear hpre1 c1 HPS1 HZC1 HOX HX
      go_upto_region 9 with (first
        | (go_at_call 49; (refine (HZC2.out W2).mono ?_); rintro e W3 ⟨rfl, rfl⟩)
        | (go_at_call 16; (refine HPS2.out.mono ?_); rintro e W3 ⟨v3, rfl, ho2, hb2⟩; have HO3 := Lib.hid (show OwnB W3 w.heap.size v3 (pre1 ++ sh z2) from own_base_le ho2 HB2.out.size); have HB3 := Lib.hid (HB2.out.trans (hb2.mono HB2.out.size)); have HX3 := Lib.hid (HX2.out.next hb2); clear ho2 hb2))
      obtain ⟨pre2, hpre2⟩ : ∃ pre2, pre2 = pre1 ++ sh z2 := ⟨_, rfl⟩
      have hn2 : pre2.length ≤ pre.length + 20 := by rw [hpre2, List.length_append]; have := HL2.out; omega
      rw [← hpre2] at HO3
      have HE2 := Lib.hid hpre2
      obtain ⟨A9, c9, rfl, _, _, _⟩ := HO3.out.rd
      clear hpre2 c2 HPS2 HZC2 HO2 HX2 HB2
      have c3 := cell_ext HX3.out.c3
      have c4 := cell_ext HX3.out.c4
      have fd : IntKind.u64.wrap (p.d : Int) = (p.d : Int) := by rw [IntKind.wrap_u64]; have := HKP.out.d1; omega
      obtain ⟨pre3, hpre3⟩ : ∃ pre3, pre3 = pre2 ++ sh p.n := ⟨_, rfl⟩
      have hn3 : pre3.length ≤ pre.length + 30 := by rw [hpre3, List.length_append]; have := HL3.out; omega
      have HE3 := Lib.hid hpre3
      have HPS3 := Lib.hid (fun W h => putSh_c W.heap.size A9 c9 pre2 p.n W h (by have := HKP.out.n1; omega) (by omega))
      rw [← hpre3] at HPS3
      have HPS4 := Lib.hid (fun W A c (h : Rd W W.heap.size A (byt pre3)) => put_c W.heap.size A c pre3 p.d 2 W h (by have := HKP.out.d1; omega) (by decide) (by decide) (by omega))
      clear hpre3
      refine wp_region_loudTail 10 W3 [54, 59] (fun k u W => if k = 54 then OwnB W W3.heap.size u pre3 else OwnB W W3.heap.size u (pre3 ++ form p.d 2)) (by kernel_rfl) (by kernel_rfl) (by kernel_rfl) (by exact idle2 HTK1.out HTK2.out) (fun k u w1 w2 h hb => by
        by_cases h54 : k = 54
        · rw [if_pos h54] at h ⊢; exact OwnB.next h hb
        · rw [if_neg h54] at h ⊢; exact OwnB.next h hb) (Below.refl _ _).drew ?_
      simp only [List.take_succ_cons, List.take_zero, List.drop_succ_cons, List.drop_zero]
      repeat (first
        | (refine wpLoud_call 54 rfl [] tok 16 (fun g => #[.slice A9 pre2.length c9, .int .u64 (p.n : Int)]) rfl (fun _ _ h => by cases h) rfl (fun g w => by kernel_rfl) (fun g y hg => by
            refine (HPS3.out y.wd ((HO3.out.rdAtP.ext y.bel).more y.bel.size)).mono ?_
            rintro e w' ⟨u, rfl, ho, hb⟩
            exact ⟨u, rfl, hb, own_base_le ho y.bel.size⟩) _ (by simp only [Act.put, List.setIfInBounds_toArray, List.set_cons_succ, List.set_cons_zero]; rfl) ?_)
        | (refine wpLoud_call 59 rfl [54] tok 17 (fun g => #[g 54, .int .u64 (p.d : Int), .int .i64 2]) rfl (fun _ _ h => by cases h) rfl (fun g w => by kernel_rfl) (fun g y hg => by
            have h54 : OwnB y.wd W3.heap.size (g 54) pre3 := hg 54 (by simp)
            obtain ⟨A10, c10, e10, _, _, r10⟩ := h54.rd
            show Calls _ _ #[g 54, _, _] _ _
            rw [e10]
            refine (HPS4.out y.wd A10 c10 r10).mono ?_
            rintro e w' ⟨u, rfl, ho, hb⟩
            rw [tailOf2P] at ho
            exact ⟨u, rfl, hb, own_base_le ho y.bel.size⟩) _ (by simp only [Act.put, List.setIfInBounds_toArray, List.set_cons_succ, List.set_cons_zero]; rfl) ?_)
        | (refine wpLoud_plain rfl rfl rfl ?_; intro K hK; go_big_quiet_op; go_big_quiet_on))
      refine wpLoud_end [54, 59] (by rfl) ?_
      intro gg z hg
      have h54 : OwnB z.wd W3.heap.size (gg 54) pre3 := hg 54 (by simp)
      obtain ⟨A11, c11, e11, _, _, _⟩ := h54.rd
      have h9 : OwnB z.wd W3.heap.size (gg 59) (pre3 ++ form p.d 2) := hg 59 (by simp)
      have HO9 := Lib.hid (show OwnB z.wd w.heap.size (gg 59) (pre3 ++ form p.d 2) from own_base_le h9 HB3.out.size)
      have HB9 := Lib.hid (HB3.out.trans (z.bel.mono HB3.out.size))
      have HX9 := Lib.hid (HX3.out.next z.bel)
      generalize z.wd = Y at *
      simp only [fill, Act.put, List.setIfInBounds_toArray, List.set_cons_succ, List.set_cons_zero]
      rw [e11]
      obtain ⟨A12, c12, e12, _, _, _⟩ := HO9.out.rd
      rw [e12] at HO9 ⊢
      clear h54 e11 e12
      have c1 := HX9.out.c1
      have c2 := HX9.out.c2
      clear hg h9 c3 c4 HPS3 HPS4 HX3 HO3 HB3 fd
      go_upto_region 10 with fail
      go_quiet (fail)
      have HO10 := Lib.hid (HO9.out.drewN nq)
      have HB10 := Lib.hid (belowDrewN nq HB9.out)
      generalize Y.drewN nq = Y2 at *
      have HTN := Lib.hid (show Tg = (pre3 ++ form p.d 2) ++ rowsL p.t (wrap64 (p.t - t)) p.v (g.drop (k + 1)) by
        rw [HTG.out, HDR.out, HRW.out, HE3.out, HE2.out, HE1.out]
        simp only [List.append_assoc])
      go_wp2_with fail
      go_roundw
      case rel => exact ⟨by rfl, by rfl, k + 1, pre3 ++ form p.d 2, p.t, wrap64 (p.t - t), p.v, by omega, by go_num, rfl, rfl, rfl, HTN.out, by rw [List.length_append, form_len]; omega, HO10.out, HB10.out, ⟨hpt, hpt1⟩, ⟨wrap64_lo _, wrap64_hi _⟩, ⟨hpv, hpv1⟩⟩
      case measure => simp only [intOf]; omega
    · obtain rfl : k = g.length := by omega
      have HFIN := Lib.hid (show Tg = pre by rw [HTG.out, List.drop_length]; simp [rowsL])
      go_wp2_with fail
      refine bodyPost_ret (results_tmp rfl _ _ _) rfl ?_
      exact ⟨_, rfl, by rw [HFIN.out]; exact HO.out, HB.out⟩
end Go.Proofs.YtldjbbcfbjpfcaaDoor
/- Contract: the form of pieces. -/
namespace Go.Proofs.YtldjbbcfbjpfcaaDoor
set_option maxRecDepth 100000
open Go.RowKit
set_option linter.unusedVariables false
set_option linter.unusedSimpArgs false
/-- the groups, of any pieces -/
theorem groupsAny_c (A : Option Addr) (c : Nat) (l : List Pc) (w : World) (hr : RdP w w.heap.size A l) (hc : l.length ≤ c) (h1 : l.length ≤ 100000) :
    ∃ ad, (0 < l.length → A = some ad ∧ AtA w ad (pcs l) ∧ ad.block < w.heap.size) ∧ Calls Tryd.prog 39 #[.slice A l.length c] w fun e w' => ∃ v, e = .returned v ∧ OwnG w' w.heap.size v (gv ad c 0 (gls l)) ∧ Below w.heap.size w w' := by
  rcases Nat.eq_zero_or_pos l.length with h0 | h0
  · obtain rfl : l = [] := List.eq_nil_of_length_eq_zero h0
    refine ⟨⟨0, 0, none⟩, fun h => by simp at h, ?_⟩
    refine (groups0_c A c w).mono ?_
    rintro e w' ⟨rfl, hb⟩
    exact ⟨_, rfl, by rw [gls_nil]; exact ⟨rfl, .inl ⟨rfl, rfl⟩⟩, hb⟩
  · obtain ⟨ad, rfl, hab, hat⟩ := hr.open_ h0
    exact ⟨ad, fun _ => ⟨rfl, hat, hab⟩, groups_c ad c l w hat hab hc h0 h1⟩
theorem gls_len_le : ∀ l : List Pc, (gls l).length ≤ l.length := grps_ind (by rw [gls_nil]; exact Nat.le_refl _) fun p l ih => by
  rw [gls_cons, List.length_cons, List.length_cons]
  rw [List.length_drop] at ih
  omega
theorem AtA.drop_ {w : World} {ad : Addr} {l : List Pc} (h : AtA w ad (pcs l)) (off m : Nat) : AtA w (ad.add (off * 5)) (pcs ((l.drop off).take m)) := by
  rw [pcs_take, pcs_drop]
  exact h.drop (off * 5) (m * 5)
set_option maxRecDepth 100000 in
set_option maxHeartbeats 4000000 in
theorem form_c (A : Option Addr) (c : Nat) (l : List Pc) (w : World) (hr : RdP w w.heap.size A l) (hc : l.length ≤ c) (h1 : l.length ≤ 100000) (hk : ∀ p ∈ l, PcOk p ∧ p.s.size ≤ 1000000) (hF : (formP l).length ≤ 100000) :
    Calls Tryd.prog 29 #[.slice A l.length c] w (Gives (formP l) w) := by
  obtain ⟨ad, had, hgc⟩ := groupsAny_c A c l w hr hc h1
  have HAD := Lib.hid had
  have HGC := Lib.hid hgc
  have hgn := gls_len_le l
  have HGV := Lib.hid (gv_len ad c 0 (gls l))
  have HGA := Lib.hid (fun k (h : k < (gls l).length) => gv_at ad c 0 (gls l) k h)
  have HLP := Lib.hid (fun k (h : k < (gls l).length) => lenG_pos l k h)
  have HOL := Lib.hid (fun k (h : k < (gls l).length) => offG_lt l k h)
  have HGR := Lib.hid (fun k (h : k < (gls l).length) => grpG l k h)
  have HK := Lib.hid hk
  have hFE : formP l = sh (gls l).length ++ ((grps l).map putL).flatten := by unfold formP; rw [grps_len]
  have HFE := Lib.hid hFE
  obtain ⟨F, hFF⟩ : ∃ F, F = formP l := ⟨_, rfl⟩
  rw [← hFF] at hF HFE ⊢
  have HFB := Lib.hid hF
  have HP0 := Lib.hid (show ∀ W, Calls Tryd.prog 16 #[.slice none 0 0, .int .u64 ((gls l).length : Nat)] W (Gives (sh (gls l).length) W) from fun W => by
    have h := putSh_c 0 none 0 [] (gls l).length W (fun h => absurd rfl h) (by omega) (by decide)
    rw [List.nil_append] at h
    exact h)
  have f2 : IntKind.u64.wrap ((gls l).length : Int) = ((gls l).length : Int) := by rw [IntKind.wrap_u64]; omega
  clear hr had hgc hk hFE hFF hF
  go_enter Tryd.func29, Tryd.ntmps29
  go_upto_region 3 with (first
    | (go_at_call 39; (refine HGC.out.mono ?_); rintro e W1 ⟨v, rfl, ho, hb⟩; obtain ⟨A2, c2, rfl, _, _, r2⟩ := gv_rd ho; have HB := Lib.hid hb; have HR2 := Lib.hid r2; rw [HGV.out]; clear ho hb r2)
    | (go_at_call 16; (refine (HP0.out W1).mono ?_); rintro e W2 ⟨v2, rfl, ho, hb⟩; have HO2 := Lib.hid (show OwnB W2 w.heap.size v2 (sh (gls l).length) from own_base_le ho HB.out.size); have HR22 := Lib.hid (HR2.out.below hb); have HB2 := Lib.hid (HB.out.trans (hb.mono HB.out.size)); have HS12 := Lib.hid hb.size; clear ho hb))
  go_wp2_with fail
  go_loopw [4, 15] (fun bv i wr => ∃ (k : Nat) (pre : List Nat), k ≤ (gls l).length ∧ i = .int .i64 k ∧ F = pre ++ (((grps l).drop k).map putL).flatten ∧ OwnB wr w.heap.size bv pre ∧ Below w.heap.size w wr ∧ Rd wr W1.heap.size A2 (gv ad c 0 (gls l)) ∧ W1.heap.size ≤ wr.heap.size) (fun _ i _ => (gls l).length - (intOf i).toNat)
  case atStart => exact ⟨0, _, Nat.zero_le _, rfl, HFE.out, HO2.out, HB2.out, HR22.out, HS12.out⟩
  case round =>
    rename World => wr
    obtain ⟨k, pre, hk, rfl, hfp, ho, hb, hrd, hsz⟩ := hrel
    have HFP := Lib.hid hfp
    have HO := Lib.hid ho
    have HBW := Lib.hid hb
    have HRD := Lib.hid hrd
    have HSZ := Lib.hid hsz
    have hpl : pre.length ≤ 100000 := by have h := congrArg List.length hfp; rw [List.length_append] at h; have := HFB.out; omega
    clear hfp ho hb hrd hsz HO2 HB2 HR22
    by_cases hlt : k < (gls l).length
    · have p1 : (k : Int) < ((gls l).length : Int) := by omega
      have hga := HGA.out k hlt
      rw [Nat.zero_add] at hga
      have hrr := HRD.out
      obtain ⟨a2, rfl, _, _⟩ := hrr (by intro h; rw [h] at hga; simp at hga)
      have e0r := rdG_cell HRD.out k hga
      have hol := HOL.out k hlt
      have hlp := HLP.out k hlt
      obtain ⟨rfl, hat, hab⟩ := HAD.out (by omega)
      have e0 : wr.cell? (a2.add k) = some (.slice (some (ad.add (offG l k * 5))) (lenG l k) (c - offG l k)) := e0r
      have HAW := Lib.hid ((hat.below HBW.out hab).drop_ (offG l k) (lenG l k))
      have HGK := Lib.hid (show (grps l).drop k = (l.drop (offG l k)).take (lenG l k) :: (grps l).drop (k + 1) by
        have hkl : k < (grps l).length := by rw [grps_len]; exact hlt
        rw [List.drop_eq_getElem_cons hkl, ← HGR.out k hlt]
        simp [List.getD_eq_getElem?_getD, hkl])
      obtain ⟨g, hg⟩ : ∃ g, g = (l.drop (offG l k)).take (lenG l k) := ⟨_, rfl⟩
      rw [← hg] at HAW HGK
      have hgl : g.length = lenG l k := by rw [hg, List.length_take, List.length_drop]; omega
      have hgm : ∀ p ∈ g, PcOk p ∧ p.s.size ≤ 1000000 := fun p hp => HK.out p (by rw [hg] at hp; exact List.mem_of_mem_drop (List.mem_of_mem_take hp))
      have habw : (ad.add (offG l k * 5)).block < wr.heap.size := by rw [add_block]; exact Nat.lt_of_lt_of_le hab HBW.out.size
      obtain ⟨A7, c7, rfl, _, _, _⟩ := HO.out.rd
      have HPG := Lib.hid (putG_c wr.heap.size A7 c7 (c - offG l k) pre (ad.add (offG l k * 5)) g wr HO.out.rdAtP (Nat.le_refl _) hpl HAW.out habw (by omega) (by omega) hgm)
      rw [hgl] at HPG
      clear hga e0r hat hab hgm habw hgl hg hrr hol
      generalize lenG l k = m at *
      generalize c - offG l k = cc at *
      generalize ad.add (offG l k * 5) = a' at *
      go_wp2_with (go_at_call 40; (refine HPG.out.mono ?_); rintro e W5 ⟨v5, rfl, ho5, hb5⟩; have HO5 := Lib.hid (show OwnB W5 w.heap.size v5 (pre ++ putL g) from own_base_le ho5 HBW.out.size); have HB5 := Lib.hid (HBW.out.trans (hb5.mono HBW.out.size)); have HR5 := Lib.hid (HRD.out.below (hb5.mono HSZ.out)); have HS5 := Lib.hid (Nat.le_trans HSZ.out hb5.size); clear ho5 hb5)
      have HFN := Lib.hid (show F = (pre ++ putL g) ++ (((grps l).drop (k + 1)).map putL).flatten by rw [HFP.out, HGK.out, List.map_cons, List.flatten_cons, List.append_assoc])
      go_roundw
      case rel => exact ⟨k + 1, _, by omega, by go_num, HFN.out, HO5.out, HB5.out, HR5.out, HS5.out⟩
      case measure => simp only [intOf]; omega
    · obtain rfl : k = (gls l).length := by omega
      have HFIN := Lib.hid (show F = pre by rw [HFP.out, ← grps_len, List.drop_length]; simp)
      go_wp2_with fail
      refine bodyPost_ret (results_tmp rfl _ _ _) rfl ?_
      exact ⟨_, rfl, by rw [HFIN.out]; exact HO.out, HBW.out⟩
end Go.Proofs.YtldjbbcfbjpfcaaDoor
/- append of zeros (gc's append-of-make) onto a row of the call's own. -/
namespace Go.Proofs.YtldjbbcfbjpfcaaDoor
set_option maxRecDepth 100000
open Go.RowKit
set_option linter.unusedVariables false
set_option linter.unusedSimpArgs false
section
variable {P : Program} (w : World)
theorem run_room_zeros (t tn ty e : TypeId) (i : TypeInfo) (z : Value) (kn kq : IntKind) (ht : P.underlying t = some (.slice e)) (htn : P.underlying tn = some (.int kn)) (hi : P.info? e = some i) (hz : i.zero = some z) (hs : i.size = 1) (hzs : z.cells.size = 1)
    (g sLen sCap : Nat) (cur : Array Value) (hg : w.heap[g]? = some (.cells cur e (0, 0)))
    (m : Nat) (h0 : 0 < m) (hm : m ≤ 1000000000) (hb : i.bytes ≤ 1000) (news : List Value) (hn : (Builtin.zeroCells z.cells m).toList = news) (h1 : ∀ u ∈ news, u.oneCell' = true)
    (hroom : sLen + m ≤ sCap) (hfit : sLen + m ≤ cur.size) :
    (Builtin.append_ #[t, tn] ty #[.slice (some ⟨g, 0, none⟩) sLen sCap, .int kq m]).run P w =
      .ok (.slice (some ⟨g, 0, none⟩) (sLen + m) sCap) (w.setRow g (cur.toList.take sLen ++ news ++ cur.toList.drop (sLen + news.length)).toArray) := by
  have hnl : news.length = m := by rw [← hn, Array.length_toList]; simp [Builtin.zeroCells, hzs]
  have hst := run_storeCells_at P g sLen e news 0 cur w hg (by rw [hnl]; simpa using hfit) h1
  simp only [Nat.add_zero] at hst
  have hw : IntKind.i64.wrap (m : Int) = m := by rw [IntKind.wrap_i64]; omega
  have hneg : ¬ ((m : Int) < 0) := by omega
  have h48i : ¬ (281474976710656 < (m : Int) * (i.bytes : Int)) := by
    have : (m : Int) * (i.bytes : Int) ≤ 1000000000 * 1000 := by
      rw [← Int.natCast_mul]
      have := Nat.mul_le_mul hm hb
      omega
    omega
  have hmz : m ≠ 0 := by omega
  simp [Builtin.append_, run_underlying ht, run_underlying htn, sizeOf, typeInfo, zeroValue, hi, hz, hs, asInt, asIntOf, hw, hneg, h48i, hroom, hmz, Addr.add_lit, hn, hst]
theorem run_app_zeros (base : Nat) (t tn ty e : TypeId) (i : TypeInfo) (z : Value) (kn kq : IntKind) (ht : P.underlying t = some (.slice e)) (htn : P.underlying tn = some (.int kn)) (hi : P.info? e = some i) (hz : i.zero = some z) (hs : i.size = 1) (hzs : z.cells.size = 1) (hby : i.bytes = 1)
    (v : Value) (n : Nat) (xs : List Value) (hown : w.ownsRow base e 1 v n xs) (m : Nat) (hm : n + m ≤ 1000000000) (news : List Value) (hn : (Builtin.zeroCells z.cells m).toList = news) (h1 : ∀ u ∈ news, u.oneCell' = true) (hbase : base ≤ w.heap.size) :
    ∃ v' w', (Builtin.append_ #[t, tn] ty #[v, .int kq m]).run P w = .ok v' w' ∧ Apped w base e 1 v w' v' (n + m) (xs ++ news) := by
  have hnl : news.length = m := by rw [← hn, Array.length_toList]; simp [Builtin.zeroCells, hzs]
  have h63 : n + m ≤ maxLen := by simp only [maxLen]; omega
  have hlen : (xs ++ news).length = (n + m) * 1 := by rw [List.length_append, hown.1, hnl]; omega
  have hw : IntKind.i64.wrap (m : Int) = m := by rw [IntKind.wrap_i64]; omega
  have hna : (Builtin.zeroCells z.cells m) = news.toArray := by rw [← hn, Array.toArray_toList]
  have grown : ∀ (old : Nat), old < n + m → ∀ (row : Option Nat),
      (w.drew.alloc (.cells (xs.toArray ++ Builtin.zeroCells z.cells m ++ Builtin.zeroCells z.cells (grownCap w (n + m) old e - (n + m))) e)).ownsRow base e 1
        (.slice (some ⟨w.heap.size, 0, none⟩) (n + m) (grownCap w (n + m) old e)) (n + m) (xs ++ news) ∧
      w.grownBy (w.drew.alloc (.cells (xs.toArray ++ Builtin.zeroCells z.cells m ++ Builtin.zeroCells z.cells (grownCap w (n + m) old e - (n + m))) e)) row := by
    intro old ho row
    have hge := grownCap_ge w (n + m) old e
    have hcm : grownCap w (n + m) old e ≤ maxLen := grownCap_le_maxLen w (n + m) old e h63
    rw [hna]
    refine ⟨⟨hlen, .inr ⟨w.heap.size, _, _, rfl, hbase, heap_alloc_new w.drew _, hge, hcm, ?_, ?_⟩⟩, ⟨rfl, rfl, rfl, by simp, fun k hk _ => heap_alloc_old _ _ hk⟩⟩
    · simp only [Array.size_append, List.size_toArray, size_zeroCells, hzs, hown.1, hnl]
      omega
    · simp only [Array.toList_append, List.append_assoc]
      rw [← List.append_assoc, ← hlen]
      exact List.take_left
  rcases Nat.eq_zero_or_pos m with hm0 | hm0
  · subst hm0
    obtain rfl : news = [] := List.eq_nil_of_length_eq_zero hnl
    refine ⟨v, w, ?_, ⟨by simpa using hown, World.grownBy.refl w _, .inl rfl⟩⟩
    rcases hown.2 with ⟨rfl, rfl⟩ | ⟨g, cap, cur, rfl, hbg, hg, hnc, hcm, hcs, htake⟩
    · simp [Builtin.append_, run_underlying ht, run_underlying htn, sizeOf, typeInfo, hi, asInt, asIntOf, IntKind.wrap_i64]
    · simp [Builtin.append_, run_underlying ht, run_underlying htn, sizeOf, typeInfo, hi, asInt, asIntOf, IntKind.wrap_i64, hnc, storeCells]
  · rcases hown.2 with ⟨rfl, rfl⟩ | ⟨g, cap, cur, rfl, hbg, hg, hnc, hcm, hcs, htake⟩
    · obtain rfl : xs = [] := List.eq_nil_of_length_eq_zero (by simpa using hown.1)
      have hr := Lib.run_append_nil_zeros (P := P) w t tn ty e i z kq kn ht htn hi hz m hm0 (by omega) (by omega) (by rw [hby]; omega)
      have hgr := grown 0 (by omega) (Value.ownBlock (.slice none 0 0))
      simp only [Nat.zero_add, List.nil_append, Array.empty_append] at hgr ⊢
      exact ⟨_, _, hr, hgr.1, hgr.2, Or.inr rfl⟩
    · by_cases hroom : n + m ≤ cap
      · have hr := run_room_zeros (P := P) w t tn ty e i z kn kq ht htn hi hz hs hzs g n cap cur hg m hm0 (by omega) (by omega) news hn h1 hroom (by omega)
        refine ⟨_, _, hr, ⟨hlen, .inr ⟨g, cap, _, rfl, hbg, setRow_heap w g cur _ e _ hg, hroom, hcm, ?_, ?_⟩⟩, ⟨rfl, rfl, rfl, by simp, fun k _ hk => setRow_other w g k _ (fun e => hk (by simp [Value.ownBlock, e]))⟩, Or.inl rfl⟩
        · simp only [List.size_toArray, List.length_append, List.length_take, List.length_drop, Array.length_toList]
          omega
        · rw [Nat.mul_one] at htake
          rw [htake, ← hlen]
          exact List.take_left
      · have holds : ∀ j u, xs[j]? = some u → w.cell? ((⟨g, 0, none⟩ : Addr).add j) = some u := hown.cells (g := g) rfl
        have hold := run_firstCells_some (P := P) w.drew i.size n ⟨g, 0, none⟩ n cap xs (by rw [hs]; exact hown.1) (by simpa using holds)
        have hr := Lib.run_append_grow_zeros (P := P) w t tn ty e i z kq kn ht htn hi hz (some ⟨g, 0, none⟩) n cap xs hold m hm0 (by omega) (by omega) (by omega) (by rw [hby]; omega) (growslice_fits (by omega) (by rw [hby]; omega))
        have hgr := grown cap (by omega) (Value.ownBlock (.slice (some ⟨g, 0, none⟩) n cap))
        exact ⟨_, _, hr, hgr.1, hgr.2, Or.inr rfl⟩
end
theorem zero_bytes (n : Nat) : (Builtin.zeroCells (Value.int .u8 0).cells n).toList = byt (List.replicate n 0) := by
  unfold Builtin.zeroCells
  simp only [Value.cells, byt, Array.toList_map, Array.toList_range, List.map_replicate]
  apply List.ext_getElem
  · simp
  · intro i h1 h2
    simp [Nat.mod_one]
/-- on bytes -/
theorem run_zeros_byt (w : World) (base : Nat) (v : Value) (l : List Nat) (m : Nat) (ho : OwnB w base v l) (hb : base ≤ w.heap.size) (hm : l.length + m ≤ 1000000000) :
    ∃ v' w', (Builtin.append_ #[25, 3] 25 #[v, .int .i64 (m : Nat)]).run Tryd.prog w = .ok v' w' ∧ OwnB w' base v' (l ++ List.replicate m 0) ∧ Below base w w' := by
  have hbi := byteInfo
  obtain ⟨i, hi, hi2⟩ := Option.map_eq_some_iff.1 hbi
  simp only [Prod.mk.injEq] at hi2
  obtain ⟨v', w', hr, ha⟩ := run_app_zeros (P := Tryd.prog) w base 25 3 25 5 i (.int .u8 0) .i64 .i64 (by kernel_rfl) (by kernel_rfl) hi hi2.1 hi2.2.1 (by rfl) hi2.2.2 v l.length (byt l) ho m hm (byt (List.replicate m 0)) (zero_bytes m) (byt_one _) hb
  refine ⟨v', w', hr, ?_, ha.below ho hb⟩
  have h : OwnB w' base v' (l ++ List.replicate m 0) := OwnB.app (l := l) (m := List.replicate m 0) (by rw [List.length_replicate]; exact ha)
  exact h
end Go.Proofs.YtldjbbcfbjpfcaaDoor
/- Contract: delta.Lay. -/
namespace Go.Proofs.YtldjbbcfbjpfcaaDoor
set_option maxRecDepth 100000
open Go.RowKit
set_option linter.unusedVariables false
set_option linter.unusedSimpArgs false
/-- what Lay gives -/
def layR (l : List Pc) : List Nat := if chkL l = 0 then layL l else []
theorem Rd.ups {w : World} {B B' : Nat} {A : Option Addr} {xs : List Value} (h : Rd w B A xs) (hB : B ≤ B') : Rd w B' A xs := fun hn => by
  obtain ⟨ad, e, h1, h2⟩ := h hn
  exact ⟨ad, e, Nat.lt_of_lt_of_le h1 hB, h2⟩
theorem RdP.next {w w' : World} {A : Option Addr} {l : List Pc} (h : RdP w w.heap.size A l) (hb : Below w.heap.size w w') : RdP w' w'.heap.size A l := Rd.ups (Rd.below h hb) hb.size
set_option maxRecDepth 100000 in
set_option maxHeartbeats 4000000 in
theorem lay_c (A : Option Addr) (c : Nat) (l : List Pc) (w : World) (hr : RdP w w.heap.size A l) (hc : l.length ≤ c) (h1 : l.length ≤ 100000) (hk : ∀ p ∈ l, PcOk p ∧ p.s.size ≤ 1000000) :
    Calls Tryd.prog 22 #[.slice A l.length c] w fun e w' => ∃ v, e = .returned (.tuple #[v, .int .i64 (chkL l : Nat)]) ∧ OwnB w' w.heap.size v (layR l) ∧ Below w.heap.size w w' := by
  obtain ⟨i0, hi, hz0, hz1, hz2⟩ := info_parts byteInfo
  have HR := Lib.hid hr
  have HCH := Lib.hid (check_c A c l w hr hc h1 (fun p hp => (hk p hp).2))
  by_cases h0 : chkL l = 0
  · have hok := chk_ok h0
    have hsz := chk_sizes h0
    have hff := form_fits l (fun p hp => ⟨(hk p hp).1, by have := (hsz p hp).2; omega⟩) (by omega)
    have HF := Lib.hid (fun W (h : RdP W W.heap.size A l) => form_c A c l W h hc h1 hk (by omega))
    have HRM := Lib.hid (fun W (h : RdP W W.heap.size A l) => room_c A c l W h hc h1 (fun p hp => (hk p hp).2))
    have HP := Lib.hid (show ∀ W, Calls Tryd.prog 17 #[.slice none 0 0, .int .u64 ((formP l).length : Nat), .int .i64 2] W (Gives (form (formP l).length 2) W) from fun W => by
      have h := put_c 0 none 0 [] (formP l).length 2 W (fun h => absurd rfl h) (by omega) (by decide) (by decide) (by decide)
      rw [List.nil_append, tailOf2P] at h
      exact h)
    have HE := Lib.hid (show layR l = form (formP l).length 2 ++ formP l ++ List.replicate (roomL l - (2 + (formP l).length)) 0 by unfold layR layL; rw [if_pos h0])
    have HFL := Lib.hid (form_len (formP l).length 2)
    have HCH := Lib.hid (show Calls Tryd.prog 28 #[.slice A l.length c] w fun e w' => e = .returned (.int .i64 0) ∧ Below w.heap.size w w' by have h := HCH.out; rw [h0] at h; exact h)
    rw [h0]
    have hrm : roomL l ≤ 4096 := hok.2.1
    have HCV := Lib.hid (show IntKind.u64.wrap ((formP l).length : Int) = ((formP l).length : Int) by rw [IntKind.wrap_u64]; omega)
    obtain ⟨R, hR⟩ : ∃ R, R = layR l := ⟨_, rfl⟩
    rw [← hR] at HE ⊢
    generalize form (formP l).length 2 = pre at *
    generalize hrl : roomL l = rm at *
    generalize formP l = F at *
    clear hr hk h0 hok hsz hR
    have HP2 := HP
    generalize hfl : F.length = fl at *
    have HFLL := Lib.hid hfl
    have f1 := HCV.out
    have f2 : IntKind.i64.wrap ((rm : Int) - ((2 + fl : Nat) : Int)) = ((rm - (2 + fl) : Nat) : Int) := by rw [IntWalk.i64_in _ (by omega)]; omega
    have f3 : wrap64 ((rm : Int) - ((2 + fl : Nat) : Int)) = ((rm - (2 + fl) : Nat) : Int) := by rw [wrap_w, w64_in _ (by omega) (by omega)]; omega
    clear hfl hrl
    go_enter Tryd.func22, Tryd.ntmps22
    go_wp2_with (first
      | (go_at_call 28; (refine HCH.out.mono ?_); rintro e W1 ⟨rfl, hb⟩; have HB1 := Lib.hid hb; have HR1 := Lib.hid (RdP.next HR.out hb); clear hb)
      | (go_at_call 29; (refine (HF.out W1 HR1.out).mono ?_); rintro e W2 ⟨v, rfl, ho, hb⟩; obtain ⟨A2, c2, rfl, _, _, r2⟩ := ho.rd; rw [HFLL.out]; have HR2 := Lib.hid (show Rd W2 W2.heap.size A2 (byt F) from r2); have HRP2 := Lib.hid (HR1.out.next hb); have HB2 := Lib.hid (HB1.out.trans (hb.mono HB1.out.size)); clear ho hb r2)
      | (go_at_call 17; (refine (HP.out W2).mono ?_); rintro e W3 ⟨v3, rfl, ho, hb⟩; have HO3 := Lib.hid (show OwnB W3 w.heap.size v3 pre from own_base_le ho HB2.out.size); have HR23 := Lib.hid (HR2.out.below hb); have HRP3 := Lib.hid (HRP2.out.next hb); have HB3 := Lib.hid (HB2.out.trans (hb.mono HB2.out.size)); clear ho hb)
      | (at_builtin; refine wpList_app _ rfl (.tmp 17) (.tmp 18) _ rfl w.heap.size 5 i0 (.int .u8 0) 1 1 Tryd.underlying25 hi hz0 hz1 hz2 rfl (by decide) _ _ _ rfl HO3.out _ _ fl _ (byt F) rfl (by rw [byt_len, HFLL.out]; omega) HR23.out (byt_one F) (by rw [HFL.out]; omega) (by rw [HFL.out]; omega) HB3.out.size ?_; intro v4 W4 hap; have HO4 := Lib.hid (OwnB.app (l := pre) (m := F) (by rw [HFLL.out]; exact hap)); have HB4 := Lib.hid (hap.below HO3.out HB3.out.size); obtain ⟨A4, c4, rfl, _, _, r4⟩ := HO4.out.rd; rw [List.length_append, HFL.out, HFLL.out] at HO4 ⊢; have HRP4 := Lib.hid (show RdP W4 W4.heap.size A l from Rd.ups (Rd.below (Rd.ups HR.out (Nat.le_refl _)) (HB3.out.trans HB4.out)) (Nat.le_trans HB3.out.size HB4.out.size)); clear hap r4)
      | (go_at_call 30; (refine (HRM.out W4 HRP4.out).mono ?_); rintro e W5 ⟨rfl, hb⟩; have HO5 := Lib.hid (show OwnB W5 w.heap.size _ (pre ++ F) from HO4.out.next hb); have HB5 := Lib.hid ((HB3.out.trans HB4.out).trans (hb.mono (Nat.le_trans HB3.out.size HB4.out.size))); clear hb)
      | (at_builtin; obtain ⟨v6, W6, hrun, ho6, hb6⟩ := run_zeros_byt W5 w.heap.size _ (pre ++ F) (rm - (2 + fl)) HO5.out HB5.out.size (by rw [List.length_append, HFL.out, HFLL.out]; omega); rw [show ((rm - (2 + fl) : Nat) : Int) = (rm : Int) - (2 + (fl : Int)) by omega] at hrun; refine Lib.wpList_append_run _ rfl (.tmp 20) (.tmp 25) _ _ rfl _ _ rfl rfl _ _ hrun ?_; have HO6 := Lib.hid ho6; have HB6 := Lib.hid hb6; clear ho6 hb6 hrun))
    refine bodyPost_ret (results_tmp2 rfl _ _ _) rfl ?_
    exact ⟨_, rfl, by rw [HE.out]; exact HO6.out, HB5.out.trans HB6.out⟩
  · have HE := Lib.hid (show layR l = [] by unfold layR; rw [if_neg h0])
    have hq : decide (((chkL l : Nat) : Int) = 0) = false := decide_eq_false (by omega)
    obtain ⟨R, hR⟩ : ∃ R, R = layR l := ⟨_, rfl⟩
    rw [← hR] at HE ⊢
    have hch : chkL l ≤ 3 := by unfold chkL; split <;> (try split) <;> omega
    generalize chkL l = e0 at *
    have hne : ((e0 : Nat) : Int) ≠ 0 := by omega
    clear hr hk hR
    go_enter Tryd.func22, Tryd.ntmps22
    go_wp2_with (go_at_call 28; (refine HCH.out.mono ?_); rintro e W1 ⟨rfl, hb⟩; have HB1 := Lib.hid hb; clear hb)
    refine bodyPost_ret (results_tmp2 rfl _ _ _) rfl ?_
    exact ⟨_, rfl, by rw [HE.out]; exact OwnB.nil_ _ _, HB1.out⟩
end Go.Proofs.YtldjbbcfbjpfcaaDoor
/- Rows of pieces of the call's own. -/
namespace Go.Proofs.YtldjbbcfbjpfcaaDoor
set_option maxRecDepth 100000
open Go.RowKit
set_option linter.unusedVariables false
set_option linter.unusedSimpArgs false
theorem pieceInfo : (Tryd.prog.info? 81).map (fun i => (i.zero, i.size, i.bytes)) = some (some (.agg zPc), 5, 48) := by kernel_rfl
theorem piece_parts : ∃ i, Tryd.prog.info? 81 = some i ∧ i.zero = some (.agg zPc) ∧ i.size = 5 ∧ i.bytes = 48 := by
  obtain ⟨i, hi, hi2⟩ := Option.map_eq_some_iff.1 pieceInfo
  simp only [Prod.mk.injEq] at hi2
  exact ⟨i, hi, hi2.1, hi2.2.1, hi2.2.2⟩
theorem pcs_oneCell (l : List Pc) : ∀ u ∈ pcs l, u.oneCell' = true := by
  intro u hu
  obtain ⟨c, hc, hu⟩ := List.mem_flatten.1 hu
  obtain ⟨p, _, rfl⟩ := List.mem_map.1 hc
  simp [pcL] at hu
  rcases hu with rfl | rfl | rfl | rfl | rfl <;> rfl
/-- pieces of the call's own -/
def OwnP (w : World) (base : Nat) (v : Value) (l : List Pc) : Prop := w.ownsRow base 81 5 v l.length (pcs l)
theorem OwnP.rd {w : World} {base : Nat} {v : Value} {l : List Pc} (h : OwnP w base v l) : ∃ A cap, v = .slice A l.length cap ∧ l.length ≤ cap ∧ cap ≤ maxLen ∧ RdP w w.heap.size A l := own_rd h
theorem OwnP.next {w w' : World} {base : Nat} {v : Value} {l : List Pc} (h : OwnP w base v l) (hb : Below w.heap.size w w') : OwnP w' base v l := own_keep (S := fun _ => False) h (Only.of_below hb) (fun _ _ h => h)
theorem OwnP.rdAt {w : World} {base : Nat} {A : Option Addr} {n c : Nat} {l : List Pc} (h : OwnP w base (.slice A n c) l) : RdP w w.heap.size A l := by
  obtain ⟨A', c', e, _, _, h3⟩ := h.rd
  injection e with e1 e2 e3
  rw [e1]; exact h3
theorem OwnP.open_ {w : World} {base : Nat} {A : Option Addr} {n cap : Nat} {l : List Pc} (h : OwnP w base (.slice A n cap) l) (hne : 0 < l.length) : ∃ g rest, A = some ⟨g, 0, none⟩ ∧ base ≤ g ∧ Blk w g 81 (pcs l ++ rest).toArray ∧ l.length ≤ cap ∧ cap ≤ maxLen ∧ rest.length + l.length * 5 = cap * 5 := by
  rcases h.2 with ⟨_, h0⟩ | ⟨g, cap', cur, e, hb, hh, hn, hm, hc, ht⟩
  · omega
  · injection e with e1 e2 e3
    subst e1 e3
    refine ⟨g, cur.toList.drop (l.length * 5), rfl, hb, ?_, hn, hm, ?_⟩
    · unfold Blk
      rw [hh, ← ht, List.take_append_drop]
    · rw [List.length_drop, Array.length_toList, hc]; omega
theorem OwnP.ofBlk {w : World} {base g cap : Nat} {l : List Pc} {rest : List Value} (hg : base ≤ g) (h : Blk w g 81 (pcs l ++ rest).toArray) (hn : l.length ≤ cap) (hm : cap ≤ maxLen) (hr : rest.length + l.length * 5 = cap * 5) : OwnP w base (.slice (some ⟨g, 0, none⟩) l.length cap) l :=
  ⟨pcs_len l, .inr ⟨g, cap, _, rfl, hg, h, hn, hm, by rw [List.size_toArray, List.length_append, pcs_len]; omega, by rw [← pcs_len l]; exact List.take_left⟩⟩
theorem pcs_at (l : List Pc) (k j : Nat) (hk : k < l.length) (hj : j < 5) : (pcs l)[k * 5 + j]? = (pcL (l.getD k pc0))[j]? := by
  rw [← pcs_one l k hk, List.getElem?_take_of_lt hj, List.getElem?_drop]
theorem pcs_setV : ∀ (l : List Pc) (k : Nat) (x : Int) (_ : k < l.length), (pcs l).set (k * 5 + 2) (.int .i64 x) = pcs (l.set k ⟨(l.getD k pc0).s, (l.getD k pc0).t, x, (l.getD k pc0).n, (l.getD k pc0).d⟩)
  | [], _, _, h => by simp at h
  | p :: l, 0, x, _ => rfl
  | p :: l, k + 1, x, h => by
    rw [List.set_cons_succ, pcs_cons, pcs_cons, show (k + 1) * 5 + 2 = (pcL p).length + (k * 5 + 2) by simp [pcL]; omega, List.set_append_right _ _ (by omega), Nat.add_sub_cancel_left, pcs_setV l k x (by simpa using h)]
    rfl
def ivs (vs : List Int) : List Value := vs.map fun v => .int .i64 v
theorem ivs_cell {w : World} {B : Nat} {A : Option Addr} {vs : List Int} (h : Rd w B A (ivs vs)) (k : Nat) (hk : k < vs.length) : ∃ ad, A = some ad ∧ ad.block < B ∧ w.cell? (ad.add k) = some (.int .i64 (vs.getD k 0)) := by
  obtain ⟨ad, e, hb, hc⟩ := h (by unfold ivs; intro h0; rw [List.map_eq_nil_iff] at h0; rw [h0] at hk; simp at hk)
  refine ⟨ad, e, hb, hc k _ ?_⟩
  simp [ivs, List.getD_eq_getElem?_getD, hk]
theorem layR_like {l m : List Pc} (h : l.map noV = m.map noV) (hl : ∀ p ∈ l, PcOk p) (hm : ∀ p ∈ m, PcOk p) : (layR l).length = (layR m).length := by
  unfold layR
  rw [← chkL_like h]
  split
  · rename_i h0; exact layL_like h h0 hl hm
  · rfl
theorem layR_le {l : List Pc} (hl : ∀ p ∈ l, PcOk p) : (layR l).length ≤ 4096 := by
  unfold layR
  split
  · rename_i h0; rw [layL_len h0 hl]; exact (chk_ok h0).2.1
  · simp
end Go.Proofs.YtldjbbcfbjpfcaaDoor
