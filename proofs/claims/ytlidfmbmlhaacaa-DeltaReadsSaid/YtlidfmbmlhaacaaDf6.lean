/- Contract: the groups. -/
import Derived.Test.YtlidfmbmlhaacaaDf5
namespace Go.Proofs.Ytlidfmbmlhaacaa
open Go.RowKit
set_option linter.unusedVariables false
set_option linter.unusedSimpArgs false
/-- the groups' slices -/
def gv (ad : Addr) (c : Nat) : Nat → List Nat → List Value
  | _, [] => []
  | off, m :: ms => .slice (some (ad.add (off * 5))) m (c - off) :: gv ad c (off + m) ms
theorem gv_len (ad : Addr) (c : Nat) : ∀ (off : Nat) (ms : List Nat), (gv ad c off ms).length = ms.length
  | _, [] => rfl
  | off, m :: ms => by rw [gv, List.length_cons, gv_len ad c (off + m) ms, List.length_cons]
theorem gv_snoc (ad : Addr) (c m : Nat) : ∀ (off : Nat) (ms : List Nat), gv ad c off (ms ++ [m]) = gv ad c off ms ++ [.slice (some (ad.add ((off + ms.sum) * 5))) m (c - (off + ms.sum))]
  | off, [] => by simp [gv]
  | off, n :: ms => by
    rw [List.cons_append, gv, gv, gv_snoc ad c m (off + n) ms, List.sum_cons, List.cons_append, Nat.add_assoc]
theorem gv_at (ad : Addr) (c : Nat) : ∀ (off : Nat) (ms : List Nat) (k : Nat), k < ms.length → (gv ad c off ms)[k]? = some (.slice (some (ad.add ((off + (ms.take k).sum) * 5))) (ms.getD k 0) (c - (off + (ms.take k).sum)))
  | off, [], k, h => by simp at h
  | off, m :: ms, 0, h => by simp [gv]
  | off, m :: ms, k + 1, h => by
    rw [gv, List.getElem?_cons_succ, gv_at ad c (off + m) ms k (by simpa using h), List.take_succ_cons, List.sum_cons, List.getD_cons_succ, Nat.add_assoc]
theorem gv_one (ad : Addr) (c off : Nat) (ms : List Nat) : ∀ u ∈ gv ad c off ms, u.oneCell' = true := by
  induction ms generalizing off with
  | nil => intro u h; cases h
  | cons m ms ih =>
    intro u h
    rcases List.mem_cons.1 h with rfl | h
    · rfl
    · exact ih _ u h
theorem grps_at (l : List Pc) : ∀ (ns : List Nat) (k : Nat) (off : Nat), k < ns.length → (cutsL ns (l.drop off)).getD k [] = (l.drop (off + (ns.take k).sum)).take (ns.getD k 0)
  | [], k, off, h => by simp at h
  | n :: ns, 0, off, h => by simp [cutsL]
  | n :: ns, k + 1, off, h => by
    rw [cutsL, List.getD_cons_succ, List.drop_drop, grps_at l ns k (off + n) (by simpa using h), List.take_succ_cons, List.sum_cons, List.getD_cons_succ, Nat.add_assoc]
theorem cutsL_len : ∀ (ns : List Nat) (l : List Pc), (cutsL ns l).length = ns.length
  | [], _ => rfl
  | n :: ns, l => by rw [cutsL, List.length_cons, cutsL_len ns, List.length_cons]
theorem grps_len (l : List Pc) : (grps l).length = (gls l).length := cutsL_len _ _
theorem gls_sum : ∀ l : List Pc, (gls l).sum = l.length := grps_ind (by rw [gls_nil]; rfl) fun p l ih => by
  rw [gls_cons, List.sum_cons, ih, List.length_drop, List.length_cons]
  have := run1_le p.s l
  omega
theorem gls_le (l : List Pc) (h : 0 < l.length) : gls l = run1 (l.getD 0 pc0).s l :: gls (l.drop (run1 (l.getD 0 pc0).s l)) ∧ 0 < run1 (l.getD 0 pc0).s l ∧ run1 (l.getD 0 pc0).s l ≤ l.length := by
  cases l with
  | nil => simp at h
  | cons p l =>
    have e : run1 p.s (p :: l) = run1 p.s l + 1 := by conv => lhs; unfold run1; rw [if_pos rfl]
    have := run1_le p.s (p :: l)
    rw [List.getD_cons_zero, e]
    rw [e] at this
    exact ⟨by rw [gls_cons, List.drop_succ_cons], by omega, this⟩
def OwnG (w : World) (base : Nat) (v : Value) (xs : List Value) : Prop := w.ownsRow base 22 1 v xs.length xs
theorem OwnG.next {w w' : World} {base : Nat} {v : Value} {xs : List Value} (h : OwnG w base v xs) (hb : Below w.heap.size w w') : OwnG w' base v xs := own_keep (S := fun _ => False) h (Only.of_below hb) (fun _ _ h => h)
theorem OwnG.alloc {w : World} {base : Nat} {v : Value} {xs : List Value} (h : OwnG w base v xs) (o : Obj) : OwnG (w.alloc o) base v xs := World.ownsRow.alloc h o
theorem OwnG.off {w w' : World} {base : Nat} {v : Value} {xs : List Value} {S : Nat → Prop} (h : OwnG w base v xs) (ho : Only S w w') (hS : ∀ k, S k → k < base) : OwnG w' base v xs :=
  own_keep h ho (fun g hg hs => by
    rcases h.2 with ⟨h1, h2⟩ | ⟨g', cap, cur, h1, hb, _⟩
    · rw [h1] at hg; cases hg
    · rw [h1] at hg
      have e : g' = g := by simpa [Value.ownBlock] using hg
      have := hS g hs
      omega)
theorem OwnG.snoc {w w' : World} {base : Nat} {v v' x : Value} {xs : List Value} (h : Apped w base 22 1 v w' v' (xs.length + 1) (xs ++ [x])) : OwnG w' base v' (xs ++ [x]) := by
  have := h.own
  unfold OwnG
  rw [List.length_append]
  exact this
theorem grpInfo : (Try.prog.info? 22).map (fun i => (i.zero, i.size, i.bytes)) = some (some (.slice none 0 0), 1, 24) := by kernel_rfl
set_option maxRecDepth 100000 in
set_option maxHeartbeats 2000000 in
theorem groups_c (ad : Addr) (c : Nat) (l : List Pc) (w : World) (hat : AtA w ad (pcs l)) (hab : ad.block < w.heap.size) (hc : l.length ≤ c) (h0 : 0 < l.length) (h1 : l.length ≤ 100000) :
    Calls Try.prog 33 #[.slice (some ad) l.length c] w fun e w' => ∃ v, e = .returned v ∧ OwnG w' w.heap.size v (gv ad c 0 (gls l)) ∧ Below w.heap.size w w' := by
  obtain ⟨i0, hib, hz0, hz1, hz2⟩ := info_parts grpInfo
  have HAT := Lib.hid hat
  have HAB := Lib.hid hab
  have HLEN := Lib.hid (show (gls l).length ≤ l.length from by
    have hgn : ∀ l : List Pc, (gls l).length ≤ l.length := grps_ind (by rw [gls_nil]; exact Nat.le_refl _) fun p l ih => by
      rw [gls_cons, List.length_cons, List.length_cons]
      rw [List.length_drop] at ih
      omega
    exact hgn l)
  clear hat hab
  go_enter Try.func33, Try.ntmps33
  go_wp2_with fail
  go_loopw [3] (fun o wr => ∃ (ms : List Nat) (A' : Option Addr), ms.sum ≤ l.length ∧ gls l = ms ++ gls (l.drop ms.sum) ∧ OwnG wr (w.heap.size + 1) o (gv ad c 0 ms) ∧ Below w.heap.size w wr ∧ Blk wr w.heap.size 22 #[.slice A' (l.length - ms.sum) (c - ms.sum)] ∧ (ms.sum < l.length → A' = some (ad.add (ms.sum * 5))) ∧ w.heap.size + 1 ≤ wr.heap.size) (fun _ wr => match wr.cell? ⟨w.heap.size, 0, none⟩ with | some (.slice _ n _) => n | _ => 0)
  case atStart => exact ⟨[], some ad, Nat.zero_le _, by simp, ⟨rfl, .inl ⟨rfl, rfl⟩⟩, (Below.refl _ _).alloc (Nat.le_refl _) _, Blk.new _ _ _, fun _ => by simp [Addr.add], by simp⟩
  case round =>
    rename World => wr
    obtain ⟨ms, A', hms, hgl, ho, hb, hB, hA, hsz⟩ := hrel
    have HGL := Lib.hid hgl
    have HO := Lib.hid ho
    have HB := Lib.hid hb
    have HBK := Lib.hid hB
    have HSZ := Lib.hid hsz
    have c0 : wr.cell? ⟨w.heap.size, 0, none⟩ = some (.slice A' (l.length - ms.sum) (c - ms.sum)) := (hB.cell 0).trans rfl
    have fz : wr.frozen? ⟨w.heap.size, 0, none⟩ = false := hB.free 0
    clear hgl ho hb hB hsz
    by_cases hlt : ms.sum < l.length
    · have hAA := hA hlt
      subst hAA
      have HATW := Lib.hid (show AtA wr (ad.add (ms.sum * 5)) (pcs (l.drop ms.sum)) by
        rw [pcs_drop]
        have h1 := (HAT.out.below HB.out HAB.out).drop (ms.sum * 5) ((pcs l).length - ms.sum * 5)
        rwa [List.take_of_length_le (by rw [List.length_drop]; exact Nat.le_refl _)] at h1)
      have HG := gls_le (l.drop ms.sum) (by rw [List.length_drop]; omega)
      have HLL := Lib.hid (show (l.drop ms.sum).length = l.length - ms.sum from List.length_drop ..)
      have HIC := Lib.hid (index_c w.heap.size (c - ms.sum) (ad.add (ms.sum * 5)) (l.drop ms.sum) ((l.drop ms.sum).getD 0 pc0).s wr (by rw [HLL.out]; exact c0) (by rw [HLL.out]; omega) rfl HATW.out HBK.out.lt (by have := HB.out.size; have := HAB.out; rw [add_block]; omega) (by rw [HLL.out]; omega))
      rw [HLL.out] at HIC HG
      rw [List.drop_drop] at HG
      obtain ⟨m, hm⟩ : ∃ m, m = run1 ((l.drop ms.sum).getD 0 pc0).s (l.drop ms.sum) := ⟨_, rfl⟩
      rw [← hm] at HIC HG
      obtain ⟨hg1, hg2, hg3⟩ := HG
      have HGS := Lib.hid (gv_snoc ad c m 0 ms)
      rw [Nat.zero_add] at HGS
      have HGM := Lib.hid (show gls l = (ms ++ [m]) ++ gls (l.drop (ms.sum + m)) by rw [HGL.out, hg1, List.append_assoc]; rfl)
      have HSUM := Lib.hid (show (ms ++ [m]).sum = ms.sum + m by simp)
      have HGN := Lib.hid (gv_len ad c 0 ms)
      have HMN := Lib.hid (show ms.length ≤ l.length from by have h1 := congrArg List.length HGL.out; rw [List.length_append] at h1; have := HLEN.out; omega)
      have HADD := Lib.hid (show (ad.add (ms.sum * 5)).add (m * 5) = ad.add ((ms.sum + m) * 5) by rw [Addr.add_add, Nat.add_mul])
      clear hm hg1 HATW hA HGL
      obtain ⟨N, hN⟩ : ∃ N, N = l.length - ms.sum := ⟨_, rfl⟩
      obtain ⟨C, hC⟩ : ∃ C, C = c - ms.sum := ⟨_, rfl⟩
      rw [← hN] at HIC hg3 c0
      rw [← hC] at HIC HGS c0
      have HNN := Lib.hid (show l.length - (ms.sum + m) = N - m by omega)
      have HCC := Lib.hid (show c - (ms.sum + m) = C - m by omega)
      have hNC : N ≤ C := by omega
      have hms2 : ms.sum + m ≤ l.length := by omega
      have HBK2 := Lib.hid (show Blk wr w.heap.size 22 #[.slice (some (ad.add (ms.sum * 5))) N C] by rw [hN, hC]; exact HBK.out)
      have hN0 : (0 : Int) < (N : Int) := by omega
      have hNle : N ≤ l.length := by omega
      clear hN hC hms hlt HLL HBK
      generalize ad.add (ms.sum * 5) = a' at *
      have q0 : (0 : Int) ≤ (m : Int) := by omega
      have q1 : (m : Int) ≤ (N : Int) := by omega
      have q2 : (m : Int) ≤ (C : Int) := by omega
      have q3 : decide ((m : Int) < 0) = false := decide_eq_false (by omega)
      have q4 : decide ((-1 : Int) < 0) = true := rfl
      by_cases hmN : m < N
      · have hid : idxR m N = (m : Int) := by unfold idxR; rw [if_pos hmN]
        rw [hid] at HIC
        have hCm : ¬ C = m := by omega
        clear hid
        go_wp2_with (first
          | (go_at_call 49; (refine HIC.out.mono ?_); rintro e W1 ⟨rfl, hb1⟩; have HB1 := Lib.hid (HB.out.trans (hb1.mono HB.out.size)); have HO1 := Lib.hid (show OwnG W1 (w.heap.size + 1) _ (gv ad c 0 ms) from OwnG.next HO.out hb1); have HBK1 := HBK2.out.below hb1 HBK2.out.lt; have d0 : W1.cell? ⟨w.heap.size, 0, none⟩ = some (.slice (some a') N C) := (HBK1.cell 0).trans rfl; have HBK3 := Lib.hid HBK1; have HS1 := Lib.hid (Nat.le_trans HSZ.out hb1.size); clear hb1 HBK1)
          | (at_builtin; go_loud (refine wpList_app _ rfl (.tmp 15) (.tmp 19) _ rfl (w.heap.size + 1) 22 i0 (.slice none 0 0) 1 24 Try.underlying56 hib hz0 hz1 hz2 rfl (by decide) _ _ (gv ad c 0 ms) rfl (HO1.out.alloc _) _ (some ⟨W1.heap.size, 0, none⟩) 1 1 [.slice (some a') m C] rfl rfl (by exact rd_new W1 [.slice (some a') m C] _ (0, 0)) (by intro u hu; rw [List.mem_singleton.1 hu]; rfl) (by rw [HGN.out]; have := HMN.out; omega) (by rw [HGN.out]; have := HMN.out; omega) (by have := HS1.out; simp; omega) ?_; intro v1 w2 hap; have hbw := hap.below (HO1.out.alloc _) (by have := HS1.out; simp; omega); have hbk4 := (HBK3.out.alloc (Obj.cells #[.slice (some a') m C] 22)).below hbw (Nat.lt_succ_self _); have d1 : w2.cell? ⟨w.heap.size, 0, none⟩ = some (.slice (some a') N C) := (hbk4.cell 0).trans rfl; have d2 : w2.frozen? ⟨w.heap.size, 0, none⟩ = false := hbk4.free 0; have HBK4 := Lib.hid hbk4; have HAP := Lib.hid (OwnG.snoc hap); have HB2 := Lib.hid ((HB1.out.alloc HB1.out.size (Obj.cells #[.slice (some a') m C] 22)).trans (hbw.mono (Nat.le_succ _))); have HS2 := Lib.hid (show w.heap.size + 1 ≤ w2.heap.size from Nat.le_trans (Nat.le_trans HS1.out (by simp)) hbw.size); clear hap hbw hbk4 d0)))
        go_roundw
        case rel => exact ⟨ms ++ [m], _, by rw [HSUM.out]; omega, by rw [HSUM.out]; exact HGM.out, by rw [HGS.out]; exact HAP.out.off ((Only.refl (fun k => k = w.heap.size) w2).setCell (p := ⟨w.heap.size, 0, none⟩) (fun _ => rfl) _) (fun k hk => by omega), HB2.out.setCell (by show w.heap.size ≤ w.heap.size; omega) _, by rw [HSUM.out, HNN.out, HCC.out]; exact HBK4.out.set_ 0 _, fun h => by rw [HSUM.out, HADD.out], by simpa using HS2.out⟩
        case measure =>
          have HM1 := (HBK4.out.set_ 0 (.slice (some (a'.add (m * 5))) (N - m) (C - m))).cell 0
          have HM0 := (HBK2.out.cell 0)
          rw [HM0, HM1]
          show (N - m) < N
          omega
      · have hmN2 : m = N := by omega
        subst hmN2
        have hid : idxR m m = -1 := by unfold idxR; rw [if_neg (by omega)]
        rw [hid] at HIC
        clear hid hmN q1
        have HEND := Lib.hid (show ms.sum + m = l.length by have := HNN.out; omega)
        by_cases hCm : C = m
        · have hCm' : m = C := hCm.symm
          subst hCm'
          clear hCm
          go_wp2_with (first
            | (go_at_call 49; (refine HIC.out.mono ?_); rintro e W1 ⟨rfl, hb1⟩; have HB1 := Lib.hid (HB.out.trans (hb1.mono HB.out.size)); have HO1 := Lib.hid (show OwnG W1 (w.heap.size + 1) _ (gv ad c 0 ms) from OwnG.next HO.out hb1); have HBK1 := HBK2.out.below hb1 HBK2.out.lt; have d0 : W1.cell? ⟨w.heap.size, 0, none⟩ = some (.slice (some a') m m) := (HBK1.cell 0).trans rfl; have HBK3 := Lib.hid HBK1; have HS1 := Lib.hid (Nat.le_trans HSZ.out hb1.size); clear hb1 HBK1)
            | (at_builtin; go_loud (refine wpList_app _ rfl (.tmp 15) (.tmp 19) _ rfl (w.heap.size + 1) 22 i0 (.slice none 0 0) 1 24 Try.underlying56 hib hz0 hz1 hz2 rfl (by decide) _ _ (gv ad c 0 ms) rfl (HO1.out.alloc _) _ (some ⟨W1.heap.size, 0, none⟩) 1 1 [.slice (some a') m m] rfl rfl (by exact rd_new W1 [.slice (some a') m m] _ (0, 0)) (by intro u hu; rw [List.mem_singleton.1 hu]; rfl) (by rw [HGN.out]; have := HMN.out; omega) (by rw [HGN.out]; have := HMN.out; omega) (by have := HS1.out; simp; omega) ?_; intro v1 w2 hap; have hbw := hap.below (HO1.out.alloc _) (by have := HS1.out; simp; omega); have hbk4 := (HBK3.out.alloc (Obj.cells #[.slice (some a') m m] 22)).below hbw (Nat.lt_succ_self _); have d1 : w2.cell? ⟨w.heap.size, 0, none⟩ = some (.slice (some a') m m) := (hbk4.cell 0).trans rfl; have d2 : w2.frozen? ⟨w.heap.size, 0, none⟩ = false := hbk4.free 0; have HBK4 := Lib.hid hbk4; have HAP := Lib.hid (OwnG.snoc hap); have HB2 := Lib.hid ((HB1.out.alloc HB1.out.size (Obj.cells #[.slice (some a') m m] 22)).trans (hbw.mono (Nat.le_succ _))); have HS2 := Lib.hid (show w.heap.size + 1 ≤ w2.heap.size from Nat.le_trans (Nat.le_trans HS1.out (by simp)) hbw.size); clear hap hbw hbk4 d0)))
          go_roundw
          case rel => exact ⟨ms ++ [m], _, by rw [HSUM.out]; omega, by rw [HSUM.out]; exact HGM.out, by rw [HGS.out]; exact HAP.out.off ((Only.refl (fun k => k = w.heap.size) w2).setCell (p := ⟨w.heap.size, 0, none⟩) (fun _ => rfl) _) (fun k hk => by omega), HB2.out.setCell (by show w.heap.size ≤ w.heap.size; omega) _, by rw [HSUM.out, HNN.out, HCC.out, Nat.sub_self]; exact HBK4.out.set_ 0 _, fun h => by rw [HSUM.out, HEND.out] at h; omega, by simpa using HS2.out⟩
          case measure =>
            have HM1 := (HBK4.out.set_ 0 (.slice (some a') 0 (0))).cell 0
            have HM0 := (HBK2.out.cell 0)
            rw [HM0, HM1]
            show 0 < m
            omega
        · go_wp2_with (first
            | (go_at_call 49; (refine HIC.out.mono ?_); rintro e W1 ⟨rfl, hb1⟩; have HB1 := Lib.hid (HB.out.trans (hb1.mono HB.out.size)); have HO1 := Lib.hid (show OwnG W1 (w.heap.size + 1) _ (gv ad c 0 ms) from OwnG.next HO.out hb1); have HBK1 := HBK2.out.below hb1 HBK2.out.lt; have d0 : W1.cell? ⟨w.heap.size, 0, none⟩ = some (.slice (some a') m C) := (HBK1.cell 0).trans rfl; have HBK3 := Lib.hid HBK1; have HS1 := Lib.hid (Nat.le_trans HSZ.out hb1.size); clear hb1 HBK1)
            | (at_builtin; go_loud (refine wpList_app _ rfl (.tmp 15) (.tmp 19) _ rfl (w.heap.size + 1) 22 i0 (.slice none 0 0) 1 24 Try.underlying56 hib hz0 hz1 hz2 rfl (by decide) _ _ (gv ad c 0 ms) rfl (HO1.out.alloc _) _ (some ⟨W1.heap.size, 0, none⟩) 1 1 [.slice (some a') m C] rfl rfl (by exact rd_new W1 [.slice (some a') m C] _ (0, 0)) (by intro u hu; rw [List.mem_singleton.1 hu]; rfl) (by rw [HGN.out]; have := HMN.out; omega) (by rw [HGN.out]; have := HMN.out; omega) (by have := HS1.out; simp; omega) ?_; intro v1 w2 hap; have hbw := hap.below (HO1.out.alloc _) (by have := HS1.out; simp; omega); have hbk4 := (HBK3.out.alloc (Obj.cells #[.slice (some a') m C] 22)).below hbw (Nat.lt_succ_self _); have d1 : w2.cell? ⟨w.heap.size, 0, none⟩ = some (.slice (some a') m C) := (hbk4.cell 0).trans rfl; have d2 : w2.frozen? ⟨w.heap.size, 0, none⟩ = false := hbk4.free 0; have HBK4 := Lib.hid hbk4; have HAP := Lib.hid (OwnG.snoc hap); have HB2 := Lib.hid ((HB1.out.alloc HB1.out.size (Obj.cells #[.slice (some a') m C] 22)).trans (hbw.mono (Nat.le_succ _))); have HS2 := Lib.hid (show w.heap.size + 1 ≤ w2.heap.size from Nat.le_trans (Nat.le_trans HS1.out (by simp)) hbw.size); clear hap hbw hbk4 d0)))
          go_roundw
          case rel => exact ⟨ms ++ [m], _, by rw [HSUM.out]; omega, by rw [HSUM.out]; exact HGM.out, by rw [HGS.out]; exact HAP.out.off ((Only.refl (fun k => k = w.heap.size) w2).setCell (p := ⟨w.heap.size, 0, none⟩) (fun _ => rfl) _) (fun k hk => by omega), HB2.out.setCell (by show w.heap.size ≤ w.heap.size; omega) _, by rw [HSUM.out, HNN.out, HCC.out, Nat.sub_self]; exact HBK4.out.set_ 0 _, fun h => by rw [HSUM.out, HEND.out] at h; omega, by simpa using HS2.out⟩
          case measure =>
            have HM1 := (HBK4.out.set_ 0 (.slice (some (a'.add (m * 5))) 0 (C - m))).cell 0
            have HM0 := (HBK2.out.cell 0)
            rw [HM0, HM1]
            show 0 < m
            omega
    · have hend : ms.sum = l.length := by omega
      have HFG := Lib.hid (show gls l = ms by rw [HGL.out, hend, List.drop_length, gls_nil, List.append_nil])
      have hn0 : l.length - ms.sum = 0 := by omega
      rw [hn0] at c0
      clear hn0 hend hlt hA
      go_wp2_with fail
      refine bodyPost_ret (results_tmp rfl _ _ _) rfl ?_
      exact ⟨_, rfl, by rw [HFG.out]; exact own_base_le HO.out (by omega), HB.out⟩
end Go.Proofs.Ytlidfmbmlhaacaa
