/- Parts, one behind the other: Ce2 Dl0 Dl1 Dl3 Dk1 Dk2 Dk3 Dk4 Dk5 Bx3 Bx4 Bx5 Ce3 Bx6. -/
import Derived.Test.YtldjbbcfbjpfcaaDoorZ06
import Derived.Deep.CutRange
import Derived.Laws.BytesArg
import Derived.WalkMore
/- Contract: sealed, by the document. -/
namespace Go.Proofs.YtldjbbcfbjpfcaaDoor
set_option maxRecDepth 100000
open Go.RowKit
set_option linter.unusedVariables false
set_option linter.unusedSimpArgs false
theorem zero_b32 (w : World) : (zeroValue 41).run Tryd.prog w = .ok (.agg (vb (List.replicate 32 0))) w := by kernel_rfl
theorem b32Sz {L : List Nat} (h : L.length = 32) : (Tryd.prog.info? 41).map (·.size) = some (vb L).size := by rw [vb_size, h]; kernel_rfl
/-- zeros up to a multiple of 16 -/
theorem pad_step (n j : Nat) (h : j < padN n) : (n + j) % 16 ≠ 0 := by unfold padN at h; omega
theorem pad_end (n : Nat) : (n + padN n) % 16 = 0 := by unfold padN; omega
theorem pad_more (n m : Nat) (h : n % 16 = 0) : padN (n + m) = padN m := by unfold padN; omega
theorem zs_snoc (l : List Nat) (j : Nat) : l ++ zs (j + 1) = (l ++ zs j) ++ [0] := by
  unfold zs
  rw [List.replicate_succ', List.append_assoc]
theorem mapZ_getD (l : List Nat) (n : Nat) (h : n ≤ l.length) : (List.range n).map (fun i => l.getD i 0) = l.take n := by
  apply List.ext_getElem
  · simp; omega
  · intro i h1 h2
    simp at h1
    simp [List.getD_eq_getElem?_getD, List.getElem?_eq_getElem (show i < l.length by omega)]
end Go.Proofs.YtldjbbcfbjpfcaaDoor
/- The document's form of pieces, step by step: plain. -/
namespace Go.Proofs.YtldjbbcfbjpfcaaDoor
set_option maxRecDepth 100000
open Go.RowKit
set_option linter.unusedVariables false
set_option linter.unusedSimpArgs false
def tailF (l : List Pc) : List Nat := ((grps l).map putL).flatten
def runAt (l : List Pc) (i : Nat) : Nat := run1 (l.getD i pc0).s (l.drop i)
theorem drop_getD {l : List Pc} {i : Nat} (h : i < l.length) : l.drop i = l.getD i pc0 :: l.drop (i + 1) := by
  rw [List.drop_eq_getElem_cons h]
  simp [List.getD_eq_getElem?_getD, h]
theorem run1_atD {l : List Pc} {k : Nat} (s : ByteArray) (h : k < l.length) : run1 s (l.drop k) = if (l.getD k pc0).s = s then run1 s (l.drop (k + 1)) + 1 else 0 := by
  rw [drop_getD h]
  rfl
theorem run1_end {l : List Pc} {k : Nat} (s : ByteArray) (h : l.length ≤ k) : run1 s (l.drop k) = 0 := by rw [List.drop_of_length_le h]; rfl
theorem runAt_pos {l : List Pc} {i : Nat} (h : i < l.length) : 1 ≤ runAt l i ∧ i + runAt l i ≤ l.length := by
  unfold runAt
  have h1 := run1_atD (l.getD i pc0).s h
  rw [if_pos rfl] at h1
  have h2 := run1_le (l.getD i pc0).s (l.drop i)
  rw [List.length_drop] at h2
  omega
theorem grps_atD {l : List Pc} {i : Nat} (h : i < l.length) : grps (l.drop i) = (l.drop i).take (runAt l i) :: grps (l.drop (i + runAt l i)) := by
  unfold runAt
  have h1 := run1_atD (l.getD i pc0).s h
  rw [if_pos rfl] at h1
  rw [h1]
  rw [drop_getD h, grps_cons, List.take_succ_cons, List.drop_drop, show i + 1 + run1 (l.getD i pc0).s (l.drop (i + 1)) = i + (run1 (l.getD i pc0).s (l.drop (i + 1)) + 1) by omega]
def pT (l : List Pc) (i j : Nat) : Int := if j = i then 0 else (l.getD (j - 1) pc0).t
def pS1 (l : List Pc) (i j : Nat) : Int := if j = i then 0 else (l.getD (j - 1) pc0).t
def pS (l : List Pc) (i j : Nat) : Int := if j = i then 0 else if j = i + 1 then (l.getD i pc0).t else w64 ((l.getD (j - 1) pc0).t - (l.getD (j - 2) pc0).t)
def pVl (l : List Pc) (i j : Nat) : Int := if j = i then 0 else (l.getD (j - 1) pc0).v
def rowsAt (l : List Pc) (i j : Nat) : List Nat := rowsL (pT l i j) (pS l i j) (pVl l i j) (((l.drop i).take (runAt l i)).drop (j - i))
theorem tail_at {l : List Pc} {i : Nat} (h : i < l.length) : tailF (l.drop i) = ((sh (l.getD i pc0).s.size ++ sby (l.getD i pc0).s) ++ sh (runAt l i)) ++ (rowsAt l i i ++ tailF (l.drop (i + runAt l i))) := by
  have hr := runAt_pos h
  unfold tailF
  rw [grps_atD h, List.map_cons, List.flatten_cons]
  have hl : ((l.drop i).take (runAt l i)).length = runAt l i := by rw [List.length_take, List.length_drop]; omega
  have hg : (l.drop i).take (runAt l i) = l.getD i pc0 :: (l.drop (i + 1)).take (runAt l i - 1) := by
    rw [drop_getD h]
    obtain ⟨m, hm⟩ : ∃ m, runAt l i = m + 1 := ⟨runAt l i - 1, by omega⟩
    rw [hm, List.take_succ_cons]
    rfl
  unfold rowsAt pT pS pVl
  rw [Nat.sub_self, List.drop_zero, if_pos rfl, if_pos rfl, if_pos rfl]
  have hp : putL ((l.drop i).take (runAt l i)) = sh (l.getD i pc0).s.size ++ sby (l.getD i pc0).s ++ sh (runAt l i) ++ rowsL 0 0 0 ((l.drop i).take (runAt l i)) := by
    conv => lhs; rw [hg]
    unfold putL
    simp only
    rw [← hg, hl]
  rw [hp]
  simp only [List.append_assoc]
theorem rows_end (l : List Pc) (i : Nat) (h : i < l.length) : rowsAt l i (i + runAt l i) = [] := by
  unfold rowsAt
  have hr := runAt_pos h
  rw [List.drop_of_length_le (by rw [List.length_take, List.length_drop]; omega)]
  rfl
theorem rows_at {l : List Pc} {i j : Nat} (hl : ∀ p ∈ l, PcOk p) (h0 : i ≤ j) (h1 : j < i + runAt l i) (h2 : i + runAt l i ≤ l.length) :
    rowsAt l i j = (((sh (zig (w64 (w64 ((l.getD j pc0).t - pT l i j) - pS l i j))) ++ sh (zig (w64 ((l.getD j pc0).v - pVl l i j)))) ++ sh (l.getD j pc0).n) ++ form (l.getD j pc0).d 2) ++ rowsAt l i (j + 1) := by
  unfold rowsAt
  have hd : ((l.drop i).take (runAt l i)).drop (j - i) = l.getD j pc0 :: ((l.drop i).take (runAt l i)).drop (j + 1 - i) := by
    have hlt : j - i < ((l.drop i).take (runAt l i)).length := by rw [List.length_take, List.length_drop]; omega
    rw [List.drop_eq_getElem_cons hlt, show j - i + 1 = j + 1 - i by omega]
    congr 1
    rw [List.getElem_take, List.getElem_drop]
    simp only [show i + (j - i) = j by omega]
    simp [List.getD_eq_getElem?_getD, show j < l.length by omega]
  rw [hd, rowsL]
  have e1 : pT l i (j + 1) = (l.getD j pc0).t := by unfold pT; rw [if_neg (by omega)]; rfl
  have e2 : pVl l i (j + 1) = (l.getD j pc0).v := by unfold pVl; rw [if_neg (by omega)]; rfl
  have e3 : pS l i (j + 1) = w64 ((l.getD j pc0).t - pT l i j) := by
    unfold pS pT
    rw [if_neg (by omega)]
    by_cases hji : j = i
    · subst hji
      rw [if_pos rfl, if_pos rfl]
      have hm : l.getD j pc0 ∈ l := by simp [List.getD_eq_getElem?_getD, show j < l.length by omega]
      have := hl _ hm
      rw [Int.sub_zero, w64_in _ this.t0 this.t1]
    · rw [if_neg (by omega), if_neg hji, show j + 1 - 1 = j from rfl, show j + 1 - 2 = j - 1 from rfl]
  rw [e1, e2, e3]
theorem pT_bd {l : List Pc} {i j : Nat} (h : ∀ k, k < l.length → PcOk (l.getD k pc0)) (hj : j < l.length) : -9223372036854775808 ≤ pT l i j ∧ pT l i j ≤ 9223372036854775807 := by
  unfold pT
  split
  · decide
  · exact ⟨(h _ (by omega)).t0, (h _ (by omega)).t1⟩
theorem pV_bd {l : List Pc} {i j : Nat} (h : ∀ k, k < l.length → PcOk (l.getD k pc0)) (hj : j < l.length) : -9223372036854775808 ≤ pVl l i j ∧ pVl l i j ≤ 9223372036854775807 := by
  unfold pVl
  split
  · decide
  · exact ⟨(h _ (by omega)).v0, (h _ (by omega)).v1⟩
theorem pS_bd {l : List Pc} {i j : Nat} (h : ∀ k, k < l.length → PcOk (l.getD k pc0)) (hj : j < l.length) : -9223372036854775808 ≤ pS l i j ∧ pS l i j ≤ 9223372036854775807 := by
  unfold pS
  split
  · decide
  · split
    · exact ⟨(h _ (by omega)).t0, (h _ (by omega)).t1⟩
    · exact ⟨w64_lo _, w64_hi _⟩
theorem grps_len_le (l : List Pc) : (grps l).length ≤ l.length := by
  have hgn : ∀ l : List Pc, (grps l).length ≤ l.length := grps_ind (by rw [grps_nil]; exact Nat.le_refl _) fun p l ih => by
    rw [grps_cons, List.length_cons, List.length_cons]
    rw [List.length_drop] at ih
    omega
  exact hgn l
end Go.Proofs.YtldjbbcfbjpfcaaDoor
/- Contract: the document's form of pieces. -/
namespace Go.Proofs.YtldjbbcfbjpfcaaDoor
set_option maxRecDepth 100000
open Go.RowKit
set_option linter.unusedVariables false
set_option linter.unusedSimpArgs false
theorem AtA.fld {w : World} {a : Addr} {p : Pc} (h : AtA w a (pcL p)) : w.cell? ⟨a.block, a.off + 1, none⟩ = some (.int .i64 p.t) ∧ w.cell? ⟨a.block, a.off + 2, none⟩ = some (.int .i64 p.v) ∧ w.cell? ⟨a.block, a.off + 3, none⟩ = some (.int .u64 (p.n : Int)) ∧ w.cell? ⟨a.block, a.off + 4, none⟩ = some (.int .u16 (p.d : Int)) := ⟨h 1 _ rfl, h 2 _ rfl, h 3 _ rfl, h 4 _ rfl⟩
def contB (l : List Pc) (i k : Nat) : Bool := decide (k < l.length) && ((l.getD k pc0).s.toList == (l.getD i pc0).s.toList)
theorem contB_yes {l : List Pc} {i k : Nat} (h : contB l i k = true) : k < l.length ∧ run1 (l.getD i pc0).s (l.drop k) = run1 (l.getD i pc0).s (l.drop (k + 1)) + 1 := by
  unfold contB at h
  rw [Bool.and_eq_true, decide_eq_true_eq, beq_iff_eq] at h
  exact ⟨h.1, by rw [run1_atD _ h.1, if_pos (toList_inj h.2)]⟩
theorem contB_no {l : List Pc} {i k : Nat} (h : contB l i k = false) : run1 (l.getD i pc0).s (l.drop k) = 0 := by
  rcases Nat.lt_or_ge k l.length with hk | hk
  · unfold contB at h
    rw [decide_eq_true hk, Bool.true_and, beq_eq_false_iff_ne] at h
    rw [run1_atD _ hk, if_neg (fun e => h (by rw [e]))]
  · exact run1_end _ hk
def RowPost (T0 : List Nat) (base : Nat) (w wr : World) (ov : Value) (pre : List Nat) (more : List Nat) : Prop := T0 = pre ++ more ∧ OwnB wr base ov pre ∧ Below base w wr
end Go.Proofs.YtldjbbcfbjpfcaaDoor
/- Contract: the document's laying of pieces. -/
namespace Go.Proofs.YtldjbbcfbjpfcaaDoor
set_option maxRecDepth 100000
open Go.RowKit
set_option linter.unusedVariables false
set_option linter.unusedSimpArgs false
end Go.Proofs.YtldjbbcfbjpfcaaDoor
/- The reader: its state; a short number is read. -/
namespace Go.Proofs.YtldjbbcfbjpfcaaDoor
set_option maxRecDepth 100000
open Go.RowKit
set_option linter.unusedVariables false
set_option linter.unusedSimpArgs false
/-- a reader at g: what is left, whether all was in form -/
def RdrAt (w : World) (g B : Nat) (b : List Nat) (bad : Bool) : Prop :=
  ∃ A c, Blk w g 75 #[.slice A b.length c, .bool bad] ∧ Rd w B A (byt b) ∧ b.length ≤ c ∧ c ≤ maxLen
theorem RdrAt.keep {w w' : World} {g B : Nat} {b : List Nat} {bad : Bool} {S : Nat → Prop} (h : RdrAt w g B b bad) (ho : Only S w w') (hg : ¬ S g) (hB : ∀ k, k < B → ¬ S k) : RdrAt w' g B b bad := by
  obtain ⟨A, c, h1, h2, h3, h4⟩ := h
  refine ⟨A, c, h1.keep ho hg, fun hne => ?_, h3, h4⟩
  obtain ⟨ad, e, hb, hc⟩ := h2 hne
  exact ⟨ad, e, hb, fun j u hu => ho.cell (hc j u hu) (by rw [add_block]; exact hB _ hb)⟩
theorem rdr_end {w : World} {g B : Nat} {A A' : Option Addr} {c u c' : Nat} {b : List Nat} {bad : Bool} (x : Bool) (hb : Blk w g 75 #[.slice A b.length c, .bool bad]) (hrd : Rd w B A (byt b)) (hB : B ≤ g) (hc : b.length ≤ c) (hm : c ≤ maxLen) (hu : u ≤ b.length)
    (hc' : c' = c - u) (hA : c ≠ u → A' = Option.map (fun x => x.add u) A) :
    RdrAt ((w.setCell ⟨g, 1, none⟩ (.bool x)).setCell ⟨g, 0, none⟩ (.slice A' (b.length - u) c')) g B (b.drop u) x ∧ Only (fun k => k = g) w ((w.setCell ⟨g, 1, none⟩ (.bool x)).setCell ⟨g, 0, none⟩ (.slice A' (b.length - u) c')) := by
  have hdl : (b.drop u).length = b.length - u := List.length_drop ..
  have hO : Only (fun k => k = g) w ((w.setCell ⟨g, 1, none⟩ (.bool x)).setCell ⟨g, 0, none⟩ (.slice A' (b.length - u) c')) := ((Only.refl (fun k => k = g) w).setCell (p := ⟨g, 1, none⟩) (fun _ => show g = g from rfl) _).setCell (p := ⟨g, 0, none⟩) (fun _ => show g = g from rfl) _
  refine ⟨⟨A', c', ?_, fun hne => ?_, by rw [hdl]; omega, by omega⟩, hO⟩
  · rw [hdl]
    exact (hb.set_ 1 (.bool x)).set_ 0 (.slice A' (b.length - u) c')
  · have hlt : 0 < (b.drop u).length := by
      rcases Nat.eq_zero_or_pos (b.drop u).length with h0 | h0
      · rw [List.eq_nil_of_length_eq_zero h0] at hne; exact absurd rfl hne
      · exact h0
    rw [hdl] at hlt
    obtain ⟨ad, rfl, hab, hcell⟩ := hrd (by intro h0; have h3 := congrArg List.length h0; rw [byt_len, List.length_nil] at h3; omega)
    have hnb : ad.block ≠ g := by omega
    refine ⟨ad.add u, hA (by omega), by rw [add_block]; exact hab, fun j v hv => ?_⟩
    rw [Addr.add_add]
    refine hO.cell (hcell (u + j) v ?_) (by rw [add_block]; exact hnb)
    unfold byt at hv ⊢
    rw [List.map_drop, List.getElem?_drop] at hv
    exact hv
set_option maxRecDepth 100000 in
set_option maxHeartbeats 2000000 in
theorem rshortR_c (g B : Nat) (b : List Nat) (bad : Bool) (w : World) (hr : RdrAt w g B b bad) (hB : B ≤ g) (hl : ∀ c ∈ b, c < 256) (h1 : b.length ≤ 10000000) :
    Calls Tryd.prog 34 #[.pointer (some ⟨g, 0, none⟩)] w fun e w' => e = .returned (.int .u64 ((rdS b bad).1 : Nat)) ∧ RdrAt w' g B (rdS b bad).2.1 (rdS b bad).2.2 ∧ Only (fun k => k = g) w w' := by
  obtain ⟨A, c, hb, hrd, hc, hm⟩ := hr
  have HG := Lib.hid (getShort_c B A c b w hrd hl h1)
  have HU := Lib.hid (show (gsF 0 0 b).2.1 ≤ b.length by have := gsF_used b 0 0; omega)
  have HE1 : rdS b bad = ((gsF 0 0 b).1, b.drop (gsF 0 0 b).2.1, bad || decide ((gsF 0 0 b).2.2 ≠ 0)) := rfl
  rw [HE1]
  clear HE1
  generalize gsF 0 0 b = R at *
  obtain ⟨n, u, f⟩ := R
  simp only at HG HU ⊢
  have hu := HU.out
  have k1 : (u : Int) ≤ (b.length : Int) := by omega
  have k2 : u ≤ c := by omega
  have HF := Lib.hid (show ((f : Int) != 0) = decide (f ≠ 0) by
    rcases Nat.eq_zero_or_pos f with h0 | h0
    · subst h0; rfl
    · rw [decide_eq_true (by omega)]
      simp; omega)
  obtain ⟨q, hq⟩ : ∃ q, q = (bad || decide (f ≠ 0)) := ⟨_, rfl⟩
  rw [← hq]
  have HQ := Lib.hid hq
  clear hq
  have c0 : w.cell? ⟨g, 0, none⟩ = some (.slice A b.length c) := hb.cell 0
  have c1 : w.cell? ⟨g, 1, none⟩ = some (.bool bad) := hb.cell 1
  have f0 := hb.free 0
  have f1 := hb.free 1
  have HB := Lib.hid hb
  have HRD := Lib.hid hrd
  have HS := Lib.hid (show B ≤ g ∧ b.length ≤ c ∧ c ≤ maxLen from ⟨hB, hc, hm⟩)
  clear hb hrd hl h1 hB hm
  cases bad
  · go_enter Tryd.func34, Tryd.ntmps34
    go_wp2_with (go_at_call 27; (refine HG.out.mono ?_); rintro e W1 ⟨rfl, rfl⟩)
    all_goals go_ret
    all_goals rw [HF.out, show decide (f ≠ 0) = q by rw [HQ.out, Bool.false_or]]
    all_goals refine ⟨rfl, rdr_end _ HB.out HRD.out HS.out.1 HS.out.2.1 HS.out.2.2 HU.out ?_ (fun h => ?_)⟩
    all_goals first | omega | with_reducible rfl | exact absurd (by assumption) ‹_ ≠ _›
  · go_enter Tryd.func34, Tryd.ntmps34
    go_wp2_with (go_at_call 27; (refine HG.out.mono ?_); rintro e W1 ⟨rfl, rfl⟩)
    all_goals go_ret
    all_goals rw [show q = true by rw [HQ.out, Bool.true_or]]
    all_goals refine ⟨rfl, rdr_end _ HB.out HRD.out HS.out.1 HS.out.2.1 HS.out.2.2 HU.out ?_ (fun h => ?_)⟩
    all_goals first | omega | with_reducible rfl | exact absurd (by assumption) ‹_ ≠ _›
end Go.Proofs.YtldjbbcfbjpfcaaDoor
/- The reader: bytes are read. -/
namespace Go.Proofs.YtldjbbcfbjpfcaaDoor
set_option maxRecDepth 100000
open Go.RowKit
set_option linter.unusedVariables false
set_option linter.unusedSimpArgs false
theorem Rd.takeB {w : World} {B : Nat} {A : Option Addr} {l : List Nat} (h : Rd w B A (byt l)) (n : Nat) : Rd w B A (byt (l.take n)) := fun hn => by
  obtain ⟨ad, e, h1, h2⟩ := h (by intro h0; apply hn; unfold byt at h0 ⊢; rw [List.map_eq_nil_iff] at h0; rw [h0, List.take_nil]; rfl)
  refine ⟨ad, e, h1, fun j u hu => h2 j u ?_⟩
  unfold byt at hu ⊢
  rw [List.map_take] at hu
  have hj : j < n := by
    rcases Nat.lt_or_ge j n with h3 | h3
    · exact h3
    · rw [List.getElem?_eq_none (by rw [List.length_take]; omega)] at hu; cases hu
  rw [List.getElem?_take_of_lt hj] at hu
  exact hu
theorem rdr_end0 {w : World} {g B : Nat} {A A' : Option Addr} {c u c' : Nat} {b : List Nat} {bad : Bool} (hb : Blk w g 75 #[.slice A b.length c, .bool bad]) (hrd : Rd w B A (byt b)) (hB : B ≤ g) (hc : b.length ≤ c) (hm : c ≤ maxLen) (hu : u ≤ b.length)
    (hc' : c' = c - u) (hA : c ≠ u → A' = Option.map (fun x => x.add u) A) :
    Rd (w.setCell ⟨g, 0, none⟩ (.slice A' (b.length - u) c')) B A (byt (b.take u)) ∧ RdrAt (w.setCell ⟨g, 0, none⟩ (.slice A' (b.length - u) c')) g B (b.drop u) bad ∧ Only (fun k => k = g) w (w.setCell ⟨g, 0, none⟩ (.slice A' (b.length - u) c')) := by
  have hdl : (b.drop u).length = b.length - u := List.length_drop ..
  have hO : Only (fun k => k = g) w (w.setCell ⟨g, 0, none⟩ (.slice A' (b.length - u) c')) := (Only.refl (fun k => k = g) w).setCell (p := ⟨g, 0, none⟩) (fun _ => show g = g from rfl) _
  have hR : Rd (w.setCell ⟨g, 0, none⟩ (.slice A' (b.length - u) c')) B A (byt b) := fun hne => by
    obtain ⟨ad, rfl, hab, hcell⟩ := hrd hne
    have hnb : ad.block ≠ g := by omega
    exact ⟨ad, rfl, hab, fun j v hv => hO.cell (hcell j v hv) (by rw [add_block]; exact hnb)⟩
  refine ⟨Rd.takeB hR u, ⟨A', c', ?_, fun hne => ?_, by rw [hdl]; omega, by omega⟩, hO⟩
  · rw [hdl]
    exact hb.set_ 0 (.slice A' (b.length - u) c')
  · have hlt : 0 < (b.drop u).length := by
      rcases Nat.eq_zero_or_pos (b.drop u).length with h0 | h0
      · rw [List.eq_nil_of_length_eq_zero h0] at hne; exact absurd rfl hne
      · exact h0
    rw [hdl] at hlt
    obtain ⟨ad, rfl, hab, hcell⟩ := hR (by intro h0; have h3 := congrArg List.length h0; rw [byt_len, List.length_nil] at h3; omega)
    refine ⟨ad.add u, hA (by omega), by rw [add_block]; exact hab, fun j v hv => ?_⟩
    rw [Addr.add_add]
    refine hcell (u + j) v ?_
    unfold byt at hv ⊢
    rw [List.map_drop, List.getElem?_drop] at hv
    exact hv
/-- what reading bytes leaves -/
def BytesPost (g B : Nat) (R : List Nat × List Nat × Bool) (w : World) (e : Ending) (w' : World) : Prop := ∃ A' c', e = .returned (.slice A' R.1.length c') ∧ Rd w' B A' (byt R.1) ∧ RdrAt w' g B R.2.1 R.2.2 ∧ Only (fun k => k = g) w w'
set_option maxRecDepth 100000 in
set_option maxHeartbeats 2000000 in
theorem rbytes_c (g B n : Nat) (b : List Nat) (bad : Bool) (w : World) (hr : RdrAt w g B b bad) (hB : B ≤ g) (h1 : b.length ≤ 10000000) (hn : n < 18446744073709551616) :
    Calls Tryd.prog 44 #[.pointer (some ⟨g, 0, none⟩), .int .u64 (n : Nat)] w (BytesPost g B (rdB n b bad) w) := by
  obtain ⟨A, c, hb, hrd, hc, hm⟩ := hr
  have c0 : w.cell? ⟨g, 0, none⟩ = some (.slice A b.length c) := hb.cell 0
  have c1 : w.cell? ⟨g, 1, none⟩ = some (.bool bad) := hb.cell 1
  have f0 := hb.free 0
  have f1 := hb.free 1
  have fw : IntKind.u64.wrap (b.length : Int) = (b.length : Int) := by rw [IntKind.wrap_u64]; omega
  have HB := Lib.hid hb
  have HRD := Lib.hid hrd
  have HS := Lib.hid (show B ≤ g ∧ b.length ≤ c ∧ c ≤ maxLen from ⟨hB, hc, hm⟩)
  clear hb hrd hB hm
  by_cases hlt : b.length < n
  · have HE := Lib.hid (show rdB n b bad = ([], b, true) by unfold rdB; rw [if_pos hlt])
    rw [HE.out]
    have p1 : ((b.length : Nat) : Int) < (n : Int) := by omega
    go_enter Tryd.func44, Tryd.ntmps44
    go_wp2_with fail
    go_ret
    have hO : Only (fun k => k = g) w (w.setCell ⟨g, 1, none⟩ (.bool true)) := (Only.refl (fun k => k = g) w).setCell (p := ⟨g, 1, none⟩) (fun _ => show g = g from rfl) _
    refine ⟨none, 0, rfl, Rd.nil_ _ _ _, ⟨A, c, HB.out.set_ 1 (.bool true), ?_, HS.out.2.1, HS.out.2.2⟩, hO⟩
    intro hne
    obtain ⟨ad, rfl, hab, hcell⟩ := HRD.out hne
    have hnb : ad.block ≠ g := by have := HS.out.1; omega
    exact ⟨ad, rfl, hab, fun j v hv => hO.cell (hcell j v hv) (by rw [add_block]; exact hnb)⟩
  · have HE := Lib.hid (show rdB n b bad = (b.take n, b.drop n, bad) by unfold rdB; rw [if_neg hlt])
    rw [HE.out]
    have p1 : ¬ ((b.length : Nat) : Int) < (n : Int) := by omega
    have k1 : (n : Int) ≤ (b.length : Int) := by omega
    have k2 : n ≤ c := by have := HS.out.2.1; omega
    have k3 : n ≤ b.length := by omega
    have HEND := Lib.hid (fun A' c' => rdr_end0 (A' := A') (c' := c') HB.out HRD.out HS.out.1 HS.out.2.1 HS.out.2.2 k3)
    have HT := Lib.hid (show (b.take n).length = n by rw [List.length_take]; omega)
    go_enter Tryd.func44, Tryd.ntmps44
    go_wp2_with fail
    all_goals go_ret
    all_goals refine ⟨A, _, by show _ = Ending.returned (.slice A (b.take n).length _); rw [HT.out]; rfl, HEND.out _ _ ?_ (fun h => ?_)⟩
    all_goals first | omega | with_reducible rfl | exact absurd (by assumption) ‹_ ≠ _›
end Go.Proofs.YtldjbbcfbjpfcaaDoor
/- The reader: what it leaves, and how many pieces: plain. -/
namespace Go.Proofs.YtldjbbcfbjpfcaaDoor
set_option maxRecDepth 100000
open Go.RowKit
set_option linter.unusedVariables false
set_option linter.unusedSimpArgs false
theorem zag_lo (n : Nat) (h : n < 18446744073709551616) : -9223372036854775808 ≤ zag n := by unfold zag; split <;> omega
theorem zag_hi (n : Nat) (h : n < 18446744073709551616) : zag n ≤ 9223372036854775807 := by unfold zag; split <;> omega
/-- a number read: how much is left -/
theorem rdS_facts {b b1 : List Nat} {bad x1 : Bool} {n1 : Nat} (hb : ∀ c ∈ b, c < 256) (h : rdS b bad = (n1, b1, x1)) : n1 < 18446744073709551616 ∧ (∀ c ∈ b1, c < 256) ∧ b1.length ≤ b.length ∧ (x1 = false → bad = false ∧ b1.length < b.length) := by
  unfold rdS at h
  injection h with e1 h
  injection h with e2 e3
  subst e1 e2 e3
  refine ⟨gsF_lt b hb 0 0 (by omega) (by decide), fun c hc => hb c (List.mem_of_mem_drop hc), by rw [List.length_drop]; omega, fun hx => ?_⟩
  rw [Bool.or_eq_false_iff, decide_eq_false_iff_not] at hx
  have h0 : (gsF 0 0 b).2.2 = 0 := by omega
  have h1 := gsF_pos b 0 0 h0
  have h2 := gsF_used b 0 0
  refine ⟨hx.1, ?_⟩
  rw [List.length_drop]
  omega
theorem rdB_facts {b b1 l1 : List Nat} {bad x1 : Bool} {n : Nat} (hb : ∀ c ∈ b, c < 256) (h : rdB n b bad = (l1, b1, x1)) : (∀ c ∈ l1, c < 256) ∧ l1.length ≤ b.length ∧ (∀ c ∈ b1, c < 256) ∧ b1.length ≤ b.length ∧ (x1 = false → bad = false ∧ l1.length = n ∧ b1.length + n = b.length) := by
  unfold rdB at h
  split at h
  · injection h with e1 h
    injection h with e2 e3
    subst e1 e2 e3
    exact ⟨by simp, by simp, hb, Nat.le_refl _, fun hx => by cases hx⟩
  · injection h with e1 h
    injection h with e2 e3
    subst e1 e2 e3
    refine ⟨fun c hc => hb c (List.mem_of_mem_take hc), by rw [List.length_take]; omega, fun c hc => hb c (List.mem_of_mem_drop hc), by rw [List.length_drop]; omega, fun hx => ⟨hx, by rw [List.length_take]; omega, by rw [List.length_drop]; omega⟩⟩
theorem num2_lt {l : List Nat} (hb : ∀ c ∈ l, c < 256) (h : l.length ≤ 2) : number l < 65536 := by
  have h1 := number_lt l hb
  have h2 : 256 ^ l.length ≤ 256 ^ 2 := Nat.pow_le_pow_right (by decide) h
  have : (256 : Nat) ^ 2 = 65536 := by decide
  omega
theorem rpL_facts (s : ByteArray) : ∀ (i : Nat) (b : List Nat) (bad : Bool) (t step v : Int) (acc : List Pc), (∀ c ∈ b, c < 256) → (∀ p ∈ acc, PcOk p ∧ p.s = s) →
    (∀ p ∈ (rpL s i b bad t step v acc).1, PcOk p ∧ p.s = s) ∧ (rpL s i b bad t step v acc).1.length + (rpL s i b bad t step v acc).2.1.length ≤ acc.length + b.length ∧ (∀ c ∈ (rpL s i b bad t step v acc).2.1, c < 256) ∧ (rpL s i b bad t step v acc).2.1.length ≤ b.length ∧ ((rpL s i b bad t step v acc).2.2 = false → bad = false) := by
  intro i
  induction i with
  | zero => intro b bad t step v acc hb ha; exact ⟨ha, Nat.le_refl _, hb, Nat.le_refl _, id⟩
  | succ i ih =>
    intro b bad t step v acc hb ha
    obtain ⟨n1, b1, x1, h1⟩ : ∃ n1 b1 x1, rdS b bad = (n1, b1, x1) := ⟨_, _, _, rfl⟩
    obtain ⟨n2, b2, x2, h2⟩ : ∃ n2 b2 x2, rdS b1 x1 = (n2, b2, x2) := ⟨_, _, _, rfl⟩
    obtain ⟨n3, b3, x3, h3⟩ : ∃ n3 b3 x3, rdS b2 x2 = (n3, b3, x3) := ⟨_, _, _, rfl⟩
    obtain ⟨l4, b4, x4, h4⟩ : ∃ l4 b4 x4, rdB 2 b3 x3 = (l4, b4, x4) := ⟨_, _, _, rfl⟩
    rw [rpL_step s i b bad t step v acc h1 h2 h3 h4]
    obtain ⟨f11, f12, f13, f14⟩ := rdS_facts hb h1
    obtain ⟨f21, f22, f23, f24⟩ := rdS_facts f12 h2
    obtain ⟨f31, f32, f33, f34⟩ := rdS_facts f22 h3
    obtain ⟨f41, f42, f43, f44, f45⟩ := rdB_facts f32 h4
    cases x4 with
    | true =>
      simp only [if_true]
      refine ⟨ha, by omega, f43, by omega, fun hx => by cases hx⟩
    | false =>
      simp only [Bool.false_eq_true, if_false]
      obtain ⟨g1, g2, g3⟩ := f45 rfl
      obtain ⟨g4, g5⟩ := f34 g1
      obtain ⟨g6, g7⟩ := f24 g4
      obtain ⟨g8, g9⟩ := f14 g6
      obtain ⟨r1, r2, r3, r4, r5⟩ := ih b4 false (w64 (t + w64 (step + zag n1))) (w64 (step + zag n1)) (w64 (v + zag n2)) (acc ++ [⟨s, w64 (t + w64 (step + zag n1)), w64 (v + zag n2), n3, number l4⟩]) f43 (fun p hp => by
        rcases List.mem_append.1 hp with hp | hp
        · exact ha p hp
        · obtain rfl := List.mem_singleton.1 hp
          exact ⟨⟨w64_lo _, w64_hi _, w64_lo _, w64_hi _, f31, num2_lt f41 (by omega)⟩, rfl⟩)
      refine ⟨r1, ?_, r3, by omega, fun _ => g8⟩
      rw [List.length_append] at r2
      simp only [List.length_cons, List.length_nil] at r2
      omega
theorem rsL_facts (b : List Nat) (bad : Bool) (hb : ∀ c ∈ b, c < 256) : (∀ p ∈ (rsL b bad).1, PcOk p ∧ p.s.size ≤ b.length) ∧ (rsL b bad).1.length + (rsL b bad).2.1.length ≤ b.length ∧ (∀ c ∈ (rsL b bad).2.1, c < 256) ∧ ((rsL b bad).2.2 = false → bad = false) := by
  obtain ⟨n1, b1, x1, h1⟩ : ∃ n1 b1 x1, rdS b bad = (n1, b1, x1) := ⟨_, _, _, rfl⟩
  obtain ⟨l2, b2, x2, h2⟩ : ∃ l2 b2 x2, rdB n1 b1 x1 = (l2, b2, x2) := ⟨_, _, _, rfl⟩
  obtain ⟨n3, b3, x3, h3⟩ : ∃ n3 b3 x3, rdS b2 x2 = (n3, b3, x3) := ⟨_, _, _, rfl⟩
  rw [rsL_eq b bad h1 h2 h3]
  obtain ⟨f11, f12, f13, f14⟩ := rdS_facts hb h1
  obtain ⟨f21, f22, f23, f24, f25⟩ := rdB_facts f12 h2
  obtain ⟨f31, f32, f33, f34⟩ := rdS_facts f23 h3
  obtain ⟨r1, r2, r3, r4, r5⟩ := rpL_facts ⟨(l2.map UInt8.ofNat).toArray⟩ n3 b3 x3 0 0 0 [] f32 (fun p hp => by cases hp)
  refine ⟨fun p hp => ⟨(r1 p hp).1, ?_⟩, by simp only [List.length_nil] at r2; omega, r3, fun hx => (f14 (f25 (f34 (r5 hx)).1).1).1⟩
  rw [(r1 p hp).2]
  show ((l2.map UInt8.ofNat).toArray).size ≤ _
  simp
  omega
theorem rgL_facts (N : Nat) : ∀ (i : Nat) (b : List Nat) (bad : Bool) (acc : List Pc), (∀ c ∈ b, c < 256) → b.length ≤ N → (∀ p ∈ acc, PcOk p ∧ p.s.size ≤ N) →
    (∀ p ∈ (rgL i b bad acc).1, PcOk p ∧ p.s.size ≤ N) ∧ (rgL i b bad acc).1.length ≤ acc.length + b.length := by
  intro i
  induction i with
  | zero => intro b bad acc hb hn ha; exact ⟨ha, Nat.le_add_right _ _⟩
  | succ i ih =>
    intro b bad acc hb hn ha
    obtain ⟨f1, f2, f3, f4⟩ := rsL_facts b bad hb
    rw [rgL]
    have hacc : ∀ p ∈ acc ++ (rsL b bad).1, PcOk p ∧ p.s.size ≤ N := fun p hp => by
      rcases List.mem_append.1 hp with hp | hp
      · exact ha p hp
      · exact ⟨(f1 p hp).1, by have := (f1 p hp).2; omega⟩
    split
    · exact ⟨hacc, by simp only [List.length_append]; omega⟩
    · obtain ⟨r1, r2⟩ := ih _ false _ f3 (by omega) hacc
      exact ⟨r1, by rw [List.length_append] at r2; omega⟩
theorem body_lt {b : List Nat} (hb : ∀ c ∈ b, c < 256) : ∀ c ∈ bodyL b, c < 256 := fun c hc => hb c (List.mem_of_mem_drop (List.mem_of_mem_take hc))
theorem body_len (b : List Nat) : (bodyL b).length ≤ b.length := by unfold bodyL; rw [List.length_take, List.length_drop]; omega
theorem readB_facts {b : List Nat} (hb : ∀ c ∈ b, c < 256) : (∀ p ∈ (readB b).1, PcOk p ∧ p.s.size ≤ b.length) ∧ (readB b).1.length ≤ b.length := by
  have hl := body_len b
  obtain ⟨n1, b1, x1, h1⟩ : ∃ n1 b1 x1, rdS (bodyL b) false = (n1, b1, x1) := ⟨_, _, _, rfl⟩
  obtain ⟨f11, f12, f13, f14⟩ := rdS_facts (body_lt hb) h1
  unfold readB
  rw [h1]
  obtain ⟨r1, r2⟩ := rgL_facts b.length n1 b1 x1 [] f12 (by omega) (fun p hp => by cases hp)
  exact ⟨r1, by rw [List.length_nil] at r2; show (rgL n1 b1 x1 []).1.length ≤ _; omega⟩
theorem readL_ok {b : List Nat} (hb : ∀ c ∈ b, c < 256) : ∀ p ∈ readL b, PcOk p := by
  unfold readL
  split
  · exact fun p hp => ((readB_facts hb).1 p hp).1
  · intro p hp; cases hp
end Go.Proofs.YtldjbbcfbjpfcaaDoor
/- The reader: the pieces of a series are read. -/
namespace Go.Proofs.YtldjbbcfbjpfcaaDoor
set_option maxRecDepth 100000
open Go.RowKit
set_option linter.unusedVariables false
set_option linter.unusedSimpArgs false
/-- bytes as a text -/
def strB (l : List Nat) : ByteArray := ⟨(l.map UInt8.ofNat).toArray⟩
section
variable {P : Program}
theorem run_convS (w : World) (src e dst : TypeId) (hs : P.underlying src = some (.slice e)) (he : P.underlying e = some (.int .u8)) (hd : P.underlying dst = some .string) (B : Nat) (A : Option Addr) (n c : Nat) (l : List Nat) (hr : Rd w B A (byt l)) (hn : n = l.length) :
    (convert src dst (.slice A n c)).run P w = .ok (.string (strB l)) w := by
  subst hn
  cases A with
  | none =>
    obtain rfl : l = [] := by
      cases l with
      | nil => rfl
      | cons a l => obtain ⟨ad, h, _⟩ := hr (by simp [byt]); cases h
    rw [run_convert_bytes_nil w src e hs he _ _ dst hd]
    rfl
  | some ad =>
    have hc : ∀ j v, (byt l)[j]? = some v → w.cell? (ad.add j) = some v := by
      intro j v hv
      have hne : byt l ≠ [] := by intro h0; rw [h0] at hv; cases hv
      obtain ⟨ad', e1, _, hc⟩ := hr hne
      injection e1 with e1
      subst e1
      exact hc j v hv
    have hl := run_loadCells_list (P := P) w ad (byt l) hc
    have e2 : byt l = (l.map fun (n : Nat) => (n : Int)).map (Value.int .u8) := by simp [byt]
    rw [e2, List.length_map, List.length_map] at hl
    rw [run_convert_bytes_string w src dst e _ _ c hs he hd, run_bytesToString w ad l.length c _ hl, foldl_push_bytes]
    congr 2
    apply ByteArray.ext
    apply Array.toList_inj.1
    simp [strB, ByteArray.empty, ByteArray.emptyWithCapacity, List.map_map]
    show List.map _ l = _
    exact List.map_congr_left (fun a _ => rfl)
theorem wpList_convS {ops : Array Oper} {rest : List Oper} {op : Oper} {a : Act} {w : World} {Q : Exit → Act → World → Prop} (hw : Region.wanted op (yielded ops a.tmps) = true) (src dst e : TypeId) (x : Operand) (ho : op.op = .convert src dst x)
    (hs : P.underlying src = some (.slice e)) (he : P.underlying e = some (.int .u8)) (hd : P.underlying dst = some .string) (B : Nat) (A : Option Addr) (n c : Nat) (hx : a.eval x = .slice A n c) (l : List Nat) (hr : Rd w B A (byt l)) (hn : n = l.length)
    (h : wpList P ops Q rest (a.put op.dst (.string (strB l))) w) : wpList P ops Q (op :: rest) a w :=
  wpList_valG hw _ (by
    unfold execOp
    simp only [ho, hx, Sem.run_bind, Sem.run_pure, Result.andThen_ok, run_convS w src e dst hs he hd B A n c l hr hn]) h
end
theorem shortN {g B : Nat} {b b1 : List Nat} {bad x1 : Bool} {n1 : Nat} (w : World) (hr : RdrAt w g B b bad) (hB : B ≤ g) (hl : ∀ c ∈ b, c < 256) (hn : b.length ≤ 10000000) (h : rdS b bad = (n1, b1, x1)) :
    Calls Tryd.prog 34 #[.pointer (some ⟨g, 0, none⟩)] w fun e w' => e = .returned (.int .u64 (n1 : Nat)) ∧ RdrAt w' g B b1 x1 ∧ Only (fun k => k = g) w w' := by
  have hh := rshortR_c g B b bad w hr hB hl hn
  rw [h] at hh
  exact hh
def BytesN (g B : Nat) (l b : List Nat) (x : Bool) (w : World) (e : Ending) (w' : World) : Prop := ∃ A' c', e = .returned (.slice A' l.length c') ∧ Rd w' B A' (byt l) ∧ RdrAt w' g B b x ∧ Only (fun k => k = g) w w'
theorem bytesN {g B n : Nat} {b b1 l1 : List Nat} {bad x1 : Bool} (w : World) (hr : RdrAt w g B b bad) (hB : B ≤ g) (hn : b.length ≤ 10000000) (h0 : n < 18446744073709551616) (h : rdB n b bad = (l1, b1, x1)) :
    Calls Tryd.prog 44 #[.pointer (some ⟨g, 0, none⟩), .int .u64 (n : Nat)] w (BytesN g B l1 b1 x1 w) := by
  have hh := rbytes_c g B n b bad w hr hB hn h0
  rw [h] at hh
  exact hh
theorem OwnP.off {w w' : World} {base : Nat} {v : Value} {l : List Pc} {S : Nat → Prop} (h : OwnP w base v l) (ho : Only S w w') (hS : ∀ k, S k → k < base) : OwnP w' base v l :=
  own_keep h ho (fun g hg hs => by
    have h1 := own_base h g hg
    have h2 := hS g hs
    omega)
theorem OwnP.alloc {w : World} {base : Nat} {v : Value} {l : List Pc} (h : OwnP w base v l) (o : Obj) : OwnP (w.alloc o) base v l := World.ownsRow.alloc h o
theorem OwnP.nil_ (w : World) (base : Nat) : OwnP w base (.slice none 0 0) [] := ⟨rfl, .inl ⟨rfl, rfl⟩⟩
theorem OwnP.app {w w' : World} {base : Nat} {v v' : Value} {l m : List Pc} (h : Apped w base 81 5 v w' v' (l.length + m.length) (pcs l ++ pcs m)) : OwnP w' base v' (l ++ m) := by
  have := h.own
  unfold OwnP
  rw [List.length_append, pcs_app]
  exact this
theorem RdrAt.off {w w' : World} {g B : Nat} {b : List Nat} {bad : Bool} (h : RdrAt w g B b bad) (hB : B ≤ g) (hb : Below (g + 1) w w') : RdrAt w' g B b bad := by
  obtain ⟨A, c, h1, h2, h3, h4⟩ := h
  exact ⟨A, c, h1.below hb (Nat.lt_succ_self _), h2.below ⟨hb.os, hb.tape, hb.output, hb.size, fun k hk => hb.block k (by omega)⟩, h3, h4⟩
theorem RdrAt.lt {w : World} {g B : Nat} {b : List Nat} {bad : Bool} (h : RdrAt w g B b bad) : g < w.heap.size := by
  obtain ⟨A, c, h1, _⟩ := h; exact h1.lt
theorem RdrAt.cbad {w : World} {g B : Nat} {b : List Nat} {bad : Bool} (h : RdrAt w g B b bad) : w.cell? ⟨g, 1, none⟩ = some (.bool bad) ∧ w.frozen? ⟨g, 1, none⟩ = false := by
  obtain ⟨A, c, h1, _⟩ := h; exact ⟨h1.cell 1, h1.free 1⟩
theorem RdrAt.setBad {w : World} {g B : Nat} {b : List Nat} {bad : Bool} (h : RdrAt w g B b bad) (hB : B ≤ g) (x : Bool) : RdrAt (w.setCell ⟨g, 1, none⟩ (.bool x)) g B b x ∧ Only (fun k => k = g) w (w.setCell ⟨g, 1, none⟩ (.bool x)) := by
  obtain ⟨A, c, h1, h2, h3, h4⟩ := h
  have hO : Only (fun k => k = g) w (w.setCell ⟨g, 1, none⟩ (.bool x)) := (Only.refl (fun k => k = g) w).setCell (p := ⟨g, 1, none⟩) (fun _ => show g = g from rfl) _
  refine ⟨⟨A, c, h1.set_ 1 (.bool x), fun hne => ?_, h3, h4⟩, hO⟩
  obtain ⟨ad, rfl, hab, hcell⟩ := h2 hne
  have hnb : ad.block ≠ g := by omega
  exact ⟨ad, rfl, hab, fun j v hv => hO.cell (hcell j v hv) (by rw [add_block]; exact hnb)⟩
def SerPost (g B : Nat) (R : List Pc × List Nat × Bool) (w : World) (e : Ending) (w' : World) : Prop := ∃ v, e = .returned v ∧ OwnP w' w.heap.size v R.1 ∧ RdrAt w' g B R.2.1 R.2.2 ∧ Only (fun k => k = g) w w'
def SerRel (g B N : Nat) (S : ByteArray) (R : List Pc × List Nat × Bool) (w : World) (o tv sv vv i : Value) (wr : World) : Prop :=
  ∃ (k : Nat) (bb : List Nat) (xb : Bool) (t step v : Int) (acc : List Pc), i = .int .u64 k ∧ tv = .int .i64 t ∧ sv = .int .i64 step ∧ vv = .int .i64 v ∧ R = rpL S k bb xb t step v acc ∧ OwnP wr w.heap.size o acc ∧ RdrAt wr g B bb xb ∧ Only (fun k => k = g) w wr ∧
    acc.length + bb.length ≤ N ∧ (∀ c ∈ bb, c < 256) ∧ k < 18446744073709551616 ∧ (-9223372036854775808 ≤ t ∧ t ≤ 9223372036854775807) ∧ (-9223372036854775808 ≤ step ∧ step ≤ 9223372036854775807) ∧ (-9223372036854775808 ≤ v ∧ v ≤ 9223372036854775807)
set_option maxRecDepth 100000 in
set_option maxHeartbeats 4000000 in
theorem series_c (g B : Nat) (b : List Nat) (bad : Bool) (w : World) (hr : RdrAt w g B b bad) (hB : B ≤ g) (hl : ∀ c ∈ b, c < 256) (hn : b.length ≤ 10000000) :
    Calls Tryd.prog 35 #[.pointer (some ⟨g, 0, none⟩)] w (SerPost g B (rsL b bad) w) := by
  obtain ⟨i0, hi, hz0, hz1, hz2⟩ := piece_parts
  obtain ⟨n1, b1, x1, h1⟩ : ∃ n1 b1 x1, rdS b bad = (n1, b1, x1) := ⟨_, _, _, rfl⟩
  obtain ⟨l2, b2, x2, h2⟩ : ∃ l2 b2 x2, rdB n1 b1 x1 = (l2, b2, x2) := ⟨_, _, _, rfl⟩
  obtain ⟨n3, b3, x3, h3⟩ : ∃ n3 b3 x3, rdS b2 x2 = (n3, b3, x3) := ⟨_, _, _, rfl⟩
  obtain ⟨f11, f12, f13, f14⟩ := rdS_facts hl h1
  obtain ⟨f21, f22, f23, f24, f25⟩ := rdB_facts f12 h2
  obtain ⟨f31, f32, f33, f34⟩ := rdS_facts f23 h3
  have HEQ := Lib.hid (rsL_eq b bad h1 h2 h3)
  have HS1 := Lib.hid (shortN w hr hB hl hn h1)
  have HS2 := Lib.hid (fun W h => bytesN W h hB (by omega) f11 h2)
  have HS3 := Lib.hid (fun W h => shortN W h hB f23 (by omega) h3)
  have HBG := Lib.hid hB
  have HGW := Lib.hid hr.lt
  have HF32 := Lib.hid f32
  have HF31 := Lib.hid f31
  have h3l : b3.length ≤ b.length := by omega
  obtain ⟨R, hR⟩ : ∃ R, R = rsL b bad := ⟨_, rfl⟩
  rw [← hR] at HEQ ⊢
  clear hR hr hl h1 h2 h3 f11 f12 f13 f14 f21 f22 f23 f24 f25 f32 f33 f34 hB
  generalize b.length = N at *
  have HEQ2 := Lib.hid (show R = rpL (strB l2) n3 b3 x3 0 0 0 [] from HEQ.out)
  clear HEQ
  go_enter Tryd.func35, Tryd.ntmps35
  go_wp2_with fail
  go_step3
  go_upto_region 2 with (first
    | (go_at_call 34; go_loud ((refine HS1.out.mono ?_); rintro e W1 ⟨rfl, hr1, ho1⟩; have HR1 := Lib.hid hr1; have HO1 := Lib.hid ho1; clear hr1 ho1))
    | (go_at_call 44; (refine (HS2.out W1 HR1.out).mono ?_); rintro e W2 ⟨A2, c2, rfl, hr2, hrr2, ho2⟩; have HD2 := Lib.hid hr2; have HR2 := Lib.hid hrr2; have HO2 := Lib.hid (HO1.out.trans ho2); clear hr2 hrr2 ho2)
    | (refine wpList_convS rfl 25 9 5 (.tmp 17) rfl Tryd.underlying25 Tryd.underlying5 Tryd.underlying9 B A2 l2.length c2 rfl l2 HD2.out rfl ?_))
  generalize strB l2 = S at *
  clear HS1 HS2 HR1 HO1 HD2
  go_wp2_with fail
  go_step3
  go_wp2_with (go_at_call 34; (refine (HS3.out W2 HR2.out).mono ?_); rintro e W3 ⟨rfl, hr3, ho3⟩; have HR3 := Lib.hid hr3; have HO3 := Lib.hid (HO2.out.trans ho3); clear hr3 ho3)
  clear HS3 HR2 HO2
  go_loopw [4, 5, 6, 7, 8] (fun o tv sv vv i wr => SerRel g B N S R w o tv sv vv i wr) (fun _ _ _ _ i _ => (intOf i).toNat)
  case atStart => exact ⟨n3, b3, x3, 0, 0, 0, [], rfl, rfl, rfl, rfl, HEQ2.out, OwnP.nil_ _ _, HR3.out, HO3.out, by simp only [List.length_nil]; omega, HF32.out, HF31.out, by omega, by omega, by omega⟩
  case round =>
    rename World => wr
    obtain ⟨k, bb, xb, t, step, v, acc, rfl, rfl, rfl, rfl, hR, hop, hrd, hon, hacc, hbb, hk, ht, hst, hv⟩ := hrel
    have HRE := Lib.hid hR
    have HP := Lib.hid hop
    have HRD := Lib.hid hrd
    have HON := Lib.hid hon
    have HBB := Lib.hid hbb
    have HK := Lib.hid hk
    have HSZ := Lib.hid hon.size
    clear hR hop hrd hon hbb hk HEQ2 HR3 HO3 HF31 HF32
    cases k with
    | zero =>
      have HFIN := Lib.hid (show R = (acc, bb, xb) from HRE.out)
      go_wp2_with fail
      rw [Exit.noGoto_ret]
      go_ret
      exact ⟨u4, rfl, by rw [HFIN.out]; exact HP.out, by rw [HFIN.out]; exact HRD.out, HON.out⟩
    | succ j =>
      obtain ⟨m1, e1, y1, h1⟩ : ∃ m1 e1 y1, rdS bb xb = (m1, e1, y1) := ⟨_, _, _, rfl⟩
      obtain ⟨m2, e2, y2, h2⟩ : ∃ m2 e2 y2, rdS e1 y1 = (m2, e2, y2) := ⟨_, _, _, rfl⟩
      obtain ⟨m3, e3, y3, h3⟩ : ∃ m3 e3 y3, rdS e2 y2 = (m3, e3, y3) := ⟨_, _, _, rfl⟩
      obtain ⟨l4, e4, y4, h4⟩ : ∃ l4 e4 y4, rdB 2 e3 y3 = (l4, e4, y4) := ⟨_, _, _, rfl⟩
      obtain ⟨f11, f12, f13, f14⟩ := rdS_facts HBB.out h1
      obtain ⟨f21, f22, f23, f24⟩ := rdS_facts f12 h2
      obtain ⟨f31, f32, f33, f34⟩ := rdS_facts f22 h3
      obtain ⟨f41, f42, f43, f44, f45⟩ := rdB_facts f32 h4
      have HS1 := Lib.hid (shortN wr HRD.out HBG.out HBB.out (by omega) h1)
      have HS2 := Lib.hid (fun W h => shortN W h HBG.out f12 (by omega) h2)
      have HS3 := Lib.hid (fun W h => shortN W h HBG.out f22 (by omega) h3)
      have HS4 := Lib.hid (fun W h => bytesN W h HBG.out (by omega) (show 2 < 18446744073709551616 by decide) h4)
      have HST := Lib.hid (HRE.out.trans (rpL_step S j bb xb t step v acc h1 h2 h3 h4))
      obtain ⟨d1, hd1⟩ : ∃ d1, d1 = zag m1 := ⟨_, rfl⟩
      obtain ⟨d2, hd2⟩ : ∃ d2, d2 = zag m2 := ⟨_, rfl⟩
      have HZ1 := Lib.hid (fun W => zag_c m1 W f11)
      have HZ2 := Lib.hid (fun W => zag_c m2 W f21)
      have hdb1 : -9223372036854775808 ≤ d1 ∧ d1 ≤ 9223372036854775807 := by rw [hd1]; exact ⟨zag_lo _ f11, zag_hi _ f11⟩
      have hdb2 : -9223372036854775808 ≤ d2 ∧ d2 ≤ 9223372036854775807 := by rw [hd2]; exact ⟨zag_lo _ f21, zag_hi _ f21⟩
      rw [← hd1] at HZ1
      rw [← hd2] at HZ2
      rw [← hd1, ← hd2] at HST
      have HGT := Lib.hid (fun W A c (h : Rd W B A (byt l4)) => get_c B A c l4 2 W h f41 (by omega) (by decide) (by decide))
      have HN := Lib.hid (show y4 = false → l4.length = 2 ∧ e4.length + 2 ≤ bb.length ∧ m3 < 18446744073709551616 ∧ (∀ c ∈ e4, c < 256) ∧ number l4 < 65536 from fun hx => by
        obtain ⟨a1, a2, a3⟩ := f45 hx
        exact ⟨a2, by omega, f31, f43, num2_lt f41 (by omega)⟩)
      clear h1 h2 h3 h4 f11 f12 f13 f14 f21 f22 f23 f24 f31 f32 f33 f34 f41 f42 f43 f44 f45 hd1 hd2 HRE HBB
      go_upto_region 8 with (first
        | (go_at_call 34; (refine HS1.out.mono ?_); rintro e W4 ⟨rfl, hr, ho⟩; have HR4 := Lib.hid hr; have HO4 := Lib.hid (HON.out.trans ho); have HP4 := Lib.hid (HP.out.off ho (fun k hk => by have := HGW.out; omega)); clear hr ho)
        | (go_at_call 45; (refine (HZ1.out W4).mono ?_); rintro e Wz ⟨rfl, rfl⟩))
      clear HS1 HZ1 HRD HON HP HSZ
      go_upto_region 9 with (first
        | (go_at_call 34; (refine (HS2.out W4 HR4.out).mono ?_); rintro e W5 ⟨rfl, hr, ho⟩; have HR5 := Lib.hid hr; have HO5 := Lib.hid (HO4.out.trans ho); have HP5 := Lib.hid (HP4.out.off ho (fun k hk => by have := HGW.out; omega)); clear hr ho)
        | (go_at_call 45; (refine (HZ2.out W5).mono ?_); rintro e Wz ⟨rfl, rfl⟩))
      clear HS2 HZ2 HR4 HO4 HP4
      go_upto_region 10 with (go_at_call 34; (refine (HS3.out W5 HR5.out).mono ?_); rintro e W6 ⟨rfl, hr, ho⟩; have HR6 := Lib.hid hr; have HO6 := Lib.hid (HO5.out.trans ho); have HP6 := Lib.hid (HP5.out.off ho (fun k hk => by have := HGW.out; omega)); clear hr ho)
      clear HS3 HR5 HO5 HP5
      go_upto_region 11 with (first
        | (go_at_call 44; (refine (HS4.out W6 HR6.out).mono ?_); rintro e W7 ⟨A7, c7, rfl, hd, hr, ho⟩; have HD7 := Lib.hid hd; have HR7 := Lib.hid hr; have HO7 := Lib.hid (HO6.out.trans ho); have HP7 := Lib.hid (HP6.out.off ho (fun k hk => by have := HGW.out; omega)); clear hd hr ho)
        | (go_at_call 20; (refine (HGT.out W7 A7 c7 HD7.out).mono ?_); rintro e Wz ⟨rfl, rfl⟩))
      clear HS4 HGT HD7 HR6 HO6 HP6
      obtain ⟨cb, fb⟩ := HR7.out.cbad
      cases y4 with
      | true =>
        have HFIN := Lib.hid (show R = (acc, e4, true) from HST.out)
        have HSB := Lib.hid (HR7.out.setBad HBG.out true)
        clear HN HST
        go_wp2_with fail
        rw [Exit.noGoto_ret]
        go_ret
        exact ⟨u4, rfl, by rw [HFIN.out]; exact HP7.out.off HSB.out.2 (fun k hk => by have := HGW.out; omega), by rw [HFIN.out]; exact HSB.out.1, HO7.out.trans HSB.out.2⟩
      | false =>
        obtain ⟨hl4, he4, hm3, hb4, hnum⟩ := HN.out rfl
        have HB4 := Lib.hid hb4
        have HM3 := Lib.hid hm3
        have HSTF := Lib.hid (show R = rpL S j e4 false (wrap64 (t + wrap64 (step + d1))) (wrap64 (step + d1)) (wrap64 (v + d2)) (acc ++ [⟨S, wrap64 (t + wrap64 (step + d1)), wrap64 (v + d2), m3, number l4⟩]) by
          simp only [wrap_w]
          exact HST.out)
        have hge : getErr l4.length 2 = 0 := by rw [hl4]; rfl
        have hgn : getNum l4 2 = number l4 := by unfold getNum; rw [if_pos hge]; rw [show (2 : Int).toNat = l4.length by rw [hl4]; rfl, List.take_length]
        rw [hge, hgn]
        generalize number l4 = nn at *
        have f16 : IntKind.u16.wrap (nn : Int) = (nn : Int) := by simp [IntKind.wrap, IntKind.signed, IntKind.bits]; omega
        have hacc2 : acc.length + 1 + e4.length ≤ N := by omega
        have fj : IntKind.u64.wrap (j : Int) = (j : Int) := by rw [IntKind.wrap_u64]; have := HK.out; omega
        clear HN HST hl4 hb4 hm3 hge hgn
        go_wp2_with (at_builtin; refine wpList_app _ rfl (.tmp 59) (.tmp 68) _ rfl w.heap.size 81 i0 (.agg zPc) 5 48 Tryd.underlying43 hi hz0 hz1 hz2 rfl (by decide) _ acc.length (pcs acc) rfl (HP7.out.alloc _) _ (some ⟨W7.heap.size, 0, none⟩) 1 1 (pcs [⟨S, wrap64 (t + wrap64 (step + d1)), wrap64 (v + d2), m3, nn⟩]) rfl rfl (by exact rd_new W7 (pcs [⟨S, wrap64 (t + wrap64 (step + d1)), wrap64 (v + d2), m3, nn⟩]) _ (0, 0)) (pcs_oneCell _) (by omega) (by omega) (by have := HO7.out.size; simp; omega) ?_; intro v1 w2 hap)
        go_roundw
        case rel =>
          have hsz := HO7.out.size
          have hg8 := HGW.out
          have hbw := hap.below (HP7.out.alloc _) (by simp; omega)
          have hbx : Below w.heap.size W7 w2 := ((Below.refl _ _).alloc hsz _).trans hbw
          have HPN := OwnP.app (l := acc) (m := [⟨S, wrap64 (t + wrap64 (step + d1)), wrap64 (v + d2), m3, nn⟩]) hap
          have HRN := HR7.out.off HBG.out (hbx.mono (by omega))
          have HON : Only (fun k => k = g) w w2 := ⟨hbx.os.trans HO7.out.os, hbx.tape.trans HO7.out.tape, hbx.output.trans HO7.out.output, Nat.le_trans HO7.out.size hbx.size, fun i hi hn => (hbx.block i hi).trans (HO7.out.block i hi hn)⟩
          exact ⟨j, e4, false, _, _, _, _, by go_num, rfl, rfl, rfl, HSTF.out, HPN, HRN, HON, by rw [List.length_append]; simp only [List.length_cons, List.length_nil]; omega, HB4.out, by have := HK.out; omega, ⟨wrap64_lo _, wrap64_hi _⟩, ⟨wrap64_lo _, wrap64_hi _⟩, ⟨wrap64_lo _, wrap64_hi _⟩⟩
        case measure => simp [intOf] <;> omega
end Go.Proofs.YtldjbbcfbjpfcaaDoor
/- Contract: pieces are read. -/
namespace Go.Proofs.YtldjbbcfbjpfcaaDoor
set_option maxRecDepth 100000
open Go.RowKit
set_option linter.unusedVariables false
set_option linter.unusedSimpArgs false
set_option maxRecDepth 100000 in
set_option maxHeartbeats 400000 in
theorem equal_c (B C : Nat) (A D : Option Addr) (ca cb : Nat) (l m : List Nat) (w : World) (hl : ∀ c ∈ l, c < 256) (hm : ∀ c ∈ m, c < 256) (hr : Rd w B A (byt l)) (hs : Rd w C D (byt m)) (h1 : l.length ≤ 1000000000) (_h2 : m.length ≤ 1000000000) :
    Calls Tryd.prog 36 #[.slice A l.length ca, .slice D m.length cb] w (Quietly (.bool (l == m)) w) := by
  have HL := Lib.hid hl
  have HM := Lib.hid hm
  have HR := Lib.hid hr
  have HS := Lib.hid hs
  clear hl hm hr hs
  by_cases hlen : l.length = m.length
  · have HN := Lib.hid hlen
    rw [← hlen]
    have h3 : l.length ≤ m.length := by omega
    clear hlen _h2
    go_enter Tryd.func36, Tryd.ntmps36
    go_wp2
    go_loopw [13] (fun i wr => ∃ k q : Nat, k ≤ l.length ∧ i = .int .i64 k ∧ l.take k = m.take k ∧ wr = w.drewN q) (fun i _ => l.length - (intOf i).toNat)
    case atStart => exact ⟨0, 0, Nat.zero_le _, rfl, by simp, rfl⟩
    case round =>
      obtain ⟨k, q, hk, rfl, ht, rfl⟩ := hrel
      have HT := Lib.hid ht
      clear ht
      by_cases hlt : k < l.length
      · obtain ⟨ad, rfl, hab, hca⟩ := HR.out.byte hlt
        obtain ⟨ad2, rfl, hab2, hcb⟩ := HS.out.byte (show k < m.length by omega)
        have HST := Lib.hid (take_succ_eq hlt (show k < m.length by omega))
        have hx := getD_lt HL.out k
        have hy := getD_lt HM.out k
        generalize l.getD k 0 = x at *
        generalize m.getD k 0 = y at *
        have hi1 : (k : Int) < (l.length : Int) := by omega
        by_cases heq : x = y
        · subst heq
          go_wp2
          go_quiet (fail)
          go_wp2
          go_roundw
          case rel => exact ⟨k + 1, _, by omega, by go_num, HST.out.2 (by first | exact ⟨HT.out, rfl⟩ | exact ⟨HT.out, trivial⟩), rfl⟩
          case measure => simp [intOf]; omega
        · have t1 : (((x : Nat) : Int) != (y : Int)) = true := by rw [bne_iff_ne]; omega
          have HE := Lib.hid heq
          clear heq
          go_wp2
          go_quiet (fail)
          go_wp2
          go_ret
          have hne : l ≠ m := fun h => by
            subst h
            have := HST.out.1 rfl
            exact HE.out this.2
          have e : (l == m) = false := by simpa using hne
          rw [e]
          exact ⟨rfl, _, World.drewN_drewN ..⟩
      · obtain rfl : k = l.length := by omega
        go_wp2
        go_ret
        have e : l = m := by
          have := HT.out
          rw [List.take_length, HN.out, List.take_length] at this
          exact this
        have e2 : (l == m) = true := by simpa using e
        rw [e2]
        exact ⟨rfl, _, rfl⟩
  · have hne : l ≠ m := fun h => hlen (by rw [h])
    have e : (l == m) = false := by simpa using hne
    rw [e]
    have t1 : (((l.length : Nat) : Int) != (m.length : Int)) = true := by rw [bne_iff_ne]; omega
    clear hlen hne e
    go_enter Tryd.func36, Tryd.ntmps36
    go_wp2
    go_ret
    exact ⟨rfl, 0, rfl⟩

theorem rdr_new {w : World} {ad : Addr} {ca n : Nat} {b : List Nat} (hr : Rd w w.heap.size (some ad) (byt b)) (hn : 2 + n ≤ b.length) (hc : b.length ≤ ca) (hm : ca ≤ maxLen) (A' : Option Addr) (c' : Nat) (hc' : c' = ca - 2) (hA : ca ≠ 2 → A' = some (ad.add 2)) :
    RdrAt (w.alloc (.cells #[.slice A' n c', .bool false] 75)) w.heap.size w.heap.size ((b.drop 2).take n) false := by
  have hl : ((b.drop 2).take n).length = n := by rw [List.length_take, List.length_drop]; omega
  refine ⟨A', c', ?_, fun hne => ?_, by rw [hl]; omega, by omega⟩
  · rw [hl]; exact Blk.new w _ _
  · have h0 : 0 < n := by
      rcases Nat.eq_zero_or_pos n with h0 | h0
      · rw [h0, List.take_zero] at hne; exact absurd rfl hne
      · exact h0
    obtain ⟨ad', e1, hab, hcell⟩ := hr (by intro h1; have h2 := congrArg List.length h1; rw [byt_len, List.length_nil] at h2; omega)
    injection e1 with e1
    subst e1
    refine ⟨ad.add 2, hA (by omega), by rw [add_block]; exact hab, fun j v hv => ?_⟩
    rw [Addr.add_add]
    have hj : j < n := by
      rcases Nat.lt_or_ge j n with h1 | h1
      · exact h1
      · rw [List.getElem?_eq_none (by rw [byt_len, hl]; exact h1)] at hv; cases hv
    refine ((Below.refl _ _).alloc (Nat.le_refl _) _).cell (by rw [add_block]; exact hab) |>.trans (hcell (2 + j) v ?_)
    unfold byt at hv ⊢
    rw [List.map_take, List.getElem?_take_of_lt hj, List.map_drop, List.getElem?_drop] at hv
    exact hv
theorem OwnP.drewN {w : World} {base : Nat} {v : Value} {l : List Pc} (h : OwnP w base v l) (n : Nat) : OwnP (w.drewN n) base v l := h
def ReadPost (b : List Nat) (w : World) (e : Ending) (w' : World) : Prop := ∃ v, e = .returned (.tuple #[v, .int .i64 (readE b : Nat)]) ∧ OwnP w' w.heap.size v (readL b) ∧ Below w.heap.size w w'
theorem readPost_no {b : List Nat} {w w' : World} {E : Int} (hE : (readE b : Int) = E) (h0 : E ≠ 0) (hb : Below w.heap.size w w') : ReadPost b w (.returned (.tuple #[.slice none 0 0, .int .i64 E])) w' := by
  refine ⟨.slice none 0 0, by rw [hE], ?_, hb⟩
  rw [show readL b = [] by unfold readL; rw [if_neg (by omega)]]
  exact OwnP.nil_ _ _
def ReadRel (g N : Nat) (R : List Pc × Bool) (w : World) (o i : Value) (wr : World) : Prop :=
  ∃ (k : Nat) (bb : List Nat) (xb : Bool) (acc : List Pc), i = .int .u64 k ∧ R = rgL k bb xb acc ∧ OwnP wr (g + 1) o acc ∧ RdrAt wr g g bb xb ∧ Below g w wr ∧ acc.length + bb.length ≤ N ∧ (∀ c ∈ bb, c < 256) ∧ k < 18446744073709551616 ∧ (∀ p ∈ acc, PcOk p ∧ p.s.size ≤ N)
theorem readE_bad {b : List Nat} (h0 : shortB b = false) {l : List Pc} (h : readB b = (l, true)) : readE b = 4 := by
  unfold readE
  rw [h0, h]
  rfl
theorem readE_good {b : List Nat} (h0 : shortB b = false) {l : List Pc} (h : readB b = (l, false)) : readE b = if chkL l = 0 ∧ layL l = b then 0 else 4 := by
  unfold readE
  rw [h0, h]
  rfl
theorem readL_good {b : List Nat} {l : List Pc} {x : Bool} (h : readB b = (l, x)) (h1 : readE b = 0) : readL b = l := by
  unfold readL
  rw [if_pos h1, h]
theorem rowsL_lt (g : List Pc) : ∀ t step v, ∀ c ∈ rowsL t step v g, c < 256 := by
  induction g with
  | nil => intro t step v c hc; simp [rowsL] at hc
  | cons p g ih =>
    intro t step v c hc
    rw [rowsL] at hc
    simp only [List.mem_append] at hc
    rcases hc with (((h | h) | h) | h) | h
    · exact sh_lt _ c h
    · exact sh_lt _ c h
    · exact sh_lt _ c h
    · exact form_lt _ _ c h
    · exact ih _ _ _ c h
theorem putL_lt (g : List Pc) : ∀ c ∈ putL g, c < 256 := by
  cases g with
  | nil => intro c hc; simp [putL] at hc
  | cons p g =>
    intro c hc
    unfold putL at hc
    simp only [List.mem_append] at hc
    rcases hc with ((h | h) | h) | h
    · exact sh_lt _ c h
    · exact sby_lt _ c h
    · exact sh_lt _ c h
    · exact rowsL_lt _ _ _ _ c h
theorem layR_lt (l : List Pc) : ∀ c ∈ layR l, c < 256 := by
  intro c hc
  unfold layR at hc
  split at hc
  · unfold layL formP at hc
    simp only [List.mem_append] at hc
    rcases hc with (h | h | h) | h
    · exact form_lt _ _ c h
    · exact sh_lt _ c h
    · obtain ⟨m, hm, hc⟩ := List.mem_flatten.1 h
      obtain ⟨g, _, rfl⟩ := List.mem_map.1 hm
      exact putL_lt g c hc
    · have := (List.mem_replicate.1 h).2
      omega
  · cases hc
set_option maxRecDepth 100000 in
set_option maxHeartbeats 4000000 in
theorem read_c (A : Option Addr) (ca : Nat) (b : List Nat) (w : World) (hr : Rd w w.heap.size A (byt b)) (hc : b.length ≤ ca) (hm : ca ≤ maxLen) (hl : ∀ c ∈ b, c < 256) (hn : b.length ≤ 100000) :
    Calls Tryd.prog 26 #[.slice A b.length ca] w (ReadPost b w) := by
  obtain ⟨i0, hi, hz0, hz1, hz2⟩ := piece_parts
  have HR := Lib.hid hr
  have HL := Lib.hid hl
  have HC := Lib.hid hc
  have HM := Lib.hid hm
  by_cases hl2 : b.length < 2
  · have HG := Lib.hid (show Calls Tryd.prog 20 #[.slice A b.length ca, .int .i64 2] w fun e w' => e = .returned (.tuple #[.int .u64 (0 : Nat), .int .i64 2]) ∧ w = w' by
      have h := get_c w.heap.size A ca b 2 w hr hl (by omega) (by decide) (by decide)
      rw [show getErr b.length 2 = 2 by unfold getErr; rw [if_neg (by omega), if_pos (by omega)], show getNum b 2 = 0 by unfold getNum; rw [if_neg (by unfold getErr; rw [if_neg (by omega), if_pos (by omega)]; decide)]] at h
      exact h)
    have HE := Lib.hid (show (readE b : Int) = 2 by unfold readE shortB; rw [decide_eq_true hl2]; rfl)
    clear hr hl hc hm hl2
    go_enter Tryd.func26, Tryd.ntmps26
    go_wp2_with fail
    go_step3
    go_wp2_with (go_at_call 20; (refine HG.out.mono ?_); rintro e W0 ⟨rfl, rfl⟩)
    refine bodyPost_ret (results_tmp2 rfl _ _ _) rfl ?_
    exact readPost_no HE.out (by decide) (Below.refl _ _)
  · have hl0 : (b.take 2).length = 2 := by rw [List.length_take]; omega
    have hnum : number (b.take 2) < 65536 := num2_lt (fun c hc => hl c (List.mem_of_mem_take hc)) (by omega)
    have hge : getErr b.length 2 = 0 := by unfold getErr; rw [if_neg (by omega), if_neg (by omega)]
    have HG := Lib.hid (show Calls Tryd.prog 20 #[.slice A b.length ca, .int .i64 2] w fun e w' => e = .returned (.tuple #[.int .u64 (number (b.take 2) : Nat), .int .i64 0]) ∧ w = w' by
      have h := get_c w.heap.size A ca b 2 w hr hl (by omega) (by decide) (by decide)
      rw [hge, show getNum b 2 = number (b.take 2) by unfold getNum; rw [if_pos hge]; rfl] at h
      exact h)
    have HSH := Lib.hid (show shortB b = decide (b.length < number (b.take 2) + 2) by unfold shortB; rw [decide_eq_false hl2, Bool.false_or])
    have HBD := Lib.hid (show bodyL b = (b.drop 2).take (number (b.take 2)) from rfl)
    clear hge hl0
    generalize number (b.take 2) = n at *
    have f64 : IntKind.i64.wrap (n : Int) = (n : Int) := IntWalk.i64_in _ (by omega)
    obtain ⟨ad, rfl, _, _⟩ := hr (by intro h1; have h2 := congrArg List.length h1; rw [byt_len, List.length_nil] at h2; omega)
    clear hr hl hm hc
    have hl3 : 2 ≤ b.length := by omega
    clear hl2
    by_cases hs : b.length < n + 2
    · have HE := Lib.hid (show (readE b : Int) = 2 by unfold readE; rw [HSH.out, decide_eq_true hs]; rfl)
      have q1 : (b.length : Int) - 2 < (n : Int) := by omega
      go_enter Tryd.func26, Tryd.ntmps26
      go_wp2_with fail
      go_step3
      go_wp2_with (go_at_call 20; (refine HG.out.mono ?_); rintro e W0 ⟨rfl, rfl⟩)
      refine bodyPost_ret (results_tmp2 rfl _ _ _) rfl ?_
      exact readPost_no HE.out (by decide) (Below.refl _ _)
    · have HSH0 := Lib.hid (show shortB b = false by rw [HSH.out]; exact decide_eq_false hs)
      have HQ1 := Lib.hid (show ¬ (b.length : Int) - 2 < (n : Int) by omega)
      have q1 : ¬ (b.length : Int) - 2 < (n : Int) := by omega
      have q2 : 2 + n ≤ b.length := by omega
      have q3 : 2 + n ≤ ca := by have := HC.out; omega
      have HNEW := Lib.hid (fun A' c' => rdr_new (A' := A') (c' := c') HR.out q2 HC.out HM.out)
      rw [← HBD.out] at HNEW
      have hbn : (bodyL b).length ≤ b.length := body_len b
      have HBL := Lib.hid (body_lt HL.out)
      obtain ⟨n1, b1, x1, h1⟩ : ∃ n1 b1 x1, rdS (bodyL b) false = (n1, b1, x1) := ⟨_, _, _, rfl⟩
      obtain ⟨f11, f12, f13, f14⟩ := rdS_facts HBL.out h1
      have HB1 := Lib.hid (show readB b = rgL n1 b1 x1 [] by unfold readB; rw [h1])
      have HS1 := Lib.hid (fun W h => shortN (g := w.heap.size) (B := w.heap.size) W h (Nat.le_refl _) HBL.out (by omega) h1)
      have HF11 := Lib.hid f11
      have HF12 := Lib.hid f12
      have hb1n : b1.length ≤ b.length := by omega
      obtain ⟨R, hR⟩ : ∃ R, R = readB b := ⟨_, rfl⟩
      have HRB := Lib.hid hR
      rw [← hR] at HB1
      clear h1 f11 f12 f13 f14 hR hs
      go_enter Tryd.func26, Tryd.ntmps26
      go_wp2_with fail
      go_step3
      go_upto_region 5 with (go_at_call 20; (refine HG.out.mono ?_); rintro e W0 ⟨rfl, rfl⟩)
      have HZ := Lib.hid (HNEW.out (if ca = 2 then some ad else some ⟨ad.block, ad.off + 2, none⟩) (ca - 2) rfl (fun h => by rw [if_neg h]; rfl))
      generalize (if ca = 2 then some ad else some (⟨ad.block, ad.off + 2, none⟩ : Addr)) = A' at *
      have HBZ := Lib.hid (show Below w.heap.size w (w.alloc (Obj.cells #[.slice A' n (ca - 2), .bool false] 75)) from (Below.refl _ _).alloc (Nat.le_refl _) _)
      have HSZ := Lib.hid (show w.heap.size + 1 ≤ (w.alloc (Obj.cells #[.slice A' n (ca - 2), .bool false] 75)).heap.size by simp)
      generalize w.alloc (Obj.cells #[.slice A' n (ca - 2), .bool false] 75) = Z at *
      rw [decide_eq_false (show ¬ (b.length : Int) - 2 < (n : Int) by omega), show 2 + n - 2 = n by omega]
      obtain ⟨g, hg⟩ : ∃ g, g = w.heap.size := ⟨_, rfl⟩
      have HGW := Lib.hid hg
      rw [← hg] at HZ HBZ HSZ HS1 ⊢
      clear hg HNEW f64 q1 q2 q3 HG
      go_wp2_with fail
      go_step3
      go_wp2_with (go_at_call 34; (refine (HS1.out Z HZ.out).mono ?_); rintro e W3 ⟨rfl, hr3, ho3⟩; have HR3 := Lib.hid hr3; have HB3 := Lib.hid (show Below g w W3 from HBZ.out.trans (ho3.below (fun i hi => by omega) (by have := HSZ.out; omega))); clear hr3 ho3)
      clear HS1 HZ HBZ
      go_loopw [7, 8] (fun o i wr => ReadRel g b.length R w o i wr) (fun _ i _ => (intOf i).toNat)
      case atStart => exact ⟨n1, b1, x1, [], rfl, HB1.out, OwnP.nil_ _ _, HR3.out, HB3.out, by simp only [List.length_nil]; omega, HF12.out, HF11.out, fun p hp => by cases hp⟩
      case round =>
        rename World => wr
        obtain ⟨k, bb, xb, acc, rfl, hR, hop, hrd, hbe, hacc, hbb, hk, hok⟩ := hrel
        have HRE := Lib.hid hR
        have HP := Lib.hid hop
        have HRD := Lib.hid hrd
        have HBE := Lib.hid hbe
        have hbe' : g ≤ wr.heap.size := by have := hrd.lt; omega
        have HBB := Lib.hid hbb
        have HK := Lib.hid hk
        have HOK := Lib.hid hok
        clear hR hop hrd hbe hbb hk hok HB1 HR3 HB3 HF11 HF12
        cases k with
        | zero =>
          have HFIN := Lib.hid (show R = (acc, xb) from HRE.out)
          obtain ⟨cb, fb⟩ := HRD.out.cbad
          cases xb with
          | true =>
            have HE := Lib.hid (show (readE b : Int) = 4 by rw [readE_bad HSH0.out (l := acc) (by rw [← HRB.out]; exact HFIN.out)]; rfl)
            go_wp2_with fail
            try rw [Exit.noGoto_ret]
            refine bodyPost_ret (results_tmp2 rfl _ _ _) rfl ?_
            exact readPost_no HE.out (by decide) (by rw [← HGW.out]; exact HBE.out)
          | false =>
            have HRG := Lib.hid (show readB b = (acc, false) by rw [← HRB.out]; exact HFIN.out)
            have HEG := Lib.hid (readE_good HSH0.out HRG.out)
            obtain ⟨A8, c8, rfl, hc8, _, hrp⟩ := HP.out.rd
            have HLY := Lib.hid (lay_c A8 c8 acc wr hrp hc8 (by omega) (fun p hp => ⟨(HOK.out p hp).1, by have := (HOK.out p hp).2; omega⟩))
            have HLLN := Lib.hid (layR_le (l := acc) (fun p hp => (HOK.out p hp).1))
            have HCH := Lib.hid (show chkL acc ≤ 3 by unfold chkL; split <;> (try split) <;> omega)
            have HRG2 := Lib.hid (show Rd w g (some ad) (byt b) by rw [HGW.out]; exact HR.out)
            have HEQ := Lib.hid (fun W A c (hb : Below g w W) h => equal_c W.heap.size g A (some ad) c ca (layR acc) b W (layR_lt acc) HL.out h (HRG2.out.below hb) (by have := HLLN.out; omega) (by omega))
            have HGS := Lib.hid hbe'
            by_cases h0 : chkL acc = 0
            · have HLR := Lib.hid (show layR acc = layL acc by unfold layR; rw [if_pos h0])
              rw [h0] at HLY
              by_cases hq : layR acc = b
              · have HE := Lib.hid (show (readE b : Int) = 0 by rw [HEG.out, if_pos ⟨h0, by rw [← HLR.out]; exact hq⟩]; rfl)
                have HLL := Lib.hid (readL_good HRG.out (by have := HE.out; omega))
                have HQB := Lib.hid (show (layR acc == b) = true by rw [beq_iff_eq]; exact hq)
                rw [HQB.out] at HEQ
                clear h0 hq
                go_wp2_with (first
                  | (go_at_call 22; (refine HLY.out.mono ?_); rintro e W9 ⟨v9, rfl, ho, hb⟩; obtain ⟨A9, c9, rfl, _, _, r9⟩ := ho.rd; have HR9 := Lib.hid r9; have HB9 := Lib.hid (show Below g w W9 from HBE.out.trans (hb.mono HGS.out)); have HP9 := Lib.hid (HP.out.next hb); clear ho hb r9)
                  | (go_at_call 36; (refine (HEQ.out W9 A9 c9 HB9.out HR9.out).mono ?_); rintro e Wx ⟨rfl, nq, rfl⟩))
                try rw [Exit.noGoto_ret]
                refine bodyPost_ret (results_tmp2 rfl _ _ _) rfl ?_
                exact ⟨_, by rw [HE.out]; rfl, by rw [HLL.out]; exact own_base_le (OwnP.drewN HP9.out nq) (by rw [← HGW.out]; omega), by rw [← HGW.out]; exact belowDrewN nq HB9.out⟩
              · have HE := Lib.hid (show (readE b : Int) = 4 by rw [HEG.out, if_neg (fun h => hq (by rw [HLR.out]; exact h.2))]; rfl)
                have HQB := Lib.hid (show (layR acc == b) = false by rw [beq_eq_false_iff_ne]; exact hq)
                rw [HQB.out] at HEQ
                clear h0 hq
                go_wp2_with (first
                  | (go_at_call 22; (refine HLY.out.mono ?_); rintro e W9 ⟨v9, rfl, ho, hb⟩; obtain ⟨A9, c9, rfl, _, _, r9⟩ := ho.rd; have HR9 := Lib.hid r9; have HB9 := Lib.hid (show Below g w W9 from HBE.out.trans (hb.mono HGS.out)); clear ho hb r9)
                  | (go_at_call 36; (refine (HEQ.out W9 A9 c9 HB9.out HR9.out).mono ?_); rintro e Wx ⟨rfl, nq, rfl⟩))
                try rw [Exit.noGoto_ret]
                refine bodyPost_ret (results_tmp2 rfl _ _ _) rfl ?_
                exact readPost_no HE.out (by decide) (by rw [← HGW.out]; exact belowDrewN nq HB9.out)
            · have HE := Lib.hid (show (readE b : Int) = 4 by rw [HEG.out, if_neg (fun h => h0 h.1)]; rfl)
              have hq : decide (((chkL acc : Nat) : Int) = 0) = false := decide_eq_false (by omega)
              have hne : ((chkL acc : Nat) : Int) ≠ 0 := by omega
              clear HEG HEQ
              generalize chkL acc = e0 at *
              clear h0
              go_wp2_with (go_at_call 22; (refine HLY.out.mono ?_); rintro e W9 ⟨v9, rfl, ho, hb⟩; have HB9 := Lib.hid (show Below g w W9 from HBE.out.trans (hb.mono HGS.out)); clear ho hb)
              try rw [Exit.noGoto_ret]
              refine bodyPost_ret (results_tmp2 rfl _ _ _) rfl ?_
              exact readPost_no HE.out (by decide) (by rw [← HGW.out]; exact HB9.out)
        | succ j =>
          obtain ⟨l5, b5, x5, h5⟩ : ∃ l5 b5 x5, rsL bb xb = (l5, b5, x5) := ⟨_, _, _, rfl⟩
          obtain ⟨f1, f2, f3, f4⟩ := rsL_facts bb xb HBB.out
          have HSE := Lib.hid (series_c g g bb xb wr HRD.out (Nat.le_refl _) HBB.out (by omega))
          have HST := Lib.hid (HRE.out.trans (show rgL (j + 1) bb xb acc = _ by rw [rgL]))
          rw [h5] at f1 f2 f3 f4 HSE HST
          simp only at f1 f2 f3 f4
          have HOKN := Lib.hid (show ∀ p ∈ acc ++ l5, PcOk p ∧ p.s.size ≤ b.length from fun p hp => by
            rcases List.mem_append.1 hp with hp | hp
            · exact HOK.out p hp
            · exact ⟨(f1 p hp).1, by have := (f1 p hp).2; omega⟩)
          have HF3 := Lib.hid f3
          clear h5 f1 f3 f4 HRE HOK HBB
          go_upto_region 10 with (first
            | (go_at_call 35; (refine HSE.out.mono ?_); rintro e W5 ⟨v5, rfl, ho, hr, hon⟩; obtain ⟨A5, c5, rfl, _, _, r5⟩ := ho.rd; have HR5 := Lib.hid (show RdrAt W5 g g b5 x5 from hr); have HRP5 := Lib.hid (show RdP W5 W5.heap.size A5 l5 from r5); have HP5 := Lib.hid (HP.out.off hon (fun k hk => by omega)); have HB5 := Lib.hid (show Below g w W5 from HBE.out.trans (hon.below (fun i hi => by omega) hbe')); have HS5 := Lib.hid (show g + 1 ≤ W5.heap.size from HR5.out.lt); clear ho hr hon r5)
            | (at_builtin; go_loud (refine wpList_app _ rfl (.tmp 38) (.tmp 40) _ rfl (g + 1) 81 i0 (.agg zPc) 5 48 Tryd.underlying43 hi hz0 hz1 hz2 rfl (by decide) _ acc.length (pcs acc) rfl HP5.out _ A5 l5.length c5 (pcs l5) rfl (pcs_len l5) HRP5.out (pcs_oneCell _) (by omega) (by omega) HS5.out ?_; intro v6 W6 hap; have HB6 := Lib.hid (hap.below HP5.out HS5.out); have HP6 := Lib.hid (OwnP.app (l := acc) (m := l5) hap); have HR6 := Lib.hid (HR5.out.off (Nat.le_refl _) HB6.out); have HBN := Lib.hid (HB5.out.trans (HB6.out.mono (Nat.le_succ _))); clear hap)))
          obtain ⟨cb, fb⟩ := HR6.out.cbad
          cases x5 with
          | true =>
            have HFIN := Lib.hid (show R = (acc ++ l5, true) from HST.out)
            have HE := Lib.hid (show (readE b : Int) = 4 by rw [readE_bad HSH0.out (l := acc ++ l5) (by rw [← HRB.out]; exact HFIN.out)]; rfl)
            go_wp2_with fail
            try rw [Exit.noGoto_ret]
            refine bodyPost_ret (results_tmp2 rfl _ _ _) rfl ?_
            exact readPost_no HE.out (by decide) (by rw [← HGW.out]; exact HBN.out)
          | false =>
            have HSTF := Lib.hid (show R = rgL j b5 false (acc ++ l5) from HST.out)
            have fj : IntKind.u64.wrap (j : Int) = (j : Int) := by rw [IntKind.wrap_u64]; have := HK.out; omega
            go_wp2_with fail
            go_roundw
            case rel => exact ⟨j, b5, false, acc ++ l5, by go_num, HSTF.out, HP6.out, HR6.out, HBN.out, by rw [List.length_append]; omega, HF3.out, by have := HK.out; omega, HOKN.out⟩
            case measure => simp [intOf] <;> omega
end Go.Proofs.YtldjbbcfbjpfcaaDoor
/- Contracts: pieces are sealed. -/
namespace Go.Proofs.YtldjbbcfbjpfcaaDoor
open Go.RowKit
set_option linter.unusedVariables false
set_option linter.unusedSimpArgs false
section
variable {P : Program} {ops : Array Oper} {Z : World} {ls : List Tmp} {V : Tmp → Value → World → Prop} {Q : Act → Prop} {rest : List Oper} {o : Oper} {b : Act}
/-- an operation whose plain value is told of what loud operations handed back -/
theorem wpLoud_valN (d : Tmp) (hd : o.dst = some d) (hl : ls.contains d = false) (need : List Tmp) (v : Value) (hw : Region.wanted o (yielded ops b.tmps) = true) (hsel : ∀ cs t, o.op ≠ .select cs t)
    (hn : (need.all fun k => ls.contains k && ((o.looksAt ops).contains k && isTok (b.eval (.tmp k)))) = true)
    (hc : ∀ (g : Tmp → Value) (x : Ext Z), (∀ k ∈ need, V k (g k) x.wd) → (execOp (over ls b g) o).run P x.wd = .ok (.value v) x.wd)
    (b' : Act) (hb : b.put o.dst v = b') (h : wpLoud P ops Z ls V Q rest b') : wpLoud P ops Z ls V Q (o :: rest) b := by
  subst hb
  unfold wpLoud
  rw [if_pos hw]
  refine ⟨v, fun a w hC hs => ?_, h⟩
  have he : ∀ x ∈ o.op.operands, a.eval x = over ls b (fun k => a.eval (.tmp k)) x := fun x hx => by
    cases x with
    | tmp k =>
      have hk : k ∈ o.looksAt ops := List.mem_append_left _ (List.mem_filterMap.2 ⟨.tmp k, by simpa using hx, rfl⟩)
      show _ = if ls.contains k then _ else _
      cases hcn : ls.contains k
      · exact (hs k hk).2 hcn
      · rfl
    | const v => rfl
    | global v => rfl
    | func v => rfl
  rw [execOp_congr o hsel he]
  have h1 := hc (fun k => a.eval (.tmp k)) ⟨w, hC⟩ (fun k hk => by
    have h1 := List.all_eq_true.1 hn k hk
    simp only [Bool.and_eq_true] at h1
    exact (hs k (by simpa using h1.2.1)).1 h1.1 (isTok_eq h1.2.2))
  have h1' : (execOp (over ls b fun k => a.eval (.tmp k)) o).run P w = .ok (.value v) w := h1
  rw [h1']
  exact .inl ⟨rfl, rfl, fun d' hd' => by rw [hd] at hd'; injection hd' with hd'; subst hd'; exact hl⟩
theorem run_ext (ρ : Operand → Value) (o : Oper) (x : Operand) (i : Nat) (ho : o.op = .extract x i) (vs : Array Value) (u : Value) (hx : ρ x = .tuple vs) (hu : vs[i]? = some u) (w : World) : (execOp ρ o).run P w = .ok (.value u) w := by
  unfold execOp
  simp [ho, hx, hu, Instr.extract, Sem.run_bind, Sem.run_pure]
end
theorem bx_all (t : ByteArray) (ep : Nat) (nn : List Nat) (A : Option Addr) (n c : Nat) : (bxV t ep nn A n c).all (·.oneCell') = true := by
  rw [← Array.all_toList, List.all_eq_true]
  exact bx_one t ep nn A n c
def n12z : List Nat := List.replicate 12 0
def zBx : Array Value := bxV ByteArray.empty 0 n12z none 0 0
theorem zero_bx (w : World) : (zeroValue 27).run Tryd.prog w = .ok (.agg zBx) w := by kernel_rfl
theorem built_bx0 : Tryd.prog.built 27 [] = some zBx := by kernel_rfl
theorem built_bx (t : ByteArray) (ep : Nat) {nn : List Nat} (A : Option Addr) (n c : Nat) (h : nn.length = 12) : Tryd.prog.built 27 [(0, .string t), (1, .int .u32 (ep : Int)), (2, .agg (vb nn)), (3, .slice A n c)] = some (bxV t ep nn A n c) := by
  obtain ⟨a0, a1, a2, a3, a4, a5, a6, a7, a8, a9, a10, a11, rfl⟩ : ∃ a0 a1 a2 a3 a4 a5 a6 a7 a8 a9 a10 a11, nn = [a0, a1, a2, a3, a4, a5, a6, a7, a8, a9, a10, a11] := by
    match nn, h with
    | [a0, a1, a2, a3, a4, a5, a6, a7, a8, a9, a10, a11], _ => exact ⟨_, _, _, _, _, _, _, _, _, _, _, _, rfl⟩
  kernel_rfl
theorem nnSz {L : List Nat} (h : L.length = 12) : (Tryd.prog.info? 24).map (·.size) = some (vb L).size := nonSz h
theorem zBx_size : zBx.size = 15 := by rfl
/-- what sealing needs: the key's and the nonce's boxes, the result's -/
structure Sbx (w W : World) (k nn : List Nat) (R : Array Value) : Prop where
  kb : Kbx w W k nn
  r : Blk W (w.heap.size + 1 + 1) 27 R
theorem Sbx.next {w W W' : World} {k nn : List Nat} {R : Array Value} (s : Sbx w W k nn R) (hb : Below W.heap.size W W') : Sbx w W' k nn R := ⟨s.kb.next (hb.mono s.kb.sz), s.r.below hb s.r.lt⟩
theorem Sbx.drewN {w W : World} {k nn : List Nat} {R : Array Value} (s : Sbx w W k nn R) (n : Nat) : Sbx w (W.drewN n) k nn R := s.next (belowDrewN n (Below.refl _ _))
theorem Sbx.begin (w : World) (k nn : List Nat) : Sbx w (((w.alloc (Obj.cells (vb k) 42)).alloc (Obj.cells (vb nn) 24)).alloc (Obj.cells zBx 27)) k nn zBx := by
  have h1 := Kbx.begin w k nn
  refine ⟨h1.next ((Below.refl _ _).alloc h1.sz _), ?_⟩
  have h2 := Blk.new ((w.alloc (Obj.cells (vb k) 42)).alloc (Obj.cells (vb nn) 24)) 27 zBx
  rw [show ((w.alloc (Obj.cells (vb k) 42)).alloc (Obj.cells (vb nn) 24)).heap.size = w.heap.size + 1 + 1 by simp] at h2
  exact h2
def sealE (t : ByteArray) (l : List Pc) : Nat := if nameB t then chkL l else 1
/-- a box, and an error, handed back -/
def BoxR (t : ByteArray) (ep : Nat) (nn body : List Nat) (E : Nat) (w : World) (e : Ending) (w' : World) : Prop :=
  ∃ A c, e = .returned (.tuple #[.agg (bxV t ep nn A body.length c), .int .i64 (E : Nat)]) ∧ OwnB w' w.heap.size (.slice A body.length c) body ∧ Below w.heap.size w w'
theorem boxR_none {w w' : World} {E : Nat} (hb : Below w.heap.size w w') : BoxR ByteArray.empty 0 n12z [] E w (.returned (.tuple #[.agg zBx, .int .i64 (E : Nat)])) w' := ⟨none, 0, rfl, OwnB.nil_ _ _, hb⟩
set_option maxRecDepth 100000 in
set_option maxHeartbeats 4000000 in
theorem sealNo_c (k nn : List Nat) (t : ByteArray) (ep : Nat) (A : Option Addr) (ca : Nat) (l : List Pc) (w : World) (hk : k.length = 32) (hkl : ∀ c ∈ k, c < 256) (hn : nn.length = 12) (hnl : ∀ c ∈ nn, c < 256) (ht : t.size ≤ 1000000) (he : ep < 4294967296) (hr : RdP w w.heap.size A l) (hc : l.length ≤ ca) (h1 : l.length ≤ 100000) (hok : ∀ p ∈ l, PcOk p ∧ p.s.size ≤ 1000000) (h0 : sealE t l ≠ 0) :
    Calls Tryd.prog 12 #[.agg (vb k), .agg (vb nn), .string t, .int .u32 (ep : Nat), .slice A l.length ca] w (BoxR ByteArray.empty 0 n12z [] (sealE t l) w) := by
  have zf := zero_bx
  have zs1 : zBx.size = 15 := by rfl
  have zs2 : ¬ zBx = #[] := by intro h; have := congrArg Array.size h; rw [zs1] at this; cases this
  have HNK := Lib.hid (keySz hk)
  have HNN := Lib.hid (nnSz hn)
  have HBX := Lib.hid (Sbx.begin w k nn)
  have HBD := Lib.hid built_bx0
  have HZS := Lib.hid (show (Tryd.prog.info? 27).map (·.size) = some zBx.size by kernel_rfl)
  have HZ1 := Lib.hid (show zBx.all (·.oneCell') = true from bx_all _ _ _ _ _ _)
  have HNM := Lib.hid (fun W => name_c t W (by omega))
  have HLY := Lib.hid (fun W (hb : Below w.heap.size w W) => lay_c A ca l W (Rd.ups (Rd.below hr hb) hb.size) hc h1 hok)
  cases hnm : nameB t with
  | false =>
    have HE := Lib.hid (show sealE t l = 1 by unfold sealE; rw [hnm]; rfl)
    rw [hnm] at HNM
    rw [HE.out]
    clear h0 hr hok hkl hnl hnm
    go_enter Tryd.func12, Tryd.ntmps12
    go_upto_region 1 with (first
      | (refine Go.Great.wpList_boxTo rfl 42 (.tmp 0) rfl (some 5) rfl w.heap.size rfl (vb k) rfl ?_)
      | (refine Go.Great.wpList_boxTo rfl 24 (.tmp 1) rfl (some 6) rfl (w.heap.size + 1) (by simp) (vb nn) rfl ?_))
    generalize ((w.alloc (Obj.cells (vb k) 42)).alloc (Obj.cells (vb nn) 24)).alloc (Obj.cells zBx 27) = Z at *
    clear zf zs1 zs2
    go_wp2_with (first
      | (go_at_call 21; (refine (HNM.out Z).mono ?_); rintro e W1 ⟨rfl, rfl⟩)
      | (refine wpList_valG (by kernel_rfl) (.agg zBx) (run_built _ 27 [] _ HBD.out _ rfl rfl) ?_)
      | (refine wpList_store_rowTo rfl 27 (.tmp 10) (.tmp 18) rfl rfl (w.heap.size + 1 + 1) zBx rfl (by kernel_rfl) 27 zBx (by exact HBX.out.r) HZS.out rfl HZ1.out ?_))
    refine bodyPost_ret (results_row_tmp rfl _ _ (w.heap.size + 1 + 1) 27 zBx (0, 0) _ rfl (setRow_heap _ _ zBx _ 27 (0, 0) HBX.out.r) Tryd.underlying27 rfl HZS.out) rfl ?_
    exact boxR_none (E := 1) (below_row HBX.out.kb.bel (by omega) _)
  | true =>
    have HE := Lib.hid (show sealE t l = chkL l by unfold sealE; rw [hnm]; rfl)
    rw [hnm] at HNM
    rw [HE.out] at h0 ⊢
    have hne : ((chkL l : Nat) : Int) ≠ 0 := by omega
    have hq : decide (((chkL l : Nat) : Int) = 0) = false := decide_eq_false (by omega)
    clear hr hok hkl hnl hnm
    generalize chkL l = E at *
    clear h0 HE
    go_enter Tryd.func12, Tryd.ntmps12
    go_upto_region 1 with (first
      | (refine Go.Great.wpList_boxTo rfl 42 (.tmp 0) rfl (some 5) rfl w.heap.size rfl (vb k) rfl ?_)
      | (refine Go.Great.wpList_boxTo rfl 24 (.tmp 1) rfl (some 6) rfl (w.heap.size + 1) (by simp) (vb nn) rfl ?_))
    generalize ((w.alloc (Obj.cells (vb k) 42)).alloc (Obj.cells (vb nn) 24)).alloc (Obj.cells zBx 27) = Z at *
    clear zf zs1 zs2
    go_wp2_with (first
      | (go_at_call 21; (refine (HNM.out Z).mono ?_); rintro e W1 ⟨rfl, rfl⟩)
      | (go_at_call 22; (refine (HLY.out Z HBX.out.kb.bel).mono ?_); rintro e W2 ⟨v2, rfl, ho, hb⟩; have HX2 := Lib.hid (HBX.out.next hb); clear ho hb)
      | (refine wpList_valG (by kernel_rfl) (.agg zBx) (run_built _ 27 [] _ HBD.out _ rfl rfl) ?_)
      | (refine wpList_store_rowTo rfl 27 (.tmp 10) (.tmp 26) rfl rfl (w.heap.size + 1 + 1) zBx rfl (by kernel_rfl) 27 zBx (by exact HX2.out.r) HZS.out rfl HZ1.out ?_))
    refine bodyPost_ret (results_row_tmp rfl _ _ (w.heap.size + 1 + 1) 27 zBx (0, 0) _ rfl (setRow_heap _ _ zBx _ 27 (0, 0) HX2.out.r) Tryd.underlying27 rfl HZS.out) rfl ?_
    exact boxR_none (E := E) (below_row HX2.out.kb.bel (by omega) _)
def boxL (k nn : List Nat) (t : ByteArray) (ep : Nat) (l : List Pc) : List Nat := sealL k nn (besideL 66 t ep) (layL l)
set_option maxRecDepth 100000 in
set_option maxHeartbeats 4000000 in
theorem sealYes_c (k nn : List Nat) (t : ByteArray) (ep : Nat) (A : Option Addr) (ca : Nat) (l : List Pc) (w : World) (hk : k.length = 32) (hkl : ∀ c ∈ k, c < 256) (hn : nn.length = 12) (hnl : ∀ c ∈ nn, c < 256) (ht : t.size ≤ 1000000) (he : ep < 4294967296) (hr : RdP w w.heap.size A l) (hc : l.length ≤ ca) (h1 : l.length ≤ 100000) (hok : ∀ p ∈ l, PcOk p ∧ p.s.size ≤ 1000000) (hnm : nameB t = true) (h0 : chkL l = 0) (hq : QuartersAt w) :
    Calls Tryd.prog 12 #[.agg (vb k), .agg (vb nn), .string t, .int .u32 (ep : Nat), .slice A l.length ca] w (BoxR t ep nn (boxL k nn t ep l) 0 w) := by
  have zf := zero_bx
  have zs1 : zBx.size = 15 := by rfl
  have zs2 : ¬ zBx = #[] := by intro h; have := congrArg Array.size h; rw [zs1] at this; cases this
  have HNK := Lib.hid (keySz hk)
  have HNN := Lib.hid (nnSz hn)
  have HBX := Lib.hid (Sbx.begin w k nn)
  have HBD := Lib.hid built_bx0
  have HZS := Lib.hid (show (Tryd.prog.info? 27).map (·.size) = some zBx.size by kernel_rfl)
  have HZ1 := Lib.hid (show zBx.all (·.oneCell') = true from bx_all _ _ _ _ _ _)
  have HNM := Lib.hid (fun W => name_c t W (by omega))
  have HLY := Lib.hid (fun W (hb : Below w.heap.size w W) => lay_c A ca l W (Rd.ups (Rd.below hr hb) hb.size) hc h1 hok)
  have hL0 : layR l = layL l := by unfold layR; rw [if_pos h0]
  have hLl : (layL l).length ≤ 4096 := by rw [← hL0]; exact layR_le (fun p hp => (hok p hp).1)
  have hLb : ∀ c ∈ layL l, c < 256 := by rw [← hL0]; exact layR_lt l
  have hbl := beside_len 66 t ep
  have hts : t.size ≤ 24 := by
    unfold nameB at hnm
    simp only [Bool.and_eq_true, decide_eq_true_eq] at hnm
    exact hnm.2.2
  have HBS := Lib.hid (fun W => beside_c 66 t ep W he ht)
  have HSC := Lib.hid (fun W A1 A2 c1 c2 (hb : Below w.heap.size w W) (hr1 : Rd W W.heap.size A1 (byt (besideL 66 t ep))) (hr2 : Rd W W.heap.size A2 (byt (layL l))) => seal_c A1 A2 c1 c2 k nn (besideL 66 t ep) (layL l) W hk hkl hn hnl hr1 hr2 (beside_lt 66 t ep (by decide)) hLb (by omega) hLl (hq.next hb))
  have HSB := Lib.hid (show sealL k nn (besideL 66 t ep) (layL l) = boxL k nn t ep l from rfl)
  have HLL := Lib.hid hLl
  rw [h0, hL0] at HLY
  rw [HSB.out] at HSC
  rw [hnm] at HNM
  obtain ⟨bs, hbs⟩ : ∃ bs, bs = besideL 66 t ep := ⟨_, rfl⟩
  rw [← hbs] at HBS HSC
  generalize boxL k nn t ep l = body at *
  generalize layL l = L at *
  clear hr hok hkl hnl hnm h0 hq hL0 hLl hLb hbl hbs HSB
  have HBT := Lib.hid (fun A n c => built_bx t ep (nn := nn) A n c hn)
  have HBI := Lib.hid (fun A n c => bxSz t ep (nn := nn) A n c hn)
  have HBQ := Lib.hid (fun A n c => show zBx.size = (bxV t ep nn A n c).size by rw [zBx_size]; unfold bxV; rw [List.size_toArray, bxL_len t ep A n c hn])
  have HNL := Lib.hid (show (Tryd.prog.info? 24).map (·.size) = some (vb nn).toList.length by rw [Array.length_toList]; exact nnSz hn)
  have HKL := Lib.hid (show (Tryd.prog.info? 42).map (·.size) = some (vb k).toList.length by rw [Array.length_toList]; exact keySz hk)
  go_enter Tryd.func12, Tryd.ntmps12
  go_upto_region 1 with (first
    | (refine Go.Great.wpList_boxTo rfl 42 (.tmp 0) rfl (some 5) rfl w.heap.size rfl (vb k) rfl ?_)
    | (refine Go.Great.wpList_boxTo rfl 24 (.tmp 1) rfl (some 6) rfl (w.heap.size + 1) (by simp) (vb nn) rfl ?_))
  generalize ((w.alloc (Obj.cells (vb k) 42)).alloc (Obj.cells (vb nn) 24)).alloc (Obj.cells zBx 27) = Z at *
  clear zf zs1 zs2
  go_upto_region 6 with (first
    | (go_at_call 21; (refine (HNM.out Z).mono ?_); rintro e W1 ⟨rfl, rfl⟩)
    | (go_at_call 22; (refine (HLY.out Z HBX.out.kb.bel).mono ?_); rintro e W2 ⟨v2, rfl, ho, hb⟩; have HX2 := Lib.hid (HBX.out.next hb); obtain ⟨A2, c2, rfl, _, _, r2⟩ := ho.rd; have HR2 := Lib.hid r2; clear ho hb r2))
  refine wp_region_loud W2 [33, 35, 28, 36, 14] (fun k u W => if k = 33 then OwnB W W2.heap.size u bs else if k = 35 ∨ k = 28 then (∃ v, u = .tuple #[v, .int .i64 0] ∧ OwnB W W2.heap.size v body) else OwnB W W2.heap.size u body) (by kernel_rfl) (by kernel_rfl) (by kernel_rfl) (by kernel_rfl) (fun k u w1 w2 h hb => by
    by_cases h33 : k = 33
    · rw [if_pos h33] at h ⊢; exact OwnB.next h hb
    · rw [if_neg h33] at h ⊢
      by_cases h35 : k = 35 ∨ k = 28
      · rw [if_pos h35] at h ⊢; obtain ⟨v, e, h⟩ := h; exact ⟨v, e, OwnB.next h hb⟩
      · rw [if_neg h35] at h ⊢; exact OwnB.next h hb) (Below.refl _ _).drew ?_
  repeat (first
    | (refine wpLoud_loadB rfl rfl 42 (.tmp 5) rfl w.heap.size 0 rfl (vb k) _ (fun z => by have h2 := rangeAt_blk (HX2.out.kb.kA.below z.bel HX2.out.kb.kA.lt); simpa [vb] using h2) Tryd.underlying42 rfl HKL.out _ (by simp only [Act.put, List.setIfInBounds_toArray, List.set_cons_succ, List.set_cons_zero]; rfl) ?_)
    | (refine wpLoud_loadB rfl rfl 24 (.tmp 6) rfl (w.heap.size + 1) 0 rfl (vb nn) _ (fun z => by have h2 := rangeAt_blk (HX2.out.kb.nA.below z.bel HX2.out.kb.nA.lt); simpa [vb] using h2) Tryd.underlying24 rfl HNL.out _ (by simp only [Act.put, List.setIfInBounds_toArray, List.set_cons_succ, List.set_cons_zero]; rfl) ?_)
    | (refine wpLoud_call 33 rfl [] tok 24 (fun g => #[.int .u8 66, .string t, .int .u32 (ep : Int)]) rfl (fun _ _ h => by cases h) rfl (fun g w => by kernel_rfl) (fun g y hg => by
        refine (HBS.out y.wd).mono ?_
        rintro e w' ⟨u, rfl, ho, hb⟩
        exact ⟨u, rfl, hb, own_base_le ho y.bel.size⟩) _ (by simp only [Act.put, List.setIfInBounds_toArray, List.set_cons_succ, List.set_cons_zero]; rfl) ?_)
    | (refine wpLoud_call 35 rfl [33] tok 23 (fun g => #[.agg (vb k), .agg (vb nn), g 33, .slice A2 L.length c2]) rfl (fun _ _ h => by cases h) rfl (fun g w => by kernel_rfl) (fun g y hg => by
        have h33 : OwnB y.wd W2.heap.size (g 33) bs := hg 33 (by simp)
        obtain ⟨A3, c3, e3, _, _, r3⟩ := h33.rd
        show Calls _ _ #[_, _, g 33, _] _ _
        rw [e3]
        refine (HSC.out y.wd A3 A2 c3 c2 (HX2.out.kb.bel.trans (y.bel.mono HX2.out.kb.bel.size)) r3 (Rd.ups (Rd.below HR2.out y.bel) y.bel.size)).mono ?_
        rintro e w' ⟨v, rfl, ho, hb⟩
        exact ⟨_, rfl, hb, ⟨v, rfl, own_base_le ho y.bel.size⟩⟩) _ (by simp only [Act.put, List.setIfInBounds_toArray, List.set_cons_succ, List.set_cons_zero]; rfl) ?_)
    | (refine wpLoud_move rfl 35 28 (.inr rfl) rfl rfl rfl rfl (fun u w h => h) _ (by simp only [Act.put, List.setIfInBounds_toArray, List.set_cons_succ, List.set_cons_zero]; rfl) ?_)
    | (refine wpLoud_makeG 36 rfl rfl [28] rfl (fun _ _ h => by cases h) rfl (fun g x h => by
        obtain ⟨v, e, ho⟩ : ∃ v, g 28 = .tuple #[v, .int .i64 0] ∧ OwnB x.wd W2.heap.size v body := h 28 (by simp)
        exact ⟨v, x.wd, run_ext _ _ (.tmp 28) 0 rfl _ v e rfl _, Below.refl _ _, ho⟩) _ (by simp only [Act.put, List.setIfInBounds_toArray, List.set_cons_succ, List.set_cons_zero]; rfl) ?_)
    | (refine wpLoud_valN 37 rfl rfl [28] (.int .i64 0) rfl (fun _ _ h => by cases h) rfl (fun g x h => by
        obtain ⟨v, e, ho⟩ : ∃ v, g 28 = .tuple #[v, .int .i64 0] ∧ OwnB x.wd W2.heap.size v body := h 28 (by simp)
        exact run_ext _ _ (.tmp 28) 1 rfl _ _ e rfl _) _ (by simp only [Act.put, List.setIfInBounds_toArray, List.set_cons_succ, List.set_cons_zero]; rfl) ?_)
    | (refine wpLoud_move rfl 36 14 (.inl rfl) rfl rfl rfl rfl (fun u w h => h) _ (by simp only [Act.put, List.setIfInBounds_toArray, List.set_cons_succ, List.set_cons_zero]; rfl) ?_)
    | (refine wpLoud_plain rfl rfl rfl ?_; intro K hK; go_big_quiet_op; go_big_quiet_on))
  refine wpLoud_end [33, 35, 28, 36, 14] (by rfl) ?_
  intro gg z hg
  have h35 : OwnB z.wd W2.heap.size (gg 14) body := hg 14 (by simp)
  obtain ⟨A5, c5, e14, _, _, _⟩ := h35.rd
  have HO5 := Lib.hid h35
  have HX5 := Lib.hid (HX2.out.next z.bel)
  generalize z.wd = Y at *
  simp only [fill, Act.put, List.setIfInBounds_toArray, List.set_cons_succ, List.set_cons_zero]
  rw [e14] at HO5 ⊢
  clear hg h35 e14
  generalize gg 33 = x33 at *
  generalize gg 35 = x35 at *
  generalize gg 28 = x28 at *
  generalize gg 36 = x36 at *
  go_upto_region 7 with fail
  go_wp2_with (first
    | (refine wpList_load_row rfl 24 (.tmp 6) rfl (w.heap.size + 1) rfl 24 (vb nn) (0, 0) _ HX5.out.kb.nA Tryd.underlying24 rfl HNN.out ?_)
    | (refine wpList_valG (by kernel_rfl) (.agg (bxV t ep nn A5 body.length c5)) (by exact run_built _ 27 [(0, .string t), (1, .int .u32 (ep : Int)), (2, .agg (vb nn)), (3, .slice A5 body.length c5)] (bxV t ep nn A5 body.length c5) (HBT.out A5 body.length c5) #[(0, .tmp 38), (1, .tmp 39), (2, .tmp 40), (3, .tmp 41)] rfl (by kernel_rfl)) ?_)
    | (refine wpList_store_rowTo rfl 27 (.tmp 10) (.tmp 42) rfl rfl (w.heap.size + 1 + 1) (bxV t ep nn A5 body.length c5) rfl rfl 27 zBx (by exact HX5.out.r) (HBI.out ..) (HBQ.out ..) (bx_all _ _ _ _ _ _) ?_))
  refine bodyPost_ret (results_row_tmp rfl _ _ (w.heap.size + 1 + 1) 27 (bxV t ep nn A5 body.length c5) (0, 0) _ rfl (setRow_heap _ _ zBx _ 27 (0, 0) HX5.out.r) Tryd.underlying27 rfl (HBI.out ..)) rfl ?_
  refine ⟨A5, c5, rfl, ?_, below_row HX5.out.kb.bel (by omega) _⟩
  have hlt := HX2.out.r.lt
  exact own_base_le (own_keep HO5.out (only_setRow Y (w.heap.size + 1 + 1) _) (fun g hg hs => by have h2 := own_base HO5.out g hg; omega)) (by omega)
end Go.Proofs.YtldjbbcfbjpfcaaDoor
/- Contracts: a box is opened. -/
namespace Go.Proofs.YtldjbbcfbjpfcaaDoor
open Go.RowKit
set_option linter.unusedVariables false
set_option linter.unusedSimpArgs false
/-- the error of opening a box -/
def opE (k : List Nat) (t : ByteArray) (ep : Nat) (nn body : List Nat) : Nat := if checkB t body.length then (if openErr k nn (besideL 66 t ep) body = 0 then readE (openL k nn (besideL 66 t ep) body) else openErr k nn (besideL 66 t ep) body) else 1
def opP (k : List Nat) (t : ByteArray) (ep : Nat) (nn body : List Nat) : List Pc := if opE k t ep nn body = 0 then readL (openL k nn (besideL 66 t ep) body) else []
def OpenR (k : List Nat) (t : ByteArray) (ep : Nat) (nn body : List Nat) (w : World) (e : Ending) (w' : World) : Prop := ∃ v, e = .returned (.tuple #[v, .int .i64 (opE k t ep nn body : Nat)]) ∧ OwnP w' w.heap.size v (opP k t ep nn body) ∧ Below w.heap.size w w'
theorem openR_no {k : List Nat} {t : ByteArray} {ep : Nat} {nn body : List Nat} {w w' : World} {E : Int} (hE : (opE k t ep nn body : Int) = E) (h0 : E ≠ 0) (hb : Below w.heap.size w w') : OpenR k t ep nn body w (.returned (.tuple #[.slice none 0 0, .int .i64 E])) w' := by
  refine ⟨.slice none 0 0, by rw [hE], ?_, hb⟩
  rw [show opP k t ep nn body = [] by unfold opP; rw [if_neg (by omega)]]
  exact OwnP.nil_ _ _
/-- the key's and the box's boxes -/
structure Obx (w W : World) (k : List Nat) (B : Array Value) : Prop where
  bel : Below w.heap.size w W
  kA : Blk W w.heap.size 42 (vb k)
  bA : Blk W (w.heap.size + 1) 27 B
theorem Obx.next {w W W' : World} {k : List Nat} {B : Array Value} (s : Obx w W k B) (hb : Below W.heap.size W W') : Obx w W' k B := ⟨s.bel.trans (hb.mono s.bel.size), s.kA.below hb s.kA.lt, s.bA.below hb s.bA.lt⟩
theorem Obx.begin (w : World) (k : List Nat) (B : Array Value) : Obx w ((w.alloc (Obj.cells (vb k) 42)).alloc (Obj.cells B 27)) k B :=
  ⟨((Below.refl _ _).alloc (Nat.le_refl _) _).alloc (by simp) _, (Blk.new w _ _).alloc _, heap2 w _ _⟩
theorem openL_lt {k nn bs body : List Nat} (hb : ∀ c ∈ body, c < 256) : ∀ c ∈ openL k nn bs body, c < 256 := by
  unfold openL
  split
  · exact xorL_lt k nn 1 (fun c hc => hb c (List.mem_of_mem_take hc))
  · intro c hc; cases hc
theorem openL_len {k nn bs body : List Nat} : (openL k nn bs body).length ≤ body.length := by
  unfold openL
  split
  · rw [xorL_len, List.length_take]; omega
  · exact Nat.zero_le _
set_option maxRecDepth 100000 in
set_option maxHeartbeats 4000000 in
theorem openBox_c (k nn body : List Nat) (t : ByteArray) (ep : Nat) (A : Option Addr) (c : Nat) (w : World) (hk : k.length = 32) (hkl : ∀ c ∈ k, c < 256) (hn : nn.length = 12) (hnl : ∀ c ∈ nn, c < 256) (ht : t.size ≤ 1000000) (he : ep < 4294967296)
    (hr : Rd w w.heap.size A (byt body)) (hbl : ∀ c ∈ body, c < 256) (hc : body.length ≤ c) (hbn : body.length ≤ 100000) (hq : QuartersAt w) :
    Calls Tryd.prog 13 #[.agg (vb k), .agg (bxV t ep nn A body.length c)] w (OpenR k t ep nn body w) := by
  have HX := Lib.hid (Obx.begin w k (bxV t ep nn A body.length c))
  have HBL := Lib.hid (bxLn t ep (nn := nn) A body.length c hn)
  have HBS := Lib.hid (bxSz t ep (nn := nn) A body.length c hn)
  have HCH := Lib.hid (fun W => check16_c t ep nn A body.length c W hn ht (by omega))
  have HEE := Lib.hid (show opE k t ep nn body = if checkB t body.length then (if openErr k nn (besideL 66 t ep) body = 0 then readE (openL k nn (besideL 66 t ep) body) else openErr k nn (besideL 66 t ep) body) else 1 from rfl)
  cases hck : checkB t body.length with
  | false =>
    have HE := Lib.hid (show (opE k t ep nn body : Int) = 1 by rw [HEE.out, hck]; rfl)
    rw [hck] at HCH
    clear hr hbl hkl hnl hq hck HEE
    go_enter Tryd.func13, Tryd.ntmps13
    go_upto_region 1 with (first
      | (refine Go.Great.wpList_boxTo rfl 42 (.tmp 0) rfl (some 2) rfl w.heap.size rfl (vb k) rfl ?_)
      | (refine Go.Great.wpList_boxTo rfl 27 (.tmp 1) rfl (some 3) rfl (w.heap.size + 1) (by simp) (bxV t ep nn A body.length c) rfl ?_))
    generalize (w.alloc (Obj.cells (vb k) 42)).alloc (Obj.cells (bxV t ep nn A body.length c) 27) = Z at *
    go_wp2_with (first
      | (refine wpList_load_row rfl 27 (.tmp 3) rfl (w.heap.size + 1) rfl 27 (bxV t ep nn A body.length c) (0, 0) _ HX.out.bA Tryd.underlying27 rfl HBS.out ?_)
      | (go_at_call 14; (refine (HCH.out Z).mono ?_); rintro e W1 ⟨rfl, hb⟩; have HX1 := Lib.hid (HX.out.next hb); clear hb))
    refine bodyPost_ret (results_tmp2 rfl _ _ _) rfl ?_
    exact openR_no HE.out (by decide) HX1.out.bel
  | true =>
    rw [hck] at HCH
    have hck2 := hck
    unfold checkB at hck2
    simp only [Bool.and_eq_true, decide_eq_true_eq] at hck2
    obtain ⟨hnm, h16, h4112⟩ := hck2
    have hts : t.size ≤ 24 := by
      unfold nameB at hnm
      simp only [Bool.and_eq_true, decide_eq_true_eq] at hnm
      exact hnm.2.2
    have hbsl := beside_len 66 t ep
    have HBC := Lib.hid (fun W => beside_c 66 t ep W he ht)
    have HOC := Lib.hid (fun W A1 c1 (hb : Below w.heap.size w W) (hr1 : Rd W W.heap.size A1 (byt (besideL 66 t ep))) => open_c A1 A c1 c k nn (besideL 66 t ep) body W hk hkl hn hnl hr1 (Rd.ups (Rd.below hr hb) hb.size) (beside_lt 66 t ep (by decide)) hbl (by omega) h16 h4112 hc (hq.next hb))
    have HPB := Lib.hid (openL_lt (k := k) (nn := nn) (bs := besideL 66 t ep) hbl)
    have HPL := Lib.hid (openL_len (k := k) (nn := nn) (bs := besideL 66 t ep) (body := body))
    have HRD := Lib.hid (fun W A1 c1 (h : Rd W W.heap.size A1 (byt (openL k nn (besideL 66 t ep) body))) h2 h3 => read_c A1 c1 (openL k nn (besideL 66 t ep) body) W h h2 h3 HPB.out (by have := HPL.out; omega))
    unfold ReadPost at HRD
    have HE1 := Lib.hid (show openErr k nn (besideL 66 t ep) body ≠ 0 → opE k t ep nn body = openErr k nn (besideL 66 t ep) body from fun h => by rw [HEE.out, hck, if_pos rfl, if_neg h])
    have HE0 := Lib.hid (show openErr k nn (besideL 66 t ep) body = 0 → opE k t ep nn body = readE (openL k nn (besideL 66 t ep) body) from fun h => by rw [HEE.out, hck, if_pos rfl, if_pos h])
    have HP0 := Lib.hid (show opP k t ep nn body = if opE k t ep nn body = 0 then readL (openL k nn (besideL 66 t ep) body) else [] from rfl)
    have HRL := Lib.hid (show readL (openL k nn (besideL 66 t ep) body) = if readE (openL k nn (besideL 66 t ep) body) = 0 then (readB (openL k nn (besideL 66 t ep) body)).1 else [] from rfl)
    have HNL := Lib.hid (show (Tryd.prog.info? 24).map (·.size) = some (vb nn).toList.length by rw [Array.length_toList]; exact nnSz hn)
    have HKL := Lib.hid (show (Tryd.prog.info? 42).map (·.size) = some (vb k).toList.length by rw [Array.length_toList]; exact keySz hk)
    have HN12 := Lib.hid hn
    generalize openErr k nn (besideL 66 t ep) body = oe at *
    generalize openL k nn (besideL 66 t ep) body = pl at *
    generalize besideL 66 t ep = bs at *
    clear hr hbl hkl hnl hq hck HEE hnm HPB
    go_enter Tryd.func13, Tryd.ntmps13
    go_upto_region 1 with (first
      | (refine Go.Great.wpList_boxTo rfl 42 (.tmp 0) rfl (some 2) rfl w.heap.size rfl (vb k) rfl ?_)
      | (refine Go.Great.wpList_boxTo rfl 27 (.tmp 1) rfl (some 3) rfl (w.heap.size + 1) (by simp) (bxV t ep nn A body.length c) rfl ?_))
    generalize (w.alloc (Obj.cells (vb k) 42)).alloc (Obj.cells (bxV t ep nn A body.length c) 27) = Z at *
    go_upto_region 4 with (first
      | (refine wpList_load_row rfl 27 (.tmp 3) rfl (w.heap.size + 1) rfl 27 (bxV t ep nn A body.length c) (0, 0) _ HX.out.bA Tryd.underlying27 rfl HBS.out ?_)
      | (go_at_call 14; (refine (HCH.out Z).mono ?_); rintro e W2 ⟨rfl, hb⟩; have HX2 := Lib.hid (HX.out.next hb); clear hb))
    have c0 := cell_ext (show W2.cell? ⟨w.heap.size + 1, 0, none⟩ = some (.string t) from (HX2.out.bA.cell 0).trans (bx_c0 ..))
    have c1 := cell_ext (show W2.cell? ⟨w.heap.size + 1, 1, none⟩ = some (.int .u32 (ep : Int)) from (HX2.out.bA.cell 1).trans (bx_c1 ..))
    have c14 := cell_ext (show W2.cell? ⟨w.heap.size + 1, 14, none⟩ = some (.slice A body.length c) from (HX2.out.bA.cell 14).trans (bx_c14 _ _ _ _ _ hn))
    refine wp_region_loud W2 [22, 25, 14, 26, 7] (fun k u W => if k = 22 then OwnB W W2.heap.size u bs else if k = 25 ∨ k = 14 then (∃ v, u = .tuple #[v, .int .i64 (oe : Nat)] ∧ OwnB W W2.heap.size v pl) else OwnB W W2.heap.size u pl) (by kernel_rfl) (by kernel_rfl) (by kernel_rfl) (by kernel_rfl) (fun k u w1 w2 h hb => by
      by_cases h33 : k = 22
      · rw [if_pos h33] at h ⊢; exact OwnB.next h hb
      · rw [if_neg h33] at h ⊢
        by_cases h35 : k = 25 ∨ k = 14
        · rw [if_pos h35] at h ⊢; obtain ⟨v, e, h⟩ := h; exact ⟨v, e, OwnB.next h hb⟩
        · rw [if_neg h35] at h ⊢; exact OwnB.next h hb) (Below.refl _ _).drew ?_
    repeat (first
      | (refine wpLoud_loadB rfl rfl 42 (.tmp 2) rfl w.heap.size 0 rfl (vb k) _ (fun z => by have h2 := rangeAt_blk (HX2.out.kA.below z.bel HX2.out.kA.lt); simpa [vb] using h2) Tryd.underlying42 rfl HKL.out _ (by simp only [Act.put, List.setIfInBounds_toArray, List.set_cons_succ, List.set_cons_zero]; rfl) ?_)
      | (refine wpLoud_loadB rfl rfl 24 (.tmp 16) rfl (w.heap.size + 1) 2 rfl (vb nn) _ (fun z => by have h2 := bx_nonce (HX2.out.bA.below z.bel HX2.out.bA.lt); simpa [vb] using h2) Tryd.underlying24 rfl HNL.out _ (by simp only [Act.put, List.setIfInBounds_toArray, List.set_cons_succ, List.set_cons_zero]; rfl) ?_)
      | (refine wpLoud_call 22 rfl [] tok 24 (fun g => #[.int .u8 66, .string t, .int .u32 (ep : Int)]) rfl (fun _ _ h => by cases h) rfl (fun g w => by kernel_rfl) (fun g y hg => by
          refine (HBC.out y.wd).mono ?_
          rintro e w' ⟨u, rfl, ho, hb⟩
          exact ⟨u, rfl, hb, own_base_le ho y.bel.size⟩) _ (by simp only [Act.put, List.setIfInBounds_toArray, List.set_cons_succ, List.set_cons_zero]; rfl) ?_)
      | (refine wpLoud_call 25 rfl [22] tok 25 (fun g => #[.agg (vb k), .agg (vb nn), g 22, .slice A body.length c]) rfl (fun _ _ h => by cases h) rfl (fun g w => by kernel_rfl) (fun g y hg => by
          have h22 : OwnB y.wd W2.heap.size (g 22) bs := hg 22 (by simp)
          obtain ⟨A3, c3, e3, _, _, r3⟩ := h22.rd
          show Calls _ _ #[_, _, g 22, _] _ _
          rw [e3]
          refine (HOC.out y.wd A3 c3 (HX2.out.bel.trans (y.bel.mono HX2.out.bel.size)) r3).mono ?_
          rintro e w' ⟨v, rfl, ho, hb⟩
          exact ⟨_, rfl, hb, ⟨v, rfl, own_base_le ho y.bel.size⟩⟩) _ (by simp only [Act.put, List.setIfInBounds_toArray, List.set_cons_succ, List.set_cons_zero]; rfl) ?_)
      | (refine wpLoud_move rfl 25 14 (.inr rfl) rfl rfl rfl rfl (fun u w h => h) _ (by simp only [Act.put, List.setIfInBounds_toArray, List.set_cons_succ, List.set_cons_zero]; rfl) ?_)
      | (refine wpLoud_makeG 26 rfl rfl [14] rfl (fun _ _ h => by cases h) rfl (fun g x h => by
          obtain ⟨v, e, ho⟩ : ∃ v, g 14 = .tuple #[v, .int .i64 (oe : Nat)] ∧ OwnB x.wd W2.heap.size v pl := h 14 (by simp)
          exact ⟨v, x.wd, run_ext _ _ (.tmp 14) 0 rfl _ v e rfl _, Below.refl _ _, ho⟩) _ (by simp only [Act.put, List.setIfInBounds_toArray, List.set_cons_succ, List.set_cons_zero]; rfl) ?_)
      | (refine wpLoud_valN 27 rfl rfl [14] (.int .i64 (oe : Nat)) rfl (fun _ _ h => by cases h) rfl (fun g x h => by
          obtain ⟨v, e, ho⟩ : ∃ v, g 14 = .tuple #[v, .int .i64 (oe : Nat)] ∧ OwnB x.wd W2.heap.size v pl := h 14 (by simp)
          exact run_ext _ _ (.tmp 14) 1 rfl _ _ e rfl _) _ (by simp only [Act.put, List.setIfInBounds_toArray, List.set_cons_succ, List.set_cons_zero]; rfl) ?_)
      | (refine wpLoud_move rfl 26 7 (.inl rfl) rfl rfl rfl rfl (fun u w h => h) _ (by simp only [Act.put, List.setIfInBounds_toArray, List.set_cons_succ, List.set_cons_zero]; rfl) ?_)
      | (refine wpLoud_plain rfl rfl rfl ?_; intro K hK; go_big_quiet_op; go_big_quiet_on))
    refine wpLoud_end [22, 25, 14, 26, 7] (by rfl) ?_
    intro gg z hg
    have h25 : OwnB z.wd W2.heap.size (gg 7) pl := hg 7 (by simp)
    obtain ⟨A5, c5, e7, hc5, hm5, r5⟩ := h25.rd
    have HR5 := Lib.hid r5
    have HX5 := Lib.hid (HX2.out.next z.bel)
    generalize z.wd = Y at *
    simp only [fill, Act.put, List.setIfInBounds_toArray, List.set_cons_succ, List.set_cons_zero]
    rw [e7]
    clear hg h25 e7 r5 c0 c1 c14
    generalize gg 22 = x22 at *
    generalize gg 25 = x25 at *
    generalize gg 14 = x14 at *
    generalize gg 26 = x26 at *
    have HRY := Lib.hid (HRD.out Y A5 c5 HR5.out hc5 hm5)
    by_cases h0 : oe = 0
    · have HEZ := Lib.hid (HE0.out h0)
      have HPZ := Lib.hid (show opP k t ep nn body = readL pl by
        rw [HP0.out, HEZ.out, HRL.out]
        split <;> rfl)
      subst h0
      go_wp2_with (go_at_call 26; (refine HRY.out.mono ?_); rintro e W6 ⟨v6, rfl, ho, hb⟩; have HO6 := Lib.hid ho; have HB6 := Lib.hid (HX5.out.bel.trans (hb.mono HX5.out.bel.size)); clear ho hb)
      refine bodyPost_ret (results_tmp2 rfl _ _ _) rfl ?_
      exact ⟨_, by rw [HEZ.out]; rfl, by rw [HPZ.out]; exact own_base_le HO6.out HX5.out.bel.size, HB6.out⟩
    · have HEZ := Lib.hid (show (opE k t ep nn body : Int) = (oe : Int) by rw [HE1.out h0])
      have hne : ((oe : Nat) : Int) ≠ 0 := by omega
      have hq0 : decide (((oe : Nat) : Int) = 0) = false := decide_eq_false (by omega)
      have HNE := Lib.hid hne
      clear h0
      go_wp2_with fail
      refine bodyPost_ret (results_tmp2 rfl _ _ _) rfl ?_
      exact openR_no HEZ.out HNE.out HX5.out.bel
end Go.Proofs.YtldjbbcfbjpfcaaDoor
/- Contracts: the document's sealing of pieces; whether two boxes are one. -/
namespace Go.Proofs.YtldjbbcfbjpfcaaDoor
open Go.RowKit
set_option linter.unusedVariables false
set_option linter.unusedSimpArgs false
/-- a box handed back -/
def RBox (t : ByteArray) (ep : Nat) (nn body : List Nat) (base : Nat) (u : Value) (W : World) : Prop := ∃ A c, u = .agg (bxV t ep nn A body.length c) ∧ OwnB W base (.slice A body.length c) body
theorem RBox.next {t : ByteArray} {ep : Nat} {nn body : List Nat} {base : Nat} {u : Value} {W W' : World} (h : RBox t ep nn body base u W) (hb : Below W.heap.size W W') : RBox t ep nn body base u W' := by
  obtain ⟨A, c, e, h⟩ := h
  exact ⟨A, c, e, h.next hb⟩
def sameBx (t1 : ByteArray) (ep1 : Nat) (nn1 l1 : List Nat) (t2 : ByteArray) (ep2 : Nat) (nn2 l2 : List Nat) : Bool := (t1.toList == t2.toList) && ((ep1 == ep2) && ((nn1 == nn2) && (l1 == l2)))
structure Twx (w W : World) (B1 B2 : Array Value) : Prop where
  bel : Below w.heap.size w W
  a : Blk W w.heap.size 27 B1
  b : Blk W (w.heap.size + 1) 27 B2
theorem Twx.begin (w : World) (B1 B2 : Array Value) : Twx w ((w.alloc (Obj.cells B1 27)).alloc (Obj.cells B2 27)) B1 B2 :=
  ⟨((Below.refl _ _).alloc (Nat.le_refl _) _).alloc (by simp) _, (Blk.new w _ _).alloc _, heap2 w _ _⟩
set_option maxRecDepth 100000 in
set_option maxHeartbeats 4000000 in
theorem rsame16_c (t1 t2 : ByteArray) (ep1 ep2 : Nat) (nn1 nn2 l1 l2 : List Nat) (A1 A2 : Option Addr) (c1 c2 : Nat) (w : World) (hn1 : nn1.length = 12) (hn2 : nn2.length = 12) (hb1 : ∀ c ∈ nn1, c < 256) (hb2 : ∀ c ∈ nn2, c < 256)
    (hr1 : Rd w w.heap.size A1 (byt l1)) (hr2 : Rd w w.heap.size A2 (byt l2)) (hl1 : ∀ c ∈ l1, c < 256) (hl2 : ∀ c ∈ l2, c < 256) (h1 : l1.length ≤ 1000000) (h2 : l2.length ≤ 1000000) :
    Calls Tryd.prog 10 #[.agg (bxV t1 ep1 nn1 A1 l1.length c1), .agg (bxV t2 ep2 nn2 A2 l2.length c2)] w fun e w' => e = .returned (.bool (sameBx t1 ep1 nn1 l1 t2 ep2 nn2 l2)) ∧ Below w.heap.size w w' := by
  have HS := Lib.hid (fun W (hb : Below w.heap.size w W) => same_c w.heap.size w.heap.size A1 A2 c1 c2 l1 l2 W hl1 hl2 (hr1.below hb) (hr2.below hb) (by omega) (by omega))
  have l3 : ∀ W, (Op.equalIn 10000 24 (.agg (vb nn1)) (.agg (vb nn2))).run Tryd.prog W = .ok (nn1 == nn2) W := fun W => run_equalIn_barr Tryd.underlying24 Tryd.underlying5 (by kernel_rfl) (by kernel_rfl) nn1 nn2 hn1 hn2 hb1 hb2 W
  have HX := Lib.hid (Twx.begin w (bxV t1 ep1 nn1 A1 l1.length c1) (bxV t2 ep2 nn2 A2 l2.length c2))
  have HN1 := Lib.hid (nnSz hn1)
  have HN2 := Lib.hid (nnSz hn2)
  have HN1l := Lib.hid (show (Tryd.prog.info? 24).map (·.size) = some (byt nn1).length by rw [byt_len]; have h := nnSz hn1; rw [vb_size] at h; exact h)
  have HN2l := Lib.hid (show (Tryd.prog.info? 24).map (·.size) = some (byt nn2).length by rw [byt_len]; have h := nnSz hn2; rw [vb_size] at h; exact h)
  have HV := Lib.hid (show sameBx t1 ep1 nn1 l1 t2 ep2 nn2 l2 = ((t1.toList == t2.toList) && ((ep1 == ep2) && ((nn1 == nn2) && (l1 == l2)))) from rfl)
  obtain ⟨r, hr⟩ : ∃ r, r = sameBx t1 ep1 nn1 l1 t2 ep2 nn2 l2 := ⟨_, rfl⟩
  rw [← hr] at HV ⊢
  have HH1 := Lib.hid hn1
  have HH2 := Lib.hid hn2
  clear hr hr1 hr2 hl1 hl2 hb1 hb2 hn1 hn2
  go_enter Tryd.func10, Tryd.ntmps10
  go_upto_region 1 with (first
    | (refine Go.Great.wpList_boxTo rfl 27 (.tmp 0) rfl (some 2) rfl w.heap.size rfl (bxV t1 ep1 nn1 A1 l1.length c1) rfl ?_)
    | (refine Go.Great.wpList_boxTo rfl 27 (.tmp 1) rfl (some 3) rfl (w.heap.size + 1) (by simp) (bxV t2 ep2 nn2 A2 l2.length c2) rfl ?_))
  generalize (w.alloc (Obj.cells (bxV t1 ep1 nn1 A1 l1.length c1) 27)).alloc (Obj.cells (bxV t2 ep2 nn2 A2 l2.length c2) 27) = Z at *
  have c0 : Z.cell? ⟨w.heap.size, 0, none⟩ = some (.string t1) := (HX.out.a.cell 0).trans (bx_c0 ..)
  have c1' : Z.cell? ⟨w.heap.size, 1, none⟩ = some (.int .u32 (ep1 : Int)) := (HX.out.a.cell 1).trans (bx_c1 ..)
  have c14 : Z.cell? ⟨w.heap.size, 14, none⟩ = some (.slice A1 l1.length c1) := (HX.out.a.cell 14).trans (bx_c14 _ _ _ _ _ HH1.out)
  have d0 : Z.cell? ⟨w.heap.size + 1, 0, none⟩ = some (.string t2) := (HX.out.b.cell 0).trans (bx_c0 ..)
  have d1 : Z.cell? ⟨w.heap.size + 1, 1, none⟩ = some (.int .u32 (ep2 : Int)) := (HX.out.b.cell 1).trans (bx_c1 ..)
  have d14 : Z.cell? ⟨w.heap.size + 1, 14, none⟩ = some (.slice A2 l2.length c2) := (HX.out.b.cell 14).trans (bx_c14 _ _ _ _ _ HH2.out)
  rcases (show (t1.toList == t2.toList) = false ∨ (t1.toList == t2.toList) = true by cases (t1.toList == t2.toList) <;> simp) with ht | ht
  · have HF := Lib.hid (show r = false by rw [HV.out, ht]; rfl)
    go_wp2_with fail
    go_ret
    exact ⟨by rw [HF.out]; rfl, HX.out.bel⟩
  · by_cases hep : ep1 = ep2
    · have e1 : ((ep1 : Int) == (ep2 : Int)) = true := by rw [beq_iff_eq]; omega
      have HEP := Lib.hid (show (ep1 == ep2) = true by rw [beq_iff_eq]; exact hep)
      clear hep
      rcases (show (nn1 == nn2) = false ∨ (nn1 == nn2) = true by cases (nn1 == nn2) <;> simp) with hnn | hnn
      · have HF := Lib.hid (show r = false by rw [HV.out, ht, HEP.out, hnn]; rfl)
        rw [hnn] at l3
        unfold vb at l3
        clear hnn
        go_wp2_with (first
          | (refine wpList_loadG rfl 24 (.tmp 18) rfl w.heap.size 2 rfl (byt nn1) _ (bx_nonce HX.out.a) Tryd.underlying24 rfl HN1l.out ?_)
          | (refine wpList_loadG rfl 24 (.tmp 20) rfl (w.heap.size + 1) 2 rfl (byt nn2) _ (bx_nonce HX.out.b) Tryd.underlying24 rfl HN2l.out ?_))
        go_ret
        exact ⟨by rw [HF.out]; rfl, HX.out.bel⟩
      · have HF := Lib.hid (show r = (l1 == l2) by rw [HV.out, ht, HEP.out, hnn]; simp)
        rw [hnn] at l3
        unfold vb at l3
        clear hnn
        have HQ := Lib.hid (HS.out Z HX.out.bel)
        rw [← HF.out] at HQ
        clear HS
        go_wp2_with (first
          | (refine wpList_loadG rfl 24 (.tmp 18) rfl w.heap.size 2 rfl (byt nn1) _ (bx_nonce HX.out.a) Tryd.underlying24 rfl HN1l.out ?_)
          | (refine wpList_loadG rfl 24 (.tmp 20) rfl (w.heap.size + 1) 2 rfl (byt nn2) _ (bx_nonce HX.out.b) Tryd.underlying24 rfl HN2l.out ?_)
          | (go_at_call 9; (refine HQ.out.mono ?_); rintro e W1 ⟨rfl, q, rfl⟩))
        go_ret
        exact ⟨rfl, belowDrewN q HX.out.bel⟩
    · have e1 : ((ep1 : Int) == (ep2 : Int)) = false := by rw [beq_eq_false_iff_ne]; omega
      have HF := Lib.hid (show r = false by rw [HV.out, ht, show (ep1 == ep2) = false by rw [beq_eq_false_iff_ne]; exact hep]; rfl)
      clear hep
      go_wp2_with fail
      go_ret
      exact ⟨by rw [HF.out]; rfl, HX.out.bel⟩
end Go.Proofs.YtldjbbcfbjpfcaaDoor
/- Contracts: opened, and nonces, by the document. -/
namespace Go.Proofs.YtldjbbcfbjpfcaaDoor
set_option maxRecDepth 100000
open Go.RowKit
set_option linter.unusedVariables false
set_option linter.unusedSimpArgs false
theorem range_all {w : World} {g : Nat} {T : TypeId} {l : List Nat} (h : Blk w g T (vb l)) : w.rangeAt g 0 (byt l) := by
  have := range_take h l.length
  rwa [List.take_length] at this
theorem b32Ln {L : List Nat} (h : L.length = 32) : (Tryd.prog.info? 41).map (·.size) = some (byt L).length := by rw [byt_len, h]; kernel_rfl
theorem n12Ln {L : List Nat} (h : L.length = 12) : (Tryd.prog.info? 23).map (·.size) = some (byt L).length := by rw [byt_len, h]; kernel_rfl
theorem xorL_twice (k nonce : List Nat) (n : Nat) (b : List Nat) : xorL k nonce n (xorL k nonce n b) = b := by
  apply List.ext_getElem
  · simp [xorL_len]
  · intro i h1 h2
    have hi : i < b.length := h2
    have hx : (xorL k nonce n b).getD i 0 = xorB k nonce n b i := by
      unfold xorL
      rw [List.getD_eq_getElem?_getD, List.getElem?_map, List.getElem?_range hi]
      rfl
    have e : (xorL k nonce n (xorL k nonce n b))[i]'h1 = xorB k nonce n (xorL k nonce n b) i := by
      simp [xorL]
    rw [e]
    unfold xorB
    rw [hx]
    unfold xorB
    rw [Nat.xor_assoc, Nat.xor_self, Nat.xor_zero, List.getD_eq_getElem?_getD, List.getElem?_eq_getElem hi]
    rfl
theorem seal_eq (k nonce beside un tl : List Nat) (h : tl.length = 16) : (sealL k nonce beside (xorL k nonce 1 un) == un ++ tl) = (tagL k nonce beside un == tl) := by
  unfold sealL
  rw [xorL_twice]
  rw [Bool.eq_iff_iff]
  simp
end Go.Proofs.YtldjbbcfbjpfcaaDoor
/- Contract: the document's example of a box. -/
namespace Go.Proofs.YtldjbbcfbjpfcaaDoor
open Go.RowKit
set_option linter.unusedVariables false
set_option linter.unusedSimpArgs false
theorem seal_len (k nonce beside plain : List Nat) : (sealL k nonce beside plain).length = plain.length + 16 := by
  unfold sealL; rw [List.length_append, xorL_len, tagL_len]
theorem seal_open (k nonce beside plain : List Nat) (h : plain.length ≤ 4096) : openErr k nonce beside (sealL k nonce beside plain) = 0 ∧ openL k nonce beside (sealL k nonce beside plain) = plain := by
  have hl := seal_len k nonce beside plain
  have e1 : (sealL k nonce beside plain).take ((sealL k nonce beside plain).length - 16) = xorL k nonce 1 plain := by
    rw [hl, Nat.add_sub_cancel]
    unfold sealL
    rw [List.take_append_of_le_length (by rw [xorL_len]; exact Nat.le_refl _), List.take_of_length_le (by rw [xorL_len]; exact Nat.le_refl _)]
  have e2 : (sealL k nonce beside plain).drop ((sealL k nonce beside plain).length - 16) = tagL k nonce beside (xorL k nonce 1 plain) := by
    rw [hl, Nat.add_sub_cancel]
    unfold sealL
    rw [List.drop_append_of_le_length (by rw [xorL_len]; exact Nat.le_refl _), List.drop_of_length_le (by rw [xorL_len]; exact Nat.le_refl _), List.nil_append]
  have he : openErr k nonce beside (sealL k nonce beside plain) = 0 := by
    unfold openErr
    rw [if_neg (by omega), if_neg (by omega), e1, e2, beq_self_eq_true, if_pos rfl]
  refine ⟨he, ?_⟩
  unfold openL
  rw [if_pos he, e1, xorL_twice]

def tT : ByteArray := ByteArray.mk #[116]
def exK1 : List Nat := 1 :: List.replicate 31 0
def exK2 : List Nat := 2 :: List.replicate 31 0
def exN2 : List Nat := 2 :: List.replicate 11 0
theorem ex_name : nameB tT = true ∧ chkL [] = 0 := by decide +kernel
theorem ex_box : (boxL exK1 exN2 tT 3 []).length = 20 ∧ opE exK1 tT 3 exN2 (boxL exK1 exN2 tT 3 []) = 0 ∧ (opP exK1 tT 3 exN2 (boxL exK1 exN2 tT 3 [])).length = 0 ∧ opE exK2 tT 3 exN2 (boxL exK1 exN2 tT 3 []) = 5 := by decide +kernel
theorem boxL_lt {k nn : List Nat} {t : ByteArray} {ep : Nat} {l : List Pc} (hl : ∀ c ∈ layL l, c < 256) : ∀ c ∈ boxL k nn t ep l, c < 256 := fun c hc => by
  unfold boxL sealL at hc
  rcases List.mem_append.1 hc with h | h
  · exact xorL_lt k nn 1 hl c h
  · unfold tagL polT at h; exact form_lt _ _ c h
set_option maxRecDepth 100000 in
set_option maxHeartbeats 8000000 in
theorem awake16_c (w : World) (hq : QuartersAt w) : Calls Tryd.prog 5 #[] w fun e w' => e = .returned (.bool true) ∧ Below w.heap.size w w' := by
  obtain ⟨x1, x2⟩ := ex_name
  obtain ⟨y1, y2, y3, y4⟩ := ex_box
  have zf := zero_bx
  have zs1 : zBx.size = 15 := by rfl
  have zs2 : ¬ zBx = #[] := by intro h; have := congrArg Array.size h; rw [zs1] at this; cases this
  have HSE := Lib.hid (sealYes_c exK1 exN2 tT 3 none 0 [] w rfl (by decide) rfl (by decide) (by decide) (by decide) (Rd.nil_ _ _ _) (Nat.le_refl _) (by decide) (fun p hp => by cases hp) x1 x2 hq)
  have hbl : ∀ c ∈ boxL exK1 exN2 tT 3 [], c < 256 := boxL_lt (by
    have h := layR_lt []
    unfold layR at h
    rw [if_pos x2] at h
    exact h)
  have HO1 := Lib.hid (fun A c W (hb : Below w.heap.size w W) (h : Rd W W.heap.size A (byt (boxL exK1 exN2 tT 3 []))) (hc : (boxL exK1 exN2 tT 3 []).length ≤ c) => openBox_c exK1 exN2 (boxL exK1 exN2 tT 3 []) tT 3 A c W rfl (by decide) rfl (by decide) (by decide) (by decide) h hbl hc (by omega) (hq.next hb))
  have HO2 := Lib.hid (fun A c W (hb : Below w.heap.size w W) (h : Rd W W.heap.size A (byt (boxL exK1 exN2 tT 3 []))) (hc : (boxL exK1 exN2 tT 3 []).length ≤ c) => openBox_c exK2 exN2 (boxL exK1 exN2 tT 3 []) tT 3 A c W rfl (by decide) rfl (by decide) (by decide) (by decide) h hbl hc (by omega) (hq.next hb))
  unfold OpenR at HO1 HO2
  rw [y2] at HO1
  have HY3 := Lib.hid y3
  generalize opP exK1 tT 3 exN2 (boxL exK1 exN2 tT 3 []) = P1 at *
  rw [y4] at HO2
  generalize opP exK2 tT 3 exN2 (boxL exK1 exN2 tT 3 []) = P2 at *
  have HY1 := Lib.hid y1
  clear y2 y3 y4 x1 x2 hq hbl
  generalize boxL exK1 exN2 tT 3 [] = body at *
  have HBI := Lib.hid (fun A c => bxSz tT 3 (nn := exN2) A body.length c rfl)
  have HBQ := Lib.hid (fun A c => show zBx.size = (bxV tT 3 exN2 A body.length c).size by rw [zBx_size]; unfold bxV; rw [List.size_toArray, bxL_len tT 3 A body.length c rfl])
  rw [y1] at HO1 HO2 HBI HBQ
  clear y1
  go_enter Tryd.func5, Tryd.ntmps5
  go_upto_region 2 with (first
    | (go_at_call 12; (refine HSE.out.mono ?_); rintro e W1 ⟨A1, c1, rfl, ho, hb⟩; rw [HY1.out] at ho ⊢; have HOB := Lib.hid ho; have HB1 := Lib.hid hb; clear ho hb)
    | (refine wpList_store_rowTo rfl 27 (.tmp 1) (.tmp 11) rfl rfl W1.heap.size (bxV tT 3 exN2 A1 20 c1) rfl rfl 27 zBx (by exact Blk.new W1 _ _) (HBI.out ..) (HBQ.out ..) (bx_all _ _ _ _ _ _) ?_))
  have hnr := new_rowP W1 27 zBx (bxV tT 3 exN2 A1 20 c1)
  have HX2 := Lib.hid hnr.1
  have HB2 := Lib.hid (HB1.out.trans (hnr.2.mono HB1.out.size))
  have hob2 := OwnB.next (l := body) (show OwnB W1 w.heap.size _ body from HOB.out) hnr.2
  obtain ⟨A9, c9, e9, hc9, _, r9⟩ := hob2.rd
  injection e9 with e9a e9b e9c
  subst e9a e9c
  have HR2 := Lib.hid r9
  have HC2 := Lib.hid (show 20 ≤ c1 by have := HY1.out; omega)
  generalize (W1.alloc (Obj.cells zBx 27)).setRow W1.heap.size (bxV tT 3 exN2 A1 20 c1) = W2 at *
  generalize W1.heap.size = gb at *
  clear hnr hob2 r9 hc9 e9b zf zs1 zs2
  go_upto_region 3 with (first
    | (refine wpList_load_row rfl 27 (.tmp 1) rfl gb rfl 27 (bxV tT 3 exN2 A1 20 c1) (0, 0) _ HX2.out Tryd.underlying27 rfl (HBI.out ..) ?_)
    | (go_at_call 13; ((refine (HO1.out A1 c1 W2 HB2.out HR2.out HC2.out).mono ?_); rintro e W3 ⟨v3, rfl, ho, hb⟩; obtain ⟨A3, c3, rfl, _, _, _⟩ := ho.rd; rw [HY3.out]; have HX3 := Lib.hid (HX2.out.below hb HX2.out.lt); have HB3 := Lib.hid (HB2.out.trans (hb.mono HB2.out.size)); have HR3 := Lib.hid (Rd.ups (Rd.below HR2.out hb) hb.size); clear ho hb)))
  go_upto_region 4 with (first
    | (refine wpList_load_row rfl 27 (.tmp 1) rfl gb rfl 27 (bxV tT 3 exN2 A1 20 c1) (0, 0) _ HX3.out Tryd.underlying27 rfl (HBI.out ..) ?_)
    | (go_at_call 13; ((refine (HO2.out A1 c1 W3 HB3.out HR3.out HC2.out).mono ?_); rintro e W4 ⟨v4, rfl, ho, hb⟩; have HX4 := Lib.hid (HX3.out.below hb HX3.out.lt); have HB4 := Lib.hid (HB3.out.trans (hb.mono HB3.out.size)); clear ho hb)))
  have c14 : W4.cell? ⟨gb, 14, none⟩ = some (.slice A1 20 c1) := (HX4.out.cell 14).trans (bx_c14 _ _ _ _ _ rfl)
  go_wp2_with fail
  go_ret
  exact ⟨rfl, HB4.out⟩
end Go.Proofs.YtldjbbcfbjpfcaaDoor
