/- Contracts: how many pieces are of one series. -/
import Derived.Test.YtlidfmbmlhaacaaDf4
namespace Go.Proofs.Ytlidfmbmlhaacaa
open Go.RowKit
set_option linter.unusedVariables false
set_option linter.unusedSimpArgs false
theorem run1_at (s : ByteArray) : ∀ (l : List Pc) (k : Nat), k ≤ run1 s l → k < l.length → ((l.getD k pc0).s = s → k + 1 ≤ run1 s l) ∧ ((l.getD k pc0).s ≠ s → run1 s l = k)
  | [], k, _, h => by simp at h
  | p :: l, 0, hk, _ => by
    unfold run1
    constructor
    · intro h
      have h' : p.s = s := h
      rw [if_pos h']; omega
    · intro h
      have h' : ¬ p.s = s := h
      rw [if_neg h']
  | p :: l, k + 1, hk, h => by
    unfold run1 at hk ⊢
    by_cases he : p.s = s
    · rw [if_pos he] at hk ⊢
      have := run1_at s l k (by omega) (by simpa using h)
      simp only [List.getD_cons_succ]
      exact ⟨fun h1 => by have := this.1 h1; omega, fun h1 => by have := this.2 h1; omega⟩
    · rw [if_neg he] at hk; omega
/-- the closure: is it of another series? -/
theorem closure_c (p : Pc) (gl n c : Nat) (a : Addr) (s0 : ByteArray) (w : World) (hv : w.cell? ⟨gl, 0, none⟩ = some (.slice (some a) n c)) (hn : 0 < n) (ha : w.cell? a = some (.string s0)) (hb : gl < w.heap.size) (hab : a.block < w.heap.size) :
    Calls Try.prog 50 #[.agg (pcV p), .pointer (some ⟨gl, 0, none⟩)] w fun e w' => e = .returned (.bool (!(p.s.toList == s0.toList))) ∧ Below w.heap.size w w' := by
  have h1 : Blk (w.alloc (Obj.cells (pcV p) 31)) w.heap.size 31 (pcV p) := Blk.new w _ _
  have hB : Below w.heap.size w (w.alloc (Obj.cells (pcV p) 31)) := (Below.refl _ _).alloc (Nat.le_refl _) _
  have HB := Lib.hid hB
  have c0 : (w.alloc (Obj.cells (pcV p) 31)).cell? ⟨w.heap.size, 0, none⟩ = some (.string p.s) := (h1.cell 0).trans rfl
  have c1 : (w.alloc (Obj.cells (pcV p) 31)).cell? ⟨gl, 0, none⟩ = some (.slice (some a) n c) := (hB.cell (p := ⟨gl, 0, none⟩) hb).trans hv
  have c2 : (w.alloc (Obj.cells (pcV p) 31)).cell? a = some (.string s0) := (hB.cell hab).trans ha
  have p0 : (0 : Int) < (n : Int) := by omega
  obtain ⟨r, hr⟩ : ∃ r, r = !(p.s.toList == s0.toList) := ⟨_, rfl⟩
  have HR := Lib.hid hr
  rw [← hr]
  clear h1 hB hv ha hb hab hr
  go_enter Try.func50, Try.ntmps50
  go_upto_region 1 with (refine Go.Great.wpList_boxTo rfl 31 (.tmp 0) rfl (some 2) rfl w.heap.size rfl (pcV p) rfl ?_)
  generalize w.alloc (Obj.cells (pcV p) 31) = Z at *
  go_quiet (fail)
  have HB2 := Lib.hid (belowDrewN nq HB.out)
  generalize Z.drewN nq = Z2 at *
  go_wp2_with fail
  go_ret
  exact ⟨by rw [HR.out]; rfl, HB2.out⟩
/-- the index of the first one that is of another series, or -1 -/
def idxR (m n : Nat) : Int := if m < n then (m : Int) else -1
set_option maxRecDepth 100000 in
set_option maxHeartbeats 1000000 in
theorem index_c (gl c : Nat) (a : Addr) (l : List Pc) (s0 : ByteArray) (w : World) (hv : w.cell? ⟨gl, 0, none⟩ = some (.slice (some a) l.length c)) (hn : 0 < l.length) (hs0 : s0 = (l.getD 0 pc0).s) (hat : AtA w a (pcs l)) (hb : gl < w.heap.size) (hab : a.block < w.heap.size) (h1 : l.length ≤ 1000000) :
    Calls Try.prog 49 #[.slice (some a) l.length c, .func (.func 50) #[] #[.pointer (some ⟨gl, 0, none⟩)]] w fun e w' => e = .returned (.int .i64 (idxR (run1 s0 l) l.length)) ∧ Below w.heap.size w w' := by
  have HAT := Lib.hid hat
  have HRA := Lib.hid (run1_at s0 l)
  have HRL := Lib.hid (run1_le s0 l)
  have HCL := Lib.hid (fun W (h : Below w.heap.size w W) p => closure_c p gl l.length c a s0 W ((h.cell (p := ⟨gl, 0, none⟩) hb).trans hv) hn ((h.cell hab).trans (by rw [hs0]; have := (hat.piece 0 hn).ser; simpa [Addr.add] using this)) (Nat.lt_of_lt_of_le hb h.size) (Nat.lt_of_lt_of_le hab h.size))
  have HAB := Lib.hid hab
  obtain ⟨r, hr⟩ : ∃ r, r = idxR (run1 s0 l) l.length := ⟨_, rfl⟩
  have HRR := Lib.hid (show r = if run1 s0 l < l.length then ((run1 s0 l : Nat) : Int) else -1 from hr)
  rw [← hr]
  clear hv hat hb hab hs0 hr
  generalize run1 s0 l = m at *
  go_enter Try.func49, Try.ntmps49
  go_wp2
  go_loopw [8] (fun i wr => ∃ k : Nat, k ≤ l.length ∧ k ≤ m ∧ i = .int .i64 k ∧ Below w.heap.size w wr) (fun i _ => l.length - (intOf i).toNat)
  case atStart => exact ⟨0, Nat.zero_le _, Nat.zero_le _, rfl, Below.refl _ _⟩
  case round =>
    rename World => wr
    obtain ⟨k, hk, hkm, rfl, hb⟩ := hrel
    have HB := Lib.hid hb
    clear hb
    by_cases hlt : k < l.length
    · have p1 : (k : Int) < (l.length : Int) := by omega
      have HPC := Lib.hid ((HAT.out.below HB.out HAB.out).piece k hlt)
      have HRK := Lib.hid (HRA.out k hkm hlt)
      have HPI := Lib.hid (pcLn (l.getD k pc0))
      have HCK := Lib.hid (HCL.out wr HB.out (l.getD k pc0))
      generalize l.getD k pc0 = p at *
      by_cases hse : p.s = s0
      · have HK1 := Lib.hid (HRK.out.1 hse)
        have HS := Lib.hid (show (!(p.s.toList == s0.toList)) = false by rw [hse]; simp)
        rw [HS.out] at HCK
        clear hse
        go_wp2_with (first
          | (refine wpList_loadA rfl 31 (.tmp 14) rfl (a.add (k * 5)) rfl (pcL p) _ HPC.out Try.underlying31 rfl HPI.out ?_)
          | (go_at_call 50; (refine HCK.out.mono ?_); rintro e W1 ⟨rfl, hb1⟩; have HB1 := Lib.hid (HB.out.trans (hb1.mono HB.out.size)); clear hb1))
        go_roundw
        case rel => exact ⟨k + 1, by omega, by have := HK1.out; omega, by go_num, HB1.out⟩
        case measure => simp only [intOf]; omega
      · have HK1 := Lib.hid (HRK.out.2 hse)
        have HS := Lib.hid (show (!(p.s.toList == s0.toList)) = true by
          rw [Bool.not_eq_true', beq_eq_false_iff_ne]
          exact fun h => hse (toList_inj h))
        rw [HS.out] at HCK
        have HRV := Lib.hid (show r = (k : Int) by rw [HRR.out, HK1.out, if_pos hlt])
        clear hse
        go_wp2_with (first
          | (refine wpList_loadA rfl 31 (.tmp 14) rfl (a.add (k * 5)) rfl (pcL p) _ HPC.out Try.underlying31 rfl HPI.out ?_)
          | (go_at_call 50; (refine HCK.out.mono ?_); rintro e W1 ⟨rfl, hb1⟩; have HB1 := Lib.hid (HB.out.trans (hb1.mono HB.out.size)); clear hb1))
        go_ret
        exact ⟨by rw [HRV.out]; rfl, HB1.out⟩
    · obtain rfl : k = l.length := by omega
      have HRV := Lib.hid (show r = (-1 : Int) by rw [HRR.out, if_neg (by omega)])
      go_wp2_with fail
      go_ret
      exact ⟨by rw [HRV.out]; rfl, HB.out⟩
end Go.Proofs.Ytlidfmbmlhaacaa
