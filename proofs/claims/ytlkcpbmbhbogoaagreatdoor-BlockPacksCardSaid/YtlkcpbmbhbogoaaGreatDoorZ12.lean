/- Parts, one behind the other: Pa1 Pa2 Bk1 Po1 Bk5 Bo0 Bx9 Bl8 Bo1 Bk2 Pa3 Bk3. -/
import Derived.Test.YtlkcpbmbhbogoaaGreatDoorZ11
/- Contracts: which id is above, which piece stands ahead (the document's). -/
namespace Go.Proofs.YtlkcpbmbhbogoaaGreatDoor
set_option linter.unusedVariables false
set_option linter.unusedSimpArgs false
set_option maxRecDepth 100000
open Go.RowKit
set_option linter.unusedVariables false
set_option linter.unusedSimpArgs false
def abvB (n d n2 d2 : Nat) : Bool := decide (n2 < n) || ((n == n2) && decide (d2 < d))
theorem idLn (n d : Nat) : (Tryz.prog.info? 56).map (·.size) = some (idV n d).size := by
  show _ = some 2
  kernel_rfl
set_option maxRecDepth 100000 in
set_option maxHeartbeats 4000000 in
theorem rabove_c (n d n2 d2 : Nat) (w : World) : Calls Tryz.prog 20 #[.agg (idV n d), .agg (idV n2 d2)] w fun e w' => e = .returned (.bool (abvB n d n2 d2)) ∧ Below w.heap.size w w' := by
  have HLP := Lib.hid (show abvB n d n2 d2 = (decide (n2 < n) || ((n == n2) && decide (d2 < d))) from rfl)
  generalize abvB n d n2 d2 = b at *
  obtain ⟨y, hy⟩ : ∃ y, ((n : Int) == (n2 : Int)) = y := ⟨_, rfl⟩
  have HY := Lib.hid hy
  go_enter Tryz.func20, Tryz.ntmps20
  go_upto_region 1 with (first
    | (refine Go.Great.wpList_boxTo rfl 56 (.tmp 0) rfl (some 2) rfl w.heap.size rfl (idV n d) rfl ?_)
    | (refine Go.Great.wpList_boxTo rfl 56 (.tmp 1) rfl (some 3) rfl (w.heap.size + 1) (by simp) (idV n2 d2) rfl ?_))
  obtain ⟨Z, hZ⟩ : ∃ Z, Z = (w.alloc (Obj.cells (idV n d) 56)).alloc (Obj.cells (idV n2 d2) 56) := ⟨_, rfl⟩
  have h1 := show Blk Z w.heap.size 56 (idV n d) by rw [hZ]; exact (Blk.new w _ _).alloc _
  have h2 := show Blk Z (w.heap.size + 1) 56 (idV n2 d2) by rw [hZ]; exact heap2P w _ _
  have HB := Lib.hid (show Below w.heap.size w Z by rw [hZ]; exact ((Below.refl _ _).alloc (Nat.le_refl _) _).alloc (by simp) _)
  rw [← hZ]
  clear hZ
  have c0 : Z.cell? ⟨w.heap.size, 0, none⟩ = some (.int .u64 (n : Int)) := (h1.cell 0).trans rfl
  have c1 : Z.cell? ⟨w.heap.size, 1, none⟩ = some (.int .u16 (d : Int)) := (h1.cell 1).trans rfl
  have c2 : Z.cell? ⟨w.heap.size + 1, 0, none⟩ = some (.int .u64 (n2 : Int)) := (h2.cell 0).trans rfl
  have c3 : Z.cell? ⟨w.heap.size + 1, 1, none⟩ = some (.int .u16 (d2 : Int)) := (h2.cell 1).trans rfl
  clear h1 h2
  by_cases q1 : n2 < n
  · have HQ := Lib.hid q1
    cases y <;> (go_wp2_with fail; go_ret; exact ⟨by rw [HLP.out, decide_eq_true HQ.out]; simp, HB.out⟩)
  · have HQ := Lib.hid q1
    cases y with
    | true =>
      have he : n = n2 := by have := HY.out; rw [beq_iff_eq] at this; omega
      have HE := Lib.hid he
      clear he
      go_wp2_with fail
      go_ret
      exact ⟨by rw [HLP.out, decide_eq_false HQ.out, beq_iff_eq.2 HE.out]; simp, HB.out⟩
    | false =>
      have he : ¬ n = n2 := by have h := HY.out; intro e; rw [e] at h; simp at h
      have HE := Lib.hid he
      clear he
      go_wp2_with fail
      go_ret
      exact ⟨by rw [HLP.out, decide_eq_false HQ.out, beq_eq_false_iff_ne.2 HE.out]; simp, HB.out⟩
end Go.Proofs.YtlkcpbmbhbogoaaGreatDoor
/- A slice of slices of pieces; contract: the document's example of layer 13. -/
namespace Go.Proofs.YtlkcpbmbhbogoaaGreatDoor
set_option linter.unusedVariables false
set_option linter.unusedSimpArgs false
set_option maxRecDepth 100000
open Go.RowKit
set_option linter.unusedVariables false
set_option linter.unusedSimpArgs false
theorem sliceInfoP : (Tryz.prog.info? 30).map (fun i => (i.zero, i.size, i.bytes)) = some (some (.slice none 0 0), 1, 24) := by kernel_rfl
theorem run_lists (w : World) (vs : List Value) (hv : ∀ v ∈ vs, ∃ A n c, v = .slice A n c) {o : Oper} {ρ : Operand → Value} (xs : Array (Nat × Operand)) (ho : o.op = .buildSlice 24 vs.length xs)
    (hx : (xs.map fun (p : Nat × Operand) => (p.1, ρ p.2)).toList = ((vs.zipIdx 0).map fun x => (x.2, x.1))) (hlen : vs.length ≤ 1000) (hpos : 0 < vs.length) :
    (execOp ρ o).run Tryz.prog w = .ok (.value (.slice (some ⟨w.heap.size, 0, none⟩) vs.length vs.length)) (w.alloc (.cells vs.toArray 30)) := by
  obtain ⟨i0, hi, hz0, hz1, hz2⟩ := info_parts sliceInfoP
  have h1 := run_buildSlice (P := Tryz.prog) w 24 30 vs.length (xs.map fun (p : Nat × Operand) => (p.1, ρ p.2)) vs.toArray i0 _ Tryz.underlying24 hi hz0 (by rw [hz1]; omega) (by rw [hz1]; omega) (by
    rw [hz1]
    refine (congrArg _ hx).trans ?_
    exact (Great.fill_flat vs _ (fun v hm => by
      obtain ⟨A, n, c, rfl⟩ := hv v hm
      rfl) (by simp)))
  unfold execOp
  simp only [ho, Sem.run_bind, h1, Result.andThen_ok]
  rfl
theorem lsAt_blk {W : World} {g : Nat} {vs : List Value} {Ls : List (List Pc)} (h : Blk W g 30 vs.toArray) (hv : ∀ i, i < Ls.length → ∃ Ai ci, vs[i]? = some (.slice Ai (Ls.getD i []).length ci) ∧ (Ls.getD i []).length ≤ ci ∧ RdP W W.heap.size Ai (Ls.getD i [])) : LsAt W (some ⟨g, 0, none⟩) Ls := fun i hi => by
  obtain ⟨Ai, ci, h1, h2, h3⟩ := hv i hi
  refine ⟨_, Ai, ci, rfl, h.lt, ?_, h2, h3⟩
  rw [Addr.add_mid, Nat.zero_add, h.cell]
  simpa using h1
def aw1 : Pc := ⟨⟨#[97]⟩, 1, 5, 1, 0⟩
def aw2 : Pc := ⟨⟨#[97]⟩, 1, 6, 2, 0⟩
end Go.Proofs.YtlkcpbmbhbogoaaGreatDoor
/- Contract: block.Cut. -/
namespace Go.Proofs.YtlkcpbmbhbogoaaGreatDoor
set_option linter.unusedVariables false
set_option linter.unusedSimpArgs false
set_option maxRecDepth 100000
open Go.RowKit
set_option linter.unusedVariables false
set_option linter.unusedSimpArgs false
theorem run_l1 (w : World) (A : Option Addr) (n c : Nat) {o : Oper} {ρ : Operand → Value} (x : Operand) (ho : o.op = .buildSlice 24 1 #[(0, x)]) (hx : ρ x = .slice A n c) :
    (execOp ρ o).run Tryz.prog w = .ok (.value (.slice (some ⟨w.heap.size, 0, none⟩) 1 1)) (w.alloc (.cells #[.slice A n c] 30)) :=
  run_lists w [.slice A n c] (by intro v hv; simp at hv; subst hv; exact ⟨_, _, _, rfl⟩) #[(0, x)] ho (by simp [hx]) (by simp) (by simp)
section
variable {P : Program} {ops : Array Oper} {Q : Exit → Act → World → Prop} {rest : List Oper} {o : Oper} {a : Act}
theorem wpList_l1 {w : World} (x : Operand) (ho : o.op = .buildSlice 24 1 #[(0, x)]) (A : Option Addr) (n c : Nat) (hx : a.eval x = .slice A n c) (hw : Region.wanted o (yielded ops a.tmps) = true)
    (h : wpList Tryz.prog ops Q rest (a.put o.dst (.slice (some ⟨w.heap.size, 0, none⟩) 1 1)) (w.alloc (.cells #[.slice A n c] 30))) : wpList Tryz.prog ops Q (o :: rest) a w :=
  wpList_valM hw _ _ (run_l1 w A n c x ho hx) h
end
/-- groups, each a slice of pieces that lie in memory -/
def GsV (W : World) (xs : List Value) (gs : List (List Pc)) : Prop := xs.length = gs.length ∧ ∀ i, i < gs.length → ∃ Ai ci, xs[i]? = some (.slice Ai (gs.getD i []).length ci) ∧ (gs.getD i []).length ≤ ci ∧ RdP W W.heap.size Ai (gs.getD i [])
theorem GsV.next {W W' : World} {xs : List Value} {gs : List (List Pc)} (h : GsV W xs gs) (hb : Below W.heap.size W W') : GsV W' xs gs := ⟨h.1, fun i hi => by
  obtain ⟨Ai, ci, h1, h2, h3⟩ := h.2 i hi
  exact ⟨Ai, ci, h1, h2, (Rd.below (show Rd W W.heap.size Ai (pcs _) from h3) hb).more hb.size⟩⟩
theorem GsV.snoc {W : World} {xs : List Value} {gs : List (List Pc)} {A : Option Addr} {c : Nat} {g : List Pc} (h : GsV W xs gs) (hc : g.length ≤ c) (hr : RdP W W.heap.size A g) : GsV W (xs ++ [.slice A g.length c]) (gs ++ [g]) := by
  refine ⟨by simp [h.1], fun i hi => ?_⟩
  by_cases hl : i < gs.length
  · obtain ⟨Ai, ci, h1, h2, h3⟩ := h.2 i hl
    have e : (gs ++ [g]).getD i [] = gs.getD i [] := by rw [List.getD_eq_getElem?_getD, List.getElem?_append_left hl, List.getD_eq_getElem?_getD]
    rw [e]
    exact ⟨Ai, ci, by rw [List.getElem?_append_left (by rw [h.1]; exact hl)]; exact h1, h2, h3⟩
  · have hi' : i = gs.length := by simp at hi; omega
    subst hi'
    have e : (gs ++ [g]).getD gs.length [] = g := by rw [List.getD_eq_getElem?_getD, List.getElem?_append_right (Nat.le_refl _)]; simp
    rw [e]
    exact ⟨A, c, by rw [List.getElem?_append_right (by rw [h.1]; exact Nat.le_refl _)]; simp [h.1], hc, hr⟩
theorem rdP_sub {W : World} {B : Nat} {ad : Addr} {l : List Pc} (h : AtA W ad (pcs l)) (hB : ad.block < B) (k n : Nat) : RdP W B (some (ad.add (k * 5))) ((l.drop k).take n) := fun _ => ⟨_, rfl, by rw [add_block]; exact hB, by
  have h1 := h.drop (k * 5) (n * 5)
  rw [← pcs_drop, ← pcs_take] at h1
  exact h1⟩
def lenV : Value → Nat
  | .slice _ n _ => n
  | _ => 0
structure CutI (W1 : World) (gs : List (List Pc)) (xs : List Value) (wr : World) (ov : Value) : Prop where
  own : OwnG wr W1.heap.size ov xs
  bel : Below W1.heap.size W1 wr
  gv : GsV W1 xs gs
theorem CutI.next {W1 wr wr' : World} {gs : List (List Pc)} {xs : List Value} {ov : Value} (h : CutI W1 gs xs wr ov) (hb : Below wr.heap.size wr wr') : CutI W1 gs xs wr' ov :=
  ⟨h.own.next hb, h.bel.trans (hb.mono h.bel.size), h.gv⟩
set_option maxRecDepth 100000 in
set_option maxHeartbeats 16000000 in
theorem cut_c (A : Option Addr) (cap : Nat) (l : List Pc) (w : World) (hr : RdP w w.heap.size A l) (hc : l.length ≤ cap) (hl : l.length ≤ 1000) (hk : ∀ p ∈ l, PcOk p ∧ p.s.size ≤ 9223372036854775807) :
    Calls Tryz.prog 13 #[.slice A l.length cap] w fun e w' => ∃ v xs, e = .returned v ∧ OwnG w' w.heap.size v xs ∧ GsV w' xs (cutG (mergeL l)) ∧ Below w.heap.size w w' := by
  obtain ⟨i0, hib, hz0, hz1, hz2⟩ := info_parts grpInfo
  have hml := merge_len l
  have hks : ∀ p ∈ mergeL l, p.s.size ≤ 1000000 := fun p hp => by
    have h := ((mem_merge l p).1 hp).2.1
    unfold ckP at h
    simp only [Bool.and_eq_true, decide_eq_true_eq] at h
    omega
  have HKS := Lib.hid hks
  have HL0 := Lib.hid (show LsAt (w.alloc (.cells #[.slice A l.length cap] 30)) (some ⟨w.heap.size, 0, none⟩) [l] from
    lsAt_blk (vs := [.slice A l.length cap]) (Blk.new _ _ _) (fun i hi => match i, hi with
      | 0, _ => ⟨_, _, rfl, hc, (Rd.below (show Rd w w.heap.size A (pcs l) from hr) ((Below.refl _ _).alloc (Nat.le_refl _) _)).more (by simp)⟩))
  have mc : Calls Tryz.prog 25 #[.slice (some ⟨w.heap.size, 0, none⟩) 1 1] (w.alloc (.cells #[.slice A l.length cap] 30)) fun e w' => ∃ v, e = .returned v ∧ OwnP w' (w.alloc (.cells #[.slice A l.length cap] 30)).heap.size v (mergeL l) ∧ Below (w.alloc (.cells #[.slice A l.length cap] 30)).heap.size (w.alloc (.cells #[.slice A l.length cap] 30)) w' := by
    have h := merge_c (some ⟨w.heap.size, 0, none⟩) 1 [l] _ HL0.out (by simp) (by simp) (by intro L hL; simp at hL; subst hL; exact ⟨hl, hk⟩)
    rwa [show [l].flatten = l by simp] at h
  have HMC := Lib.hid mc
  have HBA := Lib.hid (show Below w.heap.size w (w.alloc (.cells #[.slice A l.length cap] 30)) from (Below.refl _ _).alloc (Nat.le_refl _) _)
  have hml2 : (mergeL l).length ≤ 1000 := by omega
  generalize mergeL l = M at *
  clear hr hk mc HL0 hks
  go_enter Tryz.func13, Tryz.ntmps13
  go_wp2_with fail
  go_step3
  go_upto_region 2 with (first
    | (refine wpList_l1 (.tmp 5) rfl A l.length cap rfl rfl ?_; generalize w.alloc (.cells #[.slice A l.length cap] 30) = W0 at *)
    | (go_at_call 25; (with_reducible refine HMC.out.mono ?_); rintro e W1 ⟨v, rfl, ho, hb⟩; obtain ⟨Am, cm, rfl, hcm, hcm2, hrm⟩ := ho.rd; have HB1 := Lib.hid (HBA.out.trans (hb.mono HBA.out.size)); have HRM := Lib.hid hrm; have HCM := Lib.hid hcm; have HCM2 := Lib.hid hcm2; clear ho hb hrm hcm hcm2))
  clear HMC HBA
  go_wp2_with fail
  go_step3
  go_wp2_with fail
  have HW1 := Lib.hid (show CutI W1 [] [] W1 (.slice none 0 0) from ⟨⟨rfl, .inl ⟨rfl, rfl⟩⟩, Below.refl _ _, ⟨rfl, fun i hi => by simp at hi⟩⟩)
  go_loopw [0, 3, 4] (fun lv ov _ wr => ∃ (gs : List (List Pc)) (xs : List Value) (R : List Pc) (A' : Option Addr) (c' : Nat), lv = .slice A' R.length c' ∧ R.length ≤ c' ∧ c' ≤ maxLen ∧ RdP W1 W1.heap.size A' R ∧ cutG M = gs ++ cutG R ∧ xs.length + R.length ≤ 1000 ∧ (∀ p ∈ R, p.s.size ≤ 1000000) ∧ CutI W1 gs xs wr ov) (fun lv _ _ _ => lenV lv)
  case atStart => exact ⟨[], [], M, Am, cm, rfl, HCM.out, HCM2.out, HRM.out, rfl, by simpa using hml2, HKS.out, HW1.out⟩
  case round =>
    rename World => wr
    rename_i ov _ _
    obtain ⟨gs, xs, R, A', c', rfl, hc1, hc2, hrd, hcg, hln, hks, hI⟩ := hrel
    have HCG := Lib.hid hcg
    have HI := Lib.hid hI
    have HKR := Lib.hid hks
    have HC1 := Lib.hid hc1
    have hcm : (c' : Int) ≤ 9223372036854775807 := by unfold maxLen at hc2; omega
    clear HW1 HRM HCM HCM2 HKS hcg hI hks
    by_cases h0 : 0 < R.length
    · have q0 : (0 : Int) < (R.length : Int) := by omega
      obtain ⟨ad, rfl, hab, hat⟩ := hrd.open_ h0
      have HAT := Lib.hid hat
      have HAB := Lib.hid hab
      have HPOS := Lib.hid (cutN_pos h0)
      have HC0 := Lib.hid (cutG_cons h0)
      have HR0 := Lib.hid h0
      clear hrd hat hab h0
      go_wp2_with fail
      have e0 : decide (0 < R.length) = true := decide_eq_true HR0.out
      rw [e0]
      clear e0
      go_loopw [0, 3, 4] (fun lv ov2 i wq => lv = .slice (some ad) R.length c' ∧ ∃ n : Nat, i = .int .i64 (n : Nat) ∧ 1 ≤ n ∧ n ≤ R.length ∧ cutN R = cutFrom R n ∧ CutI W1 gs xs wq ov2) (fun _ _ i _ => R.length - (intOf i).toNat)
      case atStart => exact ⟨rfl, 1, rfl, Nat.le_refl _, HR0.out, rfl, HI.out⟩
      case round =>
        rename World => wq
        rename_i ov2 _ _
        obtain ⟨rfl, n, rfl, hn1, hn2, hcf, hJ⟩ := hrel
        clear HI
        by_cases hlt : n < R.length
        · have r0 : (n : Int) < (R.length : Int) := by omega
          obtain ⟨N1, hN1⟩ : ∃ N1, N1 = n + 1 := ⟨_, rfl⟩
          have e1 : (n : Int) + 1 = (N1 : Int) := by omega
          have r1 : (0 : Int) ≤ (N1 : Int) := by omega
          have r2 : (N1 : Int) ≤ (R.length : Int) := by omega
          have r3 : (N1 : Int) ≤ (c' : Int) := by have := HC1.out; omega
          have r4 : decide ((N1 : Int) < 0) = false := decide_eq_false (by omega)
          have r5 : decide ((-1 : Int) < 0) = true := rfl
          have r6 : (n : Int) ≤ (c' : Int) := by omega
          have r7 : (n : Int) ≤ (R.length : Int) := by omega
          have r8 : (0 : Int) ≤ (n : Int) := by omega
          have r9 : decide ((n : Int) < 0) = false := decide_eq_false (by omega)
          have rA : ¬ c' = n := by have := HC1.out; omega
          have HN := Lib.hid hN1
          have hrl : (R.take (n + 1)).length = N1 := by rw [List.length_take]; omega
          have HRS := Lib.hid (show RdP wq wq.heap.size (some ad) (R.take (n + 1)) by
            have h := rdP_sub HAT.out HAB.out 0 (n + 1)
            rw [List.drop_zero, show ad.add (0 * 5) = ad by simp [Addr.add]] at h
            exact (Rd.below (show Rd W1 W1.heap.size (some ad) (pcs _) from h) hJ.bel).more hJ.bel.size)
          have hck := check_c (some ad) c' (R.take (n + 1)) wq HRS.out (by rw [hrl]; have := HC1.out; omega) (by rw [hrl]; omega) (fun p hp => HKR.out p (List.mem_of_mem_take hp))
          rw [hrl] at hck
          have HJ := Lib.hid hJ
          have HLT := Lib.hid hlt
          have HCF := Lib.hid hcf
          have HN1 := Lib.hid hn1
          have HLN := Lib.hid hln
          clear HRS hJ hlt hcf hrl hN1
          by_cases h0 : chkL (R.take (n + 1)) = 0
          · rw [h0] at hck
            have hck2 : Calls Tryz.prog 26 #[.slice (some ad) N1 c'] wq (fun e w' => e = .returned (.int .i64 0) ∧ Below wq.heap.size wq w') := hck
            have HCK := Lib.hid hck2
            have H0 := Lib.hid h0
            clear hck hck2 h0
            go_wp2_with (go_at_call 26; (with_reducible refine HCK.out.mono ?_); rintro e w3 ⟨rfl, hb⟩; have HB3 := Lib.hid hb; clear hb)
            go_roundw
            case rel => exact ⟨rfl, N1, by go_num, by have := HN.out; omega, by have := HN.out; have := HLT.out; omega, by rw [HCF.out, HN.out]; exact cutFrom_go HLT.out H0.out, HJ.out.next HB3.out⟩
            case measure => have := HLT.out; have := HN.out; simp [intOf]; omega
          · have key : ∀ kk : Int, kk = 1 ∨ kk = 3 → ((chkL (R.take (n + 1)) : Nat) : Int) = kk → ∃ kk : Int, (kk = 1 ∨ kk = 3) ∧ Calls Tryz.prog 26 #[.slice (some ad) N1 c'] wq (fun e w' => e = .returned (.int .i64 kk) ∧ Below wq.heap.size wq w') := fun kk h1 h2 => ⟨kk, h1, by rw [← h2]; exact hck⟩
            have hex : ∃ kk : Int, (kk = 1 ∨ kk = 3) ∧ Calls Tryz.prog 26 #[.slice (some ad) N1 c'] wq (fun e w' => e = .returned (.int .i64 kk) ∧ Below wq.heap.size wq w') := by
              rcases chk_vals (R.take (n + 1)) with h | h | h
              · exact absurd h h0
              · exact key 1 (.inl rfl) (by rw [h]; rfl)
              · exact key 3 (.inr rfl) (by rw [h]; rfl)
            obtain ⟨kk, hkk, hck2⟩ := hex
            have s1 : (kk != 0) = true := by rcases hkk with rfl | rfl <;> rfl
            have HCK := Lib.hid hck2
            have HCN := Lib.hid (show cutN R = n by rw [HCF.out]; exact cutFrom_here HLT.out h0)
            clear hck hck2 h0 key hkk
            go_wp2_with (first
              | (go_at_call 26; (with_reducible refine HCK.out.mono ?_); rintro e w3 ⟨rfl, hb⟩; have HJ3 := Lib.hid (HJ.out.next hb); clear hb)
              | (refine wpList_l1 (.tmp 27) rfl (some ad) n n rfl rfl ?_)
              | (at_builtin; refine wpList_app _ rfl (.tmp 23) (.tmp 28) _ rfl W1.heap.size 30 i0 (.slice none 0 0) 1 24 Tryz.underlying24 hib hz0 hz1 hz2 rfl (by decide) _ _ xs rfl (HJ3.out.own.alloc _) _ (some ⟨w3.heap.size, 0, none⟩) 1 1 [.slice (some ad) n n] rfl rfl (by exact rd_new w3 [.slice (some ad) n n] _ (0, 0)) (by intro u hu; rw [List.mem_singleton.1 hu]; rfl) (by have := HLN.out; omega) (by have := HLN.out; omega) (by have := HJ3.out.bel.size; simp; omega) ?_
                 intro v' w4 hap
                 have HAP := Lib.hid hap
                 clear hap))
            go_roundw
            case rel =>
              have hnl : n < R.length := HLT.out
              have hbel : Below W1.heap.size W1 w4 := (HJ3.out.bel.alloc HJ3.out.bel.size _).trans (HAP.out.below (HJ3.out.own.alloc _) (by have := HJ3.out.bel.size; simp; omega))
              have hg0 := rdP_sub HAT.out HAB.out 0 n
              rw [List.drop_zero, show ad.add (0 * 5) = ad by simp [Addr.add]] at hg0
              have htl : (R.take n).length = n := by rw [List.length_take]; omega
              have hgv := GsV.snoc (c := n) HJ3.out.gv (by rw [htl]; exact Nat.le_refl _) hg0
              rw [htl] at hgv
              have hd := rdP_sub HAT.out HAB.out n (R.length - n)
              rw [List.take_of_length_le (by rw [List.length_drop]; exact Nat.le_refl _)] at hd
              refine ⟨gs ++ [R.take n], xs ++ [.slice (some ad) n n], R.drop n, some (ad.add (n * 5)), c' - n, ?_, ?_, ?_, hd, ?_, ?_, fun p hp => HKR.out p (List.mem_of_mem_drop hp), ⟨OwnG.snoc HAP.out, hbel, hgv⟩⟩
              · rw [List.length_drop]
              · rw [List.length_drop]; have := HC1.out; omega
              · omega
              · rw [HCG.out, HC0.out, HCN.out, List.append_assoc]; rfl
              · rw [List.length_append, List.length_drop]; have := HLN.out; have := HN1.out; simp; omega
            case measure =>
              have := HLT.out
              have := HN1.out
              show R.length - n < R.length
              omega
        · have hne : n = R.length := by omega
          have r0 : ¬ (n : Int) < (R.length : Int) := by omega
          have HJ := Lib.hid hJ
          have HCN := Lib.hid (show cutN R = R.length by rw [hcf]; exact cutFrom_end hlt)
          have HLN := Lib.hid hln
          clear hJ hcf hlt
          go_wp2_with (first
            | (refine wpList_l1 (.tmp 34) rfl (some ad) R.length c' rfl rfl ?_)
            | (at_builtin; refine wpList_app _ rfl (.tmp 33) (.tmp 35) _ rfl W1.heap.size 30 i0 (.slice none 0 0) 1 24 Tryz.underlying24 hib hz0 hz1 hz2 rfl (by decide) _ _ xs rfl (HJ.out.own.alloc _) _ (some ⟨wq.heap.size, 0, none⟩) 1 1 [.slice (some ad) R.length c'] rfl rfl (by exact rd_new wq [.slice (some ad) R.length c'] _ (0, 0)) (by intro u hu; rw [List.mem_singleton.1 hu]; rfl) (by have := HLN.out; have := HR0.out; omega) (by have := HLN.out; have := HR0.out; omega) (by have := HJ.out.bel.size; simp; omega) ?_
               intro v' w4 hap
               have HAP := Lib.hid hap
               clear hap))
          try rw [Exit.noGoto_ret]
          go_ret
          have hbel : Below W1.heap.size W1 w4 := (HJ.out.bel.alloc HJ.out.bel.size _).trans (HAP.out.below (HJ.out.own.alloc _) (by have := HJ.out.bel.size; simp; omega))
          have hg0 := rdP_sub HAT.out HAB.out 0 R.length
          rw [List.drop_zero, show ad.add (0 * 5) = ad by simp [Addr.add], List.take_length] at hg0
          have hgv := GsV.snoc (c := c') HJ.out.gv HC1.out hg0
          refine ⟨v', xs ++ [.slice (some ad) R.length c'], rfl, own_base_le (OwnG.snoc HAP.out) HB1.out.size, ?_, HB1.out.trans (hbel.mono HB1.out.size)⟩
          rw [HCG.out, HC0.out, HCN.out, List.take_length, List.drop_length, cutG_nil (by simp)]
          exact hgv.next hbel
    · have q0 : ¬ (0 : Int) < (R.length : Int) := by omega
      have HE := Lib.hid (cutG_nil h0)
      clear h0 hrd
      go_wp2_with fail
      try rw [Exit.noGoto_ret]
      go_ret
      refine ⟨_, xs, rfl, own_base_le HI.out.own HB1.out.size, ?_, HB1.out.trans (HI.out.bel.mono HB1.out.size)⟩
      rw [HCG.out, HE.out, List.append_nil]
      exact HI.out.gv.next HI.out.bel
end Go.Proofs.YtlkcpbmbhbogoaaGreatDoor
/- Contract: piece.Between, of a span that holds all. -/
namespace Go.Proofs.YtlkcpbmbhbogoaaGreatDoor
set_option linter.unusedVariables false
set_option linter.unusedSimpArgs false
set_option maxRecDepth 100000
open Go.RowKit
set_option linter.unusedVariables false
set_option linter.unusedSimpArgs false
theorem OwnP.allocM {w : World} {base : Nat} {v : Value} {l : List Pc} (h : OwnP w base v l) (o : Obj) : OwnP (w.alloc o) base v l := World.ownsRow.alloc h o
theorem OwnP.nilM (w : World) (base : Nat) : OwnP w base (.slice none 0 0) [] := ⟨rfl, .inl ⟨rfl, rfl⟩⟩
theorem OwnP.appM {w w' : World} {base : Nat} {v v' : Value} {l m : List Pc} (h : Apped w base 58 5 v w' v' (l.length + m.length) (pcs l ++ pcs m)) : OwnP w' base v' (l ++ m) := by
  have h1 := h.own
  unfold OwnP
  rw [List.length_append, pcs_app]
  exact h1
end Go.Proofs.YtlkcpbmbhbogoaaGreatDoor
/- Contract: the example of layer 17; what block.Cut hands back. -/
namespace Go.Proofs.YtlkcpbmbhbogoaaGreatDoor
set_option linter.unusedVariables false
set_option linter.unusedSimpArgs false
set_option maxRecDepth 100000
open Go.RowKit
set_option linter.unusedVariables false
set_option linter.unusedSimpArgs false
theorem cutS_c (A : Option Addr) (cap : Nat) (l : List Pc) (w : World) (hr : RdP w w.heap.size A l) (hc : l.length ≤ cap) (hl : l.length ≤ 1000) (hk : ∀ p ∈ l, PcOk p ∧ p.s.size ≤ 9223372036854775807) :
    Calls Tryz.prog 13 #[.slice A l.length cap] w fun e w' => ∃ B c, e = .returned (.slice B (cutG (mergeL l)).length c) ∧ (cutG (mergeL l)).length ≤ c ∧ c ≤ maxLen ∧ LsAt w' B (cutG (mergeL l)) ∧ Below w.heap.size w w' := by
  refine (cut_c A cap l w hr hc hl hk).mono ?_
  rintro e w' ⟨v, xs, rfl, ho, hg, hb⟩
  obtain ⟨B, c, rfl, h1, h2, h3⟩ := gv_rd ho
  refine ⟨B, c, by rw [hg.1], by rw [← hg.1]; exact h1, h2, fun i hi => ?_, hb⟩
  obtain ⟨Ai, ci, q1, q2, q3⟩ := hg.2 i hi
  obtain ⟨ad, e1, e2, e3⟩ := h3 (by intro h0; rw [h0] at q1; simp at q1)
  exact ⟨ad, Ai, ci, e1, e2, e3 i _ q1, q2, q3⟩
theorem cutAw_c (A : Option Addr) (cap : Nat) (w : World) (hr : RdP w w.heap.size A (awL 0 300)) (hc : 300 ≤ cap) :
    Calls Tryz.prog 13 #[.slice A 300 cap] w fun e w' => ∃ ad c A0 c0 A1 c1 A2 c2, e = .returned (.slice (some ad) 3 c) ∧ w'.cell? ad = some (.slice A0 127 c0) ∧ w'.cell? ⟨ad.block, ad.off + 1, none⟩ = some (.slice A1 127 c1) ∧ w'.cell? ⟨ad.block, ad.off + 2, none⟩ = some (.slice A2 46 c2) ∧ Below w.heap.size w w' := by
  have h := cutS_c A cap (awL 0 300) w hr (by rw [awL_len]; exact hc) (by rw [awL_len]; decide) (fun p hp => aw_okP hp (by decide))
  rw [awL_len, aw_merge300] at h
  refine h.mono ?_
  rintro e w' ⟨B, c, rfl, h1, h2, h3, hb⟩
  obtain ⟨ad, A0, c0, rfl, g0, k0, _⟩ := h3 0 (by decide)
  obtain ⟨ad1, A1, c1, e1, g1, k1, _⟩ := h3 1 (by decide)
  obtain ⟨ad2, A2, c2, e2, g2, k2, _⟩ := h3 2 (by decide)
  cases e1
  cases e2
  simp only [List.getD_cons_zero, List.getD_cons_succ, awL_len] at k0 k1 k2
  rw [show ad.add 0 = ad by simp [Addr.add]] at k0
  exact ⟨ad, c, A0, c0, A1, c1, A2, c2, rfl, k0, k1, k2, hb⟩
set_option maxRecDepth 100000 in
set_option maxHeartbeats 8000000 in
theorem awake17_c (w : World) : Calls Tryz.prog 5 #[] w (Yes w) := by
  obtain ⟨i0, hi, hz0, hz1, hz2⟩ := piece_parts
  go_enter Tryz.func5, Tryz.ntmps5
  go_wp2_with fail
  go_loopw [1, 2] (fun lv iv wr => ∃ k : Nat, k ≤ 300 ∧ iv = .int .i64 (k : Nat) ∧ OwnP wr w.heap.size lv (awL 0 k) ∧ Below w.heap.size w wr) (fun _ iv _ => 300 - (intOf iv).toNat)
  case atStart => exact ⟨0, by omega, rfl, OwnP.nilM _ _, Below.refl _ _⟩
  case round =>
    rename World => wr
    obtain ⟨k, hk, rfl, ho, hb⟩ := hrel
    by_cases hlt : k < 300
    · have q1 : (k : Int) < 300 := by omega
      have HO := Lib.hid ho
      have HB := Lib.hid hb
      have HK := Lib.hid hlt
      have HLN := Lib.hid (awL_len 0 k)
      have HSN := Lib.hid (awL_snoc k)
      clear ho hb hk hlt
      generalize awL 0 k = L at *
      go_wp2_with (first
        | (refine wpList_valM rfl _ _ (run_onePc wr (awP k) (.tmp 10) rfl (by rfl)) ?_)
        | (at_builtin; refine wpList_app _ rfl (.tmp 8) (.tmp 11) _ rfl w.heap.size 58 i0 (.agg zPc) 5 48 Tryz.underlying30 hi hz0 hz1 hz2 rfl (by decide) _ L.length (pcs L) rfl (HO.out.allocM _) _ (some ⟨wr.heap.size, 0, none⟩) 1 1 (pcs [awP k]) rfl rfl (by exact rd_new wr (pcs [awP k]) 58 (0, 0)) (pcs_oneCell _) (by rw [HLN.out]; have := HK.out; omega) (by rw [HLN.out]; have := HK.out; omega) (by have := HB.out.size; simp; omega) ?_
           intro v2 W2 hap
           have HB2 := Lib.hid ((HB.out.alloc HB.out.size _).trans (hap.below (HO.out.allocM _) (by have := HB.out.size; simp; omega)))
           have HV2 := Lib.hid (OwnP.appM (l := L) (m := [awP k]) hap)
           clear hap))
      go_roundw
      case rel => exact ⟨k + 1, HK.out, by go_num, by rw [HSN.out]; exact HV2.out, HB2.out⟩
      case measure => have := HK.out; simp [intOf]; omega
    · obtain rfl : k = 300 := by omega
      obtain ⟨A, c, e1, h1, h2, h3⟩ := ho.rd
      rw [awL_len] at e1 h1
      subst e1
      have HC := Lib.hid (cutAw_c A c wr h3 h1)
      have HB := Lib.hid hb
      clear ho hb h1 h2 h3 hk hlt
      go_upto_region 7 with (go_at_call 13; (with_reducible refine HC.out.mono ?_); rintro e W1 ⟨ad, cc, A0, c0, A1, c1, A2, c2, rfl, k0, k1, k2, hb1⟩; have HB1 := Lib.hid (HB.out.trans (hb1.mono HB.out.size)); clear hb1)
      go_wp2_with fail
      go_ret
      exact ⟨rfl, HB1.out⟩
end Go.Proofs.YtlkcpbmbhbogoaaGreatDoor
/- Rows whose elements point to other memory of the call's own, while they grow. -/
namespace Go.Proofs.YtlkcpbmbhbogoaaGreatDoor
set_option linter.unusedVariables false
set_option linter.unusedSimpArgs false
set_option maxRecDepth 100000
open Go.RowKit
set_option linter.unusedVariables false
set_option linter.unusedSimpArgs false
theorem run_zero (w : World) {o : Oper} {ρ : Operand → Value} (ho : o.op = .buildSlice 30 0 #[]) :
    (execOp ρ o).run Tryz.prog w = .ok (.value (.slice (some ⟨w.heap.size, 0, none⟩) 0 0)) (w.alloc (.cells #[] 58)) := by
  obtain ⟨i, hi, hz, hs, _⟩ := piece_parts
  unfold execOp
  simp [ho, Instr.buildSlice, run_underlying Tryz.underlying30, sizeOf, typeInfo, hi, Instr.fill, newRow]
  rw [show (Array.range 0).map (fun _ : Nat => (default : Value)) = #[] from Array.eq_empty_of_size_eq_zero (by simp)]
theorem op_appP {o : Oper} {a : Act} {w w' : World} {t : TypeId} {s x : Operand} {v u r : Value} (ho : o.op = .call { callee := .builtin .append, args := #[s, x], argTypes := #[t, t] }) (hs : a.eval s = v) (hx : a.eval x = u) (hrun : (Builtin.append_ #[t, t] o.type #[v, u]).run Tryz.prog w = .ok r w') : (execOp a.eval o).run Tryz.prog w = .ok (.value r) w' := by
  unfold execOp
  simp only [ho, resolve, invoke, builtin, Sem.run_bind, Sem.run_pure, Result.andThen_ok, List.map_toArray, List.map_cons, List.map_nil, hs, hx, hrun]
theorem quiet_loadA {P : Program} {C : World → Prop} {a : Act} {o : Oper} {K : Act → Prop} (ty : TypeId) (x : Operand) (ho : o.op = .load ty x) (b : Addr) (hx : a.eval x = .pointer (some b))
    (l : List Value) (d : TypeDesc) (hC : ∀ w, C w → AtA w b l) (hu : P.underlying ty = some d) (hd : d.isRow = true) (hi : (P.info? ty).map (·.size) = some l.length)
    (a' : Act) (ha : a.put o.dst (.agg l.toArray) = a') (h : K a') : o.quiet P a C K :=
  ⟨.agg l.toArray, fun w hw' => by
    unfold Oper.quietAt execOp
    simp only [ho, hx, Instr.loadAt, Instr.sureAddr, Sem.run_bind, Sem.run_pure, Result.andThen_ok, run_loadVar_at w b ty l d (hC w hw') hu hd hi]
    exact ⟨rfl, rfl⟩, by rw [ha]; exact h⟩
theorem rd_grown {w w' : World} {b g : Nat} {xs : List Value} (h : Rd w (b + 1) (some ⟨b, 0, none⟩) xs) (hg : w.grownBy w' (some g)) (hb : b < w.heap.size) (hn : b ≠ g) : Rd w' (b + 1) (some ⟨b, 0, none⟩) xs := fun hne => by
  obtain ⟨ad, e, h1, h2⟩ := h hne
  cases e
  refine ⟨_, rfl, h1, fun j u hu => ?_⟩
  rw [← h2 j u hu]
  have h3 : w'.heap[b]? = w.heap[b]? := hg.block b hb (fun e => by injection e with e; exact hn e)
  unfold World.cell?
  rw [add_block]
  rw [h3]
theorem own_zero (w : World) (base : Nat) (h : base ≤ w.heap.size) : OwnP (w.alloc (.cells #[] 58)) base (.slice (some ⟨w.heap.size, 0, none⟩) 0 0) [] :=
  ⟨rfl, .inr ⟨w.heap.size, 0, #[], rfl, h, Blk.new w _ _, Nat.le_refl _, by decide, rfl, rfl⟩⟩
/-- what lies there isn't the growing row's block -/
def Apart (ov : Value) (A : Option Addr) (xs : List Value) : Prop := ∀ ad, A = some ad → xs ≠ [] → some ad.block ≠ ov.ownBlock
theorem Rd.appended {W W' : World} {ov ov' : Value} {A : Option Addr} {xs : List Value} (h : Rd W W.heap.size A xs) (ha : Apart ov A xs) (hg : W.grownBy W' ov.ownBlock) (hl : ov'.ownBlock = ov.ownBlock ∨ ov'.ownBlock = some W.heap.size) : Rd W' W'.heap.size A xs ∧ Apart ov' A xs := by
  refine ⟨fun hne => ?_, fun ad e hne => ?_⟩
  · obtain ⟨ad, e, hb, hat⟩ := h hne
    refine ⟨ad, e, Nat.lt_of_lt_of_le hb hg.size, fun j u hu => ?_⟩
    rw [← hat j u hu]
    exact World.cell?_of_block (hg.block _ (by rw [add_block]; exact hb) (by rw [add_block]; exact ha ad e hne))
  · rcases hl with h1 | h1
    · rw [h1]; exact ha ad e hne
    · rw [h1]
      obtain ⟨ad', e', hb, _⟩ := h hne
      rw [e] at e'
      injection e' with e'
      subst e'
      intro h2
      injection h2 with h2
      omega
/-- what is of the call's own and newer is apart -/
theorem apart_new {W W' : World} {base b : Nat} {e e2 : TypeId} {sz n sz2 n2 : Nat} {ov v : Value} {xs ys : List Value} (ho : W.ownsRow base e sz ov n xs) (hv : W'.ownsRow b e2 sz2 v n2 ys) (hb : W.heap.size ≤ b) {A : Option Addr} {m c : Nat} (hA : v = .slice A m c) : Apart ov A ys := fun ad ea hne h => by
  have h1 := own_lt ho ad.block h.symm
  rcases hv.2 with ⟨e3, h0⟩ | ⟨g, cap, cur, e3, hg, _⟩
  · rw [hA] at e3
    injection e3 with e3 _ _
    rw [ea] at e3
    cases e3
  · rw [hA] at e3
    injection e3 with e3 _ _
    rw [ea] at e3
    injection e3 with e3
    subst e3
    simp only at h1
    omega
structure GsO (W : World) (ov : Value) (xs : List Value) (gs : List (List Pc)) : Prop where
  len : xs.length = gs.length
  at_ : ∀ i, i < gs.length → ∃ Ai ci, xs[i]? = some (.slice Ai (gs.getD i []).length ci) ∧ (gs.getD i []).length ≤ ci ∧ RdP W W.heap.size Ai (gs.getD i []) ∧ Apart ov Ai (pcs (gs.getD i []))
theorem GsO.nil_ (W : World) (ov : Value) : GsO W ov [] [] := ⟨rfl, fun i hi => by simp at hi⟩
theorem GsO.gv {W : World} {ov : Value} {xs : List Value} {gs : List (List Pc)} (h : GsO W ov xs gs) : GsV W xs gs := ⟨h.len, fun i hi => by
  obtain ⟨Ai, ci, h1, h2, h3, _⟩ := h.at_ i hi
  exact ⟨Ai, ci, h1, h2, h3⟩⟩
theorem GsO.next {W W' : World} {ov : Value} {xs : List Value} {gs : List (List Pc)} (h : GsO W ov xs gs) (hb : Below W.heap.size W W') : GsO W' ov xs gs := ⟨h.len, fun i hi => by
  obtain ⟨Ai, ci, h1, h2, h3, h4⟩ := h.at_ i hi
  exact ⟨Ai, ci, h1, h2, (Rd.below (show Rd W W.heap.size Ai (pcs _) from h3) hb).more hb.size, h4⟩⟩
theorem GsO.snoc {W W' : World} {ov ov' : Value} {xs : List Value} {gs : List (List Pc)} {A : Option Addr} {c : Nat} {g : List Pc} (h : GsO W ov xs gs) (hc : g.length ≤ c) (hr : RdP W W.heap.size A g) (ha : Apart ov A (pcs g)) (hg : W.grownBy W' ov.ownBlock) (hl : ov'.ownBlock = ov.ownBlock ∨ ov'.ownBlock = some W.heap.size) : GsO W' ov' (xs ++ [.slice A g.length c]) (gs ++ [g]) := by
  refine ⟨by simp [h.len], fun i hi => ?_⟩
  by_cases hlt : i < gs.length
  · obtain ⟨Ai, ci, h1, h2, h3, h4⟩ := h.at_ i hlt
    have e : (gs ++ [g]).getD i [] = gs.getD i [] := by rw [List.getD_eq_getElem?_getD, List.getElem?_append_left hlt, List.getD_eq_getElem?_getD]
    rw [e]
    obtain ⟨h5, h6⟩ := Rd.appended h3 h4 hg hl
    exact ⟨Ai, ci, by rw [List.getElem?_append_left (by rw [h.len]; exact hlt)]; exact h1, h2, h5, h6⟩
  · have hi' : i = gs.length := by simp at hi; omega
    subst hi'
    have e : (gs ++ [g]).getD gs.length [] = g := by rw [List.getD_eq_getElem?_getD, List.getElem?_append_right (Nat.le_refl _)]; simp
    rw [e]
    obtain ⟨h5, h6⟩ := Rd.appended hr ha hg hl
    exact ⟨A, c, by rw [List.getElem?_append_right (by rw [h.len]; exact Nat.le_refl _)]; simp [h.len], hc, h5, h6⟩
theorem ls_of {W : World} {base : Nat} {v : Value} {xs : List Value} {gs : List (List Pc)} (ho : OwnG W base v xs) (hg : GsV W xs gs) : ∃ B c, v = .slice B gs.length c ∧ gs.length ≤ c ∧ LsAt W B gs := by
  obtain ⟨B, c, rfl, h1, h2, h3⟩ := gv_rd ho
  refine ⟨B, c, by rw [hg.1], by rw [← hg.1]; exact h1, fun i hi => ?_⟩
  obtain ⟨Ai, ci, q1, q2, q3⟩ := hg.2 i hi
  obtain ⟨ad, e1, e2, e3⟩ := h3 (by intro h0; rw [h0] at q1; simp at q1)
  exact ⟨ad, Ai, ci, e1, e2, e3 i _ q1, q2, q3⟩
/-- boxes whose bodies lie apart from the growing row -/
structure BsO (W : World) (ov : Value) (us : List (List Value)) (bs : List Bxo) : Prop where
  len : us.length = bs.length
  at_ : ∀ i, i < bs.length → ∃ A c, us.getD i [] = bxL (bs.getD i bo0).t (bs.getD i bo0).ep (bs.getD i bo0).nn A (bs.getD i bo0).body.length c ∧ (bs.getD i bo0).body.length ≤ c ∧ Rd W W.heap.size A (byt (bs.getD i bo0).body) ∧ Apart ov A (byt (bs.getD i bo0).body)
  ok : ∀ b ∈ bs, BoOk b
theorem BsO.nil_ (W : World) (ov : Value) : BsO W ov [] [] := ⟨rfl, fun i hi => by simp at hi, fun b hb => by cases hb⟩
theorem BsO.bv {W : World} {ov : Value} {us : List (List Value)} {bs : List Bxo} (h : BsO W ov us bs) : BsV W us bs := ⟨h.len, fun i hi => by
  obtain ⟨A, c, h1, h2, h3, _⟩ := h.at_ i hi
  exact ⟨A, c, h1, h2, h3⟩, h.ok⟩
theorem BsO.next {W W' : World} {ov : Value} {us : List (List Value)} {bs : List Bxo} (h : BsO W ov us bs) (hb : Below W.heap.size W W') : BsO W' ov us bs := ⟨h.len, fun i hi => by
  obtain ⟨A, c, h1, h2, h3, h4⟩ := h.at_ i hi
  exact ⟨A, c, h1, h2, (h3.below hb).more hb.size, h4⟩, h.ok⟩
theorem BsO.snoc {W W' : World} {ov ov' : Value} {us : List (List Value)} {bs : List Bxo} {b : Bxo} {A : Option Addr} {c : Nat} (h : BsO W ov us bs) (hc : b.body.length ≤ c) (hr : Rd W W.heap.size A (byt b.body)) (ha : Apart ov A (byt b.body)) (hok : BoOk b) (hg : W.grownBy W' ov.ownBlock) (hl : ov'.ownBlock = ov.ownBlock ∨ ov'.ownBlock = some W.heap.size) : BsO W' ov' (us ++ [bxL b.t b.ep b.nn A b.body.length c]) (bs ++ [b]) := by
  refine ⟨by simp [h.len], fun i hi => ?_, fun x hx => ?_⟩
  · by_cases hlt : i < bs.length
    · obtain ⟨Ai, ci, h1, h2, h3, h4⟩ := h.at_ i hlt
      have e : (bs ++ [b]).getD i bo0 = bs.getD i bo0 := by rw [List.getD_eq_getElem?_getD, List.getElem?_append_left hlt, List.getD_eq_getElem?_getD]
      have e1 : (us ++ [bxL b.t b.ep b.nn A b.body.length c]).getD i [] = us.getD i [] := by rw [List.getD_eq_getElem?_getD, List.getElem?_append_left (by rw [h.len]; exact hlt), List.getD_eq_getElem?_getD]
      rw [e, e1]
      obtain ⟨h5, h6⟩ := Rd.appended h3 h4 hg hl
      exact ⟨Ai, ci, h1, h2, h5, h6⟩
    · have hi' : i = bs.length := by simp at hi; omega
      subst hi'
      have e : (bs ++ [b]).getD bs.length bo0 = b := by rw [List.getD_eq_getElem?_getD, List.getElem?_append_right (Nat.le_refl _)]; simp
      have e1 : (us ++ [bxL b.t b.ep b.nn A b.body.length c]).getD bs.length [] = bxL b.t b.ep b.nn A b.body.length c := by rw [← h.len, List.getD_eq_getElem?_getD, List.getElem?_append_right (Nat.le_refl _)]; simp
      rw [e, e1]
      obtain ⟨h5, h6⟩ := Rd.appended hr ha hg hl
      exact ⟨A, c, rfl, hc, h5, h6⟩
  · rcases List.mem_append.1 hx with h1 | h1
    · exact h.ok x h1
    · rw [List.mem_singleton.1 h1]; exact hok
end Go.Proofs.YtlkcpbmbhbogoaaGreatDoor
/- Contracts: a key is wrapped, unwrapped. -/
namespace Go.Proofs.YtlkcpbmbhbogoaaGreatDoor
set_option linter.unusedVariables false
set_option linter.unusedSimpArgs false
open Go.RowKit
set_option linter.unusedVariables false
set_option linter.unusedSimpArgs false
/-- the boxes of wrapping -/
structure Wbx (w W : World) (k nn key : List Nat) : Prop where
  kb : Kbx w W k nn
  r : Blk W (w.heap.size + 1 + 1) 23 (vb key)
theorem Wbx.next {w W W' : World} {k nn key : List Nat} (s : Wbx w W k nn key) (hb : Below W.heap.size W W') : Wbx w W' k nn key := ⟨s.kb.next (hb.mono s.kb.sz), s.r.below hb s.r.lt⟩
theorem Wbx.begin (w : World) (k nn key : List Nat) : Wbx w (((w.alloc (Obj.cells (vb k) 23)).alloc (Obj.cells (vb nn) 37)).alloc (Obj.cells (vb key) 23)) k nn key := by
  have h1 := Kbx.begin w k nn
  have h2 : Below ((w.alloc (Obj.cells (vb k) 23)).alloc (Obj.cells (vb nn) 37)).heap.size ((w.alloc (Obj.cells (vb k) 23)).alloc (Obj.cells (vb nn) 37)) (((w.alloc (Obj.cells (vb k) 23)).alloc (Obj.cells (vb nn) 37)).alloc (Obj.cells (vb key) 23)) := (Below.refl _ _).alloc (Nat.le_refl _) _
  refine ⟨h1.next (h2.mono h1.sz), ?_⟩
  have h3 := Blk.new ((w.alloc (Obj.cells (vb k) 23)).alloc (Obj.cells (vb nn) 37)) 23 (vb key)
  simpa using h3
theorem Wbx.rd {w W : World} {k nn key : List Nat} (s : Wbx w W k nn key) : Rd W W.heap.size (some ⟨w.heap.size + 1 + 1, 0, none⟩) (byt key) := Rd.ups (rd_blk s.r (byt key) key.length (by show byt key = (byt key).take key.length; rw [List.take_of_length_le (by rw [byt_len]; exact Nat.le_refl _)])) s.r.lt
def wrapL (k nn : List Nat) (t : ByteArray) (ep : Nat) (key : List Nat) : List Nat := sealL k nn (besideL 75 t ep) key
def z32 : List Nat := List.replicate 32 0
theorem zero_keyX (w : World) : (zeroValue 23).run Tryz.prog w = .ok (.agg (vb z32)) w := by kernel_rfl
/-- the error of unwrapping -/
def unE (k nn : List Nat) (t : ByteArray) (ep : Nat) (b : List Nat) : Nat := if b.length = 48 then openErr k nn (besideL 75 t ep) b else 4
def unL (k nn : List Nat) (t : ByteArray) (ep : Nat) (b : List Nat) : List Nat := if unE k nn t ep b = 0 then openL k nn (besideL 75 t ep) b else z32
def UnR (k nn : List Nat) (t : ByteArray) (ep : Nat) (b : List Nat) (w : World) (e : Ending) (w' : World) : Prop := e = .returned (.tuple #[.agg (vb (unL k nn t ep b)), .int .i64 (unE k nn t ep b : Nat)]) ∧ Below w.heap.size w w'
end Go.Proofs.YtlkcpbmbhbogoaaGreatDoor
/- Contract: block.Open. -/
namespace Go.Proofs.YtlkcpbmbhbogoaaGreatDoor
set_option linter.unusedVariables false
set_option linter.unusedSimpArgs false
set_option maxRecDepth 100000
open Go.RowKit
set_option linter.unusedVariables false
set_option linter.unusedSimpArgs false
def kmV (kf : Nat → Option (List Nat)) : Nat → Option (Array Value) := fun e => (kf e).map vb
theorem keysMapU : Tryz.prog.underlying 28 = some (.map 27 23) := Tryz.underlying28
theorem look_none {W : World} {kb n : Nat} {kf : Nat → Option (List Nat)} (h : KeysAt W kb n (kmV kf)) {e : Nat} (he : e < 4294967296) (hk : kf e = none) : (Instr.lookup 28 (.map (some kb)) (.int .u32 (e : Int)) true).run Tryz.prog W = .ok (.tuple #[.agg (vb z32), .bool false]) W := by
  have h1 := h.look keysMapU (zero_keyX W) he
  rw [show kmV kf e = none by unfold kmV; rw [hk]; rfl] at h1
  exact h1
theorem look_some {W : World} {kb n : Nat} {kf : Nat → Option (List Nat)} (h : KeysAt W kb n (kmV kf)) {e : Nat} (he : e < 4294967296) {k : List Nat} (hk : kf e = some k) : (Instr.lookup 28 (.map (some kb)) (.int .u32 (e : Int)) true).run Tryz.prog W = .ok (.tuple #[.agg (vb k), .bool true]) W := by
  have h1 := h.look keysMapU (zero_keyX W) he
  rw [show kmV kf e = some (vb k) by unfold kmV; rw [hk]; rfl] at h1
  exact h1
/-- what block.Open hands back -/
def OpenD (kf : Nat → Option (List Nat)) (bs : List Bxo) (w : World) (e : Ending) (w' : World) : Prop :=
  (((∃ b ∈ bs, kf b.ep = none) ∧ e = .returned (.tuple #[.slice none 0 0, .int .i64 11])) ∨ ((∀ b ∈ bs, kf b.ep ≠ none) ∧ ∃ v, e = .returned (.tuple #[v, .int .i64 0]) ∧ OwnP w' w.heap.size v (mergeL (bs.map (opB kf)).flatten))) ∧ Below w.heap.size w w'
structure OpnI (w : World) (ls : List (List Pc)) (xs : List Value) (wr : World) (ov : Value) : Prop where
  own : OwnG wr w.heap.size ov xs
  bel : Below w.heap.size w wr
  gv : GsO wr ov xs ls
theorem OpnI.next {w wr wr' : World} {ls : List (List Pc)} {xs : List Value} {ov : Value} (h : OpnI w ls xs wr ov) (hb : Below wr.heap.size wr wr') : OpnI w ls xs wr' ov :=
  ⟨h.own.next hb, h.bel.trans (hb.mono h.bel.size), h.gv.next hb⟩
theorem vb_all (l : List Nat) : (vb l).all (·.oneCell') = true := by
  unfold vb
  rw [List.all_toArray, List.all_eq_true]
  exact fun u hu => byt_one l u hu
set_option maxRecDepth 100000 in
set_option maxHeartbeats 16000000 in
theorem bopen_c (A : Option Addr) (cap : Nat) (bs : List Bxo) (kb n : Nat) (kf : Nat → Option (List Nat)) (w : World) (hr : RdX w A bs) (hl : bs.length ≤ 1000) (hkm : KeysAt w kb n (kmV kf)) (hok : ∀ b ∈ bs, OpOk kf b) (hq : QuartersAt w) :
    Calls Tryz.prog 10 #[.map (some kb), .slice A bs.length cap] w (OpenD kf bs w) := by
  obtain ⟨i0, hib, hz0, hz1, hz2⟩ := info_parts grpInfo
  have zf := zero_bx
  have zs1 : zBx.size = 15 := by rfl
  have zs2 : ¬ zBx = #[] := by intro h; have := congrArg Array.size h; rw [zs1] at this; cases this
  have zf2 := zero_keyX
  have zs3 : (vb z32).size = 32 := by rfl
  have zs4 : ¬ vb z32 = #[] := by intro h; have := congrArg Array.size h; rw [zs3] at this; cases this
  have HR := Lib.hid hr
  have HL := Lib.hid hl
  have HKM := Lib.hid hkm
  have HOK := Lib.hid hok
  have HQ := Lib.hid hq
  have HZK := Lib.hid (keySz (L := z32) rfl)
  clear hr hl hkm hok hq
  go_enter Tryz.func10, Tryz.ntmps10
  go_wp2_with fail
  go_loopw [6, 15] (fun av iv wr => ∃ k : Nat, k ≤ bs.length ∧ iv = .int .i64 (k : Nat) ∧ (∃ xs, OpnI w ((bs.take k).map (opB kf)) xs wr av) ∧ ∀ b ∈ bs.take k, kf b.ep ≠ none) (fun _ iv _ => bs.length - (intOf iv).toNat)
  case atStart => exact ⟨0, by omega, rfl, ⟨[], ⟨rfl, .inl ⟨rfl, rfl⟩⟩, Below.refl _ _, GsO.nil_ _ _⟩, fun b hb => by simp at hb⟩
  case round =>
    rename World => wr
    rename_i av _
    obtain ⟨k, hk, rfl, ⟨xs, hI⟩, hall⟩ := hrel
    by_cases hlt : k < bs.length
    · have q1 : (k : Int) < (bs.length : Int) := by omega
      obtain ⟨ad, Ai, ci, rfl, hab, hat, hci, hrb, hbo⟩ := (HR.out.next hI.bel).box hlt
      obtain ⟨b, hbe⟩ : ∃ b, b = bs.getD k bo0 := ⟨_, rfl⟩
      rw [← hbe] at hat hci hrb hbo
      have hbm : b ∈ bs := by rw [hbe, List.getD_eq_getElem?_getD, List.getElem?_eq_getElem hlt]; exact List.getElem_mem hlt
      have hop := HOK.out b hbm
      have htk0 : bs.take (k + 1) = bs.take k ++ [b] := by
        rw [List.take_add_one, List.getElem?_eq_getElem hlt, hbe, List.getD_eq_getElem?_getD, List.getElem?_eq_getElem hlt]
        rfl
      have htk : (bs.take (k + 1)).map (opB kf) = (bs.take k).map (opB kf) ++ [opB kf b] := by rw [htk0, List.map_append]; rfl
      have hxl : xs.length ≤ 1000 := by
        rw [hI.gv.len, List.length_map, List.length_take]
        have := HL.out
        omega
      have m2 : (k : Int) ≤ 1000 := by have := HL.out; omega
      have HI := Lib.hid hI
      have HALL := Lib.hid hall
      have HTK0 := Lib.hid htk0
      have HTK := Lib.hid htk
      have HXL := Lib.hid hxl
      have HLT := Lib.hid hlt
      have HBM := Lib.hid hbm
      have HOP := Lib.hid hop
      obtain ⟨bt, be, bn, bd⟩ := b
      have HBO := Lib.hid hbo
      have HLN := Lib.hid (bxLn bt be (nn := bn) Ai bd.length ci hbo.nl)
      have HSZ := Lib.hid (bxSz bt be (nn := bn) Ai bd.length ci hbo.nl)
      have HZS := Lib.hid (show zBx.size = (bxV bt be bn Ai bd.length ci).size by rw [zBx_size]; unfold bxV; rw [List.size_toArray, bxL_len bt be Ai bd.length ci hbo.nl])
      have HAT := Lib.hid hat
      have HCI := Lib.hid hci
      have HRB := Lib.hid hrb
      have HEP := Lib.hid hbo.ep
      clear hI hall hlt hk hbm hop htk0 htk hxl hbo hat hci hrb hab hbe
      simp only at HAT HCI HRB HEP
      go_upto_region 5 with (first
        | (refine wpList_loadA rfl 39 (.tmp 17) rfl (ad.add (k * 15)) rfl (bxL bt be bn Ai bd.length ci) _ HAT.out Tryz.underlying39 rfl HLN.out ?_)
        | (refine wpList_store_rowTo rfl 39 (.tmp 8) (.tmp 18) rfl rfl wr.heap.size (bxV bt be bn Ai bd.length ci) rfl rfl 39 zBx (by exact heap_alloc_new _ _) HSZ.out HZS.out (bx_all _ _ _ _ _ _) ?_))
      obtain ⟨Y, hY⟩ : ∃ Y, Y = (wr.alloc (Obj.cells zBx 39)).setRow wr.heap.size (bxV bt be bn Ai bd.length ci) := ⟨_, rfl⟩
      have hnr := new_rowP wr 39 zBx (bxV bt be bn Ai bd.length ci)
      rw [← hY] at hnr ⊢
      have c1 : Y.cell? ⟨wr.heap.size, 1, none⟩ = some (.int .u32 (be : Int)) := (hnr.1.cell 1).trans rfl
      have HX1 := Lib.hid hnr.1
      have HI1 := Lib.hid (HI.out.next hnr.2)
      have HR1 := Lib.hid ((Rd.below HRB.out hnr.2).more hnr.2.size)
      clear hnr hY HI HRB HAT HLN HZS
      generalize wr.heap.size = g1 at *
      have hkm := HKM.out.next HI1.out.bel
      cases hkf : kf be with
      | none =>
        have hrun := look_none hkm HEP.out hkf
        have HN := Lib.hid hkf
        clear hkm hkf
        go_upto_region 6 with (refine wpList_store_rowTo rfl 23 (.tmp 9) (.tmp 24) rfl rfl Y.heap.size (vb z32) rfl rfl 23 (vb z32) (by exact heap_alloc_new _ _) HZK.out rfl (vb_all _) ?_)
        obtain ⟨Y2, hY2⟩ : ∃ Y2, Y2 = (Y.alloc (Obj.cells (vb z32) 23)).setRow Y.heap.size (vb z32) := ⟨_, rfl⟩
        have hnr := new_rowP Y 23 (vb z32) (vb z32)
        rw [← hY2] at hnr ⊢
        have HI2 := Lib.hid (HI1.out.next hnr.2)
        clear hnr hY2 HI1 HX1 HR1 c1 hrun
        generalize Y.heap.size = g2 at *
        go_wp2_with fail
        try rw [Exit.noGoto_ret]
        refine bodyPost_ret (results_tmp2 rfl _ _ _) rfl ?_
        exact ⟨.inl ⟨⟨_, HBM.out, HN.out⟩, rfl⟩, HI2.out.bel⟩
      | some kk =>
        have hrun := look_some hkm HEP.out hkf
        obtain ⟨hk1, hk2, hk3⟩ := HOP.out.key kk hkf
        have hob : opB kf ⟨bt, be, bn, bd⟩ = opP kk bt be bn bd := by unfold opB; simp only [hkf]
        have HN := Lib.hid (show kf be ≠ none by rw [hkf]; intro h; cases h)
        have HOB := Lib.hid hob
        have HKS := Lib.hid (keySz hk1)
        have HKZ := Lib.hid (show (vb z32).size = (vb kk).size by rw [vb_size, vb_size, hk1]; rfl)
        have HKL := Lib.hid (show (Tryz.prog.info? 23).map (·.size) = some (byt kk).length by rw [byt_len, hk1]; kernel_rfl)
        have HKO := Lib.hid (fun (W : World) (hr : Rd W W.heap.size Ai (byt bd)) (hqq : QuartersAt W) => show Calls Tryz.prog 24 #[.agg (vb kk), .agg (bxV bt be bn Ai bd.length ci)] W fun e w' => ∃ v, e = .returned (.tuple #[v, .int .i64 0]) ∧ OwnP w' W.heap.size v (opP kk bt be bn bd) ∧ Below W.heap.size W w' by
          have h := openBox_c kk bn bd bt be Ai ci W hk1 hk2 HBO.out.nl HBO.out.nb (by have := HOP.out.ts; simp only at this; omega) HEP.out hr HBO.out.bb HCI.out (by have := HOP.out.bs; simpa using this) hqq
          unfold OpenR at h
          simp only at hk3
          rw [hk3] at h
          exact h)
        clear hkm hkf hk1 hk2 hk3 hob
        go_upto_region 6 with (refine wpList_store_rowTo rfl 23 (.tmp 9) (.tmp 24) rfl rfl Y.heap.size (vb kk) rfl rfl 23 (vb z32) (by exact heap_alloc_new _ _) HKS.out HKZ.out (vb_all _) ?_)
        obtain ⟨Y2, hY2⟩ : ∃ Y2, Y2 = (Y.alloc (Obj.cells (vb z32) 23)).setRow Y.heap.size (vb kk) := ⟨_, rfl⟩
        have hnr := new_rowP Y 23 (vb z32) (vb kk)
        rw [← hY2] at hnr ⊢
        have HI2 := Lib.hid (HI1.out.next hnr.2)
        have HX2 := Lib.hid (HX1.out.below hnr.2 HX1.out.lt)
        have HK2 := Lib.hid hnr.1
        have HR2 := Lib.hid ((Rd.below HR1.out hnr.2).more hnr.2.size)
        clear hnr hY2 HI1 HX1 HR1 c1 hrun
        generalize Y.heap.size = g2 at *
        have HCO := Lib.hid (HKO.out Y2 HR2.out (HQ.out.next HI2.out.bel))
        clear HKO HR2
        go_upto_region 9 with (first
          | (refine wpList_load_row rfl 23 (.tmp 9) rfl g2 rfl 23 (vb kk) (0, 0) _ HK2.out Tryz.underlying23 rfl HKS.out ?_)
          | (refine wpList_load_row rfl 39 (.tmp 8) rfl g1 rfl 39 (bxV bt be bn Ai bd.length ci) (0, 0) _ HX2.out Tryz.underlying39 rfl HSZ.out ?_)
          | (go_at_call 24; (with_reducible refine HCO.out.mono ?_); rintro e W3 ⟨v3, rfl, ho, hb⟩; obtain ⟨A3, c3, rfl, hc3, _, r3⟩ := ho.rd; have HI3 := Lib.hid (HI2.out.next hb); have HR3 := Lib.hid (show RdP W3 W3.heap.size A3 (opP kk bt be bn bd) from r3); have HC3 := Lib.hid hc3; have HAP3 := Lib.hid (apart_new (v := .slice A3 (opP kk bt be bn bd).length c3) HI2.out.own ho (Nat.le_refl _) rfl); clear ho hb r3 hc3))
        rw [HOB.out] at HTK
        clear HI2 HX2 HK2 HCO
        generalize opP kk bt be bn bd = pl at *
        go_wp2_with (first
          | (refine wpList_l1 (.tmp 38) rfl A3 pl.length c3 rfl rfl ?_)
          | (at_builtin; refine wpList_app _ rfl (.tmp 37) (.tmp 39) _ rfl w.heap.size 30 i0 (.slice none 0 0) 1 24 Tryz.underlying24 hib hz0 hz1 hz2 rfl (by decide) _ _ xs rfl (HI3.out.own.alloc _) _ (some ⟨W3.heap.size, 0, none⟩) 1 1 [.slice A3 pl.length c3] rfl rfl (by exact rd_new W3 [.slice A3 pl.length c3] _ (0, 0)) (by intro u hu; rw [List.mem_singleton.1 hu]; rfl) (by have := HXL.out; omega) (by have := HXL.out; omega) (by have := HI3.out.bel.size; simp; omega) ?_
             intro v' w4 hap
             have HAP := Lib.hid hap
             clear hap))
        go_roundw
        case rel =>
          have hal : Below W3.heap.size W3 (W3.alloc (.cells #[.slice A3 pl.length c3] 30)) := (Below.refl _ _).alloc (Nat.le_refl _) _
          have hbel : Below w.heap.size W3 w4 := ((Below.refl _ _).alloc HI3.out.bel.size _).trans (HAP.out.below (HI3.out.own.alloc _) (by have := HI3.out.bel.size; simp; omega))
          refine ⟨k + 1, HLT.out, by go_num, ⟨xs ++ [.slice A3 pl.length c3], OwnG.snoc HAP.out, HI3.out.bel.trans hbel, ?_⟩, ?_⟩
          · rw [HTK.out]
            exact GsO.snoc (HI3.out.gv.next hal) HC3.out ((Rd.below (show Rd W3 W3.heap.size A3 (pcs pl) from HR3.out) hal).more hal.size) HAP3.out HAP.out.grown HAP.out.lies
          · rw [HTK0.out]
            intro b hb
            rcases List.mem_append.1 hb with h | h
            · exact HALL.out b h
            · rw [List.mem_singleton.1 h]; exact HN.out
        case measure => have := HLT.out; simp [intOf]; omega
    · obtain rfl : k = bs.length := by omega
      rw [List.take_length] at hI hall
      obtain ⟨B, c, rfl, hcB, hls⟩ := ls_of hI.own hI.gv.gv
      have hml := merge_c B c (bs.map (opB kf)) wr hls hcB (by rw [List.length_map]; exact HL.out) (fun L hL => by
        obtain ⟨b, hb, rfl⟩ := List.mem_map.1 hL
        exact ⟨(HOK.out b hb).len, (HOK.out b hb).pcs⟩)
      have HML := Lib.hid hml
      have HB := Lib.hid hI.bel
      have HALL := Lib.hid hall
      clear hml hI hall hls hcB hlt hk
      generalize (bs.map (opB kf)).length = nl at *
      go_wp2_with (go_at_call 25; (with_reducible refine HML.out.mono ?_); rintro e W2 ⟨v, rfl, ho, hb⟩; have HO := Lib.hid (own_base_le ho HB.out.size); have HB2 := Lib.hid (HB.out.trans (hb.mono HB.out.size)); clear ho hb)
      refine bodyPost_ret (results_tmp2 rfl _ _ _) rfl ?_
      exact ⟨.inr ⟨HALL.out, _, rfl, HO.out⟩, HB2.out⟩
end Go.Proofs.YtlkcpbmbhbogoaaGreatDoor
/- Boxes whose bodies lie apart from rows that grow; the maps of keys. -/
namespace Go.Proofs.YtlkcpbmbhbogoaaGreatDoor
set_option linter.unusedVariables false
set_option linter.unusedSimpArgs false
set_option maxRecDepth 100000
open Go.RowKit
set_option linter.unusedVariables false
set_option linter.unusedSimpArgs false
/-- boxes whose bodies lie in blocks of which P says so -/
structure BsQ (W : World) (P : Nat → Prop) (us : List (List Value)) (bs : List Bxo) : Prop where
  len : us.length = bs.length
  at_ : ∀ i, i < bs.length → ∃ A c, us.getD i [] = bxL (bs.getD i bo0).t (bs.getD i bo0).ep (bs.getD i bo0).nn A (bs.getD i bo0).body.length c ∧ (bs.getD i bo0).body.length ≤ c ∧ Rd W W.heap.size A (byt (bs.getD i bo0).body) ∧ ∀ ad, A = some ad → byt (bs.getD i bo0).body ≠ [] → P ad.block
  ok : ∀ b ∈ bs, BoOk b
theorem BsQ.nil_ (W : World) (P : Nat → Prop) : BsQ W P [] [] := ⟨rfl, fun i hi => by simp at hi, fun b hb => by cases hb⟩
theorem BsQ.bv {W : World} {P : Nat → Prop} {us : List (List Value)} {bs : List Bxo} (h : BsQ W P us bs) : BsV W us bs := ⟨h.len, fun i hi => by
  obtain ⟨A, c, h1, h2, h3, _⟩ := h.at_ i hi
  exact ⟨A, c, h1, h2, h3⟩, h.ok⟩
theorem BsQ.next {W W' : World} {P : Nat → Prop} {us : List (List Value)} {bs : List Bxo} (h : BsQ W P us bs) (hb : Below W.heap.size W W') : BsQ W' P us bs := ⟨h.len, fun i hi => by
  obtain ⟨A, c, h1, h2, h3, h4⟩ := h.at_ i hi
  exact ⟨A, c, h1, h2, (h3.below hb).more hb.size, h4⟩, h.ok⟩
theorem BsQ.imp {W : World} {P P' : Nat → Prop} {us : List (List Value)} {bs : List Bxo} (h : BsQ W P us bs) (hp : ∀ b, b < W.heap.size → P b → P' b) : BsQ W P' us bs := ⟨h.len, fun i hi => by
  obtain ⟨A, c, h1, h2, h3, h4⟩ := h.at_ i hi
  refine ⟨A, c, h1, h2, h3, fun ad e hne => ?_⟩
  obtain ⟨ad', e', hb, _⟩ := h3 hne
  rw [e] at e'
  injection e' with e'
  subst e'
  exact hp _ hb (h4 ad e hne), h.ok⟩
theorem BsQ.grown {W W' : World} {o : Option Nat} {P : Nat → Prop} {us : List (List Value)} {bs : List Bxo} (h : BsQ W P us bs) (hg : W.grownBy W' o) (hp : ∀ b, P b → some b ≠ o) : BsQ W' P us bs := ⟨h.len, fun i hi => by
  obtain ⟨A, c, h1, h2, h3, h4⟩ := h.at_ i hi
  refine ⟨A, c, h1, h2, fun hne => ?_, h4⟩
  obtain ⟨ad, e, hb, hat⟩ := h3 hne
  refine ⟨ad, e, Nat.lt_of_lt_of_le hb hg.size, fun j u hu => ?_⟩
  rw [← hat j u hu]
  exact World.cell?_of_block (hg.block _ (by rw [add_block]; exact hb) (by rw [add_block]; exact hp _ (h4 ad e hne))), h.ok⟩
theorem BsQ.snoc {W : World} {P : Nat → Prop} {us : List (List Value)} {bs : List Bxo} {b : Bxo} {A : Option Addr} {c : Nat} (h : BsQ W P us bs) (hc : b.body.length ≤ c) (hr : Rd W W.heap.size A (byt b.body)) (ha : ∀ ad, A = some ad → byt b.body ≠ [] → P ad.block) (hok : BoOk b) : BsQ W P (us ++ [bxL b.t b.ep b.nn A b.body.length c]) (bs ++ [b]) := by
  refine ⟨by simp [h.len], fun i hi => ?_, fun x hx => ?_⟩
  · by_cases hlt : i < bs.length
    · have e : (bs ++ [b]).getD i bo0 = bs.getD i bo0 := by rw [List.getD_eq_getElem?_getD, List.getElem?_append_left hlt, List.getD_eq_getElem?_getD]
      have e1 : (us ++ [bxL b.t b.ep b.nn A b.body.length c]).getD i [] = us.getD i [] := by rw [List.getD_eq_getElem?_getD, List.getElem?_append_left (by rw [h.len]; exact hlt), List.getD_eq_getElem?_getD]
      rw [e, e1]
      exact h.at_ i hlt
    · have hi' : i = bs.length := by simp at hi; omega
      subst hi'
      have e : (bs ++ [b]).getD bs.length bo0 = b := by rw [List.getD_eq_getElem?_getD, List.getElem?_append_right (Nat.le_refl _)]; simp
      have e1 : (us ++ [bxL b.t b.ep b.nn A b.body.length c]).getD bs.length [] = bxL b.t b.ep b.nn A b.body.length c := by rw [← h.len, List.getD_eq_getElem?_getD, List.getElem?_append_right (Nat.le_refl _)]; simp
      rw [e, e1]
      exact ⟨A, c, rfl, hc, hr, ha⟩
  · rcases List.mem_append.1 hx with h1 | h1
    · exact h.ok x h1
    · rw [List.mem_singleton.1 h1]; exact hok
/-- where a row of the call's own lies -/
theorem own_where {W : World} {base : Nat} {e : TypeId} {sz n : Nat} {v : Value} {xs : List Value} (h : W.ownsRow base e sz v n xs) {A : Option Addr} {m c : Nat} (hA : v = .slice A m c) : ∀ ad, A = some ad → v.ownBlock = some ad.block := fun ad ea => by
  rcases h.2 with ⟨e3, _⟩ | ⟨g, cap, cur, e3, _⟩
  · rw [hA] at e3
    injection e3 with e3 _ _
    rw [ea] at e3
    cases e3
  · rw [hA] at e3
    injection e3 with e3 _ _
    rw [ea] at e3
    injection e3 with e3
    subst e3
    rw [hA, ea]
    rfl
theorem own_new {W : World} {base : Nat} {e : TypeId} {sz n : Nat} {v : Value} {xs : List Value} (h : W.ownsRow base e sz v n xs) {A : Option Addr} {m c : Nat} (hA : v = .slice A m c) : ∀ ad, A = some ad → base ≤ ad.block := fun ad ea => own_base h _ (own_where h hA ad ea)
theorem bx_oneCell (t : ByteArray) (ep : Nat) (nn : List Nat) (A : Option Addr) (n c : Nat) : ∀ u ∈ bxL t ep nn A n c, u.oneCell' = true := by
  have h := bx_all t ep nn A n c
  unfold bxV at h
  rw [List.all_toArray, List.all_eq_true] at h
  exact h
theorem OwnX.alloc {w : World} {base : Nat} {v : Value} {us : List (List Value)} (h : OwnX w base v us) (o : Obj) : OwnX (w.alloc o) base v us := World.ownsRow.alloc h o
/-- two keys by their epochs -/
def kf2 (k o : List Nat) : Nat → Option (List Nat) := fun e => if e = 2 then some o else if e = 1 then some k else none
def kf1 (ep : Nat) (k : List Nat) : Nat → Option (List Nat) := fun e => if e = ep then some k else none
def mkT : TypeId := 28
theorem keys_one (Z : World) (ep : Nat) (he : ep < 4294967296) (k : List Nat) : ∃ Z1 Z2, (Instr.makeMap 28 none).run Tryz.prog Z = .ok (.map (some Z.heap.size)) Z1 ∧ Below Z.heap.size Z Z1 ∧
    (Instr.mapUpdate 28 (.map (some Z.heap.size)) (.int .u32 (ep : Int)) (.agg (vb k))).run Tryz.prog Z1 = .ok () Z2 ∧ Below Z.heap.size Z Z2 ∧ KeysAt Z2 Z.heap.size 1 (kmV (kf1 ep k)) := by
  have hm := KeysAt.made Z
  have hb1 : Below Z.heap.size Z (Z.alloc (.map #[] 0)) := (Below.refl _ _).alloc (Nat.le_refl _) _
  obtain ⟨Z2, r2, k2, g2⟩ := hm.store keysMapU (by decide) he (vb k)
  have hb2 := hb1.grown g2 hb1.size (fun b e => by injection e with e; omega)
  refine ⟨_, Z2, by rfl, hb1, r2, hb2, ?_⟩
  have e : (fun x => if x = ep then some (vb k) else (fun _ => none) x) = kmV (kf1 ep k) := by
    funext x
    unfold kmV kf1
    by_cases h2 : x = ep
    · simp [h2]
    · simp [h2]
  rw [← e]
  exact k2
/-- whether a box's key is missing -/
def badTo (E : Nat → Nat) : Nat → Nat
  | 0 => 0
  | i + 1 => if badTo E i = 0 ∧ E i ≠ 1 ∧ E i ≠ 2 then 11 else badTo E i
end Go.Proofs.YtlkcpbmbhbogoaaGreatDoor
/- Where a piece goes in a merged list; a piece laid over another one: plain. -/
namespace Go.Proofs.YtlkcpbmbhbogoaaGreatDoor
set_option linter.unusedVariables false
set_option linter.unusedSimpArgs false
set_option maxRecDepth 100000
open Go.RowKit
set_option linter.unusedVariables false
set_option linter.unusedSimpArgs false
/-- at is the place of p in M: all ahead of it stand ahead of p -/
def AheadOf (p : Pc) (M : List Pc) (at_ : Nat) : Prop := ∀ j, j < at_ → okPair (M.getD j pc0) p = true
theorem ahead_cons {p q : Pc} {M : List Pc} {k : Nat} (h : AheadOf p (q :: M) (k + 1)) : okPair q p = true ∧ AheadOf p M k := ⟨h 0 (by omega), fun j hj => h (j + 1) (by omega)⟩
theorem ins_end {p : Pc} : ∀ {M : List Pc}, AheadOf p M M.length → insP p M = M ++ [p]
  | [], _ => rfl
  | q :: M, h => by
    obtain ⟨h1, h2⟩ := ahead_cons (M := M) (k := M.length) h
    have h3 : samePl q p = false := by
      cases hs : samePl q p with
      | false => rfl
      | true => rw [okPair_irr q p hs] at h1; cases h1
    rw [insP, h3, if_neg (by simp), if_pos h1, ins_end h2]
    rfl
theorem ins_mid {p : Pc} : ∀ {M : List Pc} {k : Nat}, k < M.length → AheadOf p M k → okPair (M.getD k pc0) p = false → samePl (M.getD k pc0) p = false → insP p M = M.take k ++ [p] ++ M.drop k
  | [], k, hk, _, _, _ => by simp at hk
  | q :: M, 0, _, _, h1, h2 => by
    rw [List.getD_cons_zero] at h1 h2
    rw [insP, h2, if_neg (by simp), h1, if_neg (by simp)]
    rfl
  | q :: M, k + 1, hk, h, h1, h2 => by
    obtain ⟨h3, h4⟩ := ahead_cons h
    rw [List.getD_cons_succ] at h1 h2
    have h5 : samePl q p = false := by
      cases hs : samePl q p with
      | false => rfl
      | true => rw [okPair_irr q p hs] at h3; cases h3
    rw [insP, h5, if_neg (by simp), if_pos h3, ins_mid (by simpa using hk) h4 h1 h2]
    rfl
theorem ins_same {p : Pc} : ∀ {M : List Pc} {k : Nat}, k < M.length → AheadOf p M k → samePl (M.getD k pc0) p = true → insP p M = if better p (M.getD k pc0) then M.set k p else M
  | [], k, hk, _, _ => by simp at hk
  | q :: M, 0, _, _, h2 => by
    rw [List.getD_cons_zero] at h2 ⊢
    rw [insP, if_pos h2]
    rfl
  | q :: M, k + 1, hk, h, h2 => by
    obtain ⟨h3, h4⟩ := ahead_cons h
    rw [List.getD_cons_succ] at h2 ⊢
    have h5 : samePl q p = false := by
      cases hs : samePl q p with
      | false => rfl
      | true => rw [okPair_irr q p hs] at h3; cases h3
    rw [insP, h5, if_neg (by simp), if_pos h3, ins_same (by simpa using hk) h4 h2]
    split <;> rfl
theorem better_abv (p q : Pc) : better p q = (abvB p.n p.d q.n q.d || ((p.n == q.n) && (p.d == q.d)) && decide (q.v < p.v)) := by
  rw [Bool.eq_iff_iff, better_iff]
  unfold abvB
  simp only [Bool.or_eq_true, Bool.and_eq_true, decide_eq_true_eq, beq_iff_eq]
  omega
theorem pcs_setP : ∀ (l : List Pc) (k : Nat) (p : Pc) (rest : List Value) (_ : k < l.length),
    (((((pcs l ++ rest).set (k * 5) (.string p.s)).set (k * 5 + 1) (.int .i64 p.t)).set (k * 5 + 2) (.int .i64 p.v)).set (k * 5 + 3) (.int .u64 (p.n : Int))).set (k * 5 + 4) (.int .u16 (p.d : Int)) = pcs (l.set k p) ++ rest
  | [], _, _, _, h => by simp at h
  | q :: l, 0, p, rest, _ => rfl
  | q :: l, k + 1, p, rest, h => by
    have ih := pcs_setP l k p rest (by simpa using h)
    have key : ∀ (X : List Value) (i : Nat) (u : Value), (pcL q ++ X).set ((k + 1) * 5 + i) u = pcL q ++ X.set (k * 5 + i) u := fun X i u => by
      rw [show (k + 1) * 5 + i = (pcL q).length + (k * 5 + i) by simp [pcL]; omega, List.set_append_right _ _ (by omega), Nat.add_sub_cancel_left]
    have k0 := key (pcs l ++ rest) 0 (.string p.s)
    rw [Nat.add_zero, Nat.add_zero] at k0
    rw [List.set_cons_succ, pcs_cons, pcs_cons, List.append_assoc, k0, key, key, key, key, Nat.add_zero, ih, List.append_assoc]
theorem setCells_blk (T : TypeId) (g : Nat) : ∀ (vs : List Value) (o : Nat) (w : World) (cs : Array Value), Blk w g T cs → ∃ cs', cs' = (vs.zipIdx o).foldl (fun c x => c.setIfInBounds x.2 x.1) cs ∧ Blk (w.setCells g o vs) g T cs'
  | [], _, _, _, h => ⟨_, rfl, h⟩
  | v :: vs, o, w, cs, h => by
    rw [World.setCells]
    obtain ⟨cs', e, h2⟩ := setCells_blk T g vs (o + 1) _ _ (h.set_ o v)
    exact ⟨cs', e, h2⟩
theorem setCells_only (g : Nat) : ∀ (vs : List Value) (o : Nat) (w : World), Only (fun i => i = g) w (w.setCells g o vs)
  | [], _, w => Only.refl _ _
  | v :: vs, o, w => by
    rw [World.setCells]
    exact ((Only.refl (fun i => i = g) w).setCell (p := ⟨g, o, none⟩) (fun _ => rfl) v).trans (setCells_only g vs (o + 1) _)
theorem blk_setP {w : World} {g : Nat} {l : List Pc} {rest : List Value} (h : Blk w g 58 (pcs l ++ rest).toArray) (k : Nat) (hk : k < l.length) (p : Pc) : Blk (w.setCells g (k * 5) (pcL p)) g 58 (pcs (l.set k p) ++ rest).toArray := by
  obtain ⟨cs', e, h2⟩ := setCells_blk 58 g (pcL p) (k * 5) w _ h
  have e2 : cs' = (pcs (l.set k p) ++ rest).toArray := by
    rw [e, ← pcs_setP l k p rest hk]
    simp [pcL, List.zipIdx_cons]
  rw [← e2]
  exact h2
end Go.Proofs.YtlkcpbmbhbogoaaGreatDoor
/- PieceAsks, walked. -/
namespace Go.Proofs.YtlkcpbmbhbogoaaGreatDoor
set_option linter.unusedVariables false
set_option linter.unusedSimpArgs false
set_option maxRecDepth 100000
open Go.RowKit
set_option linter.unusedVariables false
set_option linter.unusedSimpArgs false
theorem wpQuiet_loadV {P : Program} {ops : Array Oper} {C : World → Prop} {Q : Act → Prop} {a : Act} {o : Oper} {rest : List Oper} (hw : Region.wanted o (yielded ops a.tmps) = true) (ty : TypeId) (x : Operand) (ho : o.op = .load ty x) (b off : Nat) (hx : a.eval x = .pointer (some ⟨b, off, none⟩))
    (cs : Array Value) (d : TypeDesc) (hC : ∀ w, C w → w.rangeAt b off cs.toList) (hu : P.underlying ty = some d) (hd : d.isRow = true) (hi : (P.info? ty).map (·.size) = some cs.toList.length)
    (a' : Act) (ha : a.put o.dst (.agg cs) = a') (h : wpQuiet P ops C Q rest a') : wpQuiet P ops C Q (o :: rest) a := by
  refine BigFrame.wpQuiet_want hw fun K hK => ⟨.agg cs, fun w hw' => ?_, ?_⟩
  · unfold Oper.quietAt execOp
    simp only [ho, hx, Instr.loadAt, Instr.sureAddr, Sem.run_bind, Sem.run_pure, Result.andThen_ok, run_loadVar_mid w b off ty cs.toList d (hC w hw') hu hd hi, Array.toArray_toList]
    exact ⟨rfl, rfl⟩
  · rw [ha]; exact hK _ h
theorem ext_rangeV {w0 : World} {b off : Nat} {cs : List Value} (h : w0.rangeAt b off cs) : ∀ w, (∃ x : Ext w0, w = x.wd) → w.rangeAt b off cs := by
  rintro _ ⟨x, rfl⟩ j u hu
  exact x.cell (h j u hu)
end Go.Proofs.YtlkcpbmbhbogoaaGreatDoor
/- Contract: the document's Merge. -/
namespace Go.Proofs.YtlkcpbmbhbogoaaGreatDoor
set_option linter.unusedVariables false
set_option linter.unusedSimpArgs false
set_option maxRecDepth 100000
open Go.RowKit
set_option linter.unusedVariables false
set_option linter.unusedSimpArgs false
theorem tk5 {M : List Pc} {k : Nat} (h : k ≤ M.length) : (pcs (M.take k)).length = k * 5 := by
  rw [pcs_len, List.length_take, Nat.min_eq_left h]
theorem dr5 (M : List Pc) (k : Nat) : (pcs (M.drop k)).length = (M.length - k) * 5 := by
  rw [pcs_len, List.length_drop]
theorem app_takeN {w w' : World} {base : Nat} {v v' : Value} {M : List Pc} {k : Nat} (h : Apped w base 58 5 v w' v' (0 + k) ([] ++ pcs (M.take k))) (hk : k ≤ M.length) : OwnP w' base v' (M.take k) := by
  have h1 := h.own
  unfold OwnP
  rw [List.length_take, Nat.min_eq_left hk]
  rwa [Nat.zero_add, List.nil_append] at h1
theorem app_dropN {w w' : World} {base : Nat} {v v' : Value} {M L : List Pc} {k : Nat} (h : Apped w base 58 5 v w' v' (L.length + (M.length - k)) (pcs L ++ pcs (M.drop k))) : OwnP w' base v' (L ++ M.drop k) := by
  have h1 := h.own
  unfold OwnP
  rw [List.length_append, List.length_drop, pcs_app]
  exact h1
theorem own_forms {w : World} {base : Nat} {v : Value} {l : List Pc} (h : OwnP w base v l) : (v = .slice none 0 0 ∧ l = []) ∨ ∃ g c, v = .slice (some ⟨g, 0, none⟩) l.length c ∧ base ≤ g ∧ l.length ≤ c ∧ c ≤ maxLen ∧ g < w.heap.size ∧ AtA w ⟨g, 0, none⟩ (pcs l) := by
  rcases h.2 with ⟨h1, h2⟩ | ⟨g, cap, cur, e, hb, hh, hn, hm, hc, ht⟩
  · exact .inl ⟨h1, List.eq_nil_of_length_eq_zero h2⟩
  · refine .inr ⟨g, cap, e, hb, hn, hm, (Array.getElem?_eq_some_iff.1 hh).1, fun j u hu => ?_⟩
    have hj : j < l.length * 5 := by
      rcases Nat.lt_or_ge j (l.length * 5) with h1 | h1
      · exact h1
      · rw [List.getElem?_eq_none (by rw [pcs_len]; exact h1)] at hu; cases hu
    rw [Addr.add_mid, Nat.zero_add]
    refine cellOf hh ?_
    rw [← ht, List.getElem?_take_of_lt hj] at hu
    simpa using hu
theorem blk_there {w : World} {g : Nat} {T : TypeId} {cs : Array Value} (h : Blk w g T cs) (o n : Nat) (ho : o + n ≤ cs.size) : w.there g o n := fun j hj => by
  have h' : w.heap[g]? = some (.cells cs T (0, 0)) := h
  refine ⟨?_, ?_⟩
  · rw [h.cell, Array.getElem?_eq_getElem (by omega)]; rfl
  · unfold World.frozen?; simp [h']
theorem own_set {w : World} {base g c k : Nat} {M : List Pc} {p : Pc} (h : OwnP w base (.slice (some ⟨g, 0, none⟩) M.length c) M) (hk : k < M.length) (hbs : base ≤ w.heap.size) :
    w.there g (k * 5) 5 ∧ OwnP (w.setCells g (k * 5) (pcL p)) base (.slice (some ⟨g, 0, none⟩) M.length c) (M.set k p) ∧ Below base w (w.setCells g (k * 5) (pcL p)) := by
  rcases h.2 with ⟨h1, h2⟩ | ⟨g', cap, cur, e, hb, hh, hn, hm, hc, ht⟩
  · cases h1
  · cases e
    have e1 : cur = (pcs M ++ cur.toList.drop (M.length * 5)).toArray := by
      rw [← ht, List.take_append_drop]
    have hB : Blk w g 58 (pcs M ++ cur.toList.drop (M.length * 5)).toArray := by
      rw [← e1]; exact hh
    have hS := blk_setP hB k hk p
    refine ⟨blk_there hB (k * 5) 5 (by simp [pcs_len]; omega), ⟨?_, .inr ⟨g, c, _, ?_, hb, hS, ?_, hm, ?_, ?_⟩⟩, (setCells_only g (pcL p) (k * 5) w).below (fun i hi => by rw [hi]; exact hb) hbs⟩
    · rw [pcs_len]
    · rw [List.length_set]
    · rw [List.length_set]; exact hn
    · rw [← hc, e1]; simp [pcs_len]
    · rw [List.length_set]
      show List.take (M.length * 5) (pcs (M.set k p) ++ _) = _
      rw [List.take_left' (by rw [pcs_len, List.length_set])]
theorem AtA.timP {w : World} {a : Addr} {p : Pc} (h : AtA w a (pcL p)) : w.cell? ⟨a.block, a.off + 1, none⟩ = some (.int .i64 p.t) := h 1 _ rfl
theorem AtA.valP {w : World} {a : Addr} {p : Pc} (h : AtA w a (pcL p)) : w.cell? ⟨a.block, a.off + 2, none⟩ = some (.int .i64 p.v) := h 2 _ rfl
theorem AtA.idP {w : World} {a : Addr} {p : Pc} (h : AtA w a (pcL p)) : w.rangeAt a.block (a.off + 3) (idV p.n p.d).toList := fun j u hu => by
  match j with
  | 0 => rw [← hu]; exact h 3 _ rfl
  | 1 => rw [← hu]; exact h 4 _ rfl
  | n + 2 => simp [idV] at hu
theorem wpQuiet_loadO {P : Program} {ops : Array Oper} {C : World → Prop} {Q : Act → Prop} {a : Act} {o : Oper} {rest : List Oper} (ty : TypeId) (x : Operand) (ho : o.op = .load ty x) (b off : Nat) (hx : a.eval x = .pointer (some ⟨b, off, none⟩))
    (l : Array Value) (d : TypeDesc) (hC : ∀ w, C w → w.rangeAt b off l.toList) (hu : P.underlying ty = some d) (hd : d.isRow = true) (hi : (P.info? ty).map (·.size) = some l.size)
    (hw : Region.wanted o (yielded ops a.tmps) = true) (a' : Act) (ha : a.put o.dst (.agg l) = a') (h : wpQuiet P ops C Q rest a') : wpQuiet P ops C Q (o :: rest) a :=
  wpQuiet_loadV hw ty x ho b off hx l d hC hu hd hi a' ha h
theorem ahead_succ {p : Pc} {M : List Pc} {k : Nat} (h : AheadOf p M k) (h1 : okPair (M.getD k pc0) p = true) : AheadOf p M (k + 1) := fun j hj => by
  rcases Nat.lt_or_ge j k with h2 | h2
  · exact h j h2
  · rw [show j = k by omega]; exact h1
set_option maxRecDepth 100000 in
set_option maxHeartbeats 16000000 in
theorem rmerge_c (A : Option Addr) (cap : Nat) (l : List Pc) (w : World) (hr : RdP w w.heap.size A l) (hl : l.length ≤ 100000) (hk : ∀ p ∈ l, PcOk p ∧ p.s.size ≤ 9223372036854775807) :
    Calls Tryz.prog 8 #[.slice A l.length cap] w fun e w' => ∃ v, e = .returned v ∧ OwnP w' w.heap.size v (mergeL l) ∧ Below w.heap.size w w' := by
  obtain ⟨i0, hi, hz0, hz1, hz2⟩ := piece_parts
  have zf := zero_pc
  have zs1 : zPc.size = 5 := by rfl
  have zs2 : ¬ zPc = #[] := by intro h; have := congrArg Array.size h; rw [zs1] at this; cases this
  have HR := Lib.hid hr
  have HK := Lib.hid hk
  clear hr hk
  go_enter Tryz.func8, Tryz.ntmps8
  go_wp2_with fail
  go_loopw [3, 4] (fun ov iv wr => ∃ i : Nat, i ≤ l.length ∧ iv = .int .i64 (i : Nat) ∧ OwnP wr w.heap.size ov (mgTo [] (l.take i)) ∧ Below w.heap.size w wr) (fun _ iv _ => l.length - (intOf iv).toNat)
  case atStart => exact ⟨0, Nat.zero_le _, rfl, OwnP.nilM _ _, Below.refl _ _⟩
  case round =>
    rename World => wr
    obtain ⟨i, hil, rfl, ho, hb⟩ := hrel
    by_cases hlt : i < l.length
    · have q1 : (i : Int) < (l.length : Int) := by omega
      obtain ⟨al, rfl, hab, hat⟩ := (show RdP wr w.heap.size A l from Rd.below HR.out hb).open_ (by omega)
      obtain ⟨p, hpe⟩ : ∃ p, p = l.getD i pc0 := ⟨_, rfl⟩
      have hpa := hat.piece i hlt
      rw [← hpe] at hpa
      have hpL : p ∈ l := by rw [hpe, List.getD_eq_getElem?_getD, List.getElem?_eq_getElem hlt]; exact List.getElem_mem hlt
      obtain ⟨hpk, hps⟩ := HK.out p hpL
      have htk : mgTo [] (l.take (i + 1)) = if ckP p then insP p (mgTo [] (l.take i)) else mgTo [] (l.take i) := by rw [take_snocP l i hlt, mgTo_snoc, hpe]
      have hML : (mgTo [] (l.take i)).length ≤ i := by
        have := mgTo_len (l.take i) []
        rw [List.length_take] at this
        simp at this
        omega
      generalize mgTo [] (l.take i) = M at *
      have HPA := Lib.hid hpa
      have HO := Lib.hid ho
      have HB := Lib.hid hb
      have HIL := Lib.hid hlt
      have HRC := Lib.hid (fun W => rpcheck_c p W hps)
      clear hat hpe hpa hpL hpk hps ho hb hab
      go_upto_region 6 with (first
        | (refine wpList_loadA rfl 58 (.tmp 16) rfl (al.add (i * 5)) rfl (pcL p) _ HPA.out Tryz.underlying58 rfl (pcLn p) ?_)
        | (refine wpList_store_rowTo rfl 58 (.tmp 5) (.tmp 17) rfl rfl wr.heap.size (pcV p) rfl rfl 58 zPc (by exact heap_alloc_new _ _) (pcInfo p) rfl (pcV_one p) ?_))
      obtain ⟨Y, hY⟩ : ∃ Y, Y = (wr.alloc (Obj.cells zPc 58)).setRow wr.heap.size (pcV p) := ⟨_, rfl⟩
      have hnr := new_rowP wr 58 zPc (pcV p)
      rw [← hY] at hnr ⊢
      have HG0 := Lib.hid hnr.1
      have HBY := Lib.hid (HB.out.trans (hnr.2.mono HB.out.size))
      have HOY := Lib.hid (HO.out.next hnr.2)
      clear hnr hY HPA HO HB
      generalize wr.heap.size = g1 at *
      by_cases hck : ckP p = true
      · rw [if_pos hck] at htk
        have HTK := Lib.hid htk
        rw [hck] at HRC
        clear htk hck hlt
        go_upto_region 7 with (first
          | (refine wpList_loadA rfl 58 (.tmp 5) rfl ⟨g1, 0, none⟩ rfl (pcL p) _ (atA_blk HG0.out) Tryz.underlying58 rfl (pcLn p) ?_)
          | (go_at_call 19; (refine (HRC.out Y).mono ?_); rintro e Y2 ⟨rfl, hb⟩; have HYY := Lib.hid hb; clear hb))
        have HG2 := Lib.hid (HG0.out.below HYY.out HG0.out.lt)
        have HB2 := Lib.hid (HBY.out.trans (HYY.out.mono HBY.out.size))
        have HO2 := Lib.hid (HOY.out.next HYY.out)
        clear HG0 HBY HOY HYY HRC
        rcases own_forms HO2.out with ⟨rfl, hM0⟩ | ⟨g, c, rfl, hgb, hnc, hcm, hgl, hat⟩
        · -- nothing yet
          have HE := Lib.hid hM0
          subst hM0
          go_wp2_with fail
          go_loopw [6] (fun kv wq => kv = .int .i64 0 ∧ Below Y2.heap.size Y2 wq) (fun _ _ => 0)
          case atStart => exact ⟨rfl, Below.refl _ _⟩
          case round =>
            rename World => wq
            obtain ⟨rfl, hbq⟩ := hrel
            go_upto_region 8 with fail
            go_quiet (fail)
            have hbz := belowDrewN nq hbq
            generalize wq.drewN nq = Yz at *
            go_upto_region 10 with fail
            go_quiet (fail)
            have hby := belowDrewN nq hbz
            generalize Yz.drewN nq = Yq at *
            have HG1 := Lib.hid (HG2.out.below hby HG2.out.lt)
            have HBQ := Lib.hid (HB2.out.trans (hby.mono HB2.out.size))
            clear hbq hbz hby
            have hi9 := HIL.out
            go_wp2_with (first
              | (at_builtin; refine wpList_app _ rfl (.tmp 113) (.tmp 116) _ rfl Yq.heap.size 58 i0 (.agg zPc) 5 48 Tryz.underlying30 hi hz0 hz1 hz2 rfl (by decide) _ 0 [] rfl (OwnP.nilM _ _) Yq.heap.size none 0 0 (pcs (([] : List Pc).take 0)) rfl rfl (by exact Rd.nil_ _ _ _) (pcs_oneCell _) (by omega) (by omega) (Nat.le_refl _) ?_
                 intro v1 U1 hap
                 have HU1 := Lib.hid (hap.below (OwnP.nilM _ _) (Nat.le_refl _))
                 have HV1 := Lib.hid (app_takeN (M := []) hap (Nat.le_refl 0))
                 clear hap)
              | (refine wpList_loadA rfl 58 (.tmp 5) rfl ⟨g1, 0, none⟩ rfl (pcL p) _ (atA_blk (HG1.out.below HU1.out HG1.out.lt)) Tryz.underlying58 rfl (pcLn p) ?_)
              | (refine wpList_valM rfl _ _ (run_onePc U1 p (.tmp 119) rfl (by kernel_rfl)) ?_)
              | (at_builtin; refine wpList_app _ rfl (.tmp 118) (.tmp 120) _ rfl Yq.heap.size 58 i0 (.agg zPc) 5 48 Tryz.underlying30 hi hz0 hz1 hz2 rfl (by decide) _ (([] : List Pc).take 0).length (pcs (([] : List Pc).take 0)) rfl (HV1.out.allocM _) _ (some ⟨U1.heap.size, 0, none⟩) 1 1 (pcs [p]) rfl rfl (by exact rd_new U1 (pcs [p]) 58 (0, 0)) (pcs_oneCell _) (by decide) (by decide) (by have := HU1.out.size; simp; omega) ?_
                 intro v2 U2 hap
                 have HU2 := Lib.hid ((HU1.out.alloc HU1.out.size _).trans (hap.below (HV1.out.allocM _) (by have := HU1.out.size; simp; omega)))
                 have HV2 := Lib.hid (OwnP.appM (l := ([] : List Pc).take 0) (m := [p]) hap)
                 clear hap)
              | (at_builtin; refine wpList_app _ rfl (.tmp 122) (.tmp 125) _ rfl Yq.heap.size 58 i0 (.agg zPc) 5 48 Tryz.underlying30 hi hz0 hz1 hz2 rfl (by decide) _ (([] : List Pc).take 0 ++ [p]).length (pcs (([] : List Pc).take 0 ++ [p])) rfl HV2.out Yq.heap.size none (0) 0 (pcs (([] : List Pc).drop 0)) rfl rfl (by exact Rd.nil_ _ _ _) (pcs_oneCell _) (by simp) (by simp) HU2.out.size ?_
                 intro v3 U3 hap
                 have HU3 := Lib.hid (HU2.out.trans (hap.below HV2.out HU2.out.size))
                 have HV3 := Lib.hid (app_dropN (M := []) (k := 0) hap)
                 clear hap))
            go_roundw
            case rel =>
              refine ⟨i + 1, by have := HIL.out; omega, by go_num, ?_, HBQ.out.trans (HU3.out.mono HBQ.out.size)⟩
              have h := own_base_le HV3.out HBQ.out.size
              rw [HTK.out]
              exact h
            case measure => have := HIL.out; simp [intOf]; omega
        · obtain ⟨ad, had⟩ : ∃ ad : Addr, ad = ⟨g, 0, none⟩ := ⟨_, rfl⟩
          have HAD := Lib.hid had
          have hO := HO2.out
          have hga : ad.block < Y2.heap.size := by rw [had]; exact hgl
          rw [← had] at hO hat ⊢
          have HO3 := Lib.hid hO
          have HAT := Lib.hid hat
          have HGA := Lib.hid hga
          have hcI : (c : Int) ≤ 9223372036854775807 := by unfold maxLen at hcm; omega
          have hi9 := HIL.out
          clear HO2 hO hat had hgb hgl hga hcm
          go_wp2_with fail
          go_loopw [6] (fun kv wq => ∃ k : Nat, k ≤ M.length ∧ kv = .int .i64 (k : Nat) ∧ AheadOf p M k ∧ Below Y2.heap.size Y2 wq) (fun kv _ => M.length - (intOf kv).toNat)
          case atStart => exact ⟨0, Nat.zero_le _, rfl, fun j hj => absurd hj (Nat.not_lt_zero j), Below.refl _ _⟩
          case round =>
            rename World => wq
            obtain ⟨k, hkl, rfl, hah, hbq⟩ := hrel
            by_cases hlt : k < M.length
            · have q1 : (k : Int) < (M.length : Int) := by omega
              have r6 : (k : Int) ≤ (c : Int) := by omega
              have r7 : (k : Int) ≤ (M.length : Int) := by omega
              have r8 : (0 : Int) ≤ (k : Int) := by omega
              have r9 : decide ((k : Int) < 0) = false := decide_eq_false (by omega)
              have rA : ¬ c = k := by omega
              have hqa := (show AtA wq (ad.add (k * 5)) (pcL (M.getD k pc0)) from (HAT.out.below hbq HGA.out).piece k hlt)
              have HIM := Lib.hid (fun h1 h2 => ins_mid hlt hah h1 h2)
              have HIS := Lib.hid (ins_same hlt hah)
              have HAS := Lib.hid (ahead_succ hah)
              have HQA := Lib.hid hqa
              have HPR := Lib.hid (show okPair (M.getD k pc0) p = (Op.bytesLess (M.getD k pc0).s.toList p.s.toList || ((M.getD k pc0).s.toList == p.s.toList && decide ((M.getD k pc0).t < p.t))) from rfl)
              have HSP := Lib.hid (show samePl (M.getD k pc0) p = (((M.getD k pc0).s.toList == p.s.toList) && ((M.getD k pc0).t == p.t)) from rfl)
              have HBQ0 := Lib.hid hbq
              have HLT := Lib.hid hlt
              clear hqa hah hbq hlt hkl
              generalize M.getD k pc0 = q at *
              have e0 := HQA.out.ser
              have e1 := HQA.out.timP
              have HPA := Lib.hid (atA_blk (HG2.out.below HBQ0.out HG2.out.lt))
              have e2 : wq.cell? ⟨g1, 0, none⟩ = some (.string p.s) := HPA.out.ser
              have e3 : wq.cell? ⟨g1, 1, none⟩ = some (.int .i64 p.t) := HPA.out.timP
              rcases (show Op.bytesLess q.s.toList p.s.toList = true ∨ Op.bytesLess q.s.toList p.s.toList = false by cases Op.bytesLess q.s.toList p.s.toList <;> simp) with hL | hL
              · have HA1 := Lib.hid (HAS.out (by rw [HPR.out, hL]; rfl))
                go_upto_region 8 with fail
                go_quiet (fail)
                have HBZ := Lib.hid (HBQ0.out.trans (belowDrewN nq (Below.refl _ _) |>.mono HBQ0.out.size))
                generalize wq.drewN nq = Yz at *
                go_wp2_with fail
                go_roundw
                case rel => exact ⟨k + 1, HLT.out, by go_num, HA1.out, HBZ.out⟩
                case measure => have := HLT.out; simp [intOf]; omega
              · rcases (show (q.s.toList == p.s.toList) = true ∨ (q.s.toList == p.s.toList) = false by cases (q.s.toList == p.s.toList) <;> simp) with hS | hS
                · by_cases hT : q.t < p.t
                  · have hT1 : decide (q.t < p.t) = true := decide_eq_true hT
                    have HA1 := Lib.hid (HAS.out (by rw [HPR.out, hL, hS, hT1]; rfl))
                    clear hT
                    go_upto_region 8 with fail
                    go_quiet (fail)
                    have HBZ := Lib.hid (HBQ0.out.trans (belowDrewN nq (Below.refl _ _) |>.mono HBQ0.out.size))
                    generalize wq.drewN nq = Yz at *
                    go_wp2_with fail
                    go_roundw
                    case rel => exact ⟨k + 1, HLT.out, by go_num, HA1.out, HBZ.out⟩
                    case measure => have := HLT.out; simp [intOf]; omega
                  · have hT1 : decide (q.t < p.t) = false := decide_eq_false hT
                    rcases (show (q.t == p.t) = true ∨ (q.t == p.t) = false by cases (q.t == p.t) <;> simp) with hQ | hQ
                    · have HI1 := Lib.hid (HIS.out (by rw [HSP.out, hS, hQ]; rfl))
                      clear hT
                      go_upto_region 8 with fail
                      go_quiet (fail)
                      have HQ5 := Lib.hid (show AtA (wq.drewN nq) (ad.add (k * 5)) (pcL q) from (HQA.out.below (belowDrewN nq (Below.refl wq.heap.size wq)) (by rw [add_block]; exact Nat.lt_of_lt_of_le HGA.out HBQ0.out.size)))
                      have hbz := belowDrewN nq HBQ0.out
                      clear e0 e1 e2 e3 HQA HPA
                      generalize wq.drewN nq = Yz at *
                      have hpz := atA_blk (HG2.out.below hbz HG2.out.lt)
                      have e0 := HQ5.out.ser
                      have e1 := HQ5.out.timP
                      have e2 : Yz.cell? ⟨g1, 0, none⟩ = some (.string p.s) := hpz.ser
                      have e3 : Yz.cell? ⟨g1, 1, none⟩ = some (.int .i64 p.t) := hpz.timP
                      clear hpz
                      go_upto_region 10 with fail
                      go_quiet (fail)
                      have hby := belowDrewN nq hbz
                      have HQ6 := Lib.hid (show AtA (Yz.drewN nq) (ad.add (k * 5)) (pcL q) from (HQ5.out.below (belowDrewN nq (Below.refl Yz.heap.size Yz)) (by rw [add_block]; exact Nat.lt_of_lt_of_le HGA.out hbz.size)))
                      clear e0 e1 e2 e3
                      generalize Yz.drewN nq = Yq at *
                      have HG1 := Lib.hid (HG2.out.below hby HG2.out.lt)
                      have HBQ := Lib.hid (HB2.out.trans (hby.mono HB2.out.size))
                      have HBY2 := Lib.hid hby
                      have R1 := Lib.hid (ext_rangeV (rangeAt_id HG1.out))
                      have R2 := Lib.hid (ext_rangeV HQ6.out.idP)
                      have HII := Lib.hid (idLn p.n p.d)
                      have HIQ := Lib.hid (idLn q.n q.d)
                      have heq := fun W => run_eq_id p.n p.d q.n q.d W 9998
                      have hab := fun W => rabove_c p.n p.d q.n q.d W
                      have hpv := (atA_blk HG1.out).valP
                      have c1 : ∀ x : Ext Yq, x.wd.cell? ⟨g1, 2, none⟩ = some (.int .i64 p.v) := fun x => x.cell hpv
                      have hqv := HQ6.out.valP
                      have c2 := fun x : Ext Yq => x.cell hqv
                      clear hby hpv hqv
                      have hBT := better_abv p q
                      rcases (show abvB p.n p.d q.n q.d = true ∨ abvB p.n p.d q.n q.d = false by cases abvB p.n p.d q.n q.d <;> simp) with hA | hA
                      · rw [hA, Bool.true_or] at hBT
                        simp only [hA] at hab
                        have HAB := Lib.hid hab
                        clear hab
                        go_upto_region 11 with fail
                        refine wp_region_class (Ext.wd (w0 := Yq)) (by kernel_rfl) (by kernel_rfl) (Ext.of (Below.refl _ _).drew) ?_
                        repeat (first
                          | go_big_quiet_skip
                          | (refine wpQuiet_loadO 56 (.tmp 81) rfl g1 3 rfl (idV p.n p.d) _ R1.out Tryz.underlying56 rfl HII.out rfl _ (by simp only [Act.put, List.setIfInBounds_toArray, List.set_cons_succ, List.set_cons_zero]; rfl) ?_)
                          | (refine wpQuiet_loadO 56 (.tmp 86) rfl (ad.add (k * 5)).block ((ad.add (k * 5)).off + 3) rfl (idV q.n q.d) _ R2.out Tryz.underlying56 rfl HIQ.out rfl _ (by simp only [Act.put, List.setIfInBounds_toArray, List.set_cons_succ, List.set_cons_zero]; rfl) ?_)
                          | (refine wpQuiet_loadO 56 (.tmp 90) rfl g1 3 rfl (idV p.n p.d) _ R1.out Tryz.underlying56 rfl HII.out rfl _ (by simp only [Act.put, List.setIfInBounds_toArray, List.set_cons_succ, List.set_cons_zero]; rfl) ?_)
                          | (refine wpQuiet_loadO 56 (.tmp 95) rfl (ad.add (k * 5)).block ((ad.add (k * 5)).off + 3) rfl (idV q.n q.d) _ R2.out Tryz.underlying56 rfl HIQ.out rfl _ (by simp only [Act.put, List.setIfInBounds_toArray, List.set_cons_succ, List.set_cons_zero]; rfl) ?_)
                          | (go_big_quiet_step ((go_at_call 20; with_reducible exact ext_call (HAB.out _)))))
                        refine wpQuiet_nil ?_
                        rintro _ ⟨x, rfl⟩
                        have HBX := Lib.hid (HBQ.out.trans (x.bel.mono HBQ.out.size))
                        have HGX := Lib.hid (HG1.out.below x.bel HG1.out.lt)
                        have hox := HO3.out.next (HBY2.out.trans (x.bel.mono HBY2.out.size))
                        clear c1 c2 heq R1 R2
                        generalize x.wd = Yx at *
                        clear x
                        obtain rfl : ad = ⟨g, 0, none⟩ := HAD.out
                        obtain ⟨o1, o2, o3⟩ := own_set (p := p) hox HLT.out HBX.out.size
                        have o1 : Yx.there g (k * 5) (pcV p).size := o1
                        obtain ⟨YS, hYS⟩ : ∃ YS, YS = Yx.setCells g (k * 5) (pcV p).toList := ⟨_, rfl⟩
                        have o2 : OwnP YS w.heap.size (.slice (some ⟨g, 0, none⟩) M.length c) (M.set k p) := by rw [hYS]; exact o2
                        have o3 : Below w.heap.size Yx YS := by rw [hYS]; exact o3
                        have HYS := Lib.hid hYS
                        clear hYS
                        have O1 := Lib.hid o1
                        have O2 := Lib.hid o2
                        have O3 := Lib.hid o3
                        clear o1 o2 o3 hox
                        have hlt := HLT.out
                        go_wp2_with (first
                          | (refine wpList_loadA rfl 58 (.tmp 5) rfl ⟨g1, 0, none⟩ rfl (pcL p) _ (atA_blk HGX.out) Tryz.underlying58 rfl (pcLn p) ?_)
                          | (refine wpList_store_mid rfl 58 (.tmp 112) (.tmp 111) rfl g (k * 5) (pcV p) rfl rfl O1.out (pcInfo p) (pcV_one p) ?_; rw [← HYS.out]))
                        go_roundw
                        case rel =>
                          refine ⟨i + 1, by have := HIL.out; omega, by go_num, ?_, HBX.out.trans O3.out⟩
                          rw [HTK.out, HI1.out, hBT]
                          exact O2.out
                        case measure => have := HIL.out; simp [intOf]; omega
                      · rcases (show ((p.n == q.n) && (p.d == q.d)) = true ∨ ((p.n == q.n) && (p.d == q.d)) = false by cases ((p.n == q.n) && (p.d == q.d)) <;> simp) with hE | hE
                        · by_cases hV : q.v < p.v
                          · have hV2 : decide (q.v < p.v) = true := decide_eq_true hV
                            rw [hA, hE, hV2] at hBT
                            simp only [hE] at heq
                            simp only [hA] at hab
                            have HAB := Lib.hid hab
                            clear hab
                            go_upto_region 11 with fail
                            refine wp_region_class (Ext.wd (w0 := Yq)) (by kernel_rfl) (by kernel_rfl) (Ext.of (Below.refl _ _).drew) ?_
                            repeat (first
                              | go_big_quiet_skip
                              | (refine wpQuiet_loadO 56 (.tmp 81) rfl g1 3 rfl (idV p.n p.d) _ R1.out Tryz.underlying56 rfl HII.out rfl _ (by simp only [Act.put, List.setIfInBounds_toArray, List.set_cons_succ, List.set_cons_zero]; rfl) ?_)
                              | (refine wpQuiet_loadO 56 (.tmp 86) rfl (ad.add (k * 5)).block ((ad.add (k * 5)).off + 3) rfl (idV q.n q.d) _ R2.out Tryz.underlying56 rfl HIQ.out rfl _ (by simp only [Act.put, List.setIfInBounds_toArray, List.set_cons_succ, List.set_cons_zero]; rfl) ?_)
                              | (refine wpQuiet_loadO 56 (.tmp 90) rfl g1 3 rfl (idV p.n p.d) _ R1.out Tryz.underlying56 rfl HII.out rfl _ (by simp only [Act.put, List.setIfInBounds_toArray, List.set_cons_succ, List.set_cons_zero]; rfl) ?_)
                              | (refine wpQuiet_loadO 56 (.tmp 95) rfl (ad.add (k * 5)).block ((ad.add (k * 5)).off + 3) rfl (idV q.n q.d) _ R2.out Tryz.underlying56 rfl HIQ.out rfl _ (by simp only [Act.put, List.setIfInBounds_toArray, List.set_cons_succ, List.set_cons_zero]; rfl) ?_)
                              | (go_big_quiet_step ((go_at_call 20; with_reducible exact ext_call (HAB.out _)))))
                            refine wpQuiet_nil ?_
                            rintro _ ⟨x, rfl⟩
                            have HBX := Lib.hid (HBQ.out.trans (x.bel.mono HBQ.out.size))
                            have HGX := Lib.hid (HG1.out.below x.bel HG1.out.lt)
                            have hox := HO3.out.next (HBY2.out.trans (x.bel.mono HBY2.out.size))
                            clear c1 c2 heq R1 R2
                            generalize x.wd = Yx at *
                            clear x
                            obtain rfl : ad = ⟨g, 0, none⟩ := HAD.out
                            obtain ⟨o1, o2, o3⟩ := own_set (p := p) hox HLT.out HBX.out.size
                            have o1 : Yx.there g (k * 5) (pcV p).size := o1
                            obtain ⟨YS, hYS⟩ : ∃ YS, YS = Yx.setCells g (k * 5) (pcV p).toList := ⟨_, rfl⟩
                            have o2 : OwnP YS w.heap.size (.slice (some ⟨g, 0, none⟩) M.length c) (M.set k p) := by rw [hYS]; exact o2
                            have o3 : Below w.heap.size Yx YS := by rw [hYS]; exact o3
                            have HYS := Lib.hid hYS
                            clear hYS
                            have O1 := Lib.hid o1
                            have O2 := Lib.hid o2
                            have O3 := Lib.hid o3
                            clear o1 o2 o3 hox
                            have hlt := HLT.out
                            go_wp2_with (first
                              | (refine wpList_loadA rfl 58 (.tmp 5) rfl ⟨g1, 0, none⟩ rfl (pcL p) _ (atA_blk HGX.out) Tryz.underlying58 rfl (pcLn p) ?_)
                              | (refine wpList_store_mid rfl 58 (.tmp 112) (.tmp 111) rfl g (k * 5) (pcV p) rfl rfl O1.out (pcInfo p) (pcV_one p) ?_; rw [← HYS.out]))
                            go_roundw
                            case rel =>
                              refine ⟨i + 1, by have := HIL.out; omega, by go_num, ?_, HBX.out.trans O3.out⟩
                              rw [HTK.out, HI1.out, hBT]
                              exact O2.out
                            case measure => have := HIL.out; simp [intOf]; omega
                          · have hV2 : decide (q.v < p.v) = false := decide_eq_false hV
                            rw [hA, hE, hV2] at hBT
                            simp only [hE] at heq
                            simp only [hA] at hab
                            have HAB := Lib.hid hab
                            clear hab
                            go_upto_region 11 with fail
                            refine wp_region_class (Ext.wd (w0 := Yq)) (by kernel_rfl) (by kernel_rfl) (Ext.of (Below.refl _ _).drew) ?_
                            repeat (first
                              | go_big_quiet_skip
                              | (refine wpQuiet_loadO 56 (.tmp 81) rfl g1 3 rfl (idV p.n p.d) _ R1.out Tryz.underlying56 rfl HII.out rfl _ (by simp only [Act.put, List.setIfInBounds_toArray, List.set_cons_succ, List.set_cons_zero]; rfl) ?_)
                              | (refine wpQuiet_loadO 56 (.tmp 86) rfl (ad.add (k * 5)).block ((ad.add (k * 5)).off + 3) rfl (idV q.n q.d) _ R2.out Tryz.underlying56 rfl HIQ.out rfl _ (by simp only [Act.put, List.setIfInBounds_toArray, List.set_cons_succ, List.set_cons_zero]; rfl) ?_)
                              | (refine wpQuiet_loadO 56 (.tmp 90) rfl g1 3 rfl (idV p.n p.d) _ R1.out Tryz.underlying56 rfl HII.out rfl _ (by simp only [Act.put, List.setIfInBounds_toArray, List.set_cons_succ, List.set_cons_zero]; rfl) ?_)
                              | (refine wpQuiet_loadO 56 (.tmp 95) rfl (ad.add (k * 5)).block ((ad.add (k * 5)).off + 3) rfl (idV q.n q.d) _ R2.out Tryz.underlying56 rfl HIQ.out rfl _ (by simp only [Act.put, List.setIfInBounds_toArray, List.set_cons_succ, List.set_cons_zero]; rfl) ?_)
                              | (go_big_quiet_step ((go_at_call 20; with_reducible exact ext_call (HAB.out _)))))
                            refine wpQuiet_nil ?_
                            rintro _ ⟨x, rfl⟩
                            have HBX := Lib.hid (HBQ.out.trans (x.bel.mono HBQ.out.size))
                            have HGX := Lib.hid (HG1.out.below x.bel HG1.out.lt)
                            have hox := HO3.out.next (HBY2.out.trans (x.bel.mono HBY2.out.size))
                            clear c1 c2 heq R1 R2
                            generalize x.wd = Yx at *
                            clear x
                            have HOX := Lib.hid hox
                            clear hox
                            go_wp2_with fail
                            go_roundw
                            case rel =>
                              refine ⟨i + 1, by have := HIL.out; omega, by go_num, ?_, HBX.out⟩
                              rw [HTK.out, HI1.out, hBT]
                              exact HOX.out
                            case measure => have := HIL.out; simp [intOf]; omega
                        · rw [hA, hE, Bool.false_and] at hBT
                          simp only [hE] at heq
                          simp only [hA] at hab
                          have HAB := Lib.hid hab
                          clear hab
                          go_upto_region 11 with fail
                          refine wp_region_class (Ext.wd (w0 := Yq)) (by kernel_rfl) (by kernel_rfl) (Ext.of (Below.refl _ _).drew) ?_
                          repeat (first
                            | go_big_quiet_skip
                            | (refine wpQuiet_loadO 56 (.tmp 81) rfl g1 3 rfl (idV p.n p.d) _ R1.out Tryz.underlying56 rfl HII.out rfl _ (by simp only [Act.put, List.setIfInBounds_toArray, List.set_cons_succ, List.set_cons_zero]; rfl) ?_)
                            | (refine wpQuiet_loadO 56 (.tmp 86) rfl (ad.add (k * 5)).block ((ad.add (k * 5)).off + 3) rfl (idV q.n q.d) _ R2.out Tryz.underlying56 rfl HIQ.out rfl _ (by simp only [Act.put, List.setIfInBounds_toArray, List.set_cons_succ, List.set_cons_zero]; rfl) ?_)
                            | (refine wpQuiet_loadO 56 (.tmp 90) rfl g1 3 rfl (idV p.n p.d) _ R1.out Tryz.underlying56 rfl HII.out rfl _ (by simp only [Act.put, List.setIfInBounds_toArray, List.set_cons_succ, List.set_cons_zero]; rfl) ?_)
                            | (refine wpQuiet_loadO 56 (.tmp 95) rfl (ad.add (k * 5)).block ((ad.add (k * 5)).off + 3) rfl (idV q.n q.d) _ R2.out Tryz.underlying56 rfl HIQ.out rfl _ (by simp only [Act.put, List.setIfInBounds_toArray, List.set_cons_succ, List.set_cons_zero]; rfl) ?_)
                            | (go_big_quiet_step ((go_at_call 20; with_reducible exact ext_call (HAB.out _)))))
                          refine wpQuiet_nil ?_
                          rintro _ ⟨x, rfl⟩
                          have HBX := Lib.hid (HBQ.out.trans (x.bel.mono HBQ.out.size))
                          have HGX := Lib.hid (HG1.out.below x.bel HG1.out.lt)
                          have hox := HO3.out.next (HBY2.out.trans (x.bel.mono HBY2.out.size))
                          clear c1 c2 heq R1 R2
                          generalize x.wd = Yx at *
                          clear x
                          have HOX := Lib.hid hox
                          clear hox
                          go_wp2_with fail
                          go_roundw
                          case rel =>
                            refine ⟨i + 1, by have := HIL.out; omega, by go_num, ?_, HBX.out⟩
                            rw [HTK.out, HI1.out, hBT]
                            exact HOX.out
                          case measure => have := HIL.out; simp [intOf]; omega
                    · have INS := Lib.hid (HIM.out (by rw [HPR.out, hL, hS, hT1]; rfl) (by rw [HSP.out, hS, hQ]; rfl))
                      clear hT
                      go_upto_region 8 with fail
                      go_quiet (fail)
                      have HQ5 := Lib.hid (show AtA (wq.drewN nq) (ad.add (k * 5)) (pcL q) from (HQA.out.below (belowDrewN nq (Below.refl wq.heap.size wq)) (by rw [add_block]; exact Nat.lt_of_lt_of_le HGA.out HBQ0.out.size)))
                      have hbz := belowDrewN nq HBQ0.out
                      clear e0 e1 e2 e3 HQA HPA
                      generalize wq.drewN nq = Yz at *
                      have hpz := atA_blk (HG2.out.below hbz HG2.out.lt)
                      have e0 := HQ5.out.ser
                      have e1 := HQ5.out.timP
                      have e2 : Yz.cell? ⟨g1, 0, none⟩ = some (.string p.s) := hpz.ser
                      have e3 : Yz.cell? ⟨g1, 1, none⟩ = some (.int .i64 p.t) := hpz.timP
                      clear hpz
                      go_upto_region 10 with fail
                      go_quiet (fail)
                      have hby := belowDrewN nq hbz
                      generalize Yz.drewN nq = Yq at *
                      have HG1 := Lib.hid (HG2.out.below hby HG2.out.lt)
                      have HBQ := Lib.hid (HB2.out.trans (hby.mono HB2.out.size))
                      have HBY2 := Lib.hid hby
                      have RD1 := Lib.hid (show RdP Yq Yq.heap.size (some ad) (M.take k) by
                        have h := rdP_sub (HAT.out.below HBY2.out HGA.out) HGA.out 0 k
                        rw [List.drop_zero, show ad.add (0 * 5) = ad by simp [Addr.add]] at h
                        exact Rd.more (show Rd Yq Y2.heap.size (some ad) (pcs _) from h) HBY2.out.size)
                      have RD2 := Lib.hid (show RdP Yq Yq.heap.size (some (ad.add (k * 5))) (M.drop k) by
                        have h := rdP_sub (HAT.out.below HBY2.out HGA.out) HGA.out k (M.length - k)
                        rw [List.take_of_length_le (by rw [List.length_drop]; exact Nat.le_refl _)] at h
                        exact Rd.more (show Rd Yq Y2.heap.size _ (pcs _) from h) HBY2.out.size)
                      clear hby
                      have hlt := HLT.out
                      go_wp2_with (first
                        | (at_builtin; refine wpList_app _ rfl (.tmp 113) (.tmp 116) _ rfl Yq.heap.size 58 i0 (.agg zPc) 5 48 Tryz.underlying30 hi hz0 hz1 hz2 rfl (by decide) _ 0 [] rfl (OwnP.nilM _ _) Yq.heap.size (some ad) k c (pcs (M.take k)) rfl (tk5 (by omega)) (show Rd Yq Yq.heap.size (some ad) (pcs (M.take k)) from RD1.out) (pcs_oneCell _) (by omega) (by omega) (Nat.le_refl _) ?_
                           intro v1 U1 hap
                           have HU1 := Lib.hid (hap.below (OwnP.nilM _ _) (Nat.le_refl _))
                           have HV1 := Lib.hid (app_takeN hap (by omega))
                           clear hap)
                        | (refine wpList_loadA rfl 58 (.tmp 5) rfl ⟨g1, 0, none⟩ rfl (pcL p) _ (atA_blk (HG1.out.below HU1.out HG1.out.lt)) Tryz.underlying58 rfl (pcLn p) ?_)
                        | (refine wpList_valM rfl _ _ (run_onePc U1 p (.tmp 119) rfl (by kernel_rfl)) ?_)
                        | (at_builtin; refine wpList_app _ rfl (.tmp 118) (.tmp 120) _ rfl Yq.heap.size 58 i0 (.agg zPc) 5 48 Tryz.underlying30 hi hz0 hz1 hz2 rfl (by decide) _ (M.take k).length (pcs (M.take k)) rfl (HV1.out.allocM _) _ (some ⟨U1.heap.size, 0, none⟩) 1 1 (pcs [p]) rfl rfl (by exact rd_new U1 (pcs [p]) 58 (0, 0)) (pcs_oneCell _) (by rw [List.length_take]; omega) (by rw [List.length_take]; omega) (by have := HU1.out.size; simp; omega) ?_
                           intro v2 U2 hap
                           have HU2 := Lib.hid ((HU1.out.alloc HU1.out.size _).trans (hap.below (HV1.out.allocM _) (by have := HU1.out.size; simp; omega)))
                           have HV2 := Lib.hid (OwnP.appM (l := M.take k) (m := [p]) hap)
                           clear hap)
                        | (at_builtin; refine wpList_app _ rfl (.tmp 122) (.tmp 125) _ rfl Yq.heap.size 58 i0 (.agg zPc) 5 48 Tryz.underlying30 hi hz0 hz1 hz2 rfl (by decide) _ (M.take k ++ [p]).length (pcs (M.take k ++ [p])) rfl HV2.out Yq.heap.size (some (ad.add (k * 5))) (M.length - k) (c - k) (pcs (M.drop k)) rfl (dr5 _ _) (Rd.below (show Rd Yq Yq.heap.size _ (pcs (M.drop k)) from RD2.out) HU2.out) (pcs_oneCell _) (by rw [List.length_append, List.length_take]; simp; omega) (by rw [List.length_append, List.length_take]; simp; omega) HU2.out.size ?_
                           intro v3 U3 hap
                           have HU3 := Lib.hid (HU2.out.trans (hap.below HV2.out HU2.out.size))
                           have HV3 := Lib.hid (app_dropN hap)
                           clear hap))
                      go_roundw
                      case rel =>
                        refine ⟨i + 1, by have := HIL.out; omega, by go_num, ?_, HBQ.out.trans (HU3.out.mono HBQ.out.size)⟩
                        have h := own_base_le HV3.out HBQ.out.size
                        rw [HTK.out]
                        rw [INS.out]; exact h
                      case measure => have := HIL.out; simp [intOf]; omega
                · have INS := Lib.hid (HIM.out (by rw [HPR.out, hL, hS]; rfl) (by rw [HSP.out, hS]; rfl))
                  go_upto_region 8 with fail
                  go_quiet (fail)
                  have HQ5 := Lib.hid (show AtA (wq.drewN nq) (ad.add (k * 5)) (pcL q) from (HQA.out.below (belowDrewN nq (Below.refl wq.heap.size wq)) (by rw [add_block]; exact Nat.lt_of_lt_of_le HGA.out HBQ0.out.size)))
                  have hbz := belowDrewN nq HBQ0.out
                  clear e0 e1 e2 e3 HQA HPA
                  generalize wq.drewN nq = Yz at *
                  have hpz := atA_blk (HG2.out.below hbz HG2.out.lt)
                  have e0 := HQ5.out.ser
                  have e1 := HQ5.out.timP
                  have e2 : Yz.cell? ⟨g1, 0, none⟩ = some (.string p.s) := hpz.ser
                  have e3 : Yz.cell? ⟨g1, 1, none⟩ = some (.int .i64 p.t) := hpz.timP
                  clear hpz
                  go_upto_region 10 with fail
                  go_quiet (fail)
                  have hby := belowDrewN nq hbz
                  generalize Yz.drewN nq = Yq at *
                  have HG1 := Lib.hid (HG2.out.below hby HG2.out.lt)
                  have HBQ := Lib.hid (HB2.out.trans (hby.mono HB2.out.size))
                  have HBY2 := Lib.hid hby
                  have RD1 := Lib.hid (show RdP Yq Yq.heap.size (some ad) (M.take k) by
                    have h := rdP_sub (HAT.out.below HBY2.out HGA.out) HGA.out 0 k
                    rw [List.drop_zero, show ad.add (0 * 5) = ad by simp [Addr.add]] at h
                    exact Rd.more (show Rd Yq Y2.heap.size (some ad) (pcs _) from h) HBY2.out.size)
                  have RD2 := Lib.hid (show RdP Yq Yq.heap.size (some (ad.add (k * 5))) (M.drop k) by
                    have h := rdP_sub (HAT.out.below HBY2.out HGA.out) HGA.out k (M.length - k)
                    rw [List.take_of_length_le (by rw [List.length_drop]; exact Nat.le_refl _)] at h
                    exact Rd.more (show Rd Yq Y2.heap.size _ (pcs _) from h) HBY2.out.size)
                  clear hby
                  have hlt := HLT.out
                  go_wp2_with (first
                    | (at_builtin; refine wpList_app _ rfl (.tmp 113) (.tmp 116) _ rfl Yq.heap.size 58 i0 (.agg zPc) 5 48 Tryz.underlying30 hi hz0 hz1 hz2 rfl (by decide) _ 0 [] rfl (OwnP.nilM _ _) Yq.heap.size (some ad) k c (pcs (M.take k)) rfl (tk5 (by omega)) (show Rd Yq Yq.heap.size (some ad) (pcs (M.take k)) from RD1.out) (pcs_oneCell _) (by omega) (by omega) (Nat.le_refl _) ?_
                       intro v1 U1 hap
                       have HU1 := Lib.hid (hap.below (OwnP.nilM _ _) (Nat.le_refl _))
                       have HV1 := Lib.hid (app_takeN hap (by omega))
                       clear hap)
                    | (refine wpList_loadA rfl 58 (.tmp 5) rfl ⟨g1, 0, none⟩ rfl (pcL p) _ (atA_blk (HG1.out.below HU1.out HG1.out.lt)) Tryz.underlying58 rfl (pcLn p) ?_)
                    | (refine wpList_valM rfl _ _ (run_onePc U1 p (.tmp 119) rfl (by kernel_rfl)) ?_)
                    | (at_builtin; refine wpList_app _ rfl (.tmp 118) (.tmp 120) _ rfl Yq.heap.size 58 i0 (.agg zPc) 5 48 Tryz.underlying30 hi hz0 hz1 hz2 rfl (by decide) _ (M.take k).length (pcs (M.take k)) rfl (HV1.out.allocM _) _ (some ⟨U1.heap.size, 0, none⟩) 1 1 (pcs [p]) rfl rfl (by exact rd_new U1 (pcs [p]) 58 (0, 0)) (pcs_oneCell _) (by rw [List.length_take]; omega) (by rw [List.length_take]; omega) (by have := HU1.out.size; simp; omega) ?_
                       intro v2 U2 hap
                       have HU2 := Lib.hid ((HU1.out.alloc HU1.out.size _).trans (hap.below (HV1.out.allocM _) (by have := HU1.out.size; simp; omega)))
                       have HV2 := Lib.hid (OwnP.appM (l := M.take k) (m := [p]) hap)
                       clear hap)
                    | (at_builtin; refine wpList_app _ rfl (.tmp 122) (.tmp 125) _ rfl Yq.heap.size 58 i0 (.agg zPc) 5 48 Tryz.underlying30 hi hz0 hz1 hz2 rfl (by decide) _ (M.take k ++ [p]).length (pcs (M.take k ++ [p])) rfl HV2.out Yq.heap.size (some (ad.add (k * 5))) (M.length - k) (c - k) (pcs (M.drop k)) rfl (dr5 _ _) (Rd.below (show Rd Yq Yq.heap.size _ (pcs (M.drop k)) from RD2.out) HU2.out) (pcs_oneCell _) (by rw [List.length_append, List.length_take]; simp; omega) (by rw [List.length_append, List.length_take]; simp; omega) HU2.out.size ?_
                       intro v3 U3 hap
                       have HU3 := Lib.hid (HU2.out.trans (hap.below HV2.out HU2.out.size))
                       have HV3 := Lib.hid (app_dropN hap)
                       clear hap))
                  go_roundw
                  case rel =>
                    refine ⟨i + 1, by have := HIL.out; omega, by go_num, ?_, HBQ.out.trans (HU3.out.mono HBQ.out.size)⟩
                    have h := own_base_le HV3.out HBQ.out.size
                    rw [HTK.out]
                    rw [INS.out]; exact h
                  case measure => have := HIL.out; simp [intOf]; omega
            · obtain rfl : k = M.length := by omega
              have q1 : ¬ (M.length : Int) < (M.length : Int) := by omega
              have r6 : (M.length : Int) ≤ (c : Int) := by omega
              have r7 : (M.length : Int) ≤ (M.length : Int) := by omega
              have r8 : (0 : Int) ≤ (M.length : Int) := by omega
              have r9 : decide ((M.length : Int) < 0) = false := decide_eq_false (by omega)
              have INS := Lib.hid (show insP p M = M.take M.length ++ [p] ++ ([] : List Pc).drop 0 by rw [ins_end hah]; simp)
              have HBQ0 := Lib.hid hbq
              clear hah hbq hkl hlt
              by_cases hcc : c = M.length
              · subst hcc
                go_upto_region 8 with fail
                go_quiet (fail)
                have hbz := belowDrewN nq HBQ0.out
                generalize wq.drewN nq = Yz at *
                go_upto_region 10 with fail
                go_quiet (fail)
                have hby := belowDrewN nq hbz
                generalize Yz.drewN nq = Yq at *
                have HG1 := Lib.hid (HG2.out.below hby HG2.out.lt)
                have HBQ := Lib.hid (HB2.out.trans (hby.mono HB2.out.size))
                have HBY2 := Lib.hid hby
                have RD1 := Lib.hid (show RdP Yq Yq.heap.size (some ad) (M.take M.length) by
                  have h := rdP_sub (HAT.out.below HBY2.out HGA.out) HGA.out 0 M.length
                  rw [List.drop_zero, show ad.add (0 * 5) = ad by simp [Addr.add]] at h
                  exact Rd.more (show Rd Yq Y2.heap.size (some ad) (pcs _) from h) HBY2.out.size)
                have RD2 := Lib.hid (show RdP Yq Yq.heap.size (some ad) (M.drop M.length) by
                  intro h
                  exact absurd (by rw [List.drop_length]; rfl) h)
                clear hby
                go_wp2_with (first
                  | (at_builtin; refine wpList_app _ rfl (.tmp 113) (.tmp 116) _ rfl Yq.heap.size 58 i0 (.agg zPc) 5 48 Tryz.underlying30 hi hz0 hz1 hz2 rfl (by decide) _ 0 [] rfl (OwnP.nilM _ _) Yq.heap.size (some ad) M.length M.length (pcs (M.take M.length)) rfl (tk5 (by omega)) (show Rd Yq Yq.heap.size (some ad) (pcs (M.take M.length)) from RD1.out) (pcs_oneCell _) (by omega) (by omega) (Nat.le_refl _) ?_
                     intro v1 U1 hap
                     have HU1 := Lib.hid (hap.below (OwnP.nilM _ _) (Nat.le_refl _))
                     have HV1 := Lib.hid (app_takeN hap (by omega))
                     clear hap)
                  | (refine wpList_loadA rfl 58 (.tmp 5) rfl ⟨g1, 0, none⟩ rfl (pcL p) _ (atA_blk (HG1.out.below HU1.out HG1.out.lt)) Tryz.underlying58 rfl (pcLn p) ?_)
                  | (refine wpList_valM rfl _ _ (run_onePc U1 p (.tmp 119) rfl (by kernel_rfl)) ?_)
                  | (at_builtin; refine wpList_app _ rfl (.tmp 118) (.tmp 120) _ rfl Yq.heap.size 58 i0 (.agg zPc) 5 48 Tryz.underlying30 hi hz0 hz1 hz2 rfl (by decide) _ (M.take M.length).length (pcs (M.take M.length)) rfl (HV1.out.allocM _) _ (some ⟨U1.heap.size, 0, none⟩) 1 1 (pcs [p]) rfl rfl (by exact rd_new U1 (pcs [p]) 58 (0, 0)) (pcs_oneCell _) (by rw [List.length_take]; omega) (by rw [List.length_take]; omega) (by have := HU1.out.size; simp; omega) ?_
                     intro v2 U2 hap
                     have HU2 := Lib.hid ((HU1.out.alloc HU1.out.size _).trans (hap.below (HV1.out.allocM _) (by have := HU1.out.size; simp; omega)))
                     have HV2 := Lib.hid (OwnP.appM (l := M.take M.length) (m := [p]) hap)
                     clear hap)
                  | (at_builtin; refine wpList_app _ rfl (.tmp 122) (.tmp 125) _ rfl Yq.heap.size 58 i0 (.agg zPc) 5 48 Tryz.underlying30 hi hz0 hz1 hz2 rfl (by decide) _ (M.take M.length ++ [p]).length (pcs (M.take M.length ++ [p])) rfl HV2.out Yq.heap.size (some ad) 0 0 (pcs (([] : List Pc).drop 0)) rfl rfl (by exact Rd.nil_ _ _ _) (pcs_oneCell _) (by rw [List.length_append, List.length_take]; simp; omega) (by rw [List.length_append, List.length_take]; simp; omega) HU2.out.size ?_
                     intro v3 U3 hap
                     have HU3 := Lib.hid (HU2.out.trans (hap.below HV2.out HU2.out.size))
                     have HV3 := Lib.hid (app_dropN (M := []) (k := 0) hap)
                     clear hap))
                go_roundw
                case rel =>
                  refine ⟨i + 1, by have := HIL.out; omega, by go_num, ?_, HBQ.out.trans (HU3.out.mono HBQ.out.size)⟩
                  have h := own_base_le HV3.out HBQ.out.size
                  rw [HTK.out]
                  rw [INS.out]; exact h
                case measure => have := HIL.out; simp [intOf]; omega
              · have rA : ¬ c = M.length := hcc
                clear hcc
                go_upto_region 8 with fail
                go_quiet (fail)
                have hbz := belowDrewN nq HBQ0.out
                generalize wq.drewN nq = Yz at *
                go_upto_region 10 with fail
                go_quiet (fail)
                have hby := belowDrewN nq hbz
                generalize Yz.drewN nq = Yq at *
                have HG1 := Lib.hid (HG2.out.below hby HG2.out.lt)
                have HBQ := Lib.hid (HB2.out.trans (hby.mono HB2.out.size))
                have HBY2 := Lib.hid hby
                have RD1 := Lib.hid (show RdP Yq Yq.heap.size (some ad) (M.take M.length) by
                  have h := rdP_sub (HAT.out.below HBY2.out HGA.out) HGA.out 0 M.length
                  rw [List.drop_zero, show ad.add (0 * 5) = ad by simp [Addr.add]] at h
                  exact Rd.more (show Rd Yq Y2.heap.size (some ad) (pcs _) from h) HBY2.out.size)
                have RD2 := Lib.hid (show RdP Yq Yq.heap.size (some (ad.add (M.length * 5))) (M.drop M.length) by
                  have h := rdP_sub (HAT.out.below HBY2.out HGA.out) HGA.out M.length (M.length - M.length)
                  rw [List.take_of_length_le (by rw [List.length_drop]; exact Nat.le_refl _)] at h
                  exact Rd.more (show Rd Yq Y2.heap.size _ (pcs _) from h) HBY2.out.size)
                clear hby
                go_wp2_with (first
                  | (at_builtin; refine wpList_app _ rfl (.tmp 113) (.tmp 116) _ rfl Yq.heap.size 58 i0 (.agg zPc) 5 48 Tryz.underlying30 hi hz0 hz1 hz2 rfl (by decide) _ 0 [] rfl (OwnP.nilM _ _) Yq.heap.size (some ad) M.length c (pcs (M.take M.length)) rfl (tk5 (by omega)) (show Rd Yq Yq.heap.size (some ad) (pcs (M.take M.length)) from RD1.out) (pcs_oneCell _) (by omega) (by omega) (Nat.le_refl _) ?_
                     intro v1 U1 hap
                     have HU1 := Lib.hid (hap.below (OwnP.nilM _ _) (Nat.le_refl _))
                     have HV1 := Lib.hid (app_takeN hap (by omega))
                     clear hap)
                  | (refine wpList_loadA rfl 58 (.tmp 5) rfl ⟨g1, 0, none⟩ rfl (pcL p) _ (atA_blk (HG1.out.below HU1.out HG1.out.lt)) Tryz.underlying58 rfl (pcLn p) ?_)
                  | (refine wpList_valM rfl _ _ (run_onePc U1 p (.tmp 119) rfl (by kernel_rfl)) ?_)
                  | (at_builtin; refine wpList_app _ rfl (.tmp 118) (.tmp 120) _ rfl Yq.heap.size 58 i0 (.agg zPc) 5 48 Tryz.underlying30 hi hz0 hz1 hz2 rfl (by decide) _ (M.take M.length).length (pcs (M.take M.length)) rfl (HV1.out.allocM _) _ (some ⟨U1.heap.size, 0, none⟩) 1 1 (pcs [p]) rfl rfl (by exact rd_new U1 (pcs [p]) 58 (0, 0)) (pcs_oneCell _) (by rw [List.length_take]; omega) (by rw [List.length_take]; omega) (by have := HU1.out.size; simp; omega) ?_
                     intro v2 U2 hap
                     have HU2 := Lib.hid ((HU1.out.alloc HU1.out.size _).trans (hap.below (HV1.out.allocM _) (by have := HU1.out.size; simp; omega)))
                     have HV2 := Lib.hid (OwnP.appM (l := M.take M.length) (m := [p]) hap)
                     clear hap)
                  | (at_builtin; refine wpList_app _ rfl (.tmp 122) (.tmp 125) _ rfl Yq.heap.size 58 i0 (.agg zPc) 5 48 Tryz.underlying30 hi hz0 hz1 hz2 rfl (by decide) _ (M.take M.length ++ [p]).length (pcs (M.take M.length ++ [p])) rfl HV2.out Yq.heap.size (some (ad.add (M.length * 5))) 0 (c - M.length) (pcs (([] : List Pc).drop 0)) rfl rfl (by exact Rd.nil_ _ _ _) (pcs_oneCell _) (by rw [List.length_append, List.length_take]; simp; omega) (by rw [List.length_append, List.length_take]; simp; omega) HU2.out.size ?_
                     intro v3 U3 hap
                     have HU3 := Lib.hid (HU2.out.trans (hap.below HV2.out HU2.out.size))
                     have HV3 := Lib.hid (app_dropN (M := []) (k := 0) hap)
                     clear hap))
                go_roundw
                case rel =>
                  refine ⟨i + 1, by have := HIL.out; omega, by go_num, ?_, HBQ.out.trans (HU3.out.mono HBQ.out.size)⟩
                  have h := own_base_le HV3.out HBQ.out.size
                  rw [HTK.out]
                  rw [INS.out]; exact h
                case measure => have := HIL.out; simp [intOf]; omega
      · rw [if_neg hck] at htk
        have HTK := Lib.hid htk
        have hckf : ckP p = false := by simpa using hck
        rw [hckf] at HRC
        clear htk hck hlt hckf
        go_wp2_with (first
          | (refine wpList_loadA rfl 58 (.tmp 5) rfl ⟨g1, 0, none⟩ rfl (pcL p) _ (atA_blk HG0.out) Tryz.underlying58 rfl (pcLn p) ?_)
          | (go_at_call 19; (refine (HRC.out Y).mono ?_); rintro e Y2 ⟨rfl, hb⟩; have HYY := Lib.hid hb; clear hb))
        go_roundw
        case rel => exact ⟨i + 1, by have := HIL.out; omega, by go_num, by rw [HTK.out]; exact HOY.out.next HYY.out, HBY.out.trans (HYY.out.mono HBY.out.size)⟩
        case measure => have := HIL.out; simp [intOf]; omega
    · obtain rfl : i = l.length := by omega
      have q1 : ¬ (l.length : Int) < (l.length : Int) := by omega
      rw [List.take_length] at ho
      have HO := Lib.hid ho
      have HB := Lib.hid hb
      clear ho hb
      go_wp2_with fail
      go_ret
      exact ⟨_, rfl, HO.out, HB.out⟩
end Go.Proofs.YtlkcpbmbhbogoaaGreatDoor
