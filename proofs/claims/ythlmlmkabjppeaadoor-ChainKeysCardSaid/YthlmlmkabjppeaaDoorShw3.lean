/- Contract: a block. -/
import Derived.Test.YthlmlmkabjppeaaDoorShw2
import Derived.Laws.CopyOwn
import Derived.Deep.MidRow
namespace Go.Proofs.YthlmlmkabjppeaaDoor
open Go.RowKit
set_option linter.unusedVariables false
def z8w : Array Value := vw (List.replicate 8 0)
theorem zero_8 (w : World) : (zeroValue 77).run Tryd.prog w = .ok (.agg z8w) w := by kernel_rfl
theorem len8 {l : List Nat} (h : l.length = 8) : ∃ a b c d e f g i, l = [a, b, c, d, e, f, g, i] := by
  match l, h with
  | [a, b, c, d, e, f, g, i], _ => exact ⟨a, b, c, d, e, f, g, i, rfl⟩
theorem rnd_lt (k w : Nat) {v : List Nat} (h : ∀ c ∈ v, c < 4294967296) : ∀ c ∈ rnd k w v, c < 4294967296 := by
  have hg : ∀ i, v.getD i 0 < 4294967296 := fun i => by
    rw [List.getD_eq_getElem?_getD]
    rcases Nat.lt_or_ge i v.length with h1 | h1
    · rw [List.getElem?_eq_getElem h1]; exact h _ (List.getElem_mem _)
    · rw [List.getElem?_eq_none h1]; decide
  intro c hc
  simp only [rnd, List.mem_cons, List.not_mem_nil, or_false] at hc
  rcases hc with rfl | rfl | rfl | rfl | rfl | rfl | rfl | rfl
  · exact ad_lt _ _
  · exact hg _
  · exact hg _
  · exact hg _
  · exact ad_lt _ _
  · exact hg _
  · exact hg _
  · exact hg _
theorem rds_lt (l : List Nat) {h : List Nat} (hh : ∀ c ∈ h, c < 4294967296) (n : Nat) : ∀ c ∈ rds l h n, c < 4294967296 := by
  induction n with
  | zero => exact hh
  | succ n ih => exact rnd_lt _ _ ih
theorem not32 (x : Nat) (h : x < 4294967296) : bits BinOp.xor .u32 (if IntKind.u32.signed = true then -1 else IntKind.u32.max) (x : Int) = ((4294967295 - x : Nat) : Int) := by
  have e : (if IntKind.u32.signed = true then (-1 : Int) else IntKind.u32.max) = ((4294967295 : Nat) : Int) := by decide
  rw [e, u32_xor_nat _ _ (by decide) h]
  have h2 : 4294967295 ^^^ x = 4294967295 - x := by
    apply Nat.eq_of_testBit_eq
    intro i
    have h3 := Nat.testBit_two_pow_sub_succ (n := 32) (x := x) (by omega) i
    have h4 := Nat.testBit_two_pow_sub_one 32 i
    rw [show (2 : Nat) ^ 32 - (x + 1) = 4294967295 - x by omega] at h3
    rw [show (2 : Nat) ^ 32 - 1 = 4294967295 by decide] at h4
    rw [h3, Nat.testBit_xor, h4]
    by_cases hi : i < 32
    · simp [hi]
    · have h5 : x.testBit i = false := Nat.testBit_lt_two_pow (Nat.lt_of_lt_of_le h (show (4294967296 : Nat) ≤ 2 ^ i from Nat.pow_le_pow_right (n := 2) (i := 32) (j := i) (by decide) (by omega)))
      simp [hi, h5]
  rw [h2]
theorem blk3w (w : World) (a b c : Obj) : (((w.alloc a).alloc b).alloc c).heap[w.heap.size + 1 + 1]? = some c := by
  have h := heap_alloc_new ((w.alloc a).alloc b) c
  have e : ((w.alloc a).alloc b).heap.size = w.heap.size + 1 + 1 := by simp
  rw [e] at h
  exact h
/-- the blocks of a step -/
structure Stp (w W : World) (h v : List Nat) : Prop where
  bel : Below w.heap.size w W
  hA : Blk W w.heap.size 77 (vw h)
  oA : Blk W (w.heap.size + 1) 77 z8w
  vA : Blk W (w.heap.size + 1 + 1) 77 (vw v)
theorem Stp.next {w W W' : World} {h v : List Nat} (s : Stp w W h v) (hb : Below W.heap.size W W') : Stp w W' h v :=
  ⟨s.bel.trans (hb.mono s.bel.size), s.hA.below hb s.hA.lt, s.oA.below hb s.oA.lt, s.vA.below hb s.vA.lt⟩
theorem Stp.set {w W : World} {h v : List Nat} (s : Stp w W h v) (i n : Nat) : Stp w (W.setCell ⟨w.heap.size + 1 + 1, i, none⟩ (.int .u32 (n : Nat))) h (v.set i n) :=
  ⟨s.bel.setCell (by simp; omega) _, s.hA.far (p := ⟨w.heap.size + 1 + 1, i, none⟩) (by simp; omega) _, s.oA.far (p := ⟨w.heap.size + 1 + 1, i, none⟩) (by simp) _, by rw [← vw_set]; exact s.vA.set_ i _⟩
theorem Stp.row {w W : World} {h v : List Nat} (s : Stp w W h v) (u : List Nat) : Stp w (W.setRow (w.heap.size + 1 + 1) (vw u)) h u :=
  ⟨s.bel.trans ⟨rfl, rfl, rfl, by simp [World.setRow], fun i hi => setRow_other W _ i _ (by omega)⟩, (setRow_other W _ _ _ (by omega)).trans s.hA, (setRow_other W _ _ _ (by omega)).trans s.oA, setRow_heap W _ _ _ _ (0, 0) s.vA⟩
theorem Stp.seth {w W : World} {h v : List Nat} (s : Stp w W h v) (i n : Nat) : Stp w (W.setCell ⟨w.heap.size, i, none⟩ (.int .u32 (n : Nat))) (h.set i n) v :=
  ⟨s.bel.setCell (Nat.le_refl _) _, by rw [← vw_set]; exact s.hA.set_ i _, s.oA.far (p := ⟨w.heap.size, i, none⟩) (by simp) _, s.vA.far (p := ⟨w.heap.size, i, none⟩) (by simp; omega) _⟩
def hTo (u h : List Nat) (k : Nat) : List Nat := u.take k ++ h.drop k
theorem hTo_set (u h : List Nat) (k : Nat) (h1 : k < u.length) (h2 : u.length = h.length) : (hTo u h k).set k (u.getD k 0) = hTo u h (k + 1) := by
  apply List.ext_getElem?
  intro i
  unfold hTo
  rw [List.getElem?_set]
  simp only [List.length_append, List.length_take, List.length_drop]
  by_cases h : k = i
  · subst h
    rw [if_pos rfl, if_pos (by omega), List.getElem?_append_left (by rw [List.length_take]; omega), List.getElem?_take_of_lt (by omega), List.getD_eq_getElem?_getD, List.getElem?_eq_getElem h1]
    rfl
  · rw [if_neg h]
    by_cases h3 : i < k
    · rw [List.getElem?_append_left (by rw [List.length_take]; omega), List.getElem?_append_left (by rw [List.length_take]; omega), List.getElem?_take_of_lt h3, List.getElem?_take_of_lt (by omega)]
    · rw [List.getElem?_append_right (by rw [List.length_take]; omega), List.getElem?_append_right (by rw [List.length_take]; omega), List.getElem?_drop, List.getElem?_drop, List.length_take, List.length_take]
      congr 1; omega
theorem hTo_at (u h : List Nat) (k : Nat) (h1 : k < u.length) (h2 : u.length = h.length) : (hTo u h k).getD k 0 = h.getD k 0 := by
  unfold hTo
  rw [List.getD_eq_getElem?_getD, List.getElem?_append_right (by rw [List.length_take]; omega), List.getElem?_drop, List.length_take, List.getD_eq_getElem?_getD]
  congr 2; omega
theorem hTo_len (u h : List Nat) (k : Nat) (h1 : k ≤ u.length) (h2 : u.length = h.length) : (hTo u h k).length = h.length := by simp [hTo]; omega
theorem blk_at (l h : List Nat) (i : Nat) (hi : i < 8) : (blk l h).getD i 0 = ad (h.getD i 0) ((rds l h 64).getD i 0) := by simp [blk, List.getD_eq_getElem?_getD, hi]
theorem u32_info : ∃ i, Tryd.prog.info? 69 = some i ∧ i.size = 1 := ⟨_, rfl, by kernel_rfl⟩
theorem run_index_w (l : List Nat) (m : Nat) (hl : l.length = 64) (hm : m < 64) (w : World) : (Instr.index 86 (.agg (vw l)) (.int .i64 (m : Int))).run Tryd.prog w = .ok (.int .u32 (l.getD m 0 : Nat)) w := by
  obtain ⟨i, hi, hs⟩ := u32_info
  have hu := Tryd.underlying86
  have hu8 := Tryd.underlying69
  have hv := vw_at l m (by omega)
  have hagg : (isAgg 69).run Tryd.prog w = .ok false w := by
    unfold isAgg
    rw [Sem.run_bind, run_underlying hu8 w]
    rfl
  simp [Instr.index, asIntOf, run_underlying hu, sizeOf, typeInfo, hi, hs, part, Sem.run_bind, hagg, hv, hm]
set_option maxRecDepth 100000 in
set_option maxHeartbeats 2000000 in
theorem step_c (B : Nat) (ad0 : Addr) (ca : Nat) (l h : List Nat) (w : World) (hl : ∀ c ∈ l, c < 256) (hr : Rd w B (some ad0) (byt l)) (hB : B ≤ w.heap.size) (h64 : l.length = 64) (hca : 64 ≤ ca)
    (hh : h.length = 8) (hhl : ∀ c ∈ h, c < 4294967296) (ht : ∀ i, i < 64 → w.cell? ⟨0, i, none⟩ = some (.int .u32 (kc.getD i 0 : Nat))) (hw : 0 < w.heap.size) :
    Calls Tryd.prog 48 #[.agg (vw h), .slice (some ad0) 64 ca] w fun e w' => e = .returned (.agg (vw (blk l h))) ∧ Below w.heap.size w w' := by
  have zf := zero_8
  have zs1 : z8w.size = 8 := by rfl
  have zs2 : ¬ z8w = #[] := by intro h; have := congrArg Array.size h; rw [zs1] at this; cases this
  have HL := Lib.hid hl
  have HR := Lib.hid hr
  have HT := Lib.hid ht
  have HHL := Lib.hid hhl
  have HIH := Lib.hid (show (Tryd.prog.info? 77).map (·.size) = some (vw h).size by rw [vw_size, hh]; kernel_rfl)
  have HZH := Lib.hid (show z8w.size = (vw h).size by rw [vw_size, hh]; rfl)
  clear hl hr ht hhl
  go_enter Tryd.func48, Tryd.ntmps48
  go_upto_region 2 with (first
    | (refine Go.Great.wpList_boxTo rfl 77 (.tmp 0) rfl (some 2) rfl w.heap.size rfl (vw h) rfl ?_)
    | (refine wpList_load_row rfl 77 (.tmp 2) rfl w.heap.size rfl 77 (vw h) (0, 0) _ (by exact (show Blk _ _ _ _ from ((Blk.new w _ _).alloc _))) Tryd.underlying77 rfl HIH.out ?_)
    | (refine wpList_store_rowTo rfl 77 (.tmp 5) (.tmp 13) rfl rfl (w.heap.size + 1 + 1) (vw h) rfl rfl 77 z8w (by exact blk3w _ _ _ _) HIH.out HZH.out (vw_one _) ?_))
  obtain ⟨Z, hZ⟩ : ∃ Z, Z = (((w.alloc (Obj.cells (vw h) 77)).alloc (Obj.cells z8w 77)).alloc (Obj.cells z8w 77)).setRow (w.heap.size + 1 + 1) (vw h) := ⟨_, rfl⟩
  have hs : Stp w Z h h := by
    rw [hZ]
    refine ⟨?_, ?_, ?_, ?_⟩
    · exact ((((Below.refl _ _).alloc (Nat.le_refl _) _).alloc (by simp) _).alloc (by simp; omega) _).trans ⟨rfl, rfl, rfl, by simp [World.setRow], fun i hi => setRow_other _ _ i _ (by omega)⟩
    · exact (setRow_other _ _ _ _ (by omega)).trans (((Blk.new w _ _).alloc _).alloc _)
    · have h1 := Blk.new (w.alloc (Obj.cells (vw h) 77)) 77 z8w
      rw [show (w.alloc (Obj.cells (vw h) 77)).heap.size = w.heap.size + 1 by simp] at h1
      exact (setRow_other _ _ _ _ (by omega)).trans (h1.alloc _)
    · exact setRow_heap _ _ _ _ _ (0, 0) (blk3w _ _ _ _)
  rw [← hZ]
  clear hZ zf zs1 zs2
  have HS := Lib.hid hs
  clear hs
  have HSC := Lib.hid (fun W (hW : Below w.heap.size w W) => schedule_c B ad0 ca l W HL.out (HR.out.below (hW.mono hB)) (Nat.le_trans hB hW.size) h64 hca)
  go_wp2_with (go_at_call 55; (refine (HSC.out _ HS.out.bel).mono ?_); rintro e w1 ⟨rfl, hb⟩; have HS1 := Lib.hid (HS.out.next hb); clear hb)
  go_loopw [16] (fun i wr => ∃ k : Nat, k ≤ 64 ∧ i = .int .i64 k ∧ Stp w wr h (rds l h k)) (fun i _ => 64 - (intOf i).toNat)
  case atStart => exact ⟨0, by omega, rfl, HS1.out⟩
  case round =>
    rename World => wr
    obtain ⟨k, hk, rfl, hs⟩ := hrel
    have HK := Lib.hid hs
    clear hs
    by_cases hlt : k < 64
    · have hidx := run_index_w (sch l 64) k (sch_len l 64) hlt
      have hwl := sch_at_lt HL.out 64 k
      have tk := HK.out.bel.cell (p := ⟨0, k, none⟩) hw |>.trans (HT.out k hlt)
      have hkl : kc.getD k 0 < 4294967296 := by
        rw [List.getD_eq_getElem?_getD, List.getElem?_eq_getElem (show k < kc.length from hlt)]
        exact (show ∀ c ∈ kc, c < 4294967296 by decide) _ (List.getElem_mem _)
      have hst : rds l h (k + 1) = rnd (kc.getD k 0) ((sch l 64).getD k 0) (rds l h k) := rfl
      have HST := Lib.hid hst
      have hvl := rds_lt l HHL.out k
      obtain ⟨v0, v1, v2, v3, v4, v5, v6, v7, hv⟩ := len8 (rds_len (l := l) hh k)
      rw [hv] at HK HST hvl
      clear hst hv
      generalize (sch l 64).getD k 0 = ww at *
      generalize kc.getD k 0 = kk at *
      have e0 : wr.cell? ⟨w.heap.size + 1 + 1, 0, none⟩ = some (.int .u32 (v0 : Nat)) := HK.out.vA.cell 0
      have e1 : wr.cell? ⟨w.heap.size + 1 + 1, 1, none⟩ = some (.int .u32 (v1 : Nat)) := HK.out.vA.cell 1
      have e2 : wr.cell? ⟨w.heap.size + 1 + 1, 2, none⟩ = some (.int .u32 (v2 : Nat)) := HK.out.vA.cell 2
      have e4 : wr.cell? ⟨w.heap.size + 1 + 1, 4, none⟩ = some (.int .u32 (v4 : Nat)) := HK.out.vA.cell 4
      have e5 : wr.cell? ⟨w.heap.size + 1 + 1, 5, none⟩ = some (.int .u32 (v5 : Nat)) := HK.out.vA.cell 5
      have e6 : wr.cell? ⟨w.heap.size + 1 + 1, 6, none⟩ = some (.int .u32 (v6 : Nat)) := HK.out.vA.cell 6
      have e7 : wr.cell? ⟨w.heap.size + 1 + 1, 7, none⟩ = some (.int .u32 (v7 : Nat)) := HK.out.vA.cell 7
      have l0 := hvl v0 (by simp)
      have l1 := hvl v1 (by simp)
      have l2 := hvl v2 (by simp)
      have l3 := hvl v3 (by simp)
      have l4 := hvl v4 (by simp)
      have l5 := hvl v5 (by simp)
      have l6 := hvl v6 (by simp)
      have l7 := hvl v7 (by simp)
      clear hvl
      have TE := Lib.hid (fun W => turnE_c v4 W l4)
      have TA := Lib.hid (fun W => turnA_c v0 W l0)
      go_wp2_with fail
      go_quiet (fail)
      go_wp2_with fail
      have nx := not32 v4 l4
      have f1 := u32_and_nat v4 v5 l4 l5
      have f2 := u32_and_nat (4294967295 - v4) v6 (by omega) l6
      have f3 : bits BinOp.xor .u32 ((v4 &&& v5 : Nat) : Int) (((4294967295 - v4) &&& v6 : Nat) : Int) = ((chf v4 v5 v6 : Nat) : Int) := u32_xor_nat _ _ (and_w l4) (and_w (by omega))
      have f4 := u32_and_nat v0 v1 l0 l1
      have f5 := u32_and_nat v0 v2 l0 l2
      have f6 := u32_and_nat v1 v2 l1 l2
      have f7 : bits BinOp.xor .u32 ((v0 &&& v1 : Nat) : Int) ((v0 &&& v2 : Nat) : Int) = (((v0 &&& v1) ^^^ (v0 &&& v2) : Nat) : Int) := u32_xor_nat _ _ (and_w l0) (and_w l0)
      have f8 : bits BinOp.xor .u32 (((v0 &&& v1) ^^^ (v0 &&& v2) : Nat) : Int) ((v1 &&& v2 : Nat) : Int) = ((maj v0 v1 v2 : Nat) : Int) := u32_xor_nat _ _ (xor_w (and_w l0) (and_w l0)) (and_w l1)
      have g1 := wrap32_add v7 (b1 v4)
      have g2 := wrap32_add (ad v7 (b1 v4)) (chf v4 v5 v6)
      have g3 := wrap32_add (ad (ad v7 (b1 v4)) (chf v4 v5 v6)) kk
      have g4 := wrap32_add (ad (ad (ad v7 (b1 v4)) (chf v4 v5 v6)) kk) ww
      have g5 := wrap32_add (b0 v0) (maj v0 v1 v2)
      have hrnd : rnd kk ww [v0, v1, v2, v3, v4, v5, v6, v7] = [ad (ad (ad (ad (ad v7 (b1 v4)) (chf v4 v5 v6)) kk) ww) (ad (b0 v0) (maj v0 v1 v2)), v0, v1, v2, ad v3 (ad (ad (ad (ad v7 (b1 v4)) (chf v4 v5 v6)) kk) ww), v4, v5, v6] := rfl
      rw [hrnd] at HST
      clear hrnd
      generalize ad (ad (ad (ad v7 (b1 v4)) (chf v4 v5 v6)) kk) ww = one at *
      generalize ad (b0 v0) (maj v0 v1 v2) = two at *
      generalize ad (ad (ad v7 (b1 v4)) (chf v4 v5 v6)) kk = o3 at *
      generalize ad (ad v7 (b1 v4)) (chf v4 v5 v6) = o2 at *
      generalize ad v7 (b1 v4) = o1 at *
      generalize maj v0 v1 v2 = mj at *
      generalize chf v4 v5 v6 = cf at *
      generalize b1 v4 = bE at *
      generalize b0 v0 = bA at *
      generalize (4294967295 - v4) &&& v6 = q2 at *
      generalize 4294967295 - v4 = q1 at *
      generalize (v0 &&& v1) ^^^ (v0 &&& v2) = q6 at *
      generalize v0 &&& v1 = q3 at *
      generalize v0 &&& v2 = q4 at *
      generalize v1 &&& v2 = q5 at *
      generalize v4 &&& v5 = q0 at *
      refine wp_region_quiet_lit (by kernel_rfl) (by kernel_rfl) ?_
      repeat (go_big_quiet_step ((first
        | (go_at_call 56; exact (TE.out _).mono fun _ _ h => ⟨h.1, _, h.2.symm⟩))))
      refine wpQuiet_nil ?_
      rintro _ ⟨n6, rfl⟩
      go_wp2_with fail
      refine wp_region_quiet_lit (by kernel_rfl) (by kernel_rfl) ?_
      repeat (go_big_quiet_step ((first
        | (go_at_call 56; exact (TA.out _).mono fun _ _ h => ⟨h.1, _, h.2.symm⟩))))
      refine wpQuiet_nil ?_
      rintro _ ⟨n7, rfl⟩
      go_wp2_with fail
      have hs7 : Stp w (((wr.drewN nq).drewN n6).drewN n7) h [v0, v1, v2, v3, v4, v5, v6, v7] := ((HK.out.next (belowDrewN nq (Below.refl _ _))).next (belowDrewN n6 (Below.refl _ _))).next (belowDrewN n7 (Below.refl _ _))
      have HS7 := Lib.hid hs7
      clear hs7
      generalize ((wr.drewN nq).drewN n6).drewN n7 = X at *
      have hcopy : ∃ X2, (Builtin.copy_ #[70, 70] 3 #[.slice (some ⟨w.heap.size + 1 + 1, 1, none⟩) 7 7, .slice (some ⟨w.heap.size + 1 + 1, 0, none⟩) 7 8]).run Tryd.prog X.drew = .ok (.int .i64 7) X2 ∧ Stp w X2 h [v0, v0, v1, v2, v3, v4, v5, v6] := by
        have hs := HS7.out.next (Below.refl _ _).drew
        have h1 := run_copy_row (P := Tryd.prog) X.drew 70 70 3 69 (w.heap.size + 1 + 1) 1 7 7 ⟨w.heap.size + 1 + 1, 0, none⟩ 7 8 (vw [v0, v1, v2, v3, v4, v5, v6, v7]) 77 (w32 [v0, v1, v2, v3, v4, v5, v6]) Tryd.underlying70 (by kernel_rfl) hs.vA rfl (fun j u hu => by
          rw [Addr.add_mid, Nat.zero_add, hs.vA.cell j]
          have hj : j < 7 := by
            rcases Nat.lt_or_ge j 7 with h1 | h1
            · exact h1
            · rw [List.getElem?_eq_none (by rw [w32_len]; exact h1)] at hu; cases hu
          rw [← hu]
          have hj3 : j = 0 ∨ j = 1 ∨ j = 2 ∨ j = 3 ∨ j = 4 ∨ j = 5 ∨ j = 6 := by omega
          rcases hj3 with rfl | rfl | rfl | rfl | rfl | rfl | rfl <;> rfl) (by simp [vw_size, w32_len]) (fun u hu => by
          obtain ⟨n, _, rfl⟩ := List.mem_map.1 hu
          rfl)
        exact ⟨_, h1, hs.row [v0, v0, v1, v2, v3, v4, v5, v6]⟩
      obtain ⟨X2, hcopy, hs2⟩ := hcopy
      have HS8 := Lib.hid hs2
      have d4 : X2.cell? ⟨w.heap.size + 1 + 1, 4, none⟩ = some (.int .u32 (v3 : Nat)) := hs2.vA.cell 4
      have d0 : X2.cell? ⟨w.heap.size + 1 + 1, 0, none⟩ = some (.int .u32 (v0 : Nat)) := hs2.vA.cell 0
      have fr0 : X2.frozen? ⟨w.heap.size + 1 + 1, 0, none⟩ = false := hs2.vA.free 0
      have fr4 : X2.frozen? ⟨w.heap.size + 1 + 1, 4, none⟩ = false := hs2.vA.free 4
      have g6 := wrap32_add one two
      have g7 := wrap32_add v3 one
      clear hs2
      refine wp_region_still_tail 2 (by kernel_rfl) (by kernel_rfl) ?_
      simp only [List.take_succ_cons, List.take_zero, List.drop_succ_cons, List.drop_zero]
      repeat still_step
      try refine wpStill_nil ?_
      change wpList _ _ _ _ _ X.drew
      go_wp2_with fail
      go_roundw
      case rel => exact ⟨k + 1, by omega, by go_num, by rw [HST.out]; exact (HS8.out.set 0 (ad one two)).set 4 (ad v3 one)⟩
      case measure => simp [intOf]; omega
    · obtain rfl : k = 64 := by omega
      go_wp2_with fail
      have hrl := rds_len (l := l) hh 64
      have hrlt := rds_lt l HHL.out 64
      have hbl := blk_len l h
      go_loopw [77] (fun i wx => ∃ k : Nat, k ≤ 8 ∧ i = .int .i64 k ∧ Stp w wx (hTo (blk l h) h k) (rds l h 64)) (fun i _ => 8 - (intOf i).toNat)
      case atStart => exact ⟨0, by omega, rfl, HK.out⟩
      case round =>
        rename World => wx
        obtain ⟨k, hk, rfl, hs⟩ := hrel
        have HX := Lib.hid hs
        clear hs HK
        by_cases hlt : k < 8
        · have e0 : wx.cell? ⟨w.heap.size, k, none⟩ = some (.int .u32 (h.getD k 0 : Nat)) := by
            rw [← hTo_at (blk l h) h k (by omega) (by omega)]
            exact (HX.out.hA.cell k).trans (vw_at _ k (by rw [hTo_len _ _ _ (by omega) (by omega)]; omega))
          have e1 : wx.cell? ⟨w.heap.size + 1 + 1, k, none⟩ = some (.int .u32 ((rds l h 64).getD k 0 : Nat)) := (HX.out.vA.cell k).trans (vw_at _ k (by omega))
          have fr : wx.frozen? ⟨w.heap.size, k, none⟩ = false := HX.out.hA.free k
          have g1 := wrap32_add (h.getD k 0) ((rds l h 64).getD k 0)
          have hset := hTo_set (blk l h) h k (by omega) (by omega)
          rw [blk_at l h k hlt] at hset
          have HST := Lib.hid hset
          clear hset
          generalize h.getD k 0 = x0 at *
          generalize (rds l h 64).getD k 0 = x1 at *
          generalize ad x0 x1 = x2 at *
          have kk8 : (k : Int) < 8 := by omega
          go_wp2_with fail
          refine wp_region_still_tail 8 (by kernel_rfl) (by kernel_rfl) ?_
          simp only [List.take_succ_cons, List.take_zero, List.drop_succ_cons, List.drop_zero]
          repeat still_step
          try refine wpStill_nil ?_
          change wpList _ _ _ _ _ wx.drew
          go_wp2_with fail
          go_roundw
          case rel =>
            have hfin : Stp w (wx.setCell ⟨w.heap.size, k, none⟩ (.int .u32 (x2 : Nat))).drew (hTo (blk l h) h (k + 1)) (rds l h 64) := by rw [← HST.out]; exact (HX.out.next (Below.refl _ _).drew).seth k x2
            exact ⟨_, .int .i64 ((k + 1 : Nat) : Int), _, _, _, _, _, _, _, _, _, _, _, ⟨k + 1, by omega, rfl, hfin⟩, rfl⟩
          case measure => simp [intOf]; omega
        · obtain rfl : k = 8 := by omega
          have hs := HX.out
          rw [show hTo (blk l h) h 8 = blk l h by unfold hTo; rw [List.take_of_length_le (by omega), List.drop_of_length_le (by omega), List.append_nil]] at hs
          have HE := Lib.hid hs
          have HI := Lib.hid (show (Tryd.prog.info? 77).map (·.size) = some (vw (blk l h)).size by rw [vw_size, hbl]; kernel_rfl)
          have HV := Lib.hid (show z8w.size = (vw (blk l h)).size by rw [vw_size, hbl]; rfl)
          clear hs HX
          go_wp2_with (first
            | (refine wpList_load_row rfl 77 (.tmp 2) rfl w.heap.size rfl 77 (vw (blk l h)) (0, 0) _ HE.out.hA Tryd.underlying77 rfl HI.out ?_)
            | (refine wpList_store_rowTo rfl 77 (.tmp 4) (.tmp 89) rfl rfl (w.heap.size + 1) (vw (blk l h)) rfl rfl 77 z8w HE.out.oA HI.out HV.out (vw_one _) ?_))
          refine bodyPost_ret (results_cell_row rfl _ _ (w.heap.size + 1) 77 (vw (blk l h)) (0, 0) _ rfl (setRow_heap wx (w.heap.size + 1) z8w _ 77 (0, 0) HE.out.oA) Tryd.underlying77 rfl HI.out) rfl ?_
          exact ⟨rfl, HE.out.bel.trans ⟨rfl, rfl, rfl, by simp [World.setRow], fun i hi => setRow_other wx (w.heap.size + 1) i _ (by omega)⟩⟩
end Go.Proofs.YthlmlmkabjppeaaDoor
