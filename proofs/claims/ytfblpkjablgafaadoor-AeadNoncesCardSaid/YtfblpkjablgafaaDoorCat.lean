/- Contracts: slices.Grow, slices.Concat of any parts. -/
import Derived.Test.YtfblpkjablgafaaDoorBas2
import Derived.Lib.AppendZerosOnto
import Derived.WalkKit
namespace Go.Proofs.YtfblpkjablgafaaDoor
open Go.RowKit
set_option linter.unusedVariables false
set_option linter.unusedSimpArgs false
theorem zc_size (k : Nat) : (Builtin.zeroCells #[Value.int .u8 0] k).size = k := by simp [Builtin.zeroCells]
set_option maxRecDepth 100000 in
set_option maxHeartbeats 1000000 in
theorem grow_c (n : Nat) (w : World) (h0 : 0 < n) (h1 : n ≤ 1000000) : Calls Tryd.prog 52 #[.slice none 0 0, .int .i64 n] w (Gives [] w) := by
  obtain ⟨i0, hi, hz0, hz1, hz2⟩ := info_parts byteInfo
  have hrz : ∀ ty, (Builtin.append_ #[26, 3] ty #[.slice none 0 0, .int .i64 (n : Nat)]).run Tryd.prog w =
      .ok (.slice (some ⟨w.heap.size, 0, none⟩) n (grownCap w n 0 5)) (w.drew.alloc (.cells (#[] ++ Builtin.zeroCells #[Value.int .u8 0] n ++ Builtin.zeroCells #[Value.int .u8 0] (grownCap w n 0 5 - n)) 5)) := fun ty => by
    have h := Lib.run_append_grow_zeros (P := Tryd.prog) w 26 3 ty 5 i0 (.int .u8 0) .i64 .i64 Tryd.underlying26 Tryd.underlying3 hi hz0 none 0 0 [] (run_firstCells_none w.drew i0.size 0 0 0) n h0 (by rw [hz1]; decide) (by omega) (by omega) (by rw [hz2]; omega) (by rw [Nat.zero_add]; exact growslice_fits h0 (by rw [hz2]; omega))
    rw [Nat.zero_add] at h
    exact h
  have hGn : n ≤ grownCap w n 0 5 := grownCap_ge w _ _ _
  have hGm : grownCap w n 0 5 ≤ maxLen := grownCap_le_maxLen w n 0 5 (by unfold maxLen; omega)
  generalize grownCap w n 0 5 = G at *
  have hG63 : G ≤ 9223372036854775807 := by unfold maxLen at hGm; omega
  have HM := Lib.hid hGm
  have HN := Lib.hid hGn
  clear hGm
  go_enter Tryd.func52, Tryd.ntmps52
  go_wp2_with (at_builtin; refine Lib.wpList_append_run _ rfl _ _ _ _ rfl _ _ rfl rfl _ _ (hrz _) ?_)
  all_goals
    go_ret
    refine ⟨_, rfl, ⟨rfl, .inr ⟨w.heap.size, G, _, rfl, Nat.le_refl _, heap_alloc_new w.drew _, Nat.zero_le _, HM.out, ?_, rfl⟩⟩, ((Below.refl _ _).drew).alloc (Nat.le_refl _) _⟩
    have := HN.out
    simp [zc_size]; omega
set_option maxRecDepth 100000 in
set_option maxHeartbeats 1000000 in
theorem grow0_c (w : World) : Calls Tryd.prog 52 #[.slice none 0 0, .int .i64 0] w (Gives [] w) := by
  go_enter Tryd.func52, Tryd.ntmps52
  go_wp2_with fail
  go_ret
  exact ⟨_, rfl, OwnB.nil_ _ _, Below.refl _ _⟩
theorem growN_c (n : Nat) (w : World) (h1 : n ≤ 1000000) : Calls Tryd.prog 52 #[.slice none 0 0, .int .i64 n] w (Gives [] w) := by
  rcases Nat.eq_zero_or_pos n with rfl | h0
  · exact grow0_c w
  · exact grow_c n w h0 h1
/-- parts handed in: where each lies, its room, its bytes -/
abbrev Part := Option Addr × Nat × List Nat
def pv (p : Part) : Value := .slice p.1 p.2.2.length p.2.1
def cat (ps : List Part) (k : Nat) : List Nat := (ps.take k).flatMap fun p => p.2.2
theorem cat_succ (ps : List Part) (k : Nat) (h : k < ps.length) : cat ps (k + 1) = cat ps k ++ (ps[k]).2.2 := by
  unfold cat
  rw [List.take_succ_eq_append_getElem h, List.flatMap_append]
  simp
theorem cat_le (ps : List Part) : ∀ (k m : Nat), k ≤ m → (cat ps k).length ≤ (cat ps m).length := by
  intro k m h
  have e : ps.take m = ps.take k ++ (ps.drop k).take (m - k) := by rw [← List.take_add, show k + (m - k) = m by omega]
  unfold cat
  rw [e, List.flatMap_append, List.length_append]
  omega
set_option maxRecDepth 100000 in
set_option maxHeartbeats 2000000 in
theorem concatN_c (g n cap : Nat) (ps : List Part) (w : World) (hn : ps.length = n) (hcells : ∀ k (h : k < ps.length), w.cell? ⟨g, k, none⟩ = some (pv ps[k])) (hg : g < w.heap.size)
    (hr : ∀ p ∈ ps, Rd w w.heap.size p.1 (byt p.2.2)) (hlen : (cat ps n).length ≤ 100000) (hn2 : n ≤ 1000) (hcap : n ≤ cap) :
    Calls Tryd.prog 40 #[.slice (some ⟨g, 0, none⟩) n cap] w (Gives (cat ps n) w) := by
  obtain ⟨i0, hi, hz0, hz1, hz2⟩ := info_parts byteInfo
  have HC := Lib.hid hcells
  have HR := Lib.hid hr
  have HN := Lib.hid hn
  have HGR := Lib.hid (growN_c (cat ps n).length)
  have HLE := Lib.hid hlen
  clear hcells hr
  go_enter Tryd.func40, Tryd.ntmps40
  go_wp2_with fail
  go_loopw [3, 11] (fun s i wr => ∃ k : Nat, k ≤ n ∧ i = .int .i64 k ∧ s = .int .i64 ((cat ps k).length : Nat) ∧ w = wr) (fun _ i _ => n - (intOf i).toNat)
  case atStart => exact ⟨0, by omega, rfl, rfl, rfl⟩
  case round =>
    obtain ⟨k, hk, rfl, rfl, rfl⟩ := hrel
    by_cases hlt : k < n
    · have hd := HC.out k (by rw [HN.out]; exact hlt)
      have hs := cat_succ ps k (by rw [HN.out]; exact hlt)
      have hl1 := cat_le ps (k + 1) n hlt
      have hsl : (cat ps (k + 1)).length = (cat ps k).length + (ps[k]'(by rw [HN.out]; exact hlt)).2.2.length := by rw [hs, List.length_append]
      have HSL := Lib.hid hsl
      have hb1 : (cat ps k).length + (ps[k]'(by rw [HN.out]; exact hlt)).2.2.length ≤ 100000 := by rw [← hsl]; omega
      unfold pv at hd
      generalize (ps[k]'(by rw [HN.out]; exact hlt)).2.2.length = pl at *
      generalize (ps[k]'(by rw [HN.out]; exact hlt)).1 = pa at *
      generalize (ps[k]'(by rw [HN.out]; exact hlt)).2.1 = pc at *
      clear hs hsl hl1
      generalize (cat ps k).length = ck at *
      have hkn : (k : Int) < (n : Int) := by omega
      go_wp2_with fail
      go_roundw
      case rel => exact ⟨k + 1, by omega, by go_num, by rw [HSL.out]; go_num, by first | rfl | trivial⟩
      case measure => simp [intOf]; omega
    · obtain rfl : k = n := by omega
      go_wp2_with (go_at_call 52; ((refine (HGR.out _ (by omega)).mono ?_); rintro e w1 ⟨v1, rfl, ho, hb⟩; have HO1 := Lib.hid ho; have HB1 := Lib.hid hb; clear ho hb))
      obtain ⟨n, rfl⟩ : ∃ n, n = k := ⟨_, rfl⟩
      go_loopw [6, 27] (fun v i wr => ∃ j : Nat, j ≤ n ∧ i = .int .i64 j ∧ OwnB wr w.heap.size v (cat ps j) ∧ Below w.heap.size w wr) (fun _ i _ => n - (intOf i).toNat)
      case atStart => exact ⟨0, by omega, rfl, HO1.out, HB1.out⟩
      case round =>
        rename World => wr
        obtain ⟨j, hj, rfl, ho, hbr⟩ := hrel
        have HOK := Lib.hid ho
        have HBK := Lib.hid hbr
        by_cases hltj : j < n
        · have hd := (hbr.cell (p := ⟨g, j, none⟩) hg).trans (HC.out j (by rw [HN.out]; exact hltj))
          have hs := cat_succ ps j (by rw [HN.out]; exact hltj)
          have hl1 := cat_le ps (j + 1) n hltj
          have hpr := (HR.out _ (List.getElem_mem (show j < ps.length by rw [HN.out]; exact hltj))).below hbr
          have HSS := Lib.hid hs
          have hb1 : (cat ps j).length + (ps[j]'(by rw [HN.out]; exact hltj)).2.2.length ≤ 100000 := by rw [hs, List.length_append] at hl1; have := HLE.out; omega
          unfold pv at hd
          clear hs hl1 ho hbr
          generalize (ps[j]'(by rw [HN.out]; exact hltj)).2.2 = pl at *
          generalize (ps[j]'(by rw [HN.out]; exact hltj)).1 = pa at *
          generalize (ps[j]'(by rw [HN.out]; exact hltj)).2.1 = pc at *
          have HPR := Lib.hid hpr
          clear hpr
          have hkn : (j : Int) < (n : Int) := by omega
          go_wp2_with (at_builtin; refine wpList_app _ rfl (.tmp 31) (.tmp 32) _ rfl w.heap.size 5 i0 (.int .u8 0) 1 1 Tryd.underlying26 hi hz0 hz1 hz2 rfl (by decide) _ (cat ps j).length (byt (cat ps j)) rfl (by exact HOK.out) w.heap.size pa pl.length pc (byt pl) rfl (by simp [byt_len]) HPR.out (byt_one _) (by omega) (by omega) (by exact HBK.out.size) ?_; intro v5 w5 hap; have HOA := Lib.hid (show OwnB w5 w.heap.size v5 (cat ps j ++ pl) from OwnB.app hap); have HBA := Lib.hid (show Below w.heap.size w w5 from HBK.out.trans (hap.below HOK.out HBK.out.size)); clear hap)
          go_roundw
          case rel => exact ⟨j + 1, by omega, by go_num, by rw [HSS.out]; exact HOA.out, HBA.out⟩
          case measure => simp [intOf]; omega
        · obtain rfl : j = n := by omega
          go_wp2_with fail
          go_ret
          exact ⟨_, rfl, HOK.out, HBK.out⟩
def ArrAt (w : World) (u : Value) (base : Nat) (ps : List Part) : Prop := ∃ g, u = .slice (some ⟨g, 0, none⟩) ps.length ps.length ∧ base ≤ g ∧ Blk w g 26 (ps.map pv).toArray
theorem ArrAt.next {w w' : World} {u : Value} {base : Nat} {ps : List Part} (h : ArrAt w u base ps) (hb : Below w.heap.size w w') : ArrAt w' u base ps := by
  obtain ⟨g, e, hg, hh⟩ := h
  exact ⟨g, e, hg, hh.below hb hh.lt⟩
theorem sliceInfo : (Tryd.prog.info? 26).map (fun i => (i.zero, i.size, i.bytes)) = some (some (.slice none 0 0), 1, 24) := by kernel_rfl
theorem run_build_parts (w : World) (ps : List Part) {o : Oper} {a : Act} (xs : Array (Nat × Operand)) (ho : o.op = .buildSlice 75 ps.length xs)
    (hx : (xs.map fun (p : Nat × Operand) => (p.1, a.eval p.2)).toList = (((ps.map pv).zipIdx 0).map fun x => (x.2, x.1))) (hlen : ps.length ≤ 1000) (hpos : 0 < ps.length) :
    (execOp a.eval o).run Tryd.prog w = .ok (.value (.slice (some ⟨w.heap.size, 0, none⟩) ps.length ps.length)) (w.alloc (.cells (ps.map pv).toArray 26)) := by
  obtain ⟨i0, hi, hz0, hz1, hz2⟩ := info_parts sliceInfo
  have h1 := run_buildSlice (P := Tryd.prog) w 75 26 ps.length (xs.map fun (p : Nat × Operand) => (p.1, a.eval p.2)) (ps.map pv).toArray i0 _ Tryd.underlying75 hi hz0 (by rw [hz1]; omega) (by rw [hz1]; omega) (by
    rw [hz1]
    refine (congrArg _ hx).trans ?_
    exact (Great.fill_flat (ps.map pv) _ (fun v hv => by
      obtain ⟨p, _, rfl⟩ := List.mem_map.1 hv
      rfl) (by simp)))
  unfold execOp
  simp only [ho, Sem.run_bind, h1, Result.andThen_ok]
  rfl
theorem run_build1 (w : World) (p : Part) {o : Oper} {a : Act} (x : Operand) (ho : o.op = .buildSlice 75 1 #[(0, x)]) (hx : a.eval x = pv p) :
    (execOp a.eval o).run Tryd.prog w = .ok (.value (.slice (some ⟨w.heap.size, 0, none⟩) 1 1)) (w.alloc (.cells ([p].map pv).toArray 26)) :=
  run_build_parts w [p] #[(0, x)] ho (by simp [hx]) (by simp) (by simp)
set_option maxRecDepth 100000 in
set_option maxHeartbeats 2000000 in
theorem concat0_c (w : World) : Calls Tryd.prog 40 #[.slice none 0 0] w (Gives [] w) := by
  have HGR := Lib.hid (fun W => grow0_c W)
  go_enter Tryd.func40, Tryd.ntmps40
  go_wp2_with fail
  go_loopw [3, 11] (fun s i wr => i = .int .i64 0 ∧ s = .int .i64 0 ∧ w = wr) (fun _ i _ => 0)
  case atStart => exact ⟨rfl, rfl, rfl⟩
  case round =>
    obtain ⟨rfl, rfl, rfl⟩ := hrel
    go_wp2_with (go_at_call 52; ((refine (HGR.out _).mono ?_); rintro e w1 ⟨v1, rfl, ho, hb⟩; have HO1 := Lib.hid ho; have HB1 := Lib.hid hb; clear ho hb))
    go_loopw [6, 27] (fun v i wr => i = .int .i64 0 ∧ OwnB wr w.heap.size v [] ∧ Below w.heap.size w wr) (fun _ i _ => 0)
    case atStart => exact ⟨rfl, HO1.out, HB1.out⟩
    case round =>
      rename World => wr
      obtain ⟨rfl, ho, hbr⟩ := hrel
      have HOK := Lib.hid ho
      have HBK := Lib.hid hbr
      clear ho hbr
      go_wp2_with fail
      go_ret
      exact ⟨_, rfl, HOK.out, HBK.out⟩
end Go.Proofs.YtfblpkjablgafaaDoor
